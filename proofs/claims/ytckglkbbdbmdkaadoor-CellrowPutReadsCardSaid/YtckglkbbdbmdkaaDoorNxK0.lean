/- Rows of cells: pairs cut at a column; what is proper stays proper. -/
/- Rows of cells: Put, Insert, Delete, Erase as plain functions; their laws. -/
/- Rows of cells: the laws of Put, Insert, Delete, Erase, as plain facts. -/
import Derived.Test.YtckglkbbdbmdkaaDoorNxQ3
namespace Go.Proofs.YtckglkbbdbmdkaaDoor.Nx
set_option linter.unusedSimpArgs false
set_option linter.unusedVariables false
set_option linter.unnecessarySimpa false
open Go

/-! ### Cell by cell -/
def okC (l : List Ce) (i : Nat) (c : Ce) : Prop :=
  (c.width = 0 ∧ ∃ p, 1 ≤ i ∧ l[i - 1]? = some p ∧ p.width = 2 ∧ c = pairC p) ∨ (c.width = 1 ∧ chkC c.text = 0 ∧ widC c.text = c.width) ∨ (c.width = 2 ∧ chkC c.text = 0 ∧ widC c.text = c.width ∧ l[i + 1]? = some (pairC c))
def okR (l : List Ce) : Prop := ∀ i c, l[i]? = some c → okC l i c

theorem okR_nil : okR [] := fun i c h => by simp at h
theorem okR_of : ∀ (n : Nat) (l : List Ce), l.length ≤ n → rowCk l = 0 → okR l
  | _, [], _, _ => okR_nil
  | 0, c :: l, hn, _ => by simp at hn
  | n + 1, c :: l, hn, h => by
    obtain ⟨h1, h2, ⟨h3, h4⟩ | ⟨h3, l', rfl, h4⟩⟩ := rowCk_cons h
    · have ih := okR_of n l (by simp at hn; omega) h4
      rintro (_ | i) d hd
      · simp at hd; subst hd
        exact .inr (.inl ⟨h3, h1, h2⟩)
      · have hd' : l[i]? = some d := by simpa using hd
        rcases ih i d hd' with ⟨k, p, k1, k2, k3⟩ | k | ⟨k1, k2, k3, k4⟩
        · refine .inl ⟨k, p, by omega, ?_, k3⟩
          rw [show i + 1 - 1 = (i - 1) + 1 by omega]
          simpa using k2
        · exact .inr (.inl k)
        · exact .inr (.inr ⟨k1, k2, k3, by simpa using k4⟩)
    · have ih := okR_of n l' (by simp at hn; omega) h4
      rintro (_ | _ | i) d hd
      · simp at hd; subst hd
        exact .inr (.inr ⟨h3, h1, h2, by simp⟩)
      · simp at hd; subst hd
        exact .inl ⟨rfl, c, by omega, by simp, h3, rfl⟩
      · have hd' : l'[i]? = some d := by simpa using hd
        rcases ih i d hd' with ⟨k, p, k1, k2, k3⟩ | k | ⟨k1, k2, k3, k4⟩
        · refine .inl ⟨k, p, by omega, ?_, k3⟩
          rw [show i + 1 + 1 - 1 = (i - 1) + 1 + 1 by omega]
          simpa using k2
        · exact .inr (.inl k)
        · exact .inr (.inr ⟨k1, k2, k3, by simpa using k4⟩)
theorem okR_ck {l : List Ce} (h : rowCk l = 0) : okR l := okR_of _ l (Nat.le_refl _) h

theorem pair_prev {l : List Ce} (h : okR l) {i : Nat} {c : Ce} (hc : l[i]? = some c) (hw : c.width = 0) : 1 ≤ i ∧ ∃ p, l[i - 1]? = some p ∧ p.width = 2 ∧ c = pairC p := by
  rcases h i c hc with ⟨_, p, k1, k⟩ | k | k
  · exact ⟨k1, p, k⟩
  · exact absurd k.1 (by omega)
  · exact absurd k.1 (by omega)
theorem pair_next {l : List Ce} (h : okR l) {i : Nat} {c : Ce} (hc : l[i]? = some c) (hw : c.width = 2) : l[i + 1]? = some (pairC c) := by
  rcases h i c hc with k | k | k
  · exact absurd k.1 (by omega)
  · exact absurd k.1 (by omega)
  · exact k.2.2.2

/-! ### Halves -/
/-- A wide pair lies across the boundary before a column. -/
abbrev cutAt (l : List Ce) (c : Nat) : Prop := 0 < c ∧ l[c]?.map Ce.width = some 0
def backAt (l : List Ce) (c : Nat) : Int := (l[c]?.map Ce.back).getD 0
/-- Both halves of a pair across a boundary made blank. -/
def hlv (l : List Ce) (c : Nat) : List Ce := if cutAt l c then (l.set (c - 1) (blankC (backAt l c))).set c (blankC (backAt l c)) else l

theorem hlv_no {l : List Ce} {c : Nat} (h : ¬ cutAt l c) : hlv l c = l := by rw [hlv, if_neg h]
theorem hlv_len {l : List Ce} {c : Nat} : (hlv l c).length = l.length := by unfold hlv; split <;> simp
theorem cutAt_lt {l : List Ce} {c : Nat} (h : cutAt l c) : c < l.length := by
  rcases Nat.lt_or_ge c l.length with h' | h'
  · exact h'
  · have := h.2; rw [List.getElem?_eq_none h'] at this; simp at this
theorem hlv_get {l : List Ce} {c i : Nat} : (hlv l c)[i]? = if cutAt l c ∧ (i = c - 1 ∨ i = c) then some (blankC (backAt l c)) else l[i]? := by
  by_cases h : cutAt l c
  · have hl := cutAt_lt h
    rw [hlv, if_pos h]
    by_cases h1 : i = c
    · subst h1
      rw [if_pos ⟨h, .inr rfl⟩, List.getElem?_set_self (by simpa using hl)]
    · rw [List.getElem?_set_ne (by omega)]
      by_cases h2 : i = c - 1
      · subst h2
        rw [if_pos ⟨h, .inl rfl⟩, List.getElem?_set_self (by omega)]
      · rw [if_neg (by rintro ⟨_, k⟩; omega), List.getElem?_set_ne (by omega)]
  · rw [hlv_no h, if_neg fun k => h k.1]

theorem blankC_width {b : Int} : (blankC b).width = 1 := rfl
theorem blankC_back {b : Int} : (blankC b).back = b := rfl

/-- Halving makes no pair across any boundary. -/
theorem cutAt_hlv {l : List Ce} {c d : Nat} (h : cutAt (hlv l c) d) : cutAt l d ∧ ¬ (cutAt l c ∧ (d = c - 1 ∨ d = c)) := by
  obtain ⟨h1, h2⟩ := h
  rw [hlv_get] at h2
  split at h2
  · simp [blankC_width] at h2
  · rename_i h3; exact ⟨⟨h1, h2⟩, h3⟩
theorem hlv_cut {l : List Ce} {c : Nat} : ¬ cutAt (hlv l c) c := fun h => (cutAt_hlv h).2 ⟨(cutAt_hlv h).1, .inr rfl⟩

theorem cutAt_some {l : List Ce} {c : Nat} (h : cutAt l c) : ∃ d, l[c]? = some d ∧ d.width = 0 := by
  have := h.2
  cases e : l[c]? with
  | none => rw [e] at this; simp at this
  | some d => rw [e] at this; exact ⟨d, rfl, by simpa using this⟩
theorem cutAt_of {l : List Ce} {c : Nat} {d : Ce} (h : l[c]? = some d) (hd : d.width = 0) (hc : 0 < c) : cutAt l c := ⟨hc, by rw [h]; simp [hd]⟩

/-- On proper rows the boundaries before neighbouring columns are not both crossed. -/
theorem cutAt_next {l : List Ce} (h : okR l) {c : Nat} (h1 : cutAt l c) : ¬ cutAt l (c + 1) := by
  intro h2
  obtain ⟨d, hd, hw⟩ := cutAt_some h1
  obtain ⟨e, he, hv⟩ := cutAt_some h2
  obtain ⟨_, p, hp, hpw, _⟩ := pair_prev h he hv
  rw [show c + 1 - 1 = c from rfl, hd] at hp
  cases hp
  omega

theorem backAt_hlv {l : List Ce} {c d : Nat} (h : ¬ (cutAt l c ∧ (d = c - 1 ∨ d = c))) : backAt (hlv l c) d = backAt l d := by
  unfold backAt; rw [hlv_get, if_neg h]

theorem hlv_comm {l : List Ce} (h : okR l) {c : Nat} : hlv (hlv l c) (c + 1) = hlv (hlv l (c + 1)) c := by
  by_cases h1 : cutAt l c
  · have h2 := cutAt_next h h1
    rw [hlv_no h2, hlv_no]
    intro h3
    exact h2 (cutAt_hlv h3).1
  · rw [hlv_no h1]
    by_cases h2 : cutAt l (c + 1)
    · rw [hlv_no (l := hlv l (c + 1))]
      intro h3
      exact h1 (cutAt_hlv h3).1
    · rw [hlv_no h2, hlv_no h1]

/-! ### Proper rows, cut where no pair is -/
theorem split_ck : ∀ (n : Nat) (l : List Ce) (c : Nat), l.length ≤ n → rowCk l = 0 → ¬ cutAt l c → rowCk (l.take c) = 0 ∧ rowCk (l.drop c) = 0
  | _, [], c, _, _, _ => by simp [rowCk]
  | 0, c :: l, _, hn, _, _ => by simp at hn
  | n + 1, x :: l, 0, hn, h, _ => ⟨rfl, h⟩
  | n + 1, x :: l, c + 1, hn, h, hc => by
    obtain ⟨h1, h2, ⟨h3, h4⟩ | ⟨h3, l', rfl, h4⟩⟩ := rowCk_cons h
    · have hc' : ¬ cutAt l c := by
        rintro ⟨k1, k2⟩
        exact hc ⟨by omega, by simpa using k2⟩
      have ih := split_ck n l c (by simp at hn; omega) h4 hc'
      exact ⟨rowCk_one h1 h2 h3 ih.1, ih.2⟩
    · rcases c with _ | c
      · exact absurd ⟨by omega, by simp [pairC]⟩ hc
      · have hc' : ¬ cutAt l' c := by
          rintro ⟨k1, k2⟩
          exact hc ⟨by omega, by simpa using k2⟩
        have ih := split_ck n l' c (by simp at hn; omega) h4 hc'
        exact ⟨rowCk_two h1 h2 h3 ih.1, ih.2⟩
theorem take_ck {l : List Ce} {c : Nat} (h : rowCk l = 0) (hc : ¬ cutAt l c) : rowCk (l.take c) = 0 := (split_ck _ l c (Nat.le_refl _) h hc).1
theorem drop_ck {l : List Ce} {c : Nat} (h : rowCk l = 0) (hc : ¬ cutAt l c) : rowCk (l.drop c) = 0 := (split_ck _ l c (Nat.le_refl _) h hc).2
theorem app_ck {l m : List Ce} (h : rowCk l = 0) (h' : rowCk m = 0) : rowCk (l ++ m) = 0 := rowCk_app _ l m (Nat.le_refl _) h h'

theorem hlv_ck {l : List Ce} {c : Nat} (h : rowCk l = 0) : rowCk (hlv l c) = 0 := by
  by_cases hc : cutAt l c
  · have ho := okR_ck h
    have hl := cutAt_lt hc
    obtain ⟨d, hd, hw⟩ := cutAt_some hc
    obtain ⟨_, p, hp, hpw, hdp⟩ := pair_prev ho hd hw
    have e : hlv l c = l.take (c - 1) ++ ([blankC (backAt l c), blankC (backAt l c)] ++ l.drop (c + 1)) := by
      have hc0 := hc.1
      apply List.ext_getElem?
      intro i
      rw [hlv_get]
      by_cases h1 : i < c - 1
      · rw [if_neg (by omega), List.getElem?_append_left (by simp; omega), List.getElem?_take_of_lt h1]
      · rw [List.getElem?_append_right (by simp; omega)]
        have e1 : (l.take (c - 1)).length = c - 1 := by simp; omega
        rw [e1]
        by_cases h2 : i = c - 1 ∨ i = c
        · rw [if_pos ⟨hc, h2⟩]
          rcases h2 with rfl | rfl
          · simp
          · rw [show i - (i - 1) = 1 by omega]; simp
        · rw [if_neg (by omega), List.getElem?_append_right (by simp; omega), List.getElem?_drop]
          congr 1
          simp
          omega
    rw [e]
    have hb : ∀ b, rowCk [blankC b, blankC b] = 0 := fun b => blank_ck 2
    refine app_ck (take_ck h ?_) (app_ck (hb _) (drop_ck h ?_))
    · intro k
      obtain ⟨f, hf, hfw⟩ := cutAt_some k
      rw [hp] at hf; cases hf; omega
    · exact cutAt_next ho hc
  · rw [hlv_no hc]; exact h

theorem hlv_small {l : List Ce} {c : Nat} (h : smallR l) : smallR (hlv l c) := by
  intro x hx
  obtain ⟨i, hi⟩ := List.mem_iff_getElem?.1 hx
  rw [hlv_get] at hi
  split at hi
  · cases hi; show (1 : Nat) ≤ 1000; decide
  · exact h x (List.mem_of_getElem? hi)

theorem back_pair {p : Ce} : (pairC p).back = p.back := rfl
/-- On a proper row both halves have one background. -/
theorem backAt_prev {l : List Ce} (h : okR l) {c : Nat} (hc : cutAt l c) : backAt l (c - 1) = backAt l c := by
  obtain ⟨d, hd, hw⟩ := cutAt_some hc
  obtain ⟨_, p, hp, hpw, rfl⟩ := pair_prev h hd hw
  unfold backAt; rw [hd, hp]; rfl

end Go.Proofs.YtckglkbbdbmdkaaDoor.Nx

namespace Go.Proofs.YtckglkbbdbmdkaaDoor.Nx
set_option linter.unusedSimpArgs false
set_option linter.unusedVariables false
set_option linter.unnecessarySimpa false
open Go

/-! ### What the functions compute -/
/-- Halved at n neighbouring columns. -/
def hlvs (l : List Ce) (c : Nat) : Nat → List Ce
  | 0 => l
  | n + 1 => hlv (hlvs l c n) (c + n)
def putL (l : List Ce) (col : Nat) (c : Ce) : List Ce :=
  if c.width = 2 then ((hlvs l col (c.width.toNat + 1)).set col c).set (col + 1) (pairC c) else (hlvs l col (c.width.toNat + 1)).set col c
def putR (l : List Ce) (col : Int) (c : Ce) : List Ce × Int :=
  if checkR l ≠ 0 then ([], 1) else if col < 0 ∨ (l.length : Int) - 1 < col then ([], 2) else if chkC c.text ≠ 0 then ([], 3) else if (l.length : Int) - col < c.width then ([], 12) else (putL l col.toNat c, 0)
abbrev minI (l : List Ce) (col : Nat) (n : Int) : Nat := min n.toNat (l.length - col)
def lastF (l : List Ce) : List Ce := match l.getLast? with
  | some c => if c.width = 2 then l.set (l.length - 1) (blankC c.back) else l
  | none => []
def insL (l : List Ce) (col m : Nat) (b : Int) : List Ce := lastF ((hlv l col).take col ++ List.replicate m (blankC b) ++ ((hlv l col).drop col).take (l.length - m - col))
def insR (l : List Ce) (col n b : Int) : List Ce × Int :=
  if checkR l ≠ 0 then ([], 1) else if col < 0 ∨ (l.length : Int) - 1 < col then ([], 2) else if n < 1 then (l, 0) else (insL l col.toNat (minI l col.toNat n) b, 0)
def delL (l : List Ce) (col m : Nat) (b : Int) : List Ce := (hlv (hlv l col) (col + m)).take col ++ (hlv (hlv l col) (col + m)).drop (col + m) ++ List.replicate m (blankC b)
def delR (l : List Ce) (col n b : Int) : List Ce × Int :=
  if checkR l ≠ 0 then ([], 1) else if col < 0 ∨ (l.length : Int) - 1 < col then ([], 2) else if n < 1 then (l, 0) else (delL l col.toNat (minI l col.toNat n) b, 0)
def eraL (l : List Ce) (f t : Nat) (b : Int) : List Ce := (hlv (hlv l f) t).take f ++ List.replicate (t - f) (blankC b) ++ (hlv (hlv l f) t).drop t
def eraR (l : List Ce) (f t b : Int) : List Ce × Int :=
  if checkR l ≠ 0 then ([], 1) else if f < 0 ∨ (l.length : Int) < f then ([], 2) else if t < f ∨ (l.length : Int) < t then ([], 2) else if f = t then (l, 0) else (eraL l f.toNat t.toNat b, 0)

/-! ### Lengths -/
theorem hlvs_len {l : List Ce} {c : Nat} : ∀ {n : Nat}, (hlvs l c n).length = l.length
  | 0 => rfl
  | n + 1 => by rw [hlvs, hlv_len, hlvs_len]
theorem putL_len {l : List Ce} {col : Nat} {c : Ce} : (putL l col c).length = l.length := by
  unfold putL; split <;> simp [hlvs_len]
theorem lastF_len {l : List Ce} : (lastF l).length = l.length := by
  unfold lastF
  split
  · split <;> simp
  · rename_i h; rw [List.getLast?_eq_none_iff.1 h]
theorem insL_len {l : List Ce} {col m : Nat} {b : Int} (h : col + m ≤ l.length) : (insL l col m b).length = l.length := by
  rw [insL, lastF_len]; simp [hlv_len]; omega
theorem delL_len {l : List Ce} {col m : Nat} {b : Int} (h : col + m ≤ l.length) : (delL l col m b).length = l.length := by
  rw [delL]; simp [hlv_len]; omega
theorem eraL_len {l : List Ce} {f t : Nat} {b : Int} (h1 : f ≤ t) (h : t ≤ l.length) : (eraL l f t b).length = l.length := by
  rw [eraL]; simp [hlv_len]; omega

/-! ### Proper rows stay proper -/
theorem ck_pos {l : List Ce} (h : checkR l = 0) : 1 ≤ l.length ∧ l.length ≤ 132 ∧ rowCk l = 0 := by
  unfold checkR at h
  split at h
  · cases h
  · exact ⟨by omega, by omega, h⟩
theorem ck_of {l : List Ce} (h : rowCk l = 0) (h1 : 1 ≤ l.length) (h2 : l.length ≤ 132) : checkR l = 0 := by
  unfold checkR; rw [if_neg (by omega)]; exact h

theorem wid_le {r : Int} : widthC r ≤ 2 := by
  unfold widthC
  split
  · omega
  · split
    · omega
    · split <;> omega
theorem chk_wid {s : ByteArray} (h : chkC s = 0) : widC s = 1 ∨ widC s = 2 := by
  have h0 := h
  unfold chkC at h
  split at h
  · cases h
  unfold widC runesC
  rw [if_pos h0]
  cases e : runesOf s with
  | nil => rw [e] at h; cases h
  | cons r l =>
    rw [e] at h
    dsimp only [chkR] at h ⊢
    split at h
    · cases h
    · have := wid_le (r := r)
      omega

theorem hlvs_ck {l : List Ce} (h : rowCk l = 0) {c : Nat} : ∀ {n : Nat}, rowCk (hlvs l c n) = 0
  | 0 => h
  | n + 1 => by rw [hlvs]; exact hlv_ck (hlvs_ck h)
theorem hlvs_cut {l : List Ce} {c : Nat} : ∀ {n k : Nat}, k < n → ¬ cutAt (hlvs l c n) (c + k)
  | 0, _, h => absurd h (Nat.not_lt_zero _)
  | n + 1, k, h => by
    rw [hlvs]
    intro hc
    rcases Nat.lt_or_ge k n with hk | hk
    · exact hlvs_cut hk (cutAt_hlv hc).1
    · have : k = n := by omega
      subst this
      exact hlv_cut hc

theorem putL_app {l : List Ce} {col : Nat} {c : Ce} (hw : c.width = 1 ∨ c.width = 2) (h : col + c.width.toNat ≤ l.length) :
    putL l col c = (hlvs l col (c.width.toNat + 1)).take col ++ ((if c.width = 2 then [c, pairC c] else [c]) ++ (hlvs l col (c.width.toNat + 1)).drop (col + c.width.toNat)) := by
  have hl := hlvs_len (l := l) (c := col) (n := c.width.toNat + 1)
  unfold putL
  generalize hlvs l col (c.width.toNat + 1) = m at hl ⊢
  rcases hw with hw | hw
  · rw [if_neg (by omega), if_neg (by omega), hw]
    rw [hw] at h
    rw [List.set_eq_take_append_cons_drop, if_pos (by omega)]
    rfl
  · rw [if_pos hw, if_pos hw, hw]
    rw [hw] at h
    have h1 : col < m.length := by rw [hl]; have : (2 : Int).toNat = 2 := rfl; omega
    have h2 : col + 1 < m.length := by rw [hl]; have : (2 : Int).toNat = 2 := rfl; omega
    rw [List.set_eq_take_append_cons_drop, if_pos (by simpa using h2), List.take_set, List.drop_set_of_lt (by omega), List.set_eq_take_append_cons_drop, if_pos (by simp; omega), List.take_take, Nat.min_eq_left (by omega), List.drop_take]
    rw [show col + 1 - (col + 1) = 0 by omega, List.take_zero]
    simp [show (2 : Int).toNat = 2 from rfl]

theorem putL_ck {l : List Ce} {col : Nat} {c : Ce} (h : rowCk l = 0) (h1 : chkC c.text = 0) (h2 : widC c.text = c.width) (h3 : col + c.width.toNat ≤ l.length) : rowCk (putL l col c) = 0 := by
  have hw : c.width = 1 ∨ c.width = 2 := by rw [← h2]; exact chk_wid h1
  rw [putL_app hw h3]
  have hk := hlvs_ck h (c := col) (n := c.width.toNat + 1)
  refine app_ck (take_ck hk ?_) (app_ck ?_ (drop_ck hk ?_))
  · have := hlvs_cut (l := l) (c := col) (n := c.width.toNat + 1) (k := 0) (by omega)
    exact this
  · rcases hw with hw | hw
    · rw [if_neg (by omega)]; exact rowCk_one h1 h2 hw rfl
    · rw [if_pos hw]; exact rowCk_two h1 h2 hw rfl
  · exact hlvs_cut (by omega)

theorem last_app {l m : List Ce} (hm : m ≠ []) : (l ++ m).getLast? = m.getLast? := by
  rw [List.getLast?_append]
  cases e : m.getLast? with
  | none => exact absurd (List.getLast?_eq_none_iff.1 e) hm
  | some c => rfl
theorem lastF_app {l m : List Ce} (hm : m ≠ []) : lastF (l ++ m) = l ++ lastF m := by
  unfold lastF
  rw [last_app hm]
  cases e : m.getLast? with
  | none => exact absurd (List.getLast?_eq_none_iff.1 e) hm
  | some c =>
    dsimp only
    split
    · rw [List.length_append, List.set_append_right _ _ (by have := List.length_pos_iff.2 hm; omega)]
      congr 2
      have := List.length_pos_iff.2 hm
      omega
    · rfl
theorem lastF_no {l : List Ce} (h : ∀ c, l.getLast? = some c → c.width ≠ 2) : lastF l = l := by
  unfold lastF
  cases e : l.getLast? with
  | none => exact (List.getLast?_eq_none_iff.1 e).symm
  | some c => dsimp only; rw [if_neg (h c e)]
theorem lastF_take {l : List Ce} {w : Nat} (h : w ≤ l.length) : lastF (l.take w) = cutR l w := by
  unfold lastF cutR
  rw [List.length_take, Nat.min_eq_left h]
  rfl
/-- Insert: the row up to the column, blanks, the rest cut. -/
theorem insL_app {l : List Ce} {col m : Nat} {b : Int} (h : col + m ≤ l.length) (hm : 1 ≤ m) : insL l col m b = (hlv l col).take col ++ (List.replicate m (blankC b) ++ cutR ((hlv l col).drop col) (l.length - m - col)) := by
  unfold insL
  rw [List.append_assoc]
  rcases Nat.eq_zero_or_pos (l.length - m - col) with h0 | h0
  · rw [h0, List.take_zero, List.append_nil]
    have : cutR (List.drop col (hlv l col)) 0 = [] := by unfold cutR; simp
    rw [this, List.append_nil, lastF_no]
    intro c hc
    rw [last_app (by intro h; have := congrArg List.length h; simp at this; omega)] at hc
    have := List.mem_of_getLast? hc
    rw [List.eq_of_mem_replicate this]
    show ¬ (1 : Int) = 2
    decide
  · have hl : l.length - m - col ≤ (List.drop col (hlv l col)).length := by rw [List.length_drop, hlv_len]; omega
    rw [lastF_app (by intro h; have := congrArg List.length h; simp [hlv_len] at this; omega), lastF_app (by intro h; have := congrArg List.length h; simp [hlv_len] at this; omega), lastF_take hl]
theorem insL_ck {l : List Ce} {col m : Nat} {b : Int} (h : rowCk l = 0) (h1 : col + m ≤ l.length) (hm : 1 ≤ m) : rowCk (insL l col m b) = 0 := by
  rw [insL_app h1 hm]
  have hk := hlv_ck h (c := col)
  refine app_ck (take_ck hk hlv_cut) (app_ck (blank_ck _) ?_)
  rcases Nat.eq_zero_or_pos (l.length - m - col) with h0 | h0
  · rw [h0]; rfl
  · exact (cutR_ck _ _ _ (Nat.le_refl _) (drop_ck hk hlv_cut) h0 (by rw [List.length_drop, hlv_len]; omega)).1
theorem hlv2_cut {l : List Ce} {f t : Nat} : ¬ cutAt (hlv (hlv l f) t) f := fun h => hlv_cut (cutAt_hlv h).1
theorem delL_ck {l : List Ce} {col m : Nat} {b : Int} (h : rowCk l = 0) : rowCk (delL l col m b) = 0 := by
  have hk := hlv_ck (hlv_ck h (c := col)) (c := col + m)
  rw [delL, List.append_assoc]
  exact app_ck (take_ck hk hlv2_cut) (app_ck (drop_ck hk hlv_cut) (blank_ck _))
theorem eraL_ck {l : List Ce} {f t : Nat} {b : Int} (h : rowCk l = 0) : rowCk (eraL l f t b) = 0 := by
  have hk := hlv_ck (hlv_ck h (c := f)) (c := t)
  rw [eraL, List.append_assoc]
  exact app_ck (take_ck hk hlv2_cut) (app_ck (blank_ck _) (drop_ck hk hlv_cut))

/-! ### Small texts -/
theorem blank_small {b : Int} : (blankC b).text.size ≤ 1000 := by show (1 : Nat) ≤ 1000; decide
theorem hlvs_small {l : List Ce} {c : Nat} (h : smallR l) : ∀ {n : Nat}, smallR (hlvs l c n)
  | 0 => h
  | n + 1 => by rw [hlvs]; exact hlv_small (hlvs_small h)
theorem putL_small {l : List Ce} {col : Nat} {c : Ce} (h : smallR l) (hc : c.text.size ≤ 1000) : smallR (putL l col c) := by
  have hs := hlvs_small h (c := col) (n := c.width.toNat + 1)
  intro x hx
  unfold putL at hx
  split at hx
  · rcases List.mem_or_eq_of_mem_set hx with hx | rfl
    · rcases List.mem_or_eq_of_mem_set hx with hx | rfl
      · exact hs x hx
      · exact hc
    · show (0 : Nat) ≤ 1000; decide
  · rcases List.mem_or_eq_of_mem_set hx with hx | rfl
    · exact hs x hx
    · exact hc
theorem app_small {l m : List Ce} (h1 : smallR l) (h2 : smallR m) : smallR (l ++ m) := fun x hx => (List.mem_append.1 hx).elim (h1 x) (h2 x)
theorem take_small {l : List Ce} {n : Nat} (h : smallR l) : smallR (l.take n) := fun x hx => h x (List.mem_of_mem_take hx)
theorem drop_small {l : List Ce} {n : Nat} (h : smallR l) : smallR (l.drop n) := fun x hx => h x (List.mem_of_mem_drop hx)
theorem rep_small {n : Nat} {b : Int} : smallR (List.replicate n (blankC b)) := fun x hx => by rw [List.eq_of_mem_replicate hx]; exact blank_small
theorem lastF_small {l : List Ce} (h : smallR l) : smallR (lastF l) := by
  intro x hx
  unfold lastF at hx
  split at hx
  · split at hx
    · rcases List.mem_or_eq_of_mem_set hx with hx | rfl
      · exact h x hx
      · exact blank_small
    · exact h x hx
  · simp at hx
theorem insL_small {l : List Ce} {col m : Nat} {b : Int} (h : smallR l) : smallR (insL l col m b) :=
  lastF_small (app_small (app_small (take_small (hlv_small h)) rep_small) (take_small (drop_small (hlv_small h))))
theorem delL_small {l : List Ce} {col m : Nat} {b : Int} (h : smallR l) : smallR (delL l col m b) :=
  app_small (app_small (take_small (hlv_small (hlv_small h))) (drop_small (hlv_small (hlv_small h)))) rep_small
theorem eraL_small {l : List Ce} {f t : Nat} {b : Int} (h : smallR l) : smallR (eraL l f t b) :=
  app_small (app_small (take_small (hlv_small (hlv_small h))) rep_small) (drop_small (hlv_small (hlv_small h)))

end Go.Proofs.YtckglkbbdbmdkaaDoor.Nx

namespace Go.Proofs.YtckglkbbdbmdkaaDoor.Nx
set_option linter.unusedSimpArgs false
set_option linter.unusedVariables false
set_option linter.unnecessarySimpa false
open Go

/-! ### Erase, cell by cell -/
theorem hlv2_get {l : List Ce} {f t i : Nat} (h : f < t) : (hlv (hlv l f) t)[i]? = if cutAt l t ∧ (i = t - 1 ∨ i = t) then some (blankC (backAt l t)) else if cutAt l f ∧ (i = f - 1 ∨ i = f) then some (blankC (backAt l f)) else l[i]? := by
  have h1 : ¬ (cutAt l f ∧ (t = f - 1 ∨ t = f)) := by rintro ⟨_, _ | _⟩ <;> omega
  have h2 : cutAt (hlv l f) t ↔ cutAt l t := by
    unfold cutAt; rw [hlv_get, if_neg h1]
  have e := hlv_get (l := l) (c := f) (i := i)
  rw [hlv_get (l := hlv l f), backAt_hlv h1]
  by_cases k : cutAt l t ∧ (i = t - 1 ∨ i = t)
  · rw [if_pos k, if_pos ⟨h2.2 k.1, k.2⟩]
  · rw [if_neg k, if_neg (fun q => k ⟨h2.1 q.1, q.2⟩), e]
theorem eraL_get {l : List Ce} {f t i : Nat} {b : Int} (h : f < t) (ht : t ≤ l.length) : (eraL l f t b)[i]? = if i < f ∨ t ≤ i then (if cutAt l t ∧ i = t then some (blankC (backAt l t)) else if cutAt l f ∧ i = f - 1 then some (blankC (backAt l f)) else l[i]?) else some (blankC b) := by
  have hl : (hlv (hlv l f) t).length = l.length := by rw [hlv_len, hlv_len]
  unfold eraL
  by_cases h1 : i < f
  · rw [if_pos (.inl h1), List.append_assoc, List.getElem?_append_left (by rw [List.length_take, hl]; omega), List.getElem?_take_of_lt h1, hlv2_get h]
    rw [if_neg (by rintro ⟨_, _ | _⟩ <;> omega), if_neg (show ¬ (cutAt l t ∧ i = t) by rintro ⟨_, _⟩; omega)]
    by_cases h2 : cutAt l f ∧ i = f - 1
    · rw [if_pos h2, if_pos ⟨h2.1, .inl h2.2⟩]
    · rw [if_neg h2, if_neg (by
        rintro ⟨k1, k2 | k2⟩
        · exact h2 ⟨k1, k2⟩
        · omega)]
  · by_cases h2 : t ≤ i
    · have hlen : ((hlv (hlv l f) t).take f ++ List.replicate (t - f) (blankC b)).length = t := by rw [List.length_append, List.length_take, hl, List.length_replicate]; omega
      rw [if_pos (.inr h2), List.getElem?_append_right (by rw [hlen]; exact h2), hlen, List.getElem?_drop, show t + (i - t) = i by omega, hlv2_get h]
      by_cases h3 : cutAt l t ∧ i = t
      · rw [if_pos h3, if_pos ⟨h3.1, .inr h3.2⟩]
      · rw [if_neg h3, if_neg (by
          rintro ⟨k1, k2 | k2⟩
          · omega
          · exact h3 ⟨k1, k2⟩), if_neg (by rintro ⟨_, _ | _⟩ <;> omega), if_neg (by rintro ⟨_, _⟩; omega)]
    · rw [if_neg (by omega), List.append_assoc, List.getElem?_append_right (by rw [List.length_take, hl]; omega), List.getElem?_append_left (by rw [List.length_take, hl, List.length_replicate]; omega), List.getElem?_replicate, if_pos (by rw [List.length_take, hl]; omega)]

/-- Erasing in two steps is erasing at once. -/
theorem eraL_two {l : List Ce} {f m t : Nat} {b : Int} (h1 : f < m) (h2 : m < t) (h3 : t ≤ l.length) : eraL (eraL l f m b) m t b = eraL l f t b := by
  have hl : (eraL l f m b).length = l.length := eraL_len (by omega) (by omega)
  have hm : ¬ cutAt (eraL l f m b) m := by
    rintro ⟨_, hc⟩
    rw [eraL_get h1 (by omega), if_pos (.inr (Nat.le_refl _))] at hc
    split at hc
    · simp [blankC_width] at hc
    · rename_i hn
      split at hc
      · simp [blankC_width] at hc
      · exact hn ⟨⟨by omega, hc⟩, rfl⟩
  have hg : (eraL l f m b)[t]? = l[t]? := by
    rw [eraL_get h1 (by omega), if_pos (.inr (by omega)), if_neg (by rintro ⟨_, _⟩; omega), if_neg (by rintro ⟨_, _⟩; omega)]
  have ht : cutAt (eraL l f m b) t ↔ cutAt l t := by unfold cutAt; rw [hg]
  have hb : backAt (eraL l f m b) t = backAt l t := by unfold backAt; rw [hg]
  apply List.ext_getElem?
  intro i
  rw [eraL_get h2 (by omega), eraL_get (by omega) h3]
  by_cases h4 : i < f ∨ t ≤ i
  · rw [if_pos h4, if_pos (by omega)]
    simp only [ht, hb]
    by_cases h5 : cutAt l t ∧ i = t
    · rw [if_pos h5, if_pos h5]
    · rw [if_neg h5, if_neg h5, if_neg (fun k => hm k.1), eraL_get h1 (by omega), if_pos (by omega), if_neg (by rintro ⟨_, _⟩; omega)]
  · rw [if_neg h4]
    by_cases h5 : i < m
    · rw [if_pos (.inl h5), if_neg (by rintro ⟨_, _⟩; omega), if_neg (fun k => hm k.1), eraL_get h1 (by omega), if_neg (by omega)]
    · rw [if_neg (by omega)]

theorem eraL_all {l : List Ce} {b : Int} (h : 1 ≤ l.length) : eraL l 0 l.length b = List.replicate l.length (blankC b) := by
  have hn : ¬ cutAt (hlv l 0) l.length := fun k => by have := cutAt_lt k; rw [hlv_len] at this; omega
  rw [eraL, hlv_no hn, List.drop_eq_nil_of_le (by rw [hlv_len]; omega)]
  simp

/-! ### Insert and Delete -/
theorem cutAt_iff {l : List Ce} (h : okR l) {k : Nat} {c : Ce} (hk : l[k]? = some c) : cutAt l (k + 1) ↔ c.width = 2 := by
  constructor
  · intro hc
    obtain ⟨d, hd, hw⟩ := cutAt_some hc
    obtain ⟨_, p, hp, hpw, _⟩ := pair_prev h hd hw
    rw [Nat.add_sub_cancel, hk] at hp
    cases hp
    exact hpw
  · intro hw
    have := pair_next h hk hw
    exact cutAt_of this rfl (by omega)
theorem hlv_take {l : List Ce} (h : okR l) {k : Nat} (hk : k ≤ l.length) : (hlv l k).take k = cutR l k := by
  rcases Nat.eq_zero_or_pos k with rfl | h0
  · unfold cutR; simp
  · obtain ⟨k, rfl⟩ : ∃ q, k = q + 1 := ⟨k - 1, by omega⟩
    have hlt : k < l.length := by omega
    have hg : l[k]? = some l[k] := List.getElem?_eq_getElem hlt
    have hlast : (l.take (k + 1)).getLast? = some l[k] := by
      rw [List.getLast?_eq_getElem?, List.length_take, Nat.min_eq_left hk, Nat.add_sub_cancel, List.getElem?_take_of_lt (by omega)]; exact hg
    unfold cutR
    rw [hlast]
    dsimp only
    by_cases hc : cutAt l (k + 1)
    · have hw := (cutAt_iff h hg).1 hc
      have hb : backAt l (k + 1) = l[k].back := by
        rw [← backAt_prev h hc]
        unfold backAt
        rw [Nat.add_sub_cancel, hg]; rfl
      rw [if_pos hw, hlv, if_pos hc, hb, List.take_set, List.take_set, List.set_eq_of_length_le (i := k + 1) (by rw [List.length_set, List.length_take]; omega), Nat.add_sub_cancel]
    · have hw : l[k].width ≠ 2 := fun e => hc ((cutAt_iff h hg).2 e)
      rw [if_neg hw, hlv_no hc]
theorem okR_drop {l : List Ce} {c : Nat} (h : rowCk l = 0) (hc : ¬ cutAt l c) : okR (l.drop c) := okR_ck (drop_ck h hc)

/-- Deleting what was inserted. -/
theorem del_ins {l : List Ce} {col m : Nat} {a b : Int} (h : rowCk l = 0) (h1 : col + m ≤ l.length) (hm : 1 ≤ m) (hc : ¬ cutAt l col) :
    delL (insL l col m a) col m b = eraL l (l.length - m) l.length b := by
  have ho := okR_ck h
  -- the row with cells inserted
  have hx : insL l col m a = l.take col ++ (List.replicate m (blankC a) ++ cutR (l.drop col) (l.length - m - col)) := by
    rw [insL_app h1 hm, hlv_no hc]
  have hcl : (cutR (l.drop col) (l.length - m - col)).length = l.length - m - col := by
    rcases Nat.eq_zero_or_pos (l.length - m - col) with h0 | h0
    · rw [h0]; unfold cutR; simp
    · exact (cutR_ck _ _ _ (Nat.le_refl _) (drop_ck h hc) h0 (by rw [List.length_drop]; omega)).2
  have hxl := insL_len (l := l) (b := a) h1
  have n1 : ¬ cutAt (insL l col m a) col := by
    rintro ⟨_, k⟩
    rw [hx, List.getElem?_append_right (by rw [List.length_take]; omega), List.getElem?_append_left (by rw [List.length_take, List.length_replicate]; omega), List.getElem?_replicate, if_pos (by rw [List.length_take]; omega)] at k
    simp [blankC_width] at k
  have n2 : ¬ cutAt (insL l col m a) (col + m) := by
    intro k
    have hck := insL_ck (b := a) h h1 hm
    obtain ⟨d, hd, hw⟩ := cutAt_some k
    obtain ⟨_, p, hp, hpw, _⟩ := pair_prev (okR_ck hck) hd hw
    rw [hx, List.getElem?_append_right (by rw [List.length_take]; omega), List.getElem?_append_left (by rw [List.length_take, List.length_replicate]; omega), List.getElem?_replicate, if_pos (by rw [List.length_take]; omega)] at hp
    cases hp
    simp [blankC_width] at hpw
  have e1 : delL (insL l col m a) col m b = l.take col ++ cutR (l.drop col) (l.length - m - col) ++ List.replicate m (blankC b) := by
    rw [delL, hlv_no n1, hlv_no n2, hx]
    have q1 : (l.take col).length = col := by rw [List.length_take]; omega
    congr 2
    · rw [List.take_append_of_le_length (by omega), List.take_of_length_le (by omega)]
    · rw [List.drop_append, List.drop_eq_nil_of_le (by omega), List.nil_append, q1, show col + m - col = m by omega, List.drop_append, List.length_replicate, Nat.sub_self, List.drop_zero, List.drop_eq_nil_of_le (by simp), List.nil_append]
  have n3 : ¬ cutAt (hlv l (l.length - m)) l.length := fun k => by have := cutAt_lt k; rw [hlv_len] at this; omega
  have e2 : eraL l (l.length - m) l.length b = cutR l (l.length - m) ++ List.replicate m (blankC b) := by
    rw [eraL, hlv_no n3, hlv_take ho (by omega), List.drop_eq_nil_of_le (by rw [hlv_len]; omega), List.append_nil, show l.length - (l.length - m) = m by omega]
  rw [e1, e2]
  congr 1
  rw [← hlv_take ho (by omega)]
  rcases Nat.eq_zero_or_pos (l.length - m - col) with h0 | h0
  · have : l.length - m = col := by omega
    rw [h0, this, hlv_no hc]
    have : cutR (l.drop col) 0 = [] := by unfold cutR; simp
    rw [this, List.append_nil]
  · rw [← hlv_take (okR_drop h hc) (by rw [List.length_drop]; omega)]
    have hg : ∀ i, (l.drop col)[i]? = l[col + i]? := fun i => List.getElem?_drop
    have hq : cutAt (l.drop col) (l.length - m - col) ↔ cutAt l (l.length - m) := by
      unfold cutAt
      rw [hg, show col + (l.length - m - col) = l.length - m by omega]
      constructor <;> rintro ⟨_, k⟩ <;> exact ⟨by omega, k⟩
    have hb : backAt (l.drop col) (l.length - m - col) = backAt l (l.length - m) := by
      unfold backAt; rw [hg, show col + (l.length - m - col) = l.length - m by omega]
    apply List.ext_getElem?
    intro i
    by_cases hi : i < l.length - m
    · rw [List.getElem?_take_of_lt hi, hlv_get]
      by_cases hi2 : i < col
      · rw [List.getElem?_append_left (by rw [List.length_take]; omega), List.getElem?_take_of_lt hi2]
        by_cases hcut : cutAt l (l.length - m) ∧ (i = l.length - m - 1 ∨ i = l.length - m)
        · omega
        · rw [if_neg hcut]
      · have q1 : (l.take col).length = col := by rw [List.length_take]; omega
        rw [List.getElem?_append_right (by omega), q1, List.getElem?_take_of_lt (by omega), hlv_get, hb]
        by_cases hcut : cutAt l (l.length - m) ∧ i = l.length - m - 1
        · rw [if_pos ⟨hq.2 hcut.1, .inl (by omega)⟩, if_pos ⟨hcut.1, .inl hcut.2⟩]
        · rw [if_neg (by rintro ⟨k1, k2⟩; exact hcut ⟨hq.1 k1, by omega⟩), if_neg (by rintro ⟨k1, k2⟩; exact hcut ⟨k1, by omega⟩), hg, show col + (i - col) = i by omega]
    · rw [List.getElem?_eq_none (by simp [hlv_len]; omega), List.getElem?_eq_none (by simp [hlv_len]; omega)]

/-! ### Put -/
theorem hlvs_ge {l : List Ce} {col i : Nat} : ∀ {n : Nat}, col + n ≤ i → (hlvs l col n)[i]? = l[i]?
  | 0, _ => rfl
  | n + 1, h => by rw [hlvs, hlv_get, if_neg (by rintro ⟨_, _ | _⟩ <;> omega), hlvs_ge (by omega)]
theorem hlvs_lt {l : List Ce} {col i : Nat} (h : i < col) : ∀ {n : Nat}, (hlvs l col (n + 1))[i]? = (hlv l col)[i]?
  | 0 => rfl
  | n + 1 => by rw [hlvs, hlv_get, if_neg (by rintro ⟨_, _ | _⟩ <;> omega), hlvs_lt h]
/-- What was put is there. -/
theorem putL_at {l : List Ce} {col : Nat} {c : Ce} (h : col < l.length) : (putL l col c)[col]? = some c := by
  unfold putL
  split
  · rw [List.getElem?_set_ne (by omega), List.getElem?_set_self (by rw [hlvs_len]; exact h)]
  · rw [List.getElem?_set_self (by rw [hlvs_len]; exact h)]
theorem putL_at2 {l : List Ce} {col : Nat} {c : Ce} (hw : c.width = 2) (h : col + 1 < l.length) : (putL l col c)[col + 1]? = some (pairC c) := by
  unfold putL
  rw [if_pos hw, List.getElem?_set_self (by rw [List.length_set, hlvs_len]; exact h)]
/-- The other cells. -/
theorem putL_lt {l : List Ce} {col i : Nat} {c : Ce} (ho : okR l) (h : i < col) (hl : col < l.length) (d : Ce) (hd : l[i]? = some d) :
    (putL l col c)[i]? = if i + 1 = col ∧ d.width = 2 then some (blankC d.back) else some d := by
  have e : (putL l col c)[i]? = (hlv l col)[i]? := by
    rw [← hlvs_lt h (n := c.width.toNat)]
    unfold putL
    split
    · rw [List.getElem?_set_ne (by omega), List.getElem?_set_ne (by omega)]
    · rw [List.getElem?_set_ne (by omega)]
  rw [e, hlv_get]
  by_cases h1 : i + 1 = col
  · subst h1
    have hc := cutAt_iff ho hd
    by_cases hw : d.width = 2
    · have hcut := hc.2 hw
      have hb : backAt l (i + 1) = d.back := by
        rw [← backAt_prev ho hcut]
        unfold backAt
        rw [Nat.add_sub_cancel, hd]; rfl
      rw [if_pos ⟨hcut, .inl rfl⟩, if_pos ⟨rfl, hw⟩, hb]
    · rw [if_neg (fun k => hw (hc.1 k.1)), if_neg (fun k => hw k.2), hd]
  · rw [if_neg (by rintro ⟨_, _ | _⟩ <;> omega), if_neg (fun k => h1 k.1), hd]
theorem putL_ge {l : List Ce} {col i : Nat} {c : Ce} (hw : c.width = 1 ∨ c.width = 2) (h : col + c.width.toNat ≤ i) (d : Ce) (hd : l[i]? = some d) :
    (putL l col c)[i]? = if i = col + c.width.toNat ∧ d.width = 0 then some (blankC d.back) else some d := by
  have e : (putL l col c)[i]? = (hlvs l col (c.width.toNat + 1))[i]? := by
    unfold putL
    split
    · rename_i h2
      rw [h2] at h
      have : (2 : Int).toNat = 2 := rfl
      rw [List.getElem?_set_ne (by omega), List.getElem?_set_ne (by omega)]
    · have : 0 < c.width.toNat := by omega
      rw [List.getElem?_set_ne (by omega)]
  rw [e, hlvs, hlv_get]
  have hg : (hlvs l col c.width.toNat)[col + c.width.toNat]? = l[col + c.width.toNat]? := hlvs_ge (Nat.le_refl _)
  have hcut : cutAt (hlvs l col c.width.toNat) (col + c.width.toNat) ↔ cutAt l (col + c.width.toNat) := by unfold cutAt; rw [hg]
  have hb : backAt (hlvs l col c.width.toNat) (col + c.width.toNat) = backAt l (col + c.width.toNat) := by unfold backAt; rw [hg]
  rw [hb]
  by_cases h1 : i = col + c.width.toNat
  · rw [← h1] at hcut ⊢
    by_cases hw0 : d.width = 0
    · have hbk : backAt l i = d.back := by unfold backAt; rw [hd]; rfl
      rw [if_pos ⟨hcut.2 (cutAt_of hd hw0 (by omega)), .inr rfl⟩, if_pos ⟨rfl, hw0⟩, hbk]
    · have hn : ¬ cutAt l i := fun k => by
        obtain ⟨d', hd', hw'⟩ := cutAt_some k
        rw [hd] at hd'; cases hd'; exact hw0 hw'
      rw [if_neg (fun k => hn (hcut.1 k.1)), if_neg (fun k => hw0 k.2), hlvs_ge h, hd]
  · rw [if_neg (by rintro ⟨_, _ | _⟩ <;> omega), if_neg (fun k => h1 k.1), hlvs_ge h, hd]

/-- The reference's order of halving. -/
theorem hlvs_two {l : List Ce} {col : Nat} (h : rowCk l = 0) : hlvs l col 3 = hlv (hlv (hlv l col) (col + 2)) (col + 1) := by
  show hlv (hlv (hlv l (col + 0)) (col + 1)) (col + 2) = _
  rw [Nat.add_zero]
  exact hlv_comm (okR_ck (hlv_ck h)) (c := col + 1)

end Go.Proofs.YtckglkbbdbmdkaaDoor.Nx


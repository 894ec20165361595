/- Layer 15: the text of a row without renditions (plain). -/
/- Layer 15: the law ViewTexts. -/
import Derived.Test.YtmagahmklndcgaaDoorNxP15p
import Derived.Test.YtmagahmklndcgaaDoorNxT1
import Derived.Test.YtmagahmklndcgaaDoorNxT3
import Derived.Test.YtmagahmklndcgaaDoorNxP15u
namespace Go.Proofs.YtmagahmklndcgaaDoor.Nx
set_option linter.unusedSimpArgs false
set_option linter.unusedVariables false
set_option linter.unnecessarySimpa false
open Go

/-! ### A cluster that ends with a space is a space -/
theorem enc_last {r : Nat} (h : scalar r) (hl : (enc r).getLast? = some 32) : r = 32 := by
  have h1 := scalar_le h
  unfold enc encN at hl
  split at hl
  · simp only [List.map_cons, List.map_nil, List.getLast?_singleton, Option.some.injEq] at hl
    have := congrArg UInt8.toNat hl
    rw [UInt8.toNat_ofNat'] at this
    have h32 : (32 : UInt8).toNat = 32 := rfl
    rw [h32] at this
    omega
  · have key : ∀ n : Nat, n < 64 → UInt8.ofNat (128 + n) ≠ 32 := by
      intro n hn he
      have := congrArg UInt8.toNat he
      rw [UInt8.toNat_ofNat'] at this
      have h32 : (32 : UInt8).toNat = 32 := rfl
      rw [h32] at this
      omega
    have h64 : r % 64 < 64 := Nat.mod_lt _ (by decide)
    have last2 : ∀ {p : List UInt8} {x : UInt8}, (p ++ [x]).getLast? = some 32 → x = 32 := by
      intro p x h
      rw [List.getLast?_append] at h; simpa using h
    split at hl
    · exact absurd (last2 (p := [UInt8.ofNat (192 + r / 64)]) hl) (key _ h64)
    · split at hl
      · exact absurd (last2 (p := [UInt8.ofNat (224 + r / 4096), UInt8.ofNat (128 + r / 64 % 64)]) hl) (key _ h64)
      · exact absurd (last2 (p := [UInt8.ofNat (240 + r / 262144), UInt8.ofNat (128 + r / 4096 % 64), UInt8.ofNat (128 + r / 64 % 64)]) hl) (key _ h64)
theorem encs_last {l : List Nat} {r : Nat} : (encs (l ++ [r])).getLast? = (enc r).getLast? := by
  unfold encs
  rw [List.flatMap_append, List.flatMap_singleton, List.getLast?_append]
  have := enc_ne r
  rw [List.getLast?_eq_some_getLast this]; rfl

theorem chk_valid {s : ByteArray} (h : chkC s = 0) : validS s = true ∧ s.size ≠ 0 ∧ chkR (runesOf s) = 0 := by
  unfold chkC at h
  split at h
  · cases h
  · rename_i hn
    simp only [not_or] at hn
    exact ⟨by simpa using hn.2, hn.1, h⟩

theorem cluster_last {s : ByteArray} (h : chkC s = 0) (hl : s.data.toList.getLast? = some 32) : s = ⟨#[32]⟩ := by
  obtain ⟨hv, h0, hc⟩ := chk_valid h
  obtain ⟨rs, hrs, he⟩ := encs_valid _ _ (Nat.le_refl _) hv
  rw [runesOf_encs hrs he] at hc
  cases rs with
  | nil => cases hc
  | cons r l =>
    have hm : (l.all fun n => markC n) = true := by
      simp only [chkR] at hc
      split at hc
      · cases hc
      · rename_i hn
        simp only [not_or] at hn
        simpa using hn.2
    rcases List.eq_nil_or_concat l with rfl | ⟨l', x, rfl⟩
    · rw [he, show [r] = ([] : List Nat) ++ [r] from rfl, encs_last] at hl
      have := enc_last (hrs r (List.mem_cons_self ..)) hl
      subst this
      apply ByteArray.ext
      apply Array.ext'
      rw [he]; rfl
    · rw [List.concat_eq_append] at *
      rw [he, show r :: (l' ++ [x]) = (r :: l') ++ [x] from rfl, encs_last] at hl
      have := enc_last (hrs x (by simp)) hl
      subst this
      have := List.all_eq_true.1 hm 32 (by simp)
      exact absurd this (by decide)

/-! ### Spaces at the end -/
def stripN (l : List UInt8) : Nat → Nat
  | 0 => 0
  | n + 1 => if l[n]? = some 32 then stripN l n else n + 1
def stripL (l : List UInt8) : List UInt8 := l.take (stripN l l.length)
theorem stripN_le (l : List UInt8) : ∀ n, stripN l n ≤ n
  | 0 => Nat.le_refl _
  | n + 1 => by
    simp only [stripN]
    split
    · have := stripN_le l n; omega
    · exact Nat.le_refl _
theorem stripN_congr (l l' : List UInt8) : ∀ n, (∀ i, i < n → l[i]? = l'[i]?) → stripN l n = stripN l' n
  | 0, _ => rfl
  | n + 1, h => by
    simp only [stripN, h n (Nat.lt_succ_self n), stripN_congr l l' n fun i hi => h i (by omega)]
theorem stripL_snoc (l : List UInt8) (b : UInt8) : stripL (l ++ [b]) = if b = 32 then stripL l else l ++ [b] := by
  unfold stripL
  rw [List.length_append, List.length_singleton, stripN, List.getElem?_append_right (Nat.le_refl _), Nat.sub_self]
  simp only [List.getElem?_cons_zero, Option.some.injEq]
  split
  · rw [stripN_congr (l ++ [b]) l l.length fun i hi => List.getElem?_append_left hi, List.take_append_of_le_length (stripN_le _ _)]
  · exact List.take_of_length_le (by simp)
theorem trimGl_snoc (l : List Gl) (g : Gl) : trimGl (l ++ [g]) = if g = spaceGl then trimGl l else l ++ [g] := by
  unfold trimGl
  rw [List.length_append, List.length_singleton, trimN, List.getElem?_append_right (Nat.le_refl _), Nat.sub_self]
  simp only [List.getElem?_cons_zero, Option.some.injEq]
  split
  · rw [trimN_congr (l ++ [g]) l l.length fun i hi => List.getElem?_append_left hi, List.take_append_of_le_length (trimN_le _ _)]
  · exact List.take_of_length_le (by simp)

theorem txt_app (a b : List ByteArray) : txt (a ++ b) = txt a ++ txt b := by simp [txt]
theorem rev_ind {α : Type} {p : List α → Prop} (h0 : p []) (h1 : ∀ l x, p l → p (l ++ [x])) (l : List α) : p l := by
  rw [← List.reverse_reverse l]
  induction l.reverse with
  | nil => exact h0
  | cons x t ih => rw [List.reverse_cons]; exact h1 _ _ ih

theorem strip_glyphs (l : List Gl) : (∀ g ∈ l, chkC g.text = 0 ∧ (g.text = ⟨#[32]⟩ → g = spaceGl)) → stripL (txt (l.map Gl.text)) = txt ((trimGl l).map Gl.text) := by
  refine rev_ind (p := fun l => (∀ g ∈ l, chkC g.text = 0 ∧ (g.text = ⟨#[32]⟩ → g = spaceGl)) → stripL (txt (l.map Gl.text)) = txt ((trimGl l).map Gl.text)) (fun _ => rfl) (fun l g ih h => ?_) l
  obtain ⟨hc, hs⟩ := h g (by simp)
  rw [trimGl_snoc, List.map_append, txt_app]
  have hg : txt ([g].map Gl.text) = g.text.data.toList := by simp [txt]
  rw [hg]
  have hne : g.text.data.toList ≠ [] := by
    intro he
    have := (chk_valid hc).2.1
    rw [bytes_size, he] at this
    exact this rfl
  by_cases hg : g = spaceGl
  · rw [if_pos hg, ← ih fun x hx => h x (by simp [hx]), hg]
    show stripL (_ ++ [32]) = _
    rw [stripL_snoc, if_pos rfl]
  · rw [if_neg hg, List.map_append, txt_app]
    have hb : txt ([g].map Gl.text) = g.text.data.toList := by simp [txt]
    rw [hb]
    rcases List.eq_nil_or_concat g.text.data.toList with he | ⟨t, b, he⟩
    · exact absurd he hne
    · rw [List.concat_eq_append] at he
      rw [he, ← List.append_assoc, stripL_snoc, if_neg]
      intro hb
      subst hb
      exact hg (hs (cluster_last hc (by rw [he]; simp)))

/-! ### Rows without renditions -/
def plainC (c : Ce) : Ce := { c with fore := -1, back := -1, flags := 0 }
theorem styleOf_zero : styleOf 0 = 0 := by decide
theorem and_zero : andI .i64 0 64 = 0 := by decide

theorem row_texts : ∀ (n : Nat) (l : List Ce), l.length ≤ n → rowCk l = 0 → (∀ c ∈ l, c.flags = 0) → txt (l.map Ce.text) = txt ((glyphsOf l).map Gl.text) ∧ ∀ g ∈ glyphsOf l, chkC g.text = 0 ∧ (g.text = ⟨#[32]⟩ → g = spaceGl)
  | 0, l, hl, _, _ => by
    have : l = [] := List.eq_nil_of_length_eq_zero (by omega)
    subst this; exact ⟨rfl, by simp [glyphsOf]⟩
  | n + 1, [], _, _, _ => ⟨rfl, by simp [glyphsOf]⟩
  | n + 1, a :: l, hl, h, hp => by
    rw [rowCk.eq_def] at h
    simp only at h
    simp only [List.length_cons] at hl
    have hpa := hp a (List.mem_cons_self ..)
    split at h
    · cases h
    · rename_i hw
      have hw : a.width = 1 ∨ a.width = 2 := Decidable.not_not.1 hw
      split at h
      · rename_i hk
        split at h
        · rename_i hv
          have ga : glyphOf a = some ⟨a.text, decide (a.width = 2), 0⟩ := by
            rw [glyphOf, hpa, if_neg (by simp [and_zero]), if_neg (by omega), styleOf_zero]
          have hga : chkC a.text = 0 ∧ (a.text = ⟨#[32]⟩ → (⟨a.text, decide (a.width = 2), 0⟩ : Gl) = spaceGl) := by
            refine ⟨hk, fun he => ?_⟩
            have hw1 : a.width = 1 := by rw [← hv, he]; decide +kernel
            rw [spaceGl, he, hw1]; rfl
          have hcons : ∀ {r : List Ce}, txt (r.map Ce.text) = txt ((glyphsOf r).map Gl.text) → txt ((a :: r).map Ce.text) = txt ((⟨a.text, decide (a.width = 2), 0⟩ :: glyphsOf r : List Gl).map Gl.text) := by
            intro r hr
            simp only [List.map_cons, txt, List.flatMap_cons] at hr ⊢
            rw [hr]
          split at h
          · rename_i h2
            cases l with
            | nil => cases h
            | cons d l' =>
              simp only at h
              split at h
              · rename_i hd
                simp only [List.length_cons] at hl
                obtain ⟨i1, i2⟩ := row_texts n l' (by omega) h fun c hc => hp c (by simp [hc])
                have hpd := hp d (by simp)
                have gd : glyphOf d = none := by
                  rw [glyphOf, hpd, if_neg (by simp [and_zero]), if_pos (by rw [hd]; rfl)]
                have e : glyphsOf (a :: d :: l') = ⟨a.text, decide (a.width = 2), 0⟩ :: glyphsOf l' := by
                  simp only [glyphsOf, List.filterMap_cons, ga, gd]
                rw [e]
                have ed : txt ((a :: d :: l').map Ce.text) = txt ((a :: l').map Ce.text) := by
                  have hdt : d.text.data.toList = [] := by rw [hd]; rfl
                  simp only [List.map_cons, txt, List.flatMap_cons, hdt, List.nil_append]
                refine ⟨by rw [ed]; exact hcons i1, fun g hg => ?_⟩
                rcases List.mem_cons.1 hg with rfl | hg
                · exact hga
                · exact i2 g hg
              · cases h
          · obtain ⟨i1, i2⟩ := row_texts n l (by omega) h fun c hc => hp c (by simp [hc])
            have e : glyphsOf (a :: l) = ⟨a.text, decide (a.width = 2), 0⟩ :: glyphsOf l := by
              simp only [glyphsOf, List.filterMap_cons, ga]
            rw [e]
            refine ⟨hcons i1, fun g hg => ?_⟩
            rcases List.mem_cons.1 hg with rfl | hg
            · exact hga
            · exact i2 g hg
        · cases h
      · cases h

/-- The law, plainly. -/
theorem texts_law {l : List Ce} (h : checkR l = 0) (hp : ∀ c ∈ l, c.flags = 0) : stripL (txt (l.map Ce.text)) = txt ((vRow l).map Gl.text) := by
  have hr : rowCk l = 0 := by
    unfold checkR at h
    split at h
    · cases h
    · exact h
  obtain ⟨h1, h2⟩ := row_texts _ l (Nat.le_refl _) hr hp
  rw [h1, strip_glyphs _ h2]; rfl

end Go.Proofs.YtmagahmklndcgaaDoor.Nx

namespace Go.Proofs.YtmagahmklndcgaaDoor.Nx
set_option linter.unusedSimpArgs false
set_option linter.unusedVariables false
set_option linter.unnecessarySimpa false
open Go

variable {P : Program} {N : Nat} {Γ : Tabs}

abbrev ceY (l : List Ce) : HB := .cells eCe ((ceRows l).map fun r => r.map A.d)
theorem ceY_len {l : List Ce} : ((ceRows l).map fun r => r.map A.d).length = l.length := by simp [ceRows]
theorem ceY_get {l : List Ce} {i : Nat} (hi : i < l.length) : ((ceRows l).map fun r => r.map A.d)[i]? = some (l[i].row.map .d) := by simp [ceRows, hi]
theorem ceY_set {l : List Ce} {i : Nat} {c : Ce} : ((ceRows l).map fun r => r.map A.d).set i (c.row.map .d) = (ceRows (l.set i c)).map fun r => r.map A.d := by simp [ceRows, List.map_set]
/-! ### Structures become data, field by field -/
theorem frz_c {k : Nat} {h : Heap} {x y : A} {l l' : List A} (hx : FrzA k h x y) (hl : FrzA k h (.agg l) (.agg l')) : FrzA k h (.agg (x :: l)) (.agg (y :: l')) := by
  cases hl with
  | same hu =>
    refine .agg rfl fun j z hj => ?_
    cases j with
    | zero => simp at hj; subst hj; exact hx
    | succ j =>
      have hj' : l[j]? = some z := by simpa using hj
      have : (x :: l).getD (j + 1) .any = z := by rw [List.getD_cons_succ, List.getD_eq_getElem?_getD, hj']; rfl
      rw [this]
      exact .same (A.underL_get hu hj')
  | agg hl hr =>
    refine .agg (by simp [hl]) fun j z hj => ?_
    cases j with
    | zero => simp at hj; subst hj; exact hx
    | succ j => rw [List.getD_cons_succ]; exact hr j z (by simpa using hj)
theorem frz_s {k : Nat} {h : Heap} {x : A} {l l' : List A} (hx : x.under k = true) (hl : FrzA k h (.agg l) (.agg l')) : FrzA k h (.agg (x :: l)) (.agg (x :: l')) := frz_c (.same hx) hl

def tmL (n : Nat) (L : List Ce) : Tm where
  w := n
  h := 1
  rows := [L]
  x3 := .sc (.int .i64 0)
  x4 := .sc (.int .i64 0)
  x5 := .sl eRw []
  row := 0
  col := 0
  x8 := .sc (.bool false)
  q := [.sc (.int .i64 0), .sc (.int .i64 0), .sc (.bool false), .sc (.int .i64 0), .sc (.int .i64 0), .sc (.int .i64 0), .sc (.bool false), .sc (.int .u8 0), .sc (.int .u8 0), .sc (.int .i64 0), .sc (.int .i64 0), .sc (.int .i64 0), .sc (.int .i64 0),
    .sc (.bool false), .sc (.bool false), .sc (.bool false), .sc (.bool false), .sc (.bool false), .sc (.bool false), .sc (.bool false), .sc (.bool false), .sc (.int .u8 0), .sc (.int .u8 0), .sc (.int .i64 0), .sc (.int .i64 0), .sc (.int .i64 0), .sl eRw [], .sl eRw [], .sc (.int .i64 0),
    .sc (.string ⟨#[]⟩), .sc (.string ⟨#[]⟩), .sc (.string ⟨#[]⟩), .sc (.string ⟨#[]⟩)]
  vis := false
  qt := [.sc (.bool false), .sc (.bool false), .sc (.int .u8 0), .sc (.int .u8 0), .sc (.int .i64 0), .sc (.int .i64 0), .sc (.int .i64 0), .sl eRw [], .sl eRw [], .sc (.int .i64 0),
    .sc (.string ⟨#[]⟩), .sc (.string ⟨#[]⟩), .sc (.string ⟨#[]⟩), .sc (.string ⟨#[]⟩)]
  hl := rfl
  hd := rfl

theorem frz_tmL {h : Heap} {n : Nat} {L : List Ce} {x : A} (hx : FrzA 0 h x (.d (.sl eRw (crRows [L])))) :
    FrzA 0 h (.agg [.int n, .int 1, x, .int 0, .int 0, .nil, .int 0, .int 0, .bool false, .int 0, .int 0, .bool false, .int 0, .int 0, .int 0, .bool false, .sc (.int .u8 0), .sc (.int .u8 0), .int 0, .int 0, .int 0, .int 0, .bool false, .bool false, .bool false, .bool false, .bool false, .bool false, .bool false, .bool false, .sc (.int .u8 0), .sc (.int .u8 0), .int 0, .int 0, .int 0, .nil, .nil, .int 0, .str ⟨#[]⟩, .str ⟨#[]⟩, .str ⟨#[]⟩, .str ⟨#[]⟩]) (tmA (tmL n L)) := by
  refine frz_s rfl (frz_s rfl (frz_c hx (frz_s rfl (frz_s rfl (frz_c (.d (.nil _)) ?_)))))
  iterate 29 refine frz_s rfl ?_
  refine frz_c (.d (.nil _)) (frz_c (.d (.nil _)) (.same rfl))

def mkP (l : List Ce) (i : Nat) : List Ce := (l.take i).map plainC ++ l.drop i
theorem mkP_len {l : List Ce} {i : Nat} : (mkP l i).length = l.length := by simp [mkP]; omega
theorem mkP_get {l : List Ce} {i : Nat} (h : i < l.length) : (mkP l i)[i]'(by rw [mkP_len]; exact h) = l[i] := by
  unfold mkP
  rw [List.getElem_append_right (by simp; omega)]
  simp [Nat.min_eq_left (Nat.le_of_lt h)]
theorem mkP_set {l : List Ce} {i : Nat} (h : i < l.length) : (mkP l i).set i (plainC l[i]) = mkP l (i + 1) := by
  unfold mkP
  have hl : ((l.take i).map plainC).length = i := by simp; omega
  rw [List.set_append_right _ _ (by omega), hl, Nat.sub_self, List.drop_eq_getElem_cons h, List.set_cons_zero, List.take_add_one, List.getElem?_eq_getElem h, Option.toList_some, List.map_append, List.append_assoc]
  rfl
theorem mkP_all {l : List Ce} : mkP l l.length = l.map plainC := by simp [mkP]

theorem stripL_step {l : List UInt8} {n : Nat} (h : stripN l l.length = stripN l (n + 1)) (h32 : l[n]? = some 32) : stripN l l.length = stripN l n := by
  rw [h, stripN, if_pos h32]

set_option maxHeartbeats 2000000 in
theorem viewTextsLaw_fn {f fa fck fo ft fv : FuncId} (H : FnIs P f N [.t 2] (x_law15_ViewTexts fa fck fo ft fv)) (hN : 1 ≤ N) (Ha : FnP Γ P fa [] (.bool true))
    (Hck : ∀ l : List Ce, (∀ c ∈ l, c.text.size ≤ 1000) → FnP Γ P fck [.d (.sl eCe (ceRows l))] (.int (checkR l)))
    (Ho : ∀ t : Tm, (∀ l ∈ t.rows, ∀ c ∈ l, c.text.size ≤ 1000) → FnP Γ P fo [tmA t] (vwA (ofV t))) (Ht : TextOk Γ P ft) (Hv : TextGOk Γ P fv) (l : List Ce) :
    FnP Γ P f [.d (.sl eCe (ceRows l))] (.bool true) := by
  refine .of_W H (by simpa using hN) (W_sl 0 rfl fun ⟨hm, hroom, _⟩ => ?_)
  rw [ceRows_length] at hm hroom
  have hlr : l.length ≤ room := le_of_mul hroom
  have hlr' := hlr
  simp only [room] at hlr'
  unfold x_law15_ViewTexts
  refine W_seq (W_reg ?_); simp only [xs, xl, argS, reduceIte, Nat.reduceEqDiff, Nat.reduceAdd, Nat.reduceLT, Nat.reduceLeDiff, A.okCells, A.cells, A.one, splice]
  refine W_seq (W_reg ?_); simp only [xs, xl, argS, reduceIte, Nat.reduceEqDiff, Nat.reduceAdd, Nat.reduceLT, Nat.reduceLeDiff, A.okCells, A.cells, A.one, splice, ceRows_length]
  refine ⟨by simpa using hroom, by simpa using hm, ?_⟩
  let S : Nat → St := fun i => ⟨look [(3, .ref 0 l.length 0 l.length true), (4, .int i)], [ceY (mkP l i)]⟩
  let D0 : List Ce → St := fun L => ⟨look [(3, .d (.sl eCe (ceRows L)))], []⟩
  -- behind the loop
  have after : ∀ L : List Ce, L.length = l.length → (l.length ≤ 140 → L = l.map plainC ∧ ∀ c ∈ L, c.text.size ≤ 40) → W Γ.ctx P N none 0 ((x_law15_ViewTexts fa fck fo ft fv).r.r.r) (RetQ [.t 2] (.bool true)) (D0 L) := by
    intro L hL hsm
    simp only [x_law15_ViewTexts, XC.r, D0]
    let U : Bool → St := fun b => ⟨look [(3, .d (.sl eCe (ceRows L))), (40, .bool b)], []⟩
    refine W_seq (W_cutX (fun s => ∃ b, s = U b ∧ (b = false → l.length ≤ 132 ∧ checkR L = 0)) rfl (fun K hK => ?_) ?_)
    · cases e1 : decide ((132 : Int) < (l.length : Int)) with
      | true =>
        simp only [xs, xl, argS, reduceIte, Nat.reduceEqDiff, Nat.reduceAdd, Nat.reduceLT, Nat.reduceLeDiff, A.okCells, A.cells, A.one, splice, ceRows_length, hL, e1, undefA, Bool.true_eq_false]
        exact hK _ (U true) (Co.keep _ (by simp [x_upd, x_look])) ⟨true, rfl, fun h => by cases h⟩
      | false =>
        have e1' : l.length ≤ 132 := by simp at e1; omega
        have hC := Hck L (fun c hc => by have := (hsm (by omega)).2 c hc; omega)
        simp only [xs, xl, argS, reduceIte, Nat.reduceEqDiff, Nat.reduceAdd, Nat.reduceLT, Nat.reduceLeDiff, A.okCells, A.cells, A.one, splice, ceRows_length, hL, e1, undefA, Bool.true_eq_false]
        refine c_fn hC rfl ?_
        simp only [xs, xl, argS, reduceIte, Nat.reduceEqDiff, Nat.reduceAdd, Nat.reduceLT, Nat.reduceLeDiff, A.okCells, A.cells, A.one, splice]
        exact hK _ (U (!decide (checkR L = 0))) (Co.keep _ (by simp [x_upd, x_look])) ⟨_, rfl, fun h => ⟨e1', by simpa using h⟩⟩
    rintro _ ⟨b, rfl, hb⟩
    refine W_cond rfl (fun hd => ?_) (fun hd => W_skip ?_)
    · simp only [U]
      refine W_seq (W_reg ?_); simp only [xs, xl, argS, reduceIte, Nat.reduceEqDiff, Nat.reduceAdd, Nat.reduceLT, Nat.reduceLeDiff, A.okCells, A.cells, A.one, splice]
      refine c_fn (Ha) rfl ?_; simp only [xs, xl, argS, reduceIte, Nat.reduceEqDiff, Nat.reduceAdd, Nat.reduceLT, Nat.reduceLeDiff, A.okCells, A.cells, A.one, splice]
      refine W_ret (.tmp ?_ rfl)
      simp only [x_upd, reduceIte]
    obtain ⟨h1, h2⟩ := hb hd
    obtain ⟨h3, h4⟩ := hsm (by omega)
    have hL1 : 1 ≤ L.length := by
      unfold checkR at h2
      split at h2
      · cases h2
      · omega
    have hflags : ∀ c ∈ L, c.flags = 0 ∧ c.fore = -1 ∧ c.back = -1 := by
      intro c hc
      rw [h3] at hc
      obtain ⟨d, _, rfl⟩ := List.mem_map.1 hc
      exact ⟨rfl, rfl, rfl⟩
    have hshow : showT (tmL l.length L) = true := by
      unfold showT
      have q1 : badT (tmL l.length L) = false := by
        have : ∀ n : Nat, 1 ≤ n → n ≤ 132 → badT (tmL n L) = false := by
          intro n a b
          have h1 : szOk (n : Int) 1 = true := by simp [szOk]; omega
          have h2 : decide ((n : Int) ≤ 0) = false := decide_eq_false (by omega)
          show ((((((!szOk (n : Int) 1 || !decide ((([L].length : Nat) : Int) = 1)) || decide ((0 : Int) < 0)) || decide ((1 : Int) ≤ 0)) || decide ((0 : Int) < 0)) || decide ((n : Int) ≤ 0))) = false
          rw [h1, h2]; rfl
        exact this _ (by omega) h1
      have q2 : [L].any (badRow l.length) = false := by
        simp only [List.any_cons, List.any_nil, Bool.or_false, badRow, hL, h2]
        have : L.any badA = false := by
          rw [List.any_eq_false]
          intro c hc
          obtain ⟨c1, c2, c3⟩ := hflags c hc
          simp [badA, badN, c1, c2, c3]
        simp [this]
      rw [q1]
      show (!(false || [L].any (badRow l.length))) = true
      rw [q2]; rfl
    have hO := Ho (tmL l.length L) (fun r hr c hc => by
      have : r = L := by simpa [tmL] using hr
      subst this
      have := h4 c hc; omega)
    have hof : ofV (tmL l.length L) = ⟨l.length, 1, [vRow L], 0, 0, false⟩ := by
      rw [ofV, if_pos hshow]; rfl
    rw [hof] at hO
    simp only [vwA, Vw.ds, rwRows, List.map_cons, List.map_nil] at hO
    simp only [U, xs, xl, argS, reduceIte, Nat.reduceEqDiff, Nat.reduceAdd, Nat.reduceLT, Nat.reduceLeDiff, A.okCells, A.cells, A.one, splice]
    let V : St := ⟨look [(3, .d (.sl eCe (ceRows L))), (47, tmA (tmL l.length L))], []⟩
    refine W_cutC (· = ⟨look [(3, .d (.sl eCe (ceRows L))), (5, .ptr 0 1 0 0)], [vwB ⟨l.length, 1, [vRow L], 0, 0, false⟩]⟩) (fun K hK => ?_) ?_
    · refine runC_cut 6 (· = V) rfl (by intro h; cases h) (fun K1 hK1 => ?_) ?_
      · simp only [xs, xl, argS, reduceIte, Nat.reduceEqDiff, Nat.reduceAdd, Nat.reduceLT, Nat.reduceLeDiff, A.okCells, A.cells, A.one, splice, ceRows_length, hL]
        refine hK1 _ V (Co.frz _ 0 ?_ (Nat.le_refl _) (Nat.zero_le _) (by simp)) rfl
        intro p hp
        simp only [List.mem_cons, List.not_mem_nil, or_false] at hp
        rcases hp with rfl | rfl
        · simp only [x_upd, x_look, reduceIte, Nat.reduceEqDiff]; exact .same rfl
        · simp only [x_upd, x_look, reduceIte, Nat.reduceEqDiff]
          refine frz_tmL ?_
          exact frz_all (id := 0) (full := true) (e := eRw) (rows := crRows [L]) rfl
      rintro _ rfl
      refine runC_end rfl ?_
      simp only [V, xs, xl, argS, reduceIte, Nat.reduceEqDiff, Nat.reduceAdd, Nat.reduceLT, Nat.reduceLeDiff, A.okCells, A.cells, A.one, splice]
      refine c_fn hO (tm_under _) ?_
      simp only [xs, xl, argS, reduceIte, Nat.reduceEqDiff, Nat.reduceAdd, Nat.reduceLT, Nat.reduceLeDiff, A.okCells, A.cells, A.one, splice]
      exact hK _ _ (Co.keep _ (by simp [x_upd, x_look])) rfl
    rintro _ rfl
    refine W_seq ?_
    refine W_seq (W_reg ?_); simp only [xs, xl, argS, reduceIte, Nat.reduceEqDiff, Nat.reduceAdd, Nat.reduceLT, Nat.reduceLeDiff, A.okCells, A.cells, A.one, splice, vwB, Vw.ds, rwRows_len]
    refine W_cond rfl (fun hd => by simp at hd) (fun _ => W_skip ?_)
    have hT := Ht L (by omega) (fun c hc => by have := h4 c hc; omega)
    have hlaw := texts_law h2 (fun c hc => (hflags c hc).1)
    obtain ⟨B, hB⟩ : ∃ B, B = txt (L.map Ce.text) := ⟨_, rfl⟩
    have hBl : B.length ≤ 1000 * L.length := by
      have := txt_len (L.map Ce.text) (by
        intro s hs
        obtain ⟨c, hc, rfl⟩ := List.mem_map.1 hs
        have := h4 c hc; omega)
      rw [List.length_map] at this
      rw [hB]; exact this
    have hTB : textC L = bytesG B := by rw [hB]; rfl
    rw [hTB] at hT
    rw [← hB] at hlaw
    simp only [xs, xl, argS, reduceIte, Nat.reduceEqDiff, Nat.reduceAdd, Nat.reduceLT, Nat.reduceLeDiff, A.okCells, A.cells, A.one, splice]
    refine W_seq (W_reg ?_); simp only [xs, xl, argS, reduceIte, Nat.reduceEqDiff, Nat.reduceAdd, Nat.reduceLT, Nat.reduceLeDiff, A.okCells, A.cells, A.one, splice]
    refine c_fn (hT) rfl ?_; simp only [xs, xl, argS, reduceIte, Nat.reduceEqDiff, Nat.reduceAdd, Nat.reduceLT, Nat.reduceLeDiff, A.okCells, A.cells, A.one, splice]
    let S2 : Nat → St := fun n => ⟨look [(5, .ptr 0 1 0 0), (6, .str (bytesG (B.take n)))], [vwB ⟨l.length, 1, [vRow L], 0, 0, false⟩]⟩
    refine W_cut (· = S2 (stripN B B.length)) ?_ ?_
    · refine W_block ?_
      refine W_co (s' := S2 B.length) (Co.keep _ (by simp [x_upd, x_look])) ?_
      refine W_loop (fun q s => ∃ n, n ≤ B.length ∧ q = n ∧ s = S2 n ∧ stripN B B.length = stripN B n) ⟨B.length, Nat.le_refl _, rfl, rfl, rfl⟩ ?_
      rintro n s' ⟨_, hn, rfl, rfl, hstrip⟩
      have hsz : (bytesG (B.take n)).size = n := by rw [bytesG_size, List.length_take]; omega
      simp only [S2]
      refine W_seq ?_
      cases n with
      | zero =>
        refine W_seq (W_reg ?_); simp only [xs, xl, argS, reduceIte, Nat.reduceEqDiff, Nat.reduceAdd, Nat.reduceLT, Nat.reduceLeDiff, A.okCells, A.cells, A.one, splice, hsz, undefA, Bool.true_eq_false, Int.lt_irrefl, decide_false]
        refine W_cond rfl (fun hc => by cases hc) (fun hc => W_exit ?_)
        simp only [xs, xl, argS, reduceIte, Nat.reduceEqDiff, Nat.reduceAdd, Nat.reduceLT, Nat.reduceLeDiff, A.okCells, A.cells, A.one, splice]
        exact ⟨S2 (stripN B B.length), Co.keep _ (by simp [x_upd, x_look, S2, hstrip, stripN]), rfl⟩
      | succ n =>
        have d1 : decide ((0 : Int) < ((n + 1 : Nat) : Int)) = true := decide_eq_true (by omega)
        have w1 : IntKind.i64.wrap (((n + 1 : Nat) : Int) - 1) = (n : Int) := by rw [i64_of (by omega)]; omega
        have hnB : n < B.length := hn
        have hget : (bytesG (B.take (n + 1))).data.toList.getD n 0 = B[n] := by
          show (B.take (n + 1)).getD n 0 = _
          rw [List.getD_eq_getElem?_getD, List.getElem?_take, if_pos (Nat.lt_succ_self n), List.getElem?_eq_getElem hnB]; rfl
        have h32 : decide ((B[n].toNat : Int) = 32) = decide (B[n] = 32) := by
          rw [Bool.eq_iff_iff]
          simp only [decide_eq_true_eq]
          constructor
          · intro h
            apply UInt8.toNat_inj.1
            have h32 : (32 : UInt8).toNat = 32 := rfl
            rw [h32]; omega
          · intro h; rw [h]; rfl
        refine W_seq (W_reg ?_); simp only [xs, xl, argS, reduceIte, Nat.reduceEqDiff, Nat.reduceAdd, Nat.reduceLT, Nat.reduceLeDiff, A.okCells, A.cells, A.one, splice, hsz, undefA, Bool.true_eq_false, d1, w1, Int.toNat_natCast, hget, h32]
        refine ⟨by omega, by omega, ?_⟩
        refine W_cond rfl (fun hc => W_skip ?_) (fun hc => W_exit ?_)
        · have hb32 : B[n] = 32 := of_decide_eq_true hc
          simp only [xs, xl, argS, reduceIte, Nat.reduceEqDiff, Nat.reduceAdd, Nat.reduceLT, Nat.reduceLeDiff, A.okCells, A.cells, A.one, splice]
          refine W_block ?_
          refine W_reg ?_; simp only [xs, xl, argS, reduceIte, Nat.reduceEqDiff, Nat.reduceAdd, Nat.reduceLT, Nat.reduceLeDiff, A.okCells, A.cells, A.one, splice, hsz, w1, Int.toNat_natCast, Int.toNat_zero]
          repeat refine And.intro (by omega) ?_
          refine ⟨n, S2 n, Nat.lt_succ_self n, Co.keep _ ?_, n, by omega, rfl, rfl, ?_⟩
          · have : (bytesG (B.take (n + 1))).extract 0 n = bytesG (B.take n) := by
              apply ByteArray.ext
              apply Array.ext'
              rw [ByteArray.data_extract, Array.toList_extract]
              simp [bytesG, List.extract, List.take_take]
            simp [x_upd, x_look, this]
          · exact stripL_step hstrip (by rw [List.getElem?_eq_getElem hnB, hb32])
        · have hb32 : ¬ B[n] = 32 := of_decide_eq_false hc
          have hfin : stripN B B.length = n + 1 := by
            rw [hstrip, stripN, List.getElem?_eq_getElem hnB, if_neg (by simpa using hb32)]
          simp only [xs, xl, argS, reduceIte, Nat.reduceEqDiff, Nat.reduceAdd, Nat.reduceLT, Nat.reduceLeDiff, A.okCells, A.cells, A.one, splice]
          exact ⟨S2 (stripN B B.length), Co.keep _ (by simp [x_upd, x_look, S2, hfin]), rfl⟩
    rintro _ rfl
    have hV := Hv (vRow L) (by
      have a := glyphsOf_len L
      have b := trimGl_len (glyphsOf L)
      have c := trimN_le (glyphsOf L) (glyphsOf L).length
      unfold vRow; omega) (fun g hg => by
      have hx := ofV_texts (t := tmL l.length L) (fun r hr c hc => by
        have : r = L := by simpa [tmL] using hr
        subst this
        have := h4 c hc; omega) (vRow L) (by rw [hof]; simp) g hg
      exact hx)
    have hfin : textG (vRow L) = bytesG (B.take (stripN B B.length)) := by
      show (⟨(txt ((vRow L).map Gl.text)).toArray⟩ : ByteArray) = _
      rw [← hlaw]; rfl
    rw [hfin] at hV
    simp only [S2]
    refine W_seq (W_reg ?_); simp only [xs, xl, argS, reduceIte, Nat.reduceEqDiff, Nat.reduceAdd, Nat.reduceLT, Nat.reduceLeDiff, A.okCells, A.cells, A.one, splice, vwB, Vw.ds, rwRows, List.length_cons, List.length_nil, Int.toNat_zero]
    refine ⟨by omega, by omega, ?_⟩
    refine c_fn (hV) rfl ?_; simp only [xs, xl, argS, reduceIte, Nat.reduceEqDiff, Nat.reduceAdd, Nat.reduceLT, Nat.reduceLeDiff, A.okCells, A.cells, A.one, splice, decide_true]
    refine c_fn (Ha) rfl ?_; simp only [xs, xl, argS, reduceIte, Nat.reduceEqDiff, Nat.reduceAdd, Nat.reduceLT, Nat.reduceLeDiff, A.okCells, A.cells, A.one, splice]
    refine W_ret (.tmp ?_ rfl)
    simp only [x_upd, reduceIte]
  refine W_seq ?_
  refine W_seq (W_reg ?_); simp only [xs, xl, argS, reduceIte, Nat.reduceEqDiff, Nat.reduceAdd, Nat.reduceLT, Nat.reduceLeDiff, A.okCells, A.cells, A.one, splice]
  refine W_block ?_
  refine W_co (s' := S 0) (Co.keep _ (by simp [x_upd, x_look, mkP, ceY])) ?_
  have hcl : ∀ i, (ceRows (mkP l i)).length = l.length := fun i => by rw [ceRows_length, mkP_len]
  refine W_loop (fun q s => ∃ i, i ≤ l.length ∧ i ≤ 140 ∧ q = l.length - i ∧ s = S i ∧ ∀ c ∈ (l.take i).map plainC, c.text.size ≤ 40) ⟨0, Nat.zero_le _, Nat.zero_le _, rfl, rfl, by simp⟩ ?_
  rintro q s' ⟨i, hi, hi2, rfl, rfl, hsz⟩
  simp only [S]
  refine W_seq ?_
  let V : Bool → St := fun b => ⟨look [(3, .ref 0 l.length 0 l.length true), (4, .int i), (17, .bool b)], [ceY (mkP l i)]⟩
  refine (W_cutX (· = V (decide (i < l.length) && decide (i < 140))) rfl (fun K hK => ?_) ?_)
  · have c1 : decide ((i : Int) < (l.length : Int)) = decide (i < l.length) := by rw [Bool.eq_iff_iff]; simp
    have c2 : decide ((i : Int) < 140) = decide (i < 140) := by rw [Bool.eq_iff_iff]; simp; omega
    cases e1 : decide (i < l.length) with
    | true =>
      simp only [xs, xl, argS, reduceIte, Nat.reduceEqDiff, Nat.reduceAdd, Nat.reduceLT, Nat.reduceLeDiff, A.okCells, A.cells, A.one, splice, ceY_len, hcl, c1, c2, e1]
      exact hK _ _ (Co.keep _ (by simp [x_upd, x_look, e1])) rfl
    | false =>
      simp only [xs, xl, argS, reduceIte, Nat.reduceEqDiff, Nat.reduceAdd, Nat.reduceLT, Nat.reduceLeDiff, A.okCells, A.cells, A.one, splice, ceY_len, hcl, c1, c2, e1, undefA, Bool.true_eq_false]
      exact hK _ _ (Co.keep _ (by simp [x_upd, x_look, e1])) rfl
  rintro _ rfl
  refine W_cond rfl (fun hc => W_skip ?_) (fun hc => W_exit ?_)
  · simp only [Bool.and_eq_true, decide_eq_true_eq] at hc
    obtain ⟨hlt, hlt2⟩ := hc
    have hg := ceY_get (l := mkP l i) (i := i) (by rw [mkP_len]; exact hlt)
    rw [mkP_get hlt] at hg
    have hset := ceY_set (l := mkP l i) (i := i) (c := plainC l[i])
    rw [mkP_set hlt] at hset
    simp only [plainC, Ce.row, List.map_cons, List.map_nil] at hg hset
    simp only [V, xs, xl, argS, reduceIte, Nat.reduceEqDiff, Nat.reduceAdd, Nat.reduceLT, Nat.reduceLeDiff, A.okCells, A.cells, A.one, splice]
    refine W_seq (W_block (W_seq ?_))
    refine W_seq (W_reg ?_); simp only [xs, xl, argS, reduceIte, Nat.reduceEqDiff, Nat.reduceAdd, Nat.reduceLT, Nat.reduceLeDiff, A.okCells, A.cells, A.one, splice, ceY_len, hcl, Int.toNat_natCast, hg]
    refine ⟨by omega, by omega, ?_⟩
    refine W_cond rfl (fun hd => ?_) (fun hd => W_skip ?_)
    · refine W_seq (W_reg ?_); simp only [xs, xl, argS, reduceIte, Nat.reduceEqDiff, Nat.reduceAdd, Nat.reduceLT, Nat.reduceLeDiff, A.okCells, A.cells, A.one, splice]
      refine c_fn (Ha) rfl ?_; simp only [xs, xl, argS, reduceIte, Nat.reduceEqDiff, Nat.reduceAdd, Nat.reduceLT, Nat.reduceLeDiff, A.okCells, A.cells, A.one, splice]
      refine W_ret ?_
      simp only [xs, xl, argS, reduceIte, Nat.reduceEqDiff, Nat.reduceAdd, Nat.reduceLT, Nat.reduceLeDiff, A.okCells, A.cells, A.one, splice]
      refine .tmp ?_ rfl
      simp only [x_upd, reduceIte]
    · have hd : l[i].text.size ≤ 40 := by simp at hd; omega
      have w1 : IntKind.i64.wrap ((i : Int) + 1) = ((i + 1 : Nat) : Int) := by rw [i64_of (by omega)]; omega
      simp only [xs, xl, argS, reduceIte, Nat.reduceEqDiff, Nat.reduceAdd, Nat.reduceLT, Nat.reduceLeDiff, A.okCells, A.cells, A.one, splice]
      refine W_reg ?_; simp only [xs, xl, argS, reduceIte, Nat.reduceEqDiff, Nat.reduceAdd, Nat.reduceLT, Nat.reduceLeDiff, A.okCells, A.cells, A.one, splice, ceY_len, hcl, Int.toNat_natCast, hg, hset]
      refine ⟨by omega, by omega, ?_⟩
      refine W_reg ?_; simp only [xs, xl, argS, reduceIte, Nat.reduceEqDiff, Nat.reduceAdd, Nat.reduceLT, Nat.reduceLeDiff, A.okCells, A.cells, A.one, splice, w1]
      refine ⟨l.length - (i + 1), S (i + 1), by omega, Co.keep _ ?_, i + 1, hlt, hlt2, rfl, rfl, ?_⟩
      · simp [x_upd, x_look]
      · intro c hc
        rw [List.take_add_one, List.getElem?_eq_getElem hlt, Option.toList_some, List.map_append] at hc
        rcases List.mem_append.1 hc with hc | hc
        · exact hsz c hc
        · simp at hc; subst hc; exact hd
  · have hc : ¬ (i < l.length ∧ i < 140) := by
      intro h
      simp [h.1, h.2] at hc
    simp only [V, xs, xl, argS, reduceIte, Nat.reduceEqDiff, Nat.reduceAdd, Nat.reduceLT, Nat.reduceLeDiff, A.okCells, A.cells, A.one, splice]
    have hfrz : Co 0 ⟨look [(3, .ref 0 l.length 0 l.length true), (4, .int i), (17, .bool (decide (i < l.length) && decide (i < 140)))], [ceY (mkP l i)]⟩ (D0 (mkP l i)) := by
      refine Co.frz _ 0 ?_ (Nat.le_refl _) (Nat.zero_le _) (by simp)
      intro p hp
      simp only [List.mem_cons, List.not_mem_nil, or_false] at hp
      subst hp
      simp only [x_look, reduceIte]
      have := frz_all (id := 0) (full := true) (e := eCe) (rows := ceRows (mkP l i)) (h := [ceY (mkP l i)]) rfl
      rw [hcl] at this
      exact this
    refine W_co hfrz (after _ mkP_len fun hle => ?_)
    have hil : i = l.length := by omega
    subst hil
    rw [mkP_all]
    refine ⟨rfl, fun c hc => hsz c ?_⟩
    rw [List.take_length]; exact hc

end Go.Proofs.YtmagahmklndcgaaDoor.Nx


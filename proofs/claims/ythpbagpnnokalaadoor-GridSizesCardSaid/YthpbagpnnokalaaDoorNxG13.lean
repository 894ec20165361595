/- Grids: part; what Scroll does in pieces; the law GridScrollSteps. -/
/- Grids: the law GridScrollSteps. -/
import Derived.Test.YthpbagpnnokalaaDoorNxG11
namespace Go.Proofs.YthpbagpnnokalaaDoor.Nx
set_option linter.unusedSimpArgs false
set_option linter.unusedVariables false
set_option linter.unnecessarySimpa false
open Go

variable {P : Program} {N : Nat} {Γ : Tabs}

theorem tmod_nat (u n : Nat) : (u : Int).tmod (n : Int) = ((u % n : Nat) : Int) := rfl

theorem part_fn {f : FuncId} (H : FnIs P f N [.t 6, .t 7] x_law08_part) (hN : 3 ≤ N) (g : Gd) (u v : Nat) (hu : u ≤ 255) (hv : v ≤ 255) (n : Nat) (hn : g.h = n) (h1 : 1 ≤ n) (h2 : n ≤ 60) :
    FnP Γ P f [gdA g, .d (.sc (.int .u8 u)), .d (.sc (.int .u8 v))] (.tup [.int (u % n : Nat), .int (u % n + 1 + v % (n - u % n) : Nat)]) := by
  refine .of_W H (by simpa using hN) ?_
  have hl := Nat.mod_lt u (show 0 < n by omega)
  have hl2 := Nat.mod_lt v (show 0 < n - u % n by omega)
  obtain ⟨t, ht⟩ : ∃ t, t = u % n := ⟨_, rfl⟩
  rw [← ht] at hl hl2
  have w1 : IntKind.i64.wrap (u : Int) = u := i64_of (by omega)
  have w2 : IntKind.i64.wrap (v : Int) = v := i64_of (by omega)
  have w3 : IntKind.i64.wrap ((t : Nat) : Int) = (t : Nat) := i64_of (by omega)
  have w4 : IntKind.i64.wrap ((t : Int) + 1) = ((t + 1 : Nat) : Int) := i64_of (by omega)
  have w5 : IntKind.i64.wrap ((n : Int) - (t : Int)) = ((n - t : Nat) : Int) := by rw [i64_of (by omega)]; omega
  have w6 : IntKind.i64.wrap ((v % (n - t) : Nat) : Int) = ((v % (n - t) : Nat) : Int) := i64_of (by omega)
  have w7 : IntKind.i64.wrap (((t + 1 : Nat) : Int) + ((v % (n - t) : Nat) : Int)) = ((t + 1 + v % (n - t) : Nat) : Int) := by rw [i64_of (by omega)]; omega
  unfold x_law08_part
  refine W_seq (W_reg ?_)
  simp only [gdA, gdR, xs, xl, argS, reduceIte, Nat.reduceEqDiff, Nat.reduceAdd, Nat.reduceLT, Nat.reduceLeDiff, A.okCells, A.cells, A.one, splice, hn]
  refine W_seq (W_reg ?_)
  simp only [xs, xl, argS, reduceIte, Nat.reduceEqDiff, Nat.reduceAdd, Nat.reduceLT, Nat.reduceLeDiff, A.okCells, A.cells, A.one, splice, w1, b_rem (k := .i64) (show (n : Int) ≠ 0 by omega), tmod_nat, ← ht, w3]
  refine W_seq (W_drw (by simp) ?_)
  simp only [xs, xl, argS, reduceIte, Nat.reduceEqDiff, Nat.reduceAdd, Nat.reduceLT, Nat.reduceLeDiff, A.okCells, A.cells, A.one, splice, w2, w4, w5, b_rem (k := .i64) (show ((n - t : Nat) : Int) ≠ 0 by omega), tmod_nat, w6, w7]
  refine W_ret ⟨.inr rfl, ?_⟩
  simp only [readRs, readR, x_upd, reduceIte, Nat.reduceEqDiff]
  exact .same rfl

/-! ### Proper grids -/
theorem blank_ck {b : Int} : ∀ n : Nat, rowCk (List.replicate n (blankC b)) = 0
  | 0 => rfl
  | n + 1 => by
    have h1 : chkC (blankC b).text = 0 := by show chkC ⟨#[32]⟩ = 0; decide +kernel
    have h2 : widC (blankC b).text = 1 := by show widC ⟨#[32]⟩ = 1; decide +kernel
    have h3 : (blankC b).width = 1 := rfl
    rw [List.replicate_succ, rowCk.eq_def]
    dsimp only
    rw [if_neg (by rw [h3]; decide), if_pos h1, if_pos (by rw [h2, h3]), if_neg (by rw [h3]; decide)]
    exact blank_ck n
theorem blankRow_ck {w b : Int} (h1 : 1 ≤ w) (h2 : w ≤ 132) : ((blankRow w b).length : Int) = w ∧ checkR (blankRow w b) = 0 := by
  have hb : blankRow w b = List.replicate w.toNat (blankC b) := by unfold blankRow; rw [if_neg (by omega)]
  rw [hb]
  refine ⟨by rw [List.length_replicate]; omega, ?_⟩
  unfold checkR
  rw [if_neg (by rw [List.length_replicate]; omega)]
  exact blank_ck _
theorem rowsCk_of {w : Int} : ∀ {l : List (List Ce)}, (∀ r ∈ l, (r.length : Int) = w ∧ checkR r = 0) → rowsCk w l = 0
  | [], _ => rfl
  | a :: l, h => by
    obtain ⟨h1, h2⟩ := h a (List.mem_cons_self ..)
    rw [rowsCk, if_pos h1, if_pos h2]
    exact rowsCk_of fun r hr => h r (List.mem_cons_of_mem _ hr)
theorem gridCk_sz {g : Gd} (h : gridCk g = 0) : szOk g.w g.h = true := by
  simp only [gridCk] at h
  split at h
  · assumption
  · omega
theorem gridCk_of {g : Gd} (hs : szOk g.w g.h = true) (hl : (g.rows.length : Int) = g.h) (hr : ∀ r ∈ g.rows, (r.length : Int) = g.w ∧ checkR r = 0) : gridCk g = 0 := by
  unfold gridCk
  rw [if_pos hs, if_pos hl]
  exact rowsCk_of hr

/-! ### Scroll in pieces -/
theorem clamp_up {L m : Nat} (h : m ≤ L) : clampBy (L : Int) (m : Int) = m := by simp only [clampBy]; omega
theorem clamp_down {L m : Nat} (h : m ≤ L) : clampBy (L : Int) (-(m : Int)) = -(m : Int) := by simp only [clampBy]; omega

theorem scrollR_up {w h b : Int} {A M C : List (List Ce)} {m t bt : Nat} (hck : gridCk ⟨w, h, A ++ M ++ C⟩ = 0) (ht : t = A.length) (hbt : bt = A.length + M.length) (hM : 1 ≤ M.length) (hm : m ≤ M.length) :
    scrollR ⟨w, h, A ++ M ++ C⟩ t bt m b = (⟨w, h, A ++ (M.drop m ++ List.replicate m (blankRow w b)) ++ C⟩, M.take m, 0) := by
  have hh := (gridCk_h hck).1
  have hl : (A ++ M ++ C).length = A.length + M.length + C.length := by simp only [List.length_append]
  dsimp only at hh
  rw [hl] at hh
  subst ht hbt
  have e1 : ((A.length + M.length : Nat) : Int) - (A.length : Int) = (M.length : Int) := by omega
  simp only [scrollR, hck, ne_eq, not_true_eq_false, if_false, e1, Int.toNat_natCast, clamp_up hm]
  rw [if_neg (by omega)]
  have d1 : List.drop A.length (A ++ M ++ C) = M ++ C := by rw [List.append_assoc, List.drop_left]
  have d2 : List.drop (A.length + M.length) (A ++ M ++ C) = C := by rw [← List.drop_drop, d1, List.drop_left]
  have d3 : List.drop (A.length + m) (A ++ M ++ C) = M.drop m ++ C := by rw [← List.drop_drop, d1, List.drop_append_of_le_length hm]
  have d4 : List.take A.length (A ++ M ++ C) = A := by rw [List.append_assoc, List.take_left]
  simp only [scrollMv, scrollOut, if_pos (show (0 : Int) ≤ (m : Int) by omega), Int.toNat_natCast, d1, d2, d3, d4]
  rw [List.take_append_of_le_length (by simp), List.take_of_length_le (by simp), List.take_append_of_le_length hm]
theorem scrollR_down {w h b : Int} {A M C : List (List Ce)} {m t bt : Nat} (hck : gridCk ⟨w, h, A ++ M ++ C⟩ = 0) (ht : t = A.length) (hbt : bt = A.length + M.length) (hM : 1 ≤ M.length) (hm : m ≤ M.length) (hm1 : 1 ≤ m) :
    scrollR ⟨w, h, A ++ M ++ C⟩ t bt (-(m : Int)) b = (⟨w, h, A ++ (List.replicate m (blankRow w b) ++ M.take (M.length - m)) ++ C⟩, [], 0) := by
  have hh := (gridCk_h hck).1
  have hl : (A ++ M ++ C).length = A.length + M.length + C.length := by simp only [List.length_append]
  dsimp only at hh
  rw [hl] at hh
  subst ht hbt
  have e1 : ((A.length + M.length : Nat) : Int) - (A.length : Int) = (M.length : Int) := by omega
  simp only [scrollR, hck, ne_eq, not_true_eq_false, if_false, e1, Int.toNat_natCast, clamp_down hm]
  rw [if_neg (by omega)]
  have d1 : List.drop A.length (A ++ M ++ C) = M ++ C := by rw [List.append_assoc, List.drop_left]
  have d2 : List.drop (A.length + M.length) (A ++ M ++ C) = C := by rw [← List.drop_drop, d1, List.drop_left]
  have d4 : List.take A.length (A ++ M ++ C) = A := by rw [List.append_assoc, List.take_left]
  simp only [scrollMv, scrollOut, if_neg (show ¬ (0 : Int) ≤ -(m : Int) by omega), Int.neg_neg, Int.toNat_natCast, d1, d2, d4]
  rw [List.take_append_of_le_length (by omega)]

/-- A grid's rows cut in three. -/
theorem cut3 {l : List (List Ce)} {t bt : Nat} (h1 : t ≤ bt) (h2 : bt ≤ l.length) : ∃ A M C, l = A ++ M ++ C ∧ A.length = t ∧ M.length = bt - t ∧ l.take t = A ∧ l.drop bt = C := by
  refine ⟨l.take t, (l.drop t).take (bt - t), l.drop bt, ?_, by simp; omega, by simp; omega, rfl, rfl⟩
  rw [List.append_assoc]
  have : l.drop bt = (l.drop t).drop (bt - t) := by rw [List.drop_drop]; congr 1; omega
  rw [this, List.take_append_drop, List.take_append_drop]

theorem gridCk_mid {w h b : Int} {A M M' C : List (List Ce)} (hck : gridCk ⟨w, h, A ++ M ++ C⟩ = 0) (hl : M'.length = M.length) (hM : ∀ r ∈ M', r ∈ M ∨ r = blankRow w b) : gridCk ⟨w, h, A ++ M' ++ C⟩ = 0 := by
  have h1 := gridCk_h hck
  have h2 := gridCk_rows hck
  have h3 := gridCk_sz hck
  dsimp only at h1 h2 h3
  refine gridCk_of h3 (by have := h1.1; simp only [List.length_append] at this ⊢; omega) fun r hr => ?_
  simp only [List.mem_append] at hr h2
  rcases hr with (hr | hr) | hr
  · exact h2 r (.inl (.inl hr))
  · rcases hM r hr with hr | rfl
    · exact h2 r (.inl (.inr hr))
    · exact blankRow_ck h1.2.2.1 h1.2.2.2
  · exact h2 r (.inr hr)
theorem small_mid {w h b : Int} {A M M' C : List (List Ce)} (hs : Gd.small ⟨w, h, A ++ M ++ C⟩) (hM : ∀ r ∈ M', r ∈ M ∨ r = blankRow w b) : Gd.small ⟨w, h, A ++ M' ++ C⟩ := by
  intro r hr
  simp only [List.mem_append] at hr
  have hs : ∀ r, (r ∈ A ∨ r ∈ M) ∨ r ∈ C → r.length ≤ 1000 ∧ ∀ c ∈ r, c.text.size ≤ 1000 := fun r hr => hs r (by simpa only [List.mem_append] using hr)
  rcases hr with (hr | hr) | hr
  · exact hs r (.inl (.inl hr))
  · rcases hM r hr with hr | rfl
    · exact hs r (.inl (.inr hr))
    · exact ⟨by have := blankRow_len (w := w) (b := b); omega, blankRow_small⟩
  · exact hs r (.inr hr)
theorem up_mem {M : List (List Ce)} {m : Nat} {bl : List Ce} : ∀ r ∈ M.drop m ++ List.replicate m bl, r ∈ M ∨ r = bl := fun r hr => by
  rcases List.mem_append.1 hr with hr | hr
  · exact .inl (List.mem_of_mem_drop hr)
  · exact .inr (List.eq_of_mem_replicate hr)

theorem steps_plain {g : Gd} (hck : gridCk g = 0) {t bt m k : Nat} (ht : t < bt) (hb : bt ≤ g.rows.length) (hm : m ≤ bt - t) (hk : k ≤ bt - t - m) (b : Int) (hs : g.small) :
    ∃ x z l1 l2, scrollR g t bt m b = (x, l1, 0) ∧ scrollR x t bt k b = (z, l2, 0) ∧ scrollR g t bt ((m + k : Nat) : Int) b = (z, l1 ++ l2, 0) ∧ z.rows.length = g.rows.length ∧ z.rows.take t = g.rows.take t ∧ z.rows.drop bt = g.rows.drop bt ∧ x.small ∧
      l1.length ≤ 60 ∧ l2.length ≤ 60 := by
  obtain ⟨w, h, rows⟩ := g
  have hgl := (gridCk_h hck).2.1
  dsimp only at hb hgl
  obtain ⟨A, M, C, rfl, hA, hM, htk, hdr⟩ := cut3 (Nat.le_of_lt ht) hb
  have hl : (A ++ M ++ C).length = A.length + M.length + C.length := by simp only [List.length_append]
  have h1 := scrollR_up (b := b) (m := m) (t := t) (bt := bt) hck hA.symm (by omega) (by omega) (by omega)
  have hl1 : (M.drop m ++ List.replicate m (blankRow w b)).length = M.length := by simp; omega
  have hck1 := gridCk_mid hck hl1 up_mem
  have h2 := scrollR_up (b := b) (m := k) (t := t) (bt := bt) hck1 hA.symm (by rw [hl1]; omega) (by omega) (by omega)
  have h3 := scrollR_up (b := b) (m := m + k) (t := t) (bt := bt) hck hA.symm (by omega) (by omega) (by omega)
  have e1 : (M.drop m ++ List.replicate m (blankRow w b)).drop k ++ List.replicate k (blankRow w b) = M.drop (m + k) ++ List.replicate (m + k) (blankRow w b) := by
    rw [List.drop_append_of_le_length (by simp; omega), List.drop_drop, List.append_assoc, List.replicate_append_replicate]
  have e2 : (M.drop m ++ List.replicate m (blankRow w b)).take k = (M.drop m).take k := by rw [List.take_append_of_le_length (by simp; omega)]
  have e3 : M.take m ++ (M.drop m).take k = M.take (m + k) := by rw [List.take_add]
  rw [e1, e2] at h2
  rw [← e3] at h3
  have hml : (M.drop (m + k) ++ List.replicate (m + k) (blankRow w b)).length = M.length := by simp; omega
  refine ⟨_, _, _, _, h1, h2, h3, by simp only [List.length_append]; simp only [List.length_append] at hml; omega, ?_, ?_, small_mid hs up_mem, by simp; omega, by simp; omega⟩
  · dsimp only
    rw [htk, List.append_assoc, List.take_left' hA]
  · dsimp only
    rw [hdr, List.drop_left' (by rw [List.length_append, hml]; omega)]

end Go.Proofs.YthpbagpnnokalaaDoor.Nx

namespace Go.Proofs.YthpbagpnnokalaaDoor.Nx
set_option linter.unusedSimpArgs false
set_option linter.unusedVariables false
set_option linter.unnecessarySimpa false
open Go

variable {P : Program} {N : Nat} {Γ : Tabs}

abbrev RightOk (Γ : Tabs) (P : Program) (f : FuncId) : Prop := ∀ g : Gd, FnP Γ P f [gdA g] (.int (if rightG g then 1 else 0))
theorem rightG_ok {g : Gd} (h : rightG g = true) : gridCk g = 0 ∧ g.small ∧ g.rows.length ≤ 10 := by
  simp only [rightG, Bool.not_eq_true', Bool.or_eq_false_iff, decide_eq_false_iff_not, Decidable.not_not] at h
  have := great10_small h.1
  exact ⟨h.2, this.2, this.1⟩
abbrev PartOk (Γ : Tabs) (P : Program) (f : FuncId) : Prop := ∀ (g : Gd) (u v : Nat), u ≤ 255 → v ≤ 255 → ∀ n : Nat, g.h = n → 1 ≤ n → n ≤ 60 →
    FnP Γ P f [gdA g, .d (.sc (.int .u8 u)), .d (.sc (.int .u8 v))] (.tup [.int (u % n : Nat), .int (u % n + 1 + v % (n - u % n) : Nat)])

set_option maxHeartbeats 2000000 in
theorem gridStepsLaw_fn {f fg fa fp fs fe fl : FuncId} (H : FnIs P f N [.t 12] (x_law08_GridScrollSteps fg fa fp fs fe fl)) (hN : 6 ≤ N) (Hg : RightOk Γ P fg) (Ha : FnP Γ P fa [] (.bool true)) (Hp : PartOk Γ P fp) (Hs : ScrollOk Γ P fs) (He : SameGOk Γ P fe) (Hl : SameLOk Γ P fl)
    (g : Gd) (u v p q : Nat) (hu : u ≤ 255) (hv : v ≤ 255) (hp : p ≤ 255) (hq : q ≤ 255) (a b c : Int) :
    FnP Γ P f [gdA g, .d (.sc (.int .u8 u)), .d (.sc (.int .u8 v)), .d (.sc (.int .u8 p)), .d (.sc (.int .u8 q)), atA a b c] (.bool true) := by
  refine .of_W H (by simpa using hN) ?_
  have hG := Hg g
  unfold x_law08_GridScrollSteps
  refine W_seq (W_reg ?_)
  simp only [gdA, gdR, atA, xs, xl, argS, reduceIte, Nat.reduceEqDiff, Nat.reduceAdd, Nat.reduceLT, Nat.reduceLeDiff, A.okCells, A.cells, A.one, splice]
  cases hg : rightG g
  all_goals simp only [hg, Bool.false_eq_true, if_true, if_false, gdA, gdR] at hG
  · refine W_seq (W_seq (W_reg ?_))
    simp only [xs, xl, argS, reduceIte, Nat.reduceEqDiff, Nat.reduceAdd, Nat.reduceLT, Nat.reduceLeDiff, A.okCells, A.cells, A.one, splice]
    refine c_fn hG (by simp [A.underL, A.under]) ?_
    simp only [xs, xl, argS, reduceIte, Nat.reduceEqDiff, Nat.reduceAdd, Nat.reduceLT, Nat.reduceLeDiff, A.okCells, A.cells, A.one, splice]
    refine W_cond rfl (fun _ => ?_) (fun hc => by simp at hc)
    refine W_seq (W_reg ?_)
    simp only [xs, xl, argS, reduceIte, Nat.reduceEqDiff, Nat.reduceAdd, Nat.reduceLT, Nat.reduceLeDiff, A.okCells, A.cells, A.one, splice]
    refine c_fn Ha rfl ?_
    simp only [xs, xl, argS, reduceIte, Nat.reduceEqDiff, Nat.reduceAdd, Nat.reduceLT, Nat.reduceLeDiff, A.okCells, A.cells, A.one, splice]
    refine W_ret (.tmp ?_ rfl)
    simp only [x_upd, reduceIte]
  obtain ⟨hck, hsm, hl10⟩ := rightG_ok hg
  obtain ⟨n, hn⟩ : ∃ n, n = g.rows.length := ⟨_, rfl⟩
  have hgh := (gridCk_h hck).1
  have hn1 := gridCk_pos hck
  rw [← hn] at hgh hn1 hl10
  have hP := Hp g u v hu hv n hgh hn1 (by omega)
  have hl1 := Nat.mod_lt u (show 0 < n by omega)
  have hl2 := Nat.mod_lt v (show 0 < n - u % n by omega)
  obtain ⟨t, ht⟩ : ∃ t, t = u % n := ⟨_, rfl⟩
  rw [← ht] at hl1 hl2 hP
  obtain ⟨bt, hbt⟩ : ∃ bt, bt = t + 1 + v % (n - t) := ⟨_, rfl⟩
  rw [← hbt] at hP
  have htb : t < bt := by omega
  have hbn : bt ≤ n := by omega
  have hm1 := Nat.mod_lt p (show 0 < bt - t + 1 by omega)
  obtain ⟨m, hm⟩ : ∃ m, m = p % (bt - t + 1) := ⟨_, rfl⟩
  rw [← hm] at hm1
  have hk1 := Nat.mod_lt q (show 0 < bt - t - m + 1 by omega)
  obtain ⟨k, hk⟩ : ∃ k, k = q % (bt - t - m + 1) := ⟨_, rfl⟩
  rw [← hk] at hk1
  obtain ⟨x, z, l1, l2, r1, r2, r3, q1, q2, q3, hxs, hll1, hll2⟩ := steps_plain hck htb (by omega) (by omega : m ≤ bt - t) (by omega : k ≤ bt - t - m) b hsm
  have S1 := Hs g hsm t bt m a b c
  have S2 := Hs x hxs t bt k a b c
  have S3 := Hs g hsm t bt (m + k : Nat) a b c
  rw [r1] at S1
  rw [r2] at S2
  rw [r3] at S3
  have E1 := He z z
  have E2 := Hl (l1 ++ l2) (l1 ++ l2)
  have E3 := Hl (g.rows.take t) (g.rows.take t)
  have E4 := Hl (g.rows.drop bt) (g.rows.drop bt)
  rw [decide_eq_true rfl] at E1 E2 E3 E4
  simp only [gdA, gdR, scrollA, atA, hgh] at S1 S2 S3 E1 hP hG
  simp only [hgh]
  refine W_seq (W_seq (W_reg ?_))
  simp only [xs, xl, argS, reduceIte, Nat.reduceEqDiff, Nat.reduceAdd, Nat.reduceLT, Nat.reduceLeDiff, A.okCells, A.cells, A.one, splice]
  refine c_fn hG (by simp [A.underL, A.under]) ?_
  simp only [xs, xl, argS, reduceIte, Nat.reduceEqDiff, Nat.reduceAdd, Nat.reduceLT, Nat.reduceLeDiff, A.okCells, A.cells, A.one, splice]
  refine W_cond rfl (fun hc => by simp at hc) (fun _ => W_skip ?_)
  simp only [xs, xl, argS, reduceIte, Nat.reduceEqDiff, Nat.reduceAdd, Nat.reduceLT, Nat.reduceLeDiff, A.okCells, A.cells, A.one, splice]
  refine W_seq (W_reg ?_)
  simp only [xs, xl, argS, reduceIte, Nat.reduceEqDiff, Nat.reduceAdd, Nat.reduceLT, Nat.reduceLeDiff, A.okCells, A.cells, A.one, splice]
  refine c_fn hP (by simp [A.underL, A.under]) ?_
  simp only [xs, xl, argS, reduceIte, Nat.reduceEqDiff, Nat.reduceAdd, Nat.reduceLT, Nat.reduceLeDiff, A.okCells, A.cells, A.one, splice]
  have w1 : IntKind.i64.wrap (p : Int) = p := i64_of (by omega)
  have w2 : IntKind.i64.wrap (q : Int) = q := i64_of (by omega)
  have w3 : IntKind.i64.wrap ((bt : Int) - (t : Int)) = ((bt - t : Nat) : Int) := by rw [i64_of (by omega)]; omega
  have w4 : IntKind.i64.wrap (((bt - t : Nat) : Int) + 1) = ((bt - t + 1 : Nat) : Int) := i64_of (by omega)
  have w5 : IntKind.i64.wrap (((bt - t : Nat) : Int) - (m : Int)) = ((bt - t - m : Nat) : Int) := by rw [i64_of (by omega)]; omega
  have w6 : IntKind.i64.wrap (((bt - t - m : Nat) : Int) + 1) = ((bt - t - m + 1 : Nat) : Int) := i64_of (by omega)
  have w7 : IntKind.i64.wrap ((m : Int) + (k : Int)) = ((m + k : Nat) : Int) := i64_of (by omega)
  refine W_seq (W_reg ?_)
  simp only [xs, xl, argS, reduceIte, Nat.reduceEqDiff, Nat.reduceAdd, Nat.reduceLT, Nat.reduceLeDiff, A.okCells, A.cells, A.one, splice, w1, w3, w4, b_rem (k := .i64) (show ((bt - t + 1 : Nat) : Int) ≠ 0 by omega), tmod_nat, ← hm]
  refine W_seq (W_reg ?_)
  simp only [xs, xl, argS, reduceIte, Nat.reduceEqDiff, Nat.reduceAdd, Nat.reduceLT, Nat.reduceLeDiff, A.okCells, A.cells, A.one, splice, w2, w3, w5, w6, b_rem (k := .i64) (show ((bt - t - m + 1 : Nat) : Int) ≠ 0 by omega), tmod_nat, ← hk]
  refine W_seq (W_reg ?_)
  simp only [xs, xl, argS, reduceIte, Nat.reduceEqDiff, Nat.reduceAdd, Nat.reduceLT, Nat.reduceLeDiff, A.okCells, A.cells, A.one, splice]
  refine c_fn S1 (by simp [A.underL, A.under]) ?_
  simp only [xs, xl, argS, reduceIte, Nat.reduceEqDiff, Nat.reduceAdd, Nat.reduceLT, Nat.reduceLeDiff, A.okCells, A.cells, A.one, splice]
  refine W_seq (W_reg ?_)
  simp only [xs, xl, argS, reduceIte, Nat.reduceEqDiff, Nat.reduceAdd, Nat.reduceLT, Nat.reduceLeDiff, A.okCells, A.cells, A.one, splice]
  refine c_fn S2 (by simp [A.underL, A.under]) ?_
  simp only [xs, xl, argS, reduceIte, Nat.reduceEqDiff, Nat.reduceAdd, Nat.reduceLT, Nat.reduceLeDiff, A.okCells, A.cells, A.one, splice]
  refine W_seq (W_reg ?_)
  simp only [xs, xl, argS, reduceIte, Nat.reduceEqDiff, Nat.reduceAdd, Nat.reduceLT, Nat.reduceLeDiff, A.okCells, A.cells, A.one, splice, w7]
  refine c_fn S3 (by simp [A.underL, A.under]) ?_
  simp only [xs, xl, argS, reduceIte, Nat.reduceEqDiff, Nat.reduceAdd, Nat.reduceLT, Nat.reduceLeDiff, A.okCells, A.cells, A.one, splice]
  let S : St := ⟨look [(6, .ptr 0 1 0 0), (13, .int t), (14, .int bt), (18, .d (.sl eRw (crRows l1))), (19, .int 0), (20, .ptr 3 1 0 0), (21, .d (.sl eRw (crRows l2))), (22, .int 0), (23, .ptr 4 1 0 0), (24, .d (.sl eRw (crRows (l1 ++ l2)))), (25, .int 0)],
    [.cells eGd [[.int g.w, .int n, .d (.sl eRw (crRows g.rows))]], atB a b c, gB x, gB z, gB z]⟩
  refine W_co (s' := S) (Co.keep _ (by simp [x_upd, x_look])) ?_
  have hcs : ((crRows l1).map fun r => r.map A.d) ++ ((crRows l2).map fun r => r.map A.d) = (crRows (l1 ++ l2)).map fun r => r.map A.d := by simp [crRows]
  let S2 : St := ⟨look [(6, .ptr 0 1 0 0), (13, .int t), (14, .int bt), (23, .ptr 4 1 0 0), (101, .bool false), (106, .d (.sl eRw (crRows (l1 ++ l2)))), (107, .d (.sl eRw (crRows (l1 ++ l2))))],
    [.cells eGd [[.int g.w, .int n, .d (.sl eRw (crRows g.rows))]], atB a b c, gB x, gB z, gB z]⟩
  refine W_seq (W_sregC fun K hK => ?_)
  refine runC_cut 23 (· = S2) rfl (by intro h; cases h) (fun K1 hK1 => ?_) ?_
  · simp only [S, gdR, xs, xl, argS, reduceIte, Nat.reduceEqDiff, Nat.reduceAdd, Nat.reduceLT, Nat.reduceLeDiff, A.okCells, A.cells, A.one, splice, decide_true, Bool.not_true]
    refine c_fn E1 rfl ?_
    simp only [xs, xl, argS, reduceIte, Nat.reduceEqDiff, Nat.reduceAdd, Nat.reduceLT, Nat.reduceLeDiff, A.okCells, A.cells, A.one, splice, Bool.not_true, crRows_len, Nat.reduceMul, List.map_nil, List.nil_append, hcs]
    refine ⟨by simp only [room]; omega, by simp only [maxLen]; omega, by simp only [room]; omega, by simp only [maxLen]; omega, ?_⟩
    refine hK1 _ _ (Co.frz _ 5 ?_ (Nat.zero_le _) (by simp) ?_) rfl
    · intro p hp
      simp only [List.mem_cons, List.not_mem_nil, or_false] at hp
      rcases hp with rfl | rfl | rfl | rfl | rfl | rfl | rfl
      · exact .same rfl
      · exact .same rfl
      · exact .same rfl
      · exact .same rfl
      · exact .same rfl
      · dsimp only
        simp only [x_upd, reduceIte, Nat.reduceEqDiff]
        have hlen : (crRows (l1 ++ l2)).length = l1.length + l2.length := by rw [crRows_len, List.length_append]
        have := fun h0 h1 h2 h3 h4 => frz_rows (k := 5) (id := 5) (off := 0) (len := l1.length + l2.length) (full := true) (e := eRw) (rows := crRows (l1 ++ l2)) (h := [h0, h1, h2, h3, h4, crBk (l1 ++ l2)]) (Nat.le_refl _) rfl (by omega)
        rw [hlen, List.drop_zero, List.take_of_length_le (by omega)] at this
        exact this _ _ _ _ _
      · exact .same rfl
    · intro B hB
      simp only [List.take_succ_cons, List.take_zero, List.mem_cons, List.not_mem_nil, or_false] at hB
      rcases hB with rfl | rfl | rfl | rfl | rfl
      · exact under_gB (g := ⟨g.w, n, g.rows⟩)
      · exact under_atB
      · exact under_gB
      · exact under_gB
      · exact under_gB
  rintro _ rfl
  refine runC_end rfl ?_
  simp only [S2, gdR, xs, xl, argS, reduceIte, Nat.reduceEqDiff, Nat.reduceAdd, Nat.reduceLT, Nat.reduceLeDiff, A.okCells, A.cells, A.one, splice]
  refine c_fn E2 rfl ?_
  simp only [xs, xl, argS, reduceIte, Nat.reduceEqDiff, Nat.reduceAdd, Nat.reduceLT, Nat.reduceLeDiff, A.okCells, A.cells, A.one, splice, Bool.not_true]
  refine hK _ ?_
  refine W_cond rfl (fun hc => by simp at hc) (fun _ => W_skip ?_)
  simp only [xs, xl, argS, reduceIte, Nat.reduceEqDiff, Nat.reduceAdd, Nat.reduceLT, Nat.reduceLeDiff, A.okCells, A.cells, A.one, splice]
  have z1 : decide (((z.rows.length : Nat) : Int) = (n : Int)) = true := by rw [q1, hn]; exact decide_eq_true rfl
  have e5 : ((t : Int) - ((0 : Nat) : Int)).toNat = t := by omega
  have e6 : ((z.rows.length : Int) - (bt : Int)).toNat = n - bt := by omega
  have e7 : ((g.rows.length : Int) - (bt : Int)).toNat = n - bt := by omega
  have z2 : List.take t (crRows z.rows) = crRows (g.rows.take t) := by rw [crRows_take, q2]
  have z3 : List.take (n - bt) (List.drop bt (crRows z.rows)) = crRows (g.rows.drop bt) := by rw [crRows_drop, q3, crRows_take, List.take_of_length_le (by rw [List.length_drop]; omega)]
  have z4 : List.take (n - bt) (List.drop bt (crRows g.rows)) = crRows (g.rows.drop bt) := by rw [crRows_drop, crRows_take, List.take_of_length_le (by rw [List.length_drop]; omega)]
  refine W_sdrw (by simp) fun K hK => ?_
  refine run_take 7 fun K1 hK1 => ?_
  simp only [gdR, xs, xl, argS, reduceIte, Nat.reduceEqDiff, Nat.reduceAdd, Nat.reduceLT, Nat.reduceLeDiff, A.okCells, A.cells, A.one, splice, crRows_len, z1]
  refine hK1 _ ?_
  refine run_take 8 fun K2 hK2 => ?_
  simp only [gdR, xs, xl, argS, reduceIte, Nat.reduceEqDiff, Nat.reduceAdd, Nat.reduceLT, Nat.reduceLeDiff, A.okCells, A.cells, A.one, splice, crRows_len, Int.toNat_natCast, e5, z2, crRows_take]
  refine ⟨by omega, by omega, by omega, by omega, by omega, by omega, by omega, by omega, hK2 _ ?_⟩
  refine run_take 3 fun K3 hK3 => ?_
  simp only [xs, xl, argS, reduceIte, Nat.reduceEqDiff, Nat.reduceAdd, Nat.reduceLT, Nat.reduceLeDiff, A.okCells, A.cells, A.one, splice]
  refine c_fn E3 rfl ?_
  simp only [xs, xl, argS, reduceIte, Nat.reduceEqDiff, Nat.reduceAdd, Nat.reduceLT, Nat.reduceLeDiff, A.okCells, A.cells, A.one, splice]
  refine hK3 _ ?_
  refine run_take 8 fun K4 hK4 => ?_
  simp only [gdR, xs, xl, argS, reduceIte, Nat.reduceEqDiff, Nat.reduceAdd, Nat.reduceLT, Nat.reduceLeDiff, A.okCells, A.cells, A.one, splice, crRows_len, Int.toNat_natCast, e6, e7, z3, z4]
  refine ⟨by omega, by omega, by omega, by omega, by omega, by omega, by omega, by omega, hK4 _ ?_⟩
  simp only [xs, xl, argS, reduceIte, Nat.reduceEqDiff, Nat.reduceAdd, Nat.reduceLT, Nat.reduceLeDiff, A.okCells, A.cells, A.one, splice]
  refine c_fn E4 rfl ?_
  simp only [xs, xl, argS, reduceIte, Nat.reduceEqDiff, Nat.reduceAdd, Nat.reduceLT, Nat.reduceLeDiff, A.okCells, A.cells, A.one, splice]
  refine c_fn Ha rfl ?_
  simp only [xs, xl, argS, reduceIte, Nat.reduceEqDiff, Nat.reduceAdd, Nat.reduceLT, Nat.reduceLeDiff, A.okCells, A.cells, A.one, splice]
  refine hK _ (W_ret (.tmp ?_ rfl))
  simp only [x_upd, reduceIte]

end Go.Proofs.YthpbagpnnokalaaDoor.Nx


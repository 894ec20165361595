/- Layer 7: the laws Erases, Proper. -/
import Derived.Test.YtckglkbbdbmdkaaDoorNxK10
namespace Go.Proofs.YtckglkbbdbmdkaaDoor.Nx
set_option linter.unusedSimpArgs false
set_option linter.unusedVariables false
set_option linter.unnecessarySimpa false
open Go

variable {P : Program} {N : Nat} {Γ : Tabs}

/-- What Erase leaves of a proper row. -/
def eraN (l : List Ce) (f t : Nat) (b : Int) : List Ce := if f = t then l else eraL l f t b
theorem eraR_ok {l : List Ce} {f t : Nat} {b : Int} (h : checkR l = 0) (h1 : f ≤ t) (h2 : t ≤ l.length) : eraR l f t b = (eraN l f t b, 0) := by
  unfold eraR eraN
  rw [if_neg (fun k => k h), if_neg (by omega), if_neg (by omega)]
  by_cases k : f = t
  · rw [if_pos (by omega), if_pos k]
  · rw [if_neg (by omega), if_neg k, Int.toNat_natCast, Int.toNat_natCast]
theorem eraN_len {l : List Ce} {f t : Nat} {b : Int} (h1 : f ≤ t) (h2 : t ≤ l.length) : (eraN l f t b).length = l.length := by
  unfold eraN; split
  · rfl
  · exact eraL_len h1 h2
theorem eraN_ck {l : List Ce} {f t : Nat} {b : Int} (h : checkR l = 0) (h1 : f ≤ t) (h2 : t ≤ l.length) : checkR (eraN l f t b) = 0 := by
  obtain ⟨k1, k2, k3⟩ := ck_pos h
  have hl := eraN_len (b := b) h1 h2
  refine ck_of ?_ (by omega) (by omega)
  unfold eraN; split
  · exact k3
  · exact eraL_ck k3
theorem eraN_small {l : List Ce} {f t : Nat} {b : Int} (h : smallR l) : smallR (eraN l f t b) := by
  unfold eraN; split
  · exact h
  · exact eraL_small h
theorem eraN_two {l : List Ce} {f m t : Nat} {b : Int} (h1 : f ≤ m) (h2 : m ≤ t) (h3 : t ≤ l.length) : eraN (eraN l f m b) m t b = eraN l f t b := by
  unfold eraN
  by_cases k1 : f = m
  · subst k1; rw [if_pos rfl]
  · rw [if_neg k1]
    by_cases k2 : m = t
    · subst k2; rw [if_pos rfl, if_neg k1]
    · rw [if_neg k2, if_neg (by omega), eraL_two (by omega) (by omega) h3]
theorem eraN_all {l : List Ce} {b : Int} (h : checkR l = 0) : eraN l 0 l.length b = blankRow l.length b := by
  obtain ⟨k1, k2, k3⟩ := ck_pos h
  unfold eraN blankRow
  rw [if_neg (by omega), if_neg (by omega), eraL_all k1, Int.toNat_natCast]
/-- The cells outside of the range remain, but for halves of pairs. -/
theorem eraN_out {l : List Ce} {f t i : Nat} {b : Int} (h : okR l) (h1 : f ≤ t) (h2 : t ≤ l.length) (hi : i < l.length) (ho : i < f ∨ t ≤ i)
    (hf : f = t ∨ ¬ ((i + 1 = f ∧ l[i].width = 2) ∨ (i = t ∧ l[i].width = 0))) : (eraN l f t b)[i]? = some l[i] := by
  have hg : l[i]? = some l[i] := List.getElem?_eq_getElem hi
  unfold eraN
  by_cases k : f = t
  · rw [if_pos k]; exact hg
  · have hf : ¬ ((i + 1 = f ∧ l[i].width = 2) ∨ (i = t ∧ l[i].width = 0)) := hf.resolve_left k
    rw [if_neg k, eraL_get (by omega) h2, if_pos ho, if_neg, if_neg, hg]
    · rintro ⟨k1, k2⟩
      have k3 := k1.1
      have k4 : cutAt l (i + 1) := by rw [k2, Nat.sub_add_cancel k3]; exact k1
      exact hf (.inl ⟨by omega, (cutAt_iff h hg).1 k4⟩)
    · rintro ⟨k1, rfl⟩
      obtain ⟨d, hd, hw⟩ := cutAt_some k1
      rw [hg] at hd; cases hd
      exact hf (.inr ⟨rfl, hw⟩)

set_option maxHeartbeats 2000000 in
theorem cellErasesLaw_fn {f fg fk fa fe fs fb : FuncId} (H : FnIs P f N [.t 10] (x_law07_CellrowErases fg fk fa fe fs fb)) (hN : 5 ≤ N) (Hg : GreatCOk Γ P fg) (Hk : RowOk Γ P fk) (Ha : FnP Γ P fa [] (.bool true)) (He : ShiftOk eraR Γ P fe) (Hs : SameCOk Γ P fs) (Hb : BlankOk Γ P fb)
    (l : List Ce) (u v w a b c : Int) : FnP Γ P f [.d (.sl eCe (ceRows l)), .int u, .int v, .int w, atA a b c] (.bool true) := by
  refine .of_W H (by simpa using hN) ?_
  have hG := Hg l
  unfold x_law07_CellrowErases
  refine W_seq (W_reg ?_); simp only [xs, xl, argS, reduceIte, Nat.reduceEqDiff, Nat.reduceAdd, Nat.reduceLT, Nat.reduceLeDiff, A.okCells, A.cells, A.one, splice]
  refine W_seq ?_
  obtain ⟨B1, hB1⟩ : ∃ B, B = (greatC l) := ⟨_, rfl⟩
  obtain ⟨B2, hB2⟩ : ∃ B, B = (B1 || !decide (checkR l = 0)) := ⟨_, rfl⟩
  obtain ⟨B3, hB3⟩ : ∃ B, B = (B2 || decide (u < 0)) := ⟨_, rfl⟩
  obtain ⟨B4, hB4⟩ : ∃ B, B = (B3 || decide (v < u)) := ⟨_, rfl⟩
  obtain ⟨B5, hB5⟩ : ∃ B, B = (B4 || decide (w < v)) := ⟨_, rfl⟩
  obtain ⟨B6, hB6⟩ : ∃ B, B = (B5 || decide ((l.length : Int) < w)) := ⟨_, rfl⟩
  refine W_cutC (· = ⟨look [(0, .d (.sl eCe (ceRows l))), (1, .int u), (2, .int v), (3, .int w), (9, .ptr 0 1 0 0), (47, .bool B6)], [atB a b c]⟩) (fun K hK => ?_) ?_
  · refine runC_cut 3 (· = ⟨look [(0, .d (.sl eCe (ceRows l))), (1, .int u), (2, .int v), (3, .int w), (9, .ptr 0 1 0 0), (23, .bool B1)], [atB a b c]⟩) rfl (by intro h; cases h) (fun K1 hK1 => ?_) ?_
    · simp only [xs, xl, argS, reduceIte, Nat.reduceEqDiff, Nat.reduceAdd, Nat.reduceLT, Nat.reduceLeDiff, A.okCells, A.cells, A.one, splice]
      refine c_fn (hG) rfl ?_; simp only [xs, xl, argS, reduceIte, Nat.reduceEqDiff, Nat.reduceAdd, Nat.reduceLT, Nat.reduceLeDiff, A.okCells, A.cells, A.one, splice, xs, xl, argS, reduceIte, Nat.reduceEqDiff, Nat.reduceAdd, Nat.reduceLT, Nat.reduceLeDiff, A.okCells, A.cells, A.one, splice]
      exact hK1 _ _ (Co.keep _ (by simp [x_upd, x_look, hB1])) rfl
    rintro _ rfl
    refine runC_cut 5 (· = ⟨look [(0, .d (.sl eCe (ceRows l))), (1, .int u), (2, .int v), (3, .int w), (9, .ptr 0 1 0 0), (28, .bool B2)], [atB a b c]⟩) rfl (by intro h; cases h) (fun K1 hK1 => ?_) ?_
    · cases B1
      · have hF : (greatC l) = false := hB1.symm
        have e1 := hF
        simp only [xs, xl, argS, reduceIte, Nat.reduceEqDiff, Nat.reduceAdd, Nat.reduceLT, Nat.reduceLeDiff, A.okCells, A.cells, A.one, splice]
        refine c_fn (Hk l (greatC_s e1).2) rfl ?_; simp only [xs, xl, argS, reduceIte, Nat.reduceEqDiff, Nat.reduceAdd, Nat.reduceLT, Nat.reduceLeDiff, A.okCells, A.cells, A.one, splice, xs, xl, argS, reduceIte, Nat.reduceEqDiff, Nat.reduceAdd, Nat.reduceLT, Nat.reduceLeDiff, A.okCells, A.cells, A.one, splice]
        exact hK1 _ _ (Co.keep _ (by simp [x_upd, x_look, hB2])) rfl
      · simp only [xs, xl, argS, reduceIte, Nat.reduceEqDiff, Nat.reduceAdd, Nat.reduceLT, Nat.reduceLeDiff, A.okCells, A.cells, A.one, splice]
        exact hK1 _ _ (Co.keep _ (by simp [x_upd, x_look, hB2])) rfl
    rintro _ rfl
    refine runC_cut 4 (· = ⟨look [(0, .d (.sl eCe (ceRows l))), (1, .int u), (2, .int v), (3, .int w), (9, .ptr 0 1 0 0), (32, .bool B3)], [atB a b c]⟩) rfl (by intro h; cases h) (fun K1 hK1 => ?_) ?_
    · cases B2
      · have hF : (B1 || !decide (checkR l = 0)) = false := hB2.symm
        simp only [hB1, Bool.or_eq_false_iff] at hF
        obtain ⟨e1, e2⟩ := hF
        simp only [xs, xl, argS, reduceIte, Nat.reduceEqDiff, Nat.reduceAdd, Nat.reduceLT, Nat.reduceLeDiff, A.okCells, A.cells, A.one, splice]
        exact hK1 _ _ (Co.keep _ (by simp [x_upd, x_look, hB3])) rfl
      · simp only [xs, xl, argS, reduceIte, Nat.reduceEqDiff, Nat.reduceAdd, Nat.reduceLT, Nat.reduceLeDiff, A.okCells, A.cells, A.one, splice]
        exact hK1 _ _ (Co.keep _ (by simp [x_upd, x_look, hB3])) rfl
    rintro _ rfl
    refine runC_cut 5 (· = ⟨look [(0, .d (.sl eCe (ceRows l))), (1, .int u), (2, .int v), (3, .int w), (9, .ptr 0 1 0 0), (37, .bool B4)], [atB a b c]⟩) rfl (by intro h; cases h) (fun K1 hK1 => ?_) ?_
    · cases B3
      · have hF : (B2 || decide (u < 0)) = false := hB3.symm
        simp only [hB2, hB1, Bool.or_eq_false_iff] at hF
        obtain ⟨⟨e1, e2⟩, e3⟩ := hF
        simp only [xs, xl, argS, reduceIte, Nat.reduceEqDiff, Nat.reduceAdd, Nat.reduceLT, Nat.reduceLeDiff, A.okCells, A.cells, A.one, splice]
        exact hK1 _ _ (Co.keep _ (by simp [x_upd, x_look, hB4])) rfl
      · simp only [xs, xl, argS, reduceIte, Nat.reduceEqDiff, Nat.reduceAdd, Nat.reduceLT, Nat.reduceLeDiff, A.okCells, A.cells, A.one, splice]
        exact hK1 _ _ (Co.keep _ (by simp [x_upd, x_look, hB4])) rfl
    rintro _ rfl
    refine runC_cut 5 (· = ⟨look [(0, .d (.sl eCe (ceRows l))), (1, .int u), (2, .int v), (3, .int w), (9, .ptr 0 1 0 0), (42, .bool B5)], [atB a b c]⟩) rfl (by intro h; cases h) (fun K1 hK1 => ?_) ?_
    · cases B4
      · have hF : (B3 || decide (v < u)) = false := hB4.symm
        simp only [hB3, hB2, hB1, Bool.or_eq_false_iff] at hF
        obtain ⟨⟨⟨e1, e2⟩, e3⟩, e4⟩ := hF
        simp only [xs, xl, argS, reduceIte, Nat.reduceEqDiff, Nat.reduceAdd, Nat.reduceLT, Nat.reduceLeDiff, A.okCells, A.cells, A.one, splice]
        exact hK1 _ _ (Co.keep _ (by simp [x_upd, x_look, hB5])) rfl
      · simp only [xs, xl, argS, reduceIte, Nat.reduceEqDiff, Nat.reduceAdd, Nat.reduceLT, Nat.reduceLeDiff, A.okCells, A.cells, A.one, splice]
        exact hK1 _ _ (Co.keep _ (by simp [x_upd, x_look, hB5])) rfl
    rintro _ rfl
    refine runC_end rfl ?_
    cases B5
    · have hF : (B4 || decide (w < v)) = false := hB5.symm
      simp only [hB4, hB3, hB2, hB1, Bool.or_eq_false_iff] at hF
      obtain ⟨⟨⟨⟨e1, e2⟩, e3⟩, e4⟩, e5⟩ := hF
      simp only [xs, xl, argS, reduceIte, Nat.reduceEqDiff, Nat.reduceAdd, Nat.reduceLT, Nat.reduceLeDiff, A.okCells, A.cells, A.one, splice, ceRows_length]
      exact hK _ _ (Co.keep _ (by simp [x_upd, x_look, hB6])) rfl
    · simp only [xs, xl, argS, reduceIte, Nat.reduceEqDiff, Nat.reduceAdd, Nat.reduceLT, Nat.reduceLeDiff, A.okCells, A.cells, A.one, splice]
      exact hK _ _ (Co.keep _ (by simp [x_upd, x_look, hB6])) rfl
  rintro _ rfl
  refine W_cond rfl (fun hc => ?_) (fun hc => W_skip ?_)
  · refine W_seq (W_reg ?_); simp only [xs, xl, argS, reduceIte, Nat.reduceEqDiff, Nat.reduceAdd, Nat.reduceLT, Nat.reduceLeDiff, A.okCells, A.cells, A.one, splice]
    refine c_fn (Ha) rfl ?_; simp only [xs, xl, argS, reduceIte, Nat.reduceEqDiff, Nat.reduceAdd, Nat.reduceLT, Nat.reduceLeDiff, A.okCells, A.cells, A.one, splice]
    refine W_ret (.tmp ?_ rfl)
    simp only [x_upd, reduceIte]
  simp only [hB6, hB5, hB4, hB3, hB2, hB1, Bool.or_eq_false_iff] at hc
  clear hB1 hB2 hB3 hB4 hB5 hB6
  obtain ⟨⟨⟨⟨⟨e1, e2⟩, e3⟩, e4⟩, e5⟩, e6⟩ := hc
  simp only [xs, xl, argS, reduceIte, Nat.reduceEqDiff, Nat.reduceAdd, Nat.reduceLT, Nat.reduceLeDiff, A.okCells, A.cells, A.one, splice]
  have hg := e1
  have hk : checkR l = 0 := by simpa using e2
  have g1 := of_decide_eq_false e3
  have g2 := of_decide_eq_false e4
  have g3 := of_decide_eq_false e5
  have g4 := of_decide_eq_false e6
  obtain ⟨hl, hs⟩ := greatC_s hg
  obtain ⟨hl1, hl2, hrk⟩ := ck_pos hk
  obtain ⟨p, rfl⟩ : ∃ p : Nat, u = p := ⟨u.toNat, by omega⟩
  obtain ⟨m, rfl⟩ : ∃ m : Nat, v = m := ⟨v.toNat, by omega⟩
  obtain ⟨t, rfl⟩ : ∃ t : Nat, w = t := ⟨w.toNat, by omega⟩
  have E1 := He l hs p m a b c
  rw [eraR_ok hk (by omega) (by omega)] at E1
  have E2 := He (eraN l p m b) (eraN_small hs) m t a b c
  rw [eraR_ok (eraN_ck hk (by omega) (by omega)) (by omega) (by rw [eraN_len (by omega) (by omega)]; omega), eraN_two (by omega) (by omega) (by omega)] at E2
  have E3 := He l hs p t a b c
  rw [eraR_ok hk (by omega) (by omega)] at E3
  have E4 := He l hs ((0 : Nat) : Int) l.length a b c
  rw [eraR_ok hk (by omega) (by omega), eraN_all hk] at E4
  have S1 := Hs (eraN l p t b) (eraN l p t b)
  have S2 := Hs (blankRow l.length b) (blankRow l.length b)
  rw [decide_eq_true rfl] at S1 S2
  have hzl := eraN_len (l := l) (b := b) (show p ≤ t by omega) (by omega)
  have hz := fun i hi ho hf => eraN_out (b := b) (okR_ck hrk) (show p ≤ t by omega) (show t ≤ l.length by omega) (i := i) hi ho hf
  generalize eraN l p t b = z at E2 E3 S1 hzl hz
  generalize eraN l p m b = x at E1 E2
  simp only [ceE] at E1 E2 E3 E4
  refine W_seq (W_reg ?_); simp only [xs, xl, argS, reduceIte, Nat.reduceEqDiff, Nat.reduceAdd, Nat.reduceLT, Nat.reduceLeDiff, A.okCells, A.cells, A.one, splice]
  refine c_fn (E1) rfl ?_; simp only [xs, xl, argS, reduceIte, Nat.reduceEqDiff, Nat.reduceAdd, Nat.reduceLT, Nat.reduceLeDiff, A.okCells, A.cells, A.one, splice]
  refine W_seq ?_
  refine W_seq (W_reg ?_); simp only [xs, xl, argS, reduceIte, Nat.reduceEqDiff, Nat.reduceAdd, Nat.reduceLT, Nat.reduceLeDiff, A.okCells, A.cells, A.one, splice]
  refine W_cond rfl (fun hc => by simp at hc) (fun _ => W_skip ?_)
  simp only [xs, xl, argS, reduceIte, Nat.reduceEqDiff, Nat.reduceAdd, Nat.reduceLT, Nat.reduceLeDiff, A.okCells, A.cells, A.one, splice]
  refine W_seq (W_reg ?_); simp only [xs, xl, argS, reduceIte, Nat.reduceEqDiff, Nat.reduceAdd, Nat.reduceLT, Nat.reduceLeDiff, A.okCells, A.cells, A.one, splice]
  refine c_fn (E2) rfl ?_; simp only [xs, xl, argS, reduceIte, Nat.reduceEqDiff, Nat.reduceAdd, Nat.reduceLT, Nat.reduceLeDiff, A.okCells, A.cells, A.one, splice]
  refine W_seq (W_reg ?_); simp only [xs, xl, argS, reduceIte, Nat.reduceEqDiff, Nat.reduceAdd, Nat.reduceLT, Nat.reduceLeDiff, A.okCells, A.cells, A.one, splice]
  refine c_fn (E3) rfl ?_; simp only [xs, xl, argS, reduceIte, Nat.reduceEqDiff, Nat.reduceAdd, Nat.reduceLT, Nat.reduceLeDiff, A.okCells, A.cells, A.one, splice]
  refine W_seq (W_reg ?_); simp only [xs, xl, argS, reduceIte, Nat.reduceEqDiff, Nat.reduceAdd, Nat.reduceLT, Nat.reduceLeDiff, A.okCells, A.cells, A.one, splice, ceRows_length]
  refine c_fn (E4) rfl ?_; simp only [xs, xl, argS, reduceIte, Nat.reduceEqDiff, Nat.reduceAdd, Nat.reduceLT, Nat.reduceLeDiff, A.okCells, A.cells, A.one, splice]
  refine W_co (s' := ⟨look [(0, .d (.sl eCe (ceRows l))), (1, .int p), (3, .int t), (9, .ptr 0 1 0 0), (13, .d (.sl eCe (ceRows z))), (14, .int 0), (15, .d (.sl eCe (ceRows z))), (16, .int 0), (17, .d (.sl eCe (ceRows (blankRow l.length b)))), (18, .int 0)], [atB a b c]⟩) (Co.keep _ (by simp [x_upd, x_look])) ?_
  refine W_seq ?_
  refine W_sreg fun K hK => ?_
  refine run_take 17 fun K1 hK1 => ?_
  simp only [xs, xl, argS, reduceIte, Nat.reduceEqDiff, Nat.reduceAdd, Nat.reduceLT, Nat.reduceLeDiff, A.okCells, A.cells, A.one, splice, ceRows_length, hzl, decide_true]
  refine hK1 _ ?_
  simp only [xs, xl, argS, reduceIte, Nat.reduceEqDiff, Nat.reduceAdd, Nat.reduceLT, Nat.reduceLeDiff, A.okCells, A.cells, A.one, splice]
  refine c_fn (S1) rfl ?_; simp only [xs, xl, argS, reduceIte, Nat.reduceEqDiff, Nat.reduceAdd, Nat.reduceLT, Nat.reduceLeDiff, A.okCells, A.cells, A.one, splice, ceRows_length]
  refine c_fn (Hb l.length a b c) rfl ?_; simp only [xs, xl, argS, reduceIte, Nat.reduceEqDiff, Nat.reduceAdd, Nat.reduceLT, Nat.reduceLeDiff, A.okCells, A.cells, A.one, splice, ceRows_length]
  refine c_fn (S2) rfl ?_; simp only [xs, xl, argS, reduceIte, Nat.reduceEqDiff, Nat.reduceAdd, Nat.reduceLT, Nat.reduceLeDiff, A.okCells, A.cells, A.one, splice, ceRows_length]
  refine hK _ ?_
  refine W_cond rfl (fun hc => by simp at hc) (fun _ => W_skip ?_)
  simp only [xs, xl, argS, reduceIte, Nat.reduceEqDiff, Nat.reduceAdd, Nat.reduceLT, Nat.reduceLeDiff, A.okCells, A.cells, A.one, splice]
  let S : Nat → St := fun i => ⟨look [(0, .d (.sl eCe (ceRows l))), (1, .int p), (3, .int t), (15, .d (.sl eCe (ceRows z))), (19, .int i)], [atB a b c]⟩
  refine W_cut (· = S l.length) ?_ ?_
  · refine W_seq (W_reg ?_); simp only [xs, xl, argS, reduceIte, Nat.reduceEqDiff, Nat.reduceAdd, Nat.reduceLT, Nat.reduceLeDiff, A.okCells, A.cells, A.one, splice]
    refine W_block ?_
    refine W_co (s' := S 0) (Co.keep _ (by simp [x_upd, x_look])) ?_
    refine W_loop (fun q s => ∃ i, i ≤ l.length ∧ q = l.length - i ∧ s = S i) ⟨0, Nat.zero_le _, rfl, rfl⟩ ?_
    rintro q s' ⟨i, hi, rfl, rfl⟩
    simp only [S]
    refine W_seq ?_
    refine W_seq (W_reg ?_); simp only [xs, xl, argS, reduceIte, Nat.reduceEqDiff, Nat.reduceAdd, Nat.reduceLT, Nat.reduceLeDiff, A.okCells, A.cells, A.one, splice, ceRows_length]
    refine W_cond rfl (fun hc => W_skip ?_) (fun hc => W_exit ?_)
    · have hlt : i < l.length := by simp only [decide_eq_true_eq] at hc; omega
      have hltz : i < z.length := by omega
      have w5 : IntKind.i64.wrap ((i : Int) + 1) = ((i + 1 : Nat) : Int) := by rw [i64_of (by omega)]; omega
      have w6 : IntKind.i64.wrap ((p : Int) - 1) = (p : Int) - 1 := i64_of (by omega)
      obtain ⟨hf, hfe⟩ : ∃ hf : Bool, hf = decide ((i + 1 = p ∧ l[i].width = 2) ∨ (i = t ∧ l[i].width = 0)) := ⟨_, rfl⟩
      let V : St := ⟨look [(0, .d (.sl eCe (ceRows l))), (1, .int p), (3, .int t), (15, .d (.sl eCe (ceRows z))), (19, .int i), (20, .bool hf)], [atB a b c]⟩
      simp only [xs, xl, argS, reduceIte, Nat.reduceEqDiff, Nat.reduceAdd, Nat.reduceLT, Nat.reduceLeDiff, A.okCells, A.cells, A.one, splice]
      refine W_seq (W_block ?_)
      refine W_cutX (· = V) rfl (fun K hK => ?_) ?_
      · cases d1 : decide ((i : Int) = (p : Int) - 1)
        · have d1' : ¬ i + 1 = p := by simp only [decide_eq_false_iff_not] at d1; omega
          cases d3 : decide ((i : Int) = (t : Int))
          · have d3' : ¬ i = t := by simp only [decide_eq_false_iff_not] at d3; omega
            simp only [xs, xl, argS, reduceIte, Nat.reduceEqDiff, Nat.reduceAdd, Nat.reduceLT, Nat.reduceLeDiff, A.okCells, A.cells, A.one, splice, undefA, Bool.true_eq_false, w6, d1, d3]
            exact hK _ _ (Co.keep _ (by simp [x_upd, x_look, hfe, d1', d3'])) rfl
          · have d3' : i = t := by simp only [decide_eq_true_eq] at d3; omega
            simp only [xs, xl, argS, reduceIte, Nat.reduceEqDiff, Nat.reduceAdd, Nat.reduceLT, Nat.reduceLeDiff, A.okCells, A.cells, A.one, splice, undefA, Bool.true_eq_false, w6, d1, d3, ceRows_length, ceRows_get hlt, Ce.row, Int.toNat_natCast]
            repeat refine And.intro (by omega) ?_
            have d1'' : ¬ t + 1 = p := by omega
            exact hK _ _ (Co.keep _ (by simp [x_upd, x_look, hfe, d1'', d3'])) rfl
        · have d1' : i + 1 = p := by simp only [decide_eq_true_eq] at d1; omega
          have d3 : decide ((i : Int) = (t : Int)) = false := by simp only [decide_eq_false_iff_not]; omega
          have d3' : ¬ i = t := by omega
          cases d2 : decide (l[i].width = 2)
          · have d2' : ¬ l[i].width = 2 := of_decide_eq_false d2
            simp only [xs, xl, argS, reduceIte, Nat.reduceEqDiff, Nat.reduceAdd, Nat.reduceLT, Nat.reduceLeDiff, A.okCells, A.cells, A.one, splice, undefA, Bool.true_eq_false, w6, d1, d3, ceRows_length, ceRows_get hlt, Ce.row, Int.toNat_natCast, d2]
            repeat refine And.intro (by omega) ?_
            exact hK _ _ (Co.keep _ (by simp [x_upd, x_look, hfe, d2', d3'])) rfl
          · have d2' : l[i].width = 2 := of_decide_eq_true d2
            simp only [xs, xl, argS, reduceIte, Nat.reduceEqDiff, Nat.reduceAdd, Nat.reduceLT, Nat.reduceLeDiff, A.okCells, A.cells, A.one, splice, undefA, Bool.true_eq_false, w6, d1, ceRows_length, ceRows_get hlt, Ce.row, Int.toNat_natCast, d2]
            repeat refine And.intro (by omega) ?_
            exact hK _ _ (Co.keep _ (by simp [x_upd, x_look, hfe, d1', d2'])) rfl
      rintro _ rfl
      let V2 : St := ⟨look [(0, .d (.sl eCe (ceRows l))), (1, .int p), (3, .int t), (15, .d (.sl eCe (ceRows z))), (19, .int i), (173, .bool false)], [atB a b c]⟩
      have he := ce_eq z[i] l[i]
      refine W_cut (· = V2) (W_drw (by simp) ?_) ?_
      · have same : (i < p ∨ t ≤ i) → (p = t ∨ hf = false) → decide (z[i] = l[i]) = true := fun k1 k2 => by
          have := hz i hlt k1 (k2.imp_right fun k => of_decide_eq_false (hfe.symm.trans k))
          rw [List.getElem?_eq_getElem hltz] at this
          exact decide_eq_true (Option.some.inj this)
        cases d1 : decide ((i : Int) < (p : Int))
        · cases d2 : decide ((t : Int) ≤ (i : Int))
          · refine run_take 18 fun K1 hK1 => ?_
            simp only [V, xs, xl, argS, reduceIte, Nat.reduceEqDiff, Nat.reduceAdd, Nat.reduceLT, Nat.reduceLeDiff, A.okCells, A.cells, A.one, splice, undefA, Bool.true_eq_false, d1, d2]
            refine hK1 _ ?_
            simp only [xs, xl, argS, reduceIte, Nat.reduceEqDiff, Nat.reduceAdd, Nat.reduceLT, Nat.reduceLeDiff, A.okCells, A.cells, A.one, splice, undefA, Bool.true_eq_false, d1, d2]
            first | exact ⟨_, Co.keep _ (by simp [x_upd, x_look]), rfl⟩ | (simp only [V2]; exact Co.keep _ (by simp [x_upd, x_look])) | exact ⟨rfl, _, Co.keep _ (by simp [x_upd, x_look]), rfl⟩
          · have d2' : t ≤ i := by simp only [decide_eq_true_eq] at d2; omega
            cases d3 : decide ((p : Int) = (t : Int))
            · have d3' : ¬ p = t := by simp only [decide_eq_false_iff_not] at d3; omega
              cases hf
              · refine run_take 18 fun K1 hK1 => ?_
                simp only [V, xs, xl, argS, reduceIte, Nat.reduceEqDiff, Nat.reduceAdd, Nat.reduceLT, Nat.reduceLeDiff, A.okCells, A.cells, A.one, splice, undefA, Bool.true_eq_false, d1, d2, d3, ceRows_length, ceRows_get hlt, ceRows_get hltz, Ce.row, Int.toNat_natCast, he, same (.inr d2') (.inr rfl)]
                refine hK1 _ ?_
                simp only [xs, xl, argS, reduceIte, Nat.reduceEqDiff, Nat.reduceAdd, Nat.reduceLT, Nat.reduceLeDiff, A.okCells, A.cells, A.one, splice, undefA, Bool.true_eq_false, d1, d2, d3, ceRows_length, ceRows_get hlt, ceRows_get hltz, Ce.row, Int.toNat_natCast, he, same (.inr d2') (.inr rfl)]
                repeat refine And.intro (by omega) ?_
                first | exact ⟨_, Co.keep _ (by simp [x_upd, x_look]), rfl⟩ | (simp only [V2]; exact Co.keep _ (by simp [x_upd, x_look])) | exact ⟨rfl, _, Co.keep _ (by simp [x_upd, x_look]), rfl⟩
              · refine run_take 18 fun K1 hK1 => ?_
                simp only [V, xs, xl, argS, reduceIte, Nat.reduceEqDiff, Nat.reduceAdd, Nat.reduceLT, Nat.reduceLeDiff, A.okCells, A.cells, A.one, splice, undefA, Bool.true_eq_false, d1, d2, d3]
                refine hK1 _ ?_
                simp only [xs, xl, argS, reduceIte, Nat.reduceEqDiff, Nat.reduceAdd, Nat.reduceLT, Nat.reduceLeDiff, A.okCells, A.cells, A.one, splice, undefA, Bool.true_eq_false, d1, d2, d3]
                first | exact ⟨_, Co.keep _ (by simp [x_upd, x_look]), rfl⟩ | (simp only [V2]; exact Co.keep _ (by simp [x_upd, x_look])) | exact ⟨rfl, _, Co.keep _ (by simp [x_upd, x_look]), rfl⟩
            · have d3' : p = t := by simp only [decide_eq_true_eq] at d3; omega
              refine run_take 18 fun K1 hK1 => ?_
              simp only [V, xs, xl, argS, reduceIte, Nat.reduceEqDiff, Nat.reduceAdd, Nat.reduceLT, Nat.reduceLeDiff, A.okCells, A.cells, A.one, splice, undefA, Bool.true_eq_false, d1, d2, d3, ceRows_length, ceRows_get hlt, ceRows_get hltz, Ce.row, Int.toNat_natCast, he, same (.inr d2') (.inl d3')]
              refine hK1 _ ?_
              simp only [xs, xl, argS, reduceIte, Nat.reduceEqDiff, Nat.reduceAdd, Nat.reduceLT, Nat.reduceLeDiff, A.okCells, A.cells, A.one, splice, undefA, Bool.true_eq_false, d1, d2, d3, ceRows_length, ceRows_get hlt, ceRows_get hltz, Ce.row, Int.toNat_natCast, he, same (.inr d2') (.inl d3')]
              repeat refine And.intro (by omega) ?_
              first | exact ⟨_, Co.keep _ (by simp [x_upd, x_look]), rfl⟩ | (simp only [V2]; exact Co.keep _ (by simp [x_upd, x_look])) | exact ⟨rfl, _, Co.keep _ (by simp [x_upd, x_look]), rfl⟩
        · have d1' : i < p := by simp only [decide_eq_true_eq] at d1; omega
          cases d3 : decide ((p : Int) = (t : Int))
          · have d3' : ¬ p = t := by simp only [decide_eq_false_iff_not] at d3; omega
            cases hf
            · refine run_take 18 fun K1 hK1 => ?_
              simp only [V, xs, xl, argS, reduceIte, Nat.reduceEqDiff, Nat.reduceAdd, Nat.reduceLT, Nat.reduceLeDiff, A.okCells, A.cells, A.one, splice, undefA, Bool.true_eq_false, d1, d3, ceRows_length, ceRows_get hlt, ceRows_get hltz, Ce.row, Int.toNat_natCast, he, same (.inl d1') (.inr rfl)]
              refine hK1 _ ?_
              simp only [xs, xl, argS, reduceIte, Nat.reduceEqDiff, Nat.reduceAdd, Nat.reduceLT, Nat.reduceLeDiff, A.okCells, A.cells, A.one, splice, undefA, Bool.true_eq_false, d1, d3, ceRows_length, ceRows_get hlt, ceRows_get hltz, Ce.row, Int.toNat_natCast, he, same (.inl d1') (.inr rfl)]
              repeat refine And.intro (by omega) ?_
              first | exact ⟨_, Co.keep _ (by simp [x_upd, x_look]), rfl⟩ | (simp only [V2]; exact Co.keep _ (by simp [x_upd, x_look])) | exact ⟨rfl, _, Co.keep _ (by simp [x_upd, x_look]), rfl⟩
            · refine run_take 18 fun K1 hK1 => ?_
              simp only [V, xs, xl, argS, reduceIte, Nat.reduceEqDiff, Nat.reduceAdd, Nat.reduceLT, Nat.reduceLeDiff, A.okCells, A.cells, A.one, splice, undefA, Bool.true_eq_false, d1, d3]
              refine hK1 _ ?_
              simp only [xs, xl, argS, reduceIte, Nat.reduceEqDiff, Nat.reduceAdd, Nat.reduceLT, Nat.reduceLeDiff, A.okCells, A.cells, A.one, splice, undefA, Bool.true_eq_false, d1, d3]
              first | exact ⟨_, Co.keep _ (by simp [x_upd, x_look]), rfl⟩ | (simp only [V2]; exact Co.keep _ (by simp [x_upd, x_look])) | exact ⟨rfl, _, Co.keep _ (by simp [x_upd, x_look]), rfl⟩
          · have d3' : p = t := by simp only [decide_eq_true_eq] at d3; omega
            refine run_take 18 fun K1 hK1 => ?_
            simp only [V, xs, xl, argS, reduceIte, Nat.reduceEqDiff, Nat.reduceAdd, Nat.reduceLT, Nat.reduceLeDiff, A.okCells, A.cells, A.one, splice, undefA, Bool.true_eq_false, d1, d3, ceRows_length, ceRows_get hlt, ceRows_get hltz, Ce.row, Int.toNat_natCast, he, same (.inl d1') (.inl d3')]
            refine hK1 _ ?_
            simp only [xs, xl, argS, reduceIte, Nat.reduceEqDiff, Nat.reduceAdd, Nat.reduceLT, Nat.reduceLeDiff, A.okCells, A.cells, A.one, splice, undefA, Bool.true_eq_false, d1, d3, ceRows_length, ceRows_get hlt, ceRows_get hltz, Ce.row, Int.toNat_natCast, he, same (.inl d1') (.inl d3')]
            repeat refine And.intro (by omega) ?_
            first | exact ⟨_, Co.keep _ (by simp [x_upd, x_look]), rfl⟩ | (simp only [V2]; exact Co.keep _ (by simp [x_upd, x_look])) | exact ⟨rfl, _, Co.keep _ (by simp [x_upd, x_look]), rfl⟩
      rintro _ rfl
      refine W_cond rfl (fun hc => by simp at hc) (fun _ => W_skip ?_)
      simp only [V2, xs, xl, argS, reduceIte, Nat.reduceEqDiff, Nat.reduceAdd, Nat.reduceLT, Nat.reduceLeDiff, A.okCells, A.cells, A.one, splice]
      refine W_reg ?_; simp only [xs, xl, argS, reduceIte, Nat.reduceEqDiff, Nat.reduceAdd, Nat.reduceLT, Nat.reduceLeDiff, A.okCells, A.cells, A.one, splice, w5]
      refine ⟨l.length - (i + 1), S (i + 1), by omega, Co.keep _ ?_, i + 1, hlt, rfl, rfl⟩
      simp [x_upd, x_look]
    · have hle : i = l.length := by simp only [decide_eq_false_iff_not] at hc; omega
      subst hle
      simp only [xs, xl, argS, reduceIte, Nat.reduceEqDiff, Nat.reduceAdd, Nat.reduceLT, Nat.reduceLeDiff, A.okCells, A.cells, A.one, splice]
      exact ⟨S l.length, Co.keep _ (by simp [x_upd, x_look]), rfl⟩
  rintro _ rfl
  simp only [S]
  refine W_seq (W_reg ?_); simp only [xs, xl, argS, reduceIte, Nat.reduceEqDiff, Nat.reduceAdd, Nat.reduceLT, Nat.reduceLeDiff, A.okCells, A.cells, A.one, splice]
  refine c_fn (Ha) rfl ?_; simp only [xs, xl, argS, reduceIte, Nat.reduceEqDiff, Nat.reduceAdd, Nat.reduceLT, Nat.reduceLeDiff, A.okCells, A.cells, A.one, splice]
  refine W_ret (.tmp ?_ rfl)
  simp only [x_upd, reduceIte]

end Go.Proofs.YtckglkbbdbmdkaaDoor.Nx

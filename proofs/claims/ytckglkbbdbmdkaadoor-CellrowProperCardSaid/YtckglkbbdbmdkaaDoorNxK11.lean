/- Layer 7: the laws Fits, InsertDelete, Erases. -/
import Derived.Test.YtckglkbbdbmdkaaDoorNxK10
namespace Go.Proofs.YtckglkbbdbmdkaaDoor.Nx
set_option linter.unusedSimpArgs false
set_option linter.unusedVariables false
set_option linter.unnecessarySimpa false
open Go

variable {P : Program} {N : Nat} {Γ : Tabs}

theorem fitC_self {l : List Ce} : fitC l l.length = l := by rw [fitC_le (Nat.le_refl _), Nat.sub_self]; simp
theorem fit_any {l : List Ce} {w s : Nat} (h : checkR l = 0) (h1 : 1 ≤ s) (h2 : s ≤ w) (h3 : w ≤ 132) : fitC (fitC l w) s = fitC l s := by
  rcases Nat.lt_or_ge l.length w with hlt | hge
  · rw [fitC_le (l := l) (w := w) (by omega)]
    have hlen : (l ++ List.replicate (w - l.length) (blankC (-1))).length = w := by simp; omega
    rcases Nat.lt_trichotomy s l.length with k | k | k
    · rw [fitC_gt (by omega), fitC_gt k]
      unfold cutR
      rw [List.take_append_of_le_length (by omega)]
    · subst k
      rw [fit_back h, fitC_self]
    · rw [fitC_le (l := l) (w := s) (by omega)]
      rcases Nat.eq_or_lt_of_le h2 with rfl | h2
      · rw [fitC_le (by omega), hlen, Nat.sub_self]; simp
      · have ht : (l ++ List.replicate (w - l.length) (blankC (-1))).take s = l ++ List.replicate (s - l.length) (blankC (-1)) := by
          rw [List.take_append, List.take_of_length_le (by omega), List.take_replicate, Nat.min_eq_left (by omega)]
        rw [fitC_gt (by omega), cutR_no, ht]
        intro c hc
        rw [ht, last_app (by intro k0; have := congrArg List.length k0; simp at this; omega)] at hc
        rw [List.eq_of_mem_replicate (List.mem_of_getLast? hc)]
        show ¬ (1 : Int) = 2
        decide
  · exact fit_two h1 h2 hge h h3
theorem fitR_ok {l : List Ce} {w : Int} (h : checkR l = 0) (h1 : 1 ≤ w) (h2 : w ≤ 132) : fitR (checkR l) l w = fitC l w.toNat := by
  unfold fitR; rw [if_neg (by omega)]

set_option maxHeartbeats 1000000 in
theorem cellFitsLaw_fn {f fg fk fa ff fs : FuncId} (H : FnIs P f N [.t 6] (x_law07_CellrowFits fg fk fa ff fs)) (hN : 3 ≤ N) (Hg : GreatCOk Γ P fg) (Hk : RowOk Γ P fk) (Ha : FnP Γ P fa [] (.bool true)) (Hf : FitOk Γ P ff) (Hs : SameCOk Γ P fs)
    (l : List Ce) (w s : Int) : FnP Γ P f [.d (.sl eCe (ceRows l)), .int w, .int s] (.bool true) := by
  refine .of_W H (by simpa using hN) ?_
  have hG := Hg l
  unfold x_law07_CellrowFits
  refine W_seq (W_reg ?_); simp only [xs, xl, argS, reduceIte, Nat.reduceEqDiff, Nat.reduceAdd, Nat.reduceLT, Nat.reduceLeDiff, A.okCells, A.cells, A.one, splice]
  refine W_seq ?_
  obtain ⟨B1, hB1⟩ : ∃ B, B = (greatC l) := ⟨_, rfl⟩
  obtain ⟨B2, hB2⟩ : ∃ B, B = (B1 || !decide (checkR l = 0)) := ⟨_, rfl⟩
  obtain ⟨B3, hB3⟩ : ∃ B, B = (B2 || decide (w < s)) := ⟨_, rfl⟩
  obtain ⟨B4, hB4⟩ : ∃ B, B = (B3 || decide (s < 1)) := ⟨_, rfl⟩
  obtain ⟨B5, hB5⟩ : ∃ B, B = (B4 || decide ((132 : Int) < w)) := ⟨_, rfl⟩
  refine W_cutC (· = ⟨look [(0, .d (.sl eCe (ceRows l))), (1, .int w), (2, .int s), (26, .bool B5)], []⟩) (fun K hK => ?_) ?_
  · refine runC_cut 3 (· = ⟨look [(0, .d (.sl eCe (ceRows l))), (1, .int w), (2, .int s), (9, .bool B1)], []⟩) rfl (by intro h; cases h) (fun K1 hK1 => ?_) ?_
    · simp only [xs, xl, argS, reduceIte, Nat.reduceEqDiff, Nat.reduceAdd, Nat.reduceLT, Nat.reduceLeDiff, A.okCells, A.cells, A.one, splice]
      refine c_fn (hG) rfl ?_; simp only [xs, xl, argS, reduceIte, Nat.reduceEqDiff, Nat.reduceAdd, Nat.reduceLT, Nat.reduceLeDiff, A.okCells, A.cells, A.one, splice, xs, xl, argS, reduceIte, Nat.reduceEqDiff, Nat.reduceAdd, Nat.reduceLT, Nat.reduceLeDiff, A.okCells, A.cells, A.one, splice]
      exact hK1 _ _ (Co.keep _ (by simp [x_upd, x_look, hB1])) rfl
    rintro _ rfl
    refine runC_cut 5 (· = ⟨look [(0, .d (.sl eCe (ceRows l))), (1, .int w), (2, .int s), (14, .bool B2)], []⟩) rfl (by intro h; cases h) (fun K1 hK1 => ?_) ?_
    · cases B1
      · have hF : (greatC l) = false := hB1.symm
        have e1 := hF
        simp only [xs, xl, argS, reduceIte, Nat.reduceEqDiff, Nat.reduceAdd, Nat.reduceLT, Nat.reduceLeDiff, A.okCells, A.cells, A.one, splice]
        refine c_fn (Hk l (greatC_s e1).2) rfl ?_; simp only [xs, xl, argS, reduceIte, Nat.reduceEqDiff, Nat.reduceAdd, Nat.reduceLT, Nat.reduceLeDiff, A.okCells, A.cells, A.one, splice, xs, xl, argS, reduceIte, Nat.reduceEqDiff, Nat.reduceAdd, Nat.reduceLT, Nat.reduceLeDiff, A.okCells, A.cells, A.one, splice]
        exact hK1 _ _ (Co.keep _ (by simp [x_upd, x_look, hB2])) rfl
      · simp only [xs, xl, argS, reduceIte, Nat.reduceEqDiff, Nat.reduceAdd, Nat.reduceLT, Nat.reduceLeDiff, A.okCells, A.cells, A.one, splice]
        exact hK1 _ _ (Co.keep _ (by simp [x_upd, x_look, hB2])) rfl
    rintro _ rfl
    refine runC_cut 5 (· = ⟨look [(0, .d (.sl eCe (ceRows l))), (1, .int w), (2, .int s), (19, .bool B3)], []⟩) rfl (by intro h; cases h) (fun K1 hK1 => ?_) ?_
    · cases B2
      · have hF : (B1 || !decide (checkR l = 0)) = false := hB2.symm
        simp only [hB1, Bool.or_eq_false_iff] at hF
        obtain ⟨e1, e2⟩ := hF
        simp only [xs, xl, argS, reduceIte, Nat.reduceEqDiff, Nat.reduceAdd, Nat.reduceLT, Nat.reduceLeDiff, A.okCells, A.cells, A.one, splice]
        exact hK1 _ _ (Co.keep _ (by simp [x_upd, x_look, hB3])) rfl
      · simp only [xs, xl, argS, reduceIte, Nat.reduceEqDiff, Nat.reduceAdd, Nat.reduceLT, Nat.reduceLeDiff, A.okCells, A.cells, A.one, splice]
        exact hK1 _ _ (Co.keep _ (by simp [x_upd, x_look, hB3])) rfl
    rintro _ rfl
    refine runC_cut 4 (· = ⟨look [(0, .d (.sl eCe (ceRows l))), (1, .int w), (2, .int s), (23, .bool B4)], []⟩) rfl (by intro h; cases h) (fun K1 hK1 => ?_) ?_
    · cases B3
      · have hF : (B2 || decide (w < s)) = false := hB3.symm
        simp only [hB2, hB1, Bool.or_eq_false_iff] at hF
        obtain ⟨⟨e1, e2⟩, e3⟩ := hF
        simp only [xs, xl, argS, reduceIte, Nat.reduceEqDiff, Nat.reduceAdd, Nat.reduceLT, Nat.reduceLeDiff, A.okCells, A.cells, A.one, splice]
        exact hK1 _ _ (Co.keep _ (by simp [x_upd, x_look, hB4])) rfl
      · simp only [xs, xl, argS, reduceIte, Nat.reduceEqDiff, Nat.reduceAdd, Nat.reduceLT, Nat.reduceLeDiff, A.okCells, A.cells, A.one, splice]
        exact hK1 _ _ (Co.keep _ (by simp [x_upd, x_look, hB4])) rfl
    rintro _ rfl
    refine runC_end rfl ?_
    cases B4
    · have hF : (B3 || decide (s < 1)) = false := hB4.symm
      simp only [hB3, hB2, hB1, Bool.or_eq_false_iff] at hF
      obtain ⟨⟨⟨e1, e2⟩, e3⟩, e4⟩ := hF
      simp only [xs, xl, argS, reduceIte, Nat.reduceEqDiff, Nat.reduceAdd, Nat.reduceLT, Nat.reduceLeDiff, A.okCells, A.cells, A.one, splice]
      exact hK _ _ (Co.keep _ (by simp [x_upd, x_look, hB5])) rfl
    · simp only [xs, xl, argS, reduceIte, Nat.reduceEqDiff, Nat.reduceAdd, Nat.reduceLT, Nat.reduceLeDiff, A.okCells, A.cells, A.one, splice]
      exact hK _ _ (Co.keep _ (by simp [x_upd, x_look, hB5])) rfl
  rintro _ rfl
  refine W_cond rfl (fun hc => ?_) (fun hc => W_skip ?_)
  · refine W_seq (W_reg ?_); simp only [xs, xl, argS, reduceIte, Nat.reduceEqDiff, Nat.reduceAdd, Nat.reduceLT, Nat.reduceLeDiff, A.okCells, A.cells, A.one, splice]
    refine c_fn (Ha) rfl ?_; simp only [xs, xl, argS, reduceIte, Nat.reduceEqDiff, Nat.reduceAdd, Nat.reduceLT, Nat.reduceLeDiff, A.okCells, A.cells, A.one, splice]
    refine W_ret (.tmp ?_ rfl)
    simp only [x_upd, reduceIte]
  simp only [hB5, hB4, hB3, hB2, hB1, Bool.or_eq_false_iff] at hc
  clear hB1 hB2 hB3 hB4 hB5
  obtain ⟨⟨⟨⟨e1, e2⟩, e3⟩, e4⟩, e5⟩ := hc
  simp only [xs, xl, argS, reduceIte, Nat.reduceEqDiff, Nat.reduceAdd, Nat.reduceLT, Nat.reduceLeDiff, A.okCells, A.cells, A.one, splice]
  have hg := e1
  have hk : checkR l = 0 := by simpa using e2
  have g1 := of_decide_eq_false e3
  have g2 := of_decide_eq_false e4
  have g3 := of_decide_eq_false e5
  obtain ⟨hl, hs⟩ := greatC_s hg
  obtain ⟨hl1, hl2, _⟩ := ck_pos hk
  have F0 := Hf l hs l.length
  rw [fitR_ok hk (by omega) (by omega), Int.toNat_natCast, fitC_self] at F0
  have F1 := Hf l hs w
  rw [fitR_ok hk (by omega) (by omega)] at F1
  have F3 := Hf l hs s
  rw [fitR_ok hk (by omega) (by omega)] at F3
  have F2 := Hf (fitC l w.toNat) (fitC_small hs) s
  rw [fitR_ok (fitC_ck hk (by omega) (by omega)).1 (by omega) (by omega), fit_any hk (by omega) (by omega) (by omega)] at F2
  have S1 := Hs l l
  have S2 := Hs (fitC l s.toNat) (fitC l s.toNat)
  rw [decide_eq_true rfl] at S1 S2
  refine W_seq (W_reg ?_); simp only [xs, xl, argS, reduceIte, Nat.reduceEqDiff, Nat.reduceAdd, Nat.reduceLT, Nat.reduceLeDiff, A.okCells, A.cells, A.one, splice, ceRows_length]
  refine c_fn (F0) rfl ?_; simp only [xs, xl, argS, reduceIte, Nat.reduceEqDiff, Nat.reduceAdd, Nat.reduceLT, Nat.reduceLeDiff, A.okCells, A.cells, A.one, splice]
  refine c_fn (S1) rfl ?_; simp only [xs, xl, argS, reduceIte, Nat.reduceEqDiff, Nat.reduceAdd, Nat.reduceLT, Nat.reduceLeDiff, A.okCells, A.cells, A.one, splice]
  refine c_fn (F1) rfl ?_; simp only [xs, xl, argS, reduceIte, Nat.reduceEqDiff, Nat.reduceAdd, Nat.reduceLT, Nat.reduceLeDiff, A.okCells, A.cells, A.one, splice]
  refine c_fn (F2) rfl ?_; simp only [xs, xl, argS, reduceIte, Nat.reduceEqDiff, Nat.reduceAdd, Nat.reduceLT, Nat.reduceLeDiff, A.okCells, A.cells, A.one, splice]
  refine c_fn (F3) rfl ?_; simp only [xs, xl, argS, reduceIte, Nat.reduceEqDiff, Nat.reduceAdd, Nat.reduceLT, Nat.reduceLeDiff, A.okCells, A.cells, A.one, splice]
  refine c_fn (S2) rfl ?_; simp only [xs, xl, argS, reduceIte, Nat.reduceEqDiff, Nat.reduceAdd, Nat.reduceLT, Nat.reduceLeDiff, A.okCells, A.cells, A.one, splice]
  refine c_fn (Ha) rfl ?_; simp only [xs, xl, argS, reduceIte, Nat.reduceEqDiff, Nat.reduceAdd, Nat.reduceLT, Nat.reduceLeDiff, A.okCells, A.cells, A.one, splice]
  refine W_ret (.tmp ?_ rfl)
  simp only [x_upd, reduceIte]

/-! ### InsertDelete -/
theorem cut_of {l : List Ce} {n : Nat} (h : n < l.length) (hw : l[n].width ≠ 0) : ¬ cutAt l n := fun k => by
  obtain ⟨d, hd, h0⟩ := cutAt_some k
  rw [List.getElem?_eq_getElem h] at hd
  cases hd
  exact hw h0

set_option maxHeartbeats 1000000 in
theorem cellInsDelLaw_fn {f fg fk fa fi fd fe fs : FuncId} (H : FnIs P f N [.t 10] (x_law07_CellrowInsertDelete fg fk fa fi fd fe fs)) (hN : 5 ≤ N) (Hg : GreatCOk Γ P fg) (Hk : RowOk Γ P fk) (Ha : FnP Γ P fa [] (.bool true)) (Hi : ShiftOk insR Γ P fi) (Hd : ShiftOk delR Γ P fd) (He : ShiftOk eraR Γ P fe) (Hs : SameCOk Γ P fs)
    (l : List Ce) (col n a b c a' b' c' : Int) : FnP Γ P f [.d (.sl eCe (ceRows l)), .int col, .int n, atA a b c, atA a' b' c'] (.bool true) := by
  refine .of_W H (by simpa using hN) ?_
  have hG := Hg l
  unfold x_law07_CellrowInsertDelete
  refine W_seq (W_reg ?_); simp only [xs, xl, argS, reduceIte, Nat.reduceEqDiff, Nat.reduceAdd, Nat.reduceLT, Nat.reduceLeDiff, A.okCells, A.cells, A.one, splice]
  refine W_seq ?_
  obtain ⟨wd, hwd⟩ : ∃ wd, ∀ h : col.toNat < l.length, l[col.toNat].width = wd := ⟨(l[col.toNat]?.map Ce.width).getD 0, fun h => by rw [List.getElem?_eq_getElem h]; rfl⟩
  obtain ⟨B1, hB1⟩ : ∃ B, B = (greatC l) := ⟨_, rfl⟩
  obtain ⟨B2, hB2⟩ : ∃ B, B = (B1 || !decide (checkR l = 0)) := ⟨_, rfl⟩
  obtain ⟨B3, hB3⟩ : ∃ B, B = (B2 || decide (col < 0)) := ⟨_, rfl⟩
  obtain ⟨B4, hB4⟩ : ∃ B, B = (B3 || decide ((l.length : Int) ≤ col)) := ⟨_, rfl⟩
  obtain ⟨B5, hB5⟩ : ∃ B, B = (B4 || decide (n < 1)) := ⟨_, rfl⟩
  obtain ⟨B6, hB6⟩ : ∃ B, B = (B5 || decide (wd = 0)) := ⟨_, rfl⟩
  refine W_cutC (· = ⟨look [(0, .d (.sl eCe (ceRows l))), (1, .int col), (2, .int n), (8, .ptr 0 1 0 0), (9, .ptr 1 1 0 0), (45, .bool B6)], [atB a b c, atB a' b' c']⟩) (fun K hK => ?_) ?_
  · refine runC_cut 3 (· = ⟨look [(0, .d (.sl eCe (ceRows l))), (1, .int col), (2, .int n), (8, .ptr 0 1 0 0), (9, .ptr 1 1 0 0), (19, .bool B1)], [atB a b c, atB a' b' c']⟩) rfl (by intro h; cases h) (fun K1 hK1 => ?_) ?_
    · simp only [xs, xl, argS, reduceIte, Nat.reduceEqDiff, Nat.reduceAdd, Nat.reduceLT, Nat.reduceLeDiff, A.okCells, A.cells, A.one, splice]
      refine c_fn (hG) rfl ?_; simp only [xs, xl, argS, reduceIte, Nat.reduceEqDiff, Nat.reduceAdd, Nat.reduceLT, Nat.reduceLeDiff, A.okCells, A.cells, A.one, splice, xs, xl, argS, reduceIte, Nat.reduceEqDiff, Nat.reduceAdd, Nat.reduceLT, Nat.reduceLeDiff, A.okCells, A.cells, A.one, splice]
      exact hK1 _ _ (Co.keep _ (by simp [x_upd, x_look, hB1])) rfl
    rintro _ rfl
    refine runC_cut 5 (· = ⟨look [(0, .d (.sl eCe (ceRows l))), (1, .int col), (2, .int n), (8, .ptr 0 1 0 0), (9, .ptr 1 1 0 0), (24, .bool B2)], [atB a b c, atB a' b' c']⟩) rfl (by intro h; cases h) (fun K1 hK1 => ?_) ?_
    · cases B1
      · have hF : (greatC l) = false := hB1.symm
        have e1 := hF
        simp only [xs, xl, argS, reduceIte, Nat.reduceEqDiff, Nat.reduceAdd, Nat.reduceLT, Nat.reduceLeDiff, A.okCells, A.cells, A.one, splice]
        refine c_fn (Hk l (greatC_s e1).2) rfl ?_; simp only [xs, xl, argS, reduceIte, Nat.reduceEqDiff, Nat.reduceAdd, Nat.reduceLT, Nat.reduceLeDiff, A.okCells, A.cells, A.one, splice, xs, xl, argS, reduceIte, Nat.reduceEqDiff, Nat.reduceAdd, Nat.reduceLT, Nat.reduceLeDiff, A.okCells, A.cells, A.one, splice]
        exact hK1 _ _ (Co.keep _ (by simp [x_upd, x_look, hB2])) rfl
      · simp only [xs, xl, argS, reduceIte, Nat.reduceEqDiff, Nat.reduceAdd, Nat.reduceLT, Nat.reduceLeDiff, A.okCells, A.cells, A.one, splice]
        exact hK1 _ _ (Co.keep _ (by simp [x_upd, x_look, hB2])) rfl
    rintro _ rfl
    refine runC_cut 4 (· = ⟨look [(0, .d (.sl eCe (ceRows l))), (1, .int col), (2, .int n), (8, .ptr 0 1 0 0), (9, .ptr 1 1 0 0), (28, .bool B3)], [atB a b c, atB a' b' c']⟩) rfl (by intro h; cases h) (fun K1 hK1 => ?_) ?_
    · cases B2
      · have hF : (B1 || !decide (checkR l = 0)) = false := hB2.symm
        simp only [hB1, Bool.or_eq_false_iff] at hF
        obtain ⟨e1, e2⟩ := hF
        simp only [xs, xl, argS, reduceIte, Nat.reduceEqDiff, Nat.reduceAdd, Nat.reduceLT, Nat.reduceLeDiff, A.okCells, A.cells, A.one, splice]
        exact hK1 _ _ (Co.keep _ (by simp [x_upd, x_look, hB3])) rfl
      · simp only [xs, xl, argS, reduceIte, Nat.reduceEqDiff, Nat.reduceAdd, Nat.reduceLT, Nat.reduceLeDiff, A.okCells, A.cells, A.one, splice]
        exact hK1 _ _ (Co.keep _ (by simp [x_upd, x_look, hB3])) rfl
    rintro _ rfl
    refine runC_cut 6 (· = ⟨look [(0, .d (.sl eCe (ceRows l))), (1, .int col), (2, .int n), (8, .ptr 0 1 0 0), (9, .ptr 1 1 0 0), (34, .bool B4)], [atB a b c, atB a' b' c']⟩) rfl (by intro h; cases h) (fun K1 hK1 => ?_) ?_
    · cases B3
      · have hF : (B2 || decide (col < 0)) = false := hB3.symm
        simp only [hB2, hB1, Bool.or_eq_false_iff] at hF
        obtain ⟨⟨e1, e2⟩, e3⟩ := hF
        simp only [xs, xl, argS, reduceIte, Nat.reduceEqDiff, Nat.reduceAdd, Nat.reduceLT, Nat.reduceLeDiff, A.okCells, A.cells, A.one, splice, ceRows_length]
        exact hK1 _ _ (Co.keep _ (by simp [x_upd, x_look, hB4])) rfl
      · simp only [xs, xl, argS, reduceIte, Nat.reduceEqDiff, Nat.reduceAdd, Nat.reduceLT, Nat.reduceLeDiff, A.okCells, A.cells, A.one, splice]
        exact hK1 _ _ (Co.keep _ (by simp [x_upd, x_look, hB4])) rfl
    rintro _ rfl
    refine runC_cut 4 (· = ⟨look [(0, .d (.sl eCe (ceRows l))), (1, .int col), (2, .int n), (8, .ptr 0 1 0 0), (9, .ptr 1 1 0 0), (38, .bool B5)], [atB a b c, atB a' b' c']⟩) rfl (by intro h; cases h) (fun K1 hK1 => ?_) ?_
    · cases B4
      · have hF : (B3 || decide ((l.length : Int) ≤ col)) = false := hB4.symm
        simp only [hB3, hB2, hB1, Bool.or_eq_false_iff] at hF
        obtain ⟨⟨⟨e1, e2⟩, e3⟩, e4⟩ := hF
        simp only [xs, xl, argS, reduceIte, Nat.reduceEqDiff, Nat.reduceAdd, Nat.reduceLT, Nat.reduceLeDiff, A.okCells, A.cells, A.one, splice]
        exact hK1 _ _ (Co.keep _ (by simp [x_upd, x_look, hB5])) rfl
      · simp only [xs, xl, argS, reduceIte, Nat.reduceEqDiff, Nat.reduceAdd, Nat.reduceLT, Nat.reduceLeDiff, A.okCells, A.cells, A.one, splice]
        exact hK1 _ _ (Co.keep _ (by simp [x_upd, x_look, hB5])) rfl
    rintro _ rfl
    refine runC_end rfl ?_
    cases B5
    · have hF : (B4 || decide (n < 1)) = false := hB5.symm
      simp only [hB4, hB3, hB2, hB1, Bool.or_eq_false_iff] at hF
      obtain ⟨⟨⟨⟨e1, e2⟩, e3⟩, e4⟩, e5⟩ := hF
      have c1 := of_decide_eq_false e3
      have c2 := of_decide_eq_false e4
      have hlt : col.toNat < l.length := by omega
      have hr := ceRows_get hlt
      simp only [Ce.row, hwd hlt] at hr
      simp only [xs, xl, argS, reduceIte, Nat.reduceEqDiff, Nat.reduceAdd, Nat.reduceLT, Nat.reduceLeDiff, A.okCells, A.cells, A.one, splice, hr, ceRows_length]
      repeat refine And.intro (by omega) ?_
      exact hK _ _ (Co.keep _ (by simp [x_upd, x_look, hB6])) rfl
    · simp only [xs, xl, argS, reduceIte, Nat.reduceEqDiff, Nat.reduceAdd, Nat.reduceLT, Nat.reduceLeDiff, A.okCells, A.cells, A.one, splice]
      exact hK _ _ (Co.keep _ (by simp [x_upd, x_look, hB6])) rfl
  rintro _ rfl
  refine W_cond rfl (fun hc => ?_) (fun hc => W_skip ?_)
  · refine W_seq (W_reg ?_); simp only [xs, xl, argS, reduceIte, Nat.reduceEqDiff, Nat.reduceAdd, Nat.reduceLT, Nat.reduceLeDiff, A.okCells, A.cells, A.one, splice]
    refine c_fn (Ha) rfl ?_; simp only [xs, xl, argS, reduceIte, Nat.reduceEqDiff, Nat.reduceAdd, Nat.reduceLT, Nat.reduceLeDiff, A.okCells, A.cells, A.one, splice]
    refine W_ret (.tmp ?_ rfl)
    simp only [x_upd, reduceIte]
  simp only [hB6, hB5, hB4, hB3, hB2, hB1, Bool.or_eq_false_iff] at hc
  clear hB1 hB2 hB3 hB4 hB5 hB6
  obtain ⟨⟨⟨⟨⟨e1, e2⟩, e3⟩, e4⟩, e5⟩, e6⟩ := hc
  simp only [xs, xl, argS, reduceIte, Nat.reduceEqDiff, Nat.reduceAdd, Nat.reduceLT, Nat.reduceLeDiff, A.okCells, A.cells, A.one, splice]
  have hg := e1
  have hk : checkR l = 0 := by simpa using e2
  have g1 := of_decide_eq_false e3
  have g2 := of_decide_eq_false e4
  have g3 := of_decide_eq_false e5
  have g4 : ∀ h : col.toNat < l.length, l[col.toNat].width ≠ 0 := fun h => by rw [hwd h]; exact of_decide_eq_false e6
  obtain ⟨hl, hs⟩ := greatC_s hg
  obtain ⟨hl1, hl2, hrk⟩ := ck_pos hk
  obtain ⟨q, rfl⟩ : ∃ q : Nat, col = q := ⟨col.toNat, by omega⟩
  have hql : q < l.length := by omega
  have hcut : ¬ cutAt l q := cut_of hql (g4 hql)
  obtain ⟨m, hm⟩ : ∃ m, m = minI l q n := ⟨_, rfl⟩
  have hm1 : 1 ≤ m := by rw [hm]; unfold minI; omega
  have hm2 : q + m ≤ l.length := by rw [hm]; unfold minI; omega
  have hx := insL_len (b := b) hm2
  have hxk : checkR (insL l q m b) = 0 := ck_of (insL_ck hrk hm2 hm1) (by omega) (by omega)
  have I1 := Hi l hs q n a b c
  have hir : insR l q n b = (insL l q m b, 0) := by
    unfold insR; rw [if_neg (fun k => k hk), if_neg (by omega), if_neg (by omega), Int.toNat_natCast, hm]
  have D1 := Hd (insL l q m b) (insL_small hs) q n a' b' c'
  have hdr : delR (insL l q m b) q n b' = (eraL l (l.length - m) l.length b', 0) := by
    unfold delR; rw [if_neg (fun k => k hxk), hx, if_neg (by omega), if_neg (by omega), Int.toNat_natCast, ← del_ins (a := b) hrk hm2 hm1 hcut]
    congr 2
    rw [hm] at hx ⊢; unfold minI at hx ⊢; rw [hx]
  have E1 := He l hs ((l.length - m : Nat) : Int) l.length a' b' c'
  have her : eraR l ((l.length - m : Nat) : Int) l.length b' = (eraL l (l.length - m) l.length b', 0) := by
    unfold eraR; rw [if_neg (fun k => k hk), if_neg (by omega), if_neg (by omega), if_neg (by omega), Int.toNat_natCast, Int.toNat_natCast]
  rw [hir] at I1
  rw [hdr] at D1
  rw [her] at E1
  have S1 := Hs (eraL l (l.length - m) l.length b') (eraL l (l.length - m) l.length b')
  rw [decide_eq_true rfl] at S1
  simp only [ceE] at I1 D1 E1
  have w2 : IntKind.i64.wrap ((l.length : Int) - (q : Int)) = (l.length : Int) - (q : Int) := i64_of (by omega)
  have w3 : IntKind.i64.wrap ((l.length : Int) - (m : Int)) = ((l.length - m : Nat) : Int) := by rw [i64_of (by omega)]; omega
  refine W_seq (W_reg ?_); simp only [xs, xl, argS, reduceIte, Nat.reduceEqDiff, Nat.reduceAdd, Nat.reduceLT, Nat.reduceLeDiff, A.okCells, A.cells, A.one, splice]
  refine c_fn (I1) rfl ?_; simp only [xs, xl, argS, reduceIte, Nat.reduceEqDiff, Nat.reduceAdd, Nat.reduceLT, Nat.reduceLeDiff, A.okCells, A.cells, A.one, splice]
  refine W_seq ?_
  refine W_seq (W_reg ?_); simp only [xs, xl, argS, reduceIte, Nat.reduceEqDiff, Nat.reduceAdd, Nat.reduceLT, Nat.reduceLeDiff, A.okCells, A.cells, A.one, splice]
  refine W_cond rfl (fun hc => by simp at hc) (fun _ => W_skip ?_)
  simp only [xs, xl, argS, reduceIte, Nat.reduceEqDiff, Nat.reduceAdd, Nat.reduceLT, Nat.reduceLeDiff, A.okCells, A.cells, A.one, splice]
  refine W_seq (W_reg ?_); simp only [xs, xl, argS, reduceIte, Nat.reduceEqDiff, Nat.reduceAdd, Nat.reduceLT, Nat.reduceLeDiff, A.okCells, A.cells, A.one, splice]
  refine c_fn (D1) rfl ?_; simp only [xs, xl, argS, reduceIte, Nat.reduceEqDiff, Nat.reduceAdd, Nat.reduceLT, Nat.reduceLeDiff, A.okCells, A.cells, A.one, splice]
  refine W_seq (W_reg ?_); simp only [xs, xl, argS, reduceIte, Nat.reduceEqDiff, Nat.reduceAdd, Nat.reduceLT, Nat.reduceLeDiff, A.okCells, A.cells, A.one, splice, ceRows_length, w2, min_of (Int.not_lt.1 g3) hql, ← hm, w3]
  refine c_fn (E1) rfl ?_; simp only [xs, xl, argS, reduceIte, Nat.reduceEqDiff, Nat.reduceAdd, Nat.reduceLT, Nat.reduceLeDiff, A.okCells, A.cells, A.one, splice]
  refine W_seq (W_reg ?_); simp only [xs, xl, argS, reduceIte, Nat.reduceEqDiff, Nat.reduceAdd, Nat.reduceLT, Nat.reduceLeDiff, A.okCells, A.cells, A.one, splice]
  refine c_fn (S1) rfl ?_; simp only [xs, xl, argS, reduceIte, Nat.reduceEqDiff, Nat.reduceAdd, Nat.reduceLT, Nat.reduceLeDiff, A.okCells, A.cells, A.one, splice]
  refine c_fn (Ha) rfl ?_; simp only [xs, xl, argS, reduceIte, Nat.reduceEqDiff, Nat.reduceAdd, Nat.reduceLT, Nat.reduceLeDiff, A.okCells, A.cells, A.one, splice]
  refine W_ret (.tmp ?_ rfl)
  simp only [x_upd, reduceIte]

end Go.Proofs.YtckglkbbdbmdkaaDoor.Nx

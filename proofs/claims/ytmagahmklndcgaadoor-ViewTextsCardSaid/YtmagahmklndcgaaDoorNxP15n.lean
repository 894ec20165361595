/- Layer 15: terminals: ref15.Large, view.showable. -/
/- Layer 15: ref04.Right, ref15.Showable. -/
import Derived.Test.YtmagahmklndcgaaDoorNxR1
import Derived.Test.YtmagahmklndcgaaDoorNxP15k
namespace Go.Proofs.YtmagahmklndcgaaDoor.Nx
set_option linter.unusedSimpArgs false
set_option linter.unusedVariables false
set_option linter.unnecessarySimpa false
open Go

variable {P : Program} {N : Nat} {Γ : Tabs}

/-- A terminal, as far as the view looks at it. -/
structure Tm where
  w : Int
  h : Int
  rows : List (List Ce)
  x3 : D
  x4 : D
  x5 : D
  row : Int
  col : Int
  x8 : D
  q : List D
  vis : Bool
  qt : List D
  hl : q.length = 33
  hd : q.drop 18 = .sc (.bool vis) :: qt
abbrev eTm : Elt := ⟨42, 352⟩
def Tm.ds (t : Tm) : List D := .sc (.int .i64 t.w) :: .sc (.int .i64 t.h) :: .sl eRw (crRows t.rows) :: t.x3 :: t.x4 :: t.x5 :: .sc (.int .i64 t.row) :: .sc (.int .i64 t.col) :: t.x8 :: t.q
def tmR (t : Tm) : List A := .int t.w :: .int t.h :: .d (.sl eRw (crRows t.rows)) :: .d t.x3 :: .d t.x4 :: .d t.x5 :: .int t.row :: .int t.col :: .d t.x8 :: t.q.map A.d
def tmA (t : Tm) : A := .agg (tmR t)
def tmB (t : Tm) : HB := .cells eTm [tmR t]
theorem tmA_ds (t : Tm) : .agg (t.ds.map .d) = tmA t := rfl
theorem tm_take (t : Tm) : (t.q.map A.d).take 33 = t.q.map A.d := List.take_of_length_le (by simp [t.hl])
theorem tm_vis (t : Tm) : (t.q.map A.d).drop 18 = .bool t.vis :: t.qt.map A.d := by rw [← List.map_drop, t.hd]; rfl
theorem tm_len (t : Tm) : t.q.length = 33 := t.hl

def largeT (t : Tm) : Bool := decide (12 < t.rows.length) || t.rows.any greatC
theorem largeT_small {t : Tm} (h : largeT t = false) : t.rows.length ≤ 12 ∧ ∀ l ∈ t.rows, l.length ≤ 140 ∧ ∀ c ∈ l, c.text.size ≤ 40 := by
  simp only [largeT, Bool.or_eq_false_iff, decide_eq_false_iff_not] at h
  refine ⟨by omega, fun l hl => greatC_small ?_⟩
  have := List.any_eq_false.1 h.2 l hl
  simpa using this

theorem large_fn {f fg : FuncId} (H : FnIs P f N [.t 2] (x_ref15_Large fg)) (hN : 1 ≤ N) (Hg : ∀ l, FnP Γ P fg [.d (.sl eCe (ceRows l))] (.bool (greatC l))) (t : Tm) : FnP Γ P f [tmA t] (.bool (largeT t)) := by
  refine .of_W H (by simpa using hN) (W_aggsl 0 2 rfl rfl fun ⟨_, hroom, _⟩ => ?_)
  have hlr : t.rows.length ≤ room := le_of_mul (by rw [crRows_len] at hroom; exact hroom)
  have c1 : decide ((12 : Int) < (t.rows.length : Int)) = decide (12 < t.rows.length) := by rw [Bool.eq_iff_iff]; simp only [decide_eq_true_eq]; omega
  unfold x_ref15_Large
  refine W_seq (W_reg ?_)
  simp only [tmA, tmR, xs, xl, argS, reduceIte, Nat.reduceEqDiff, Nat.reduceAdd, Nat.reduceLT, Nat.reduceLeDiff, A.okCells, A.cells, A.one, splice, tm_len]
  refine W_seq (W_seq (W_reg ?_))
  simp only [xs, xl, argS, reduceIte, Nat.reduceEqDiff, Nat.reduceAdd, Nat.reduceLT, Nat.reduceLeDiff, A.okCells, A.cells, A.one, splice, crRows_len, c1]
  refine W_cond rfl (fun hc => ?_) (fun hc => W_skip ?_)
  · refine W_seq (W_reg ?_)
    simp only [xs, xl, argS, reduceIte, Nat.reduceEqDiff, Nat.reduceAdd, Nat.reduceLT, Nat.reduceLeDiff, A.okCells, A.cells, A.one, splice]
    refine W_ret (.tmp ?_ rfl)
    simp only [x_upd, reduceIte, largeT, hc, Bool.true_or]
  · simp only [xs, xl, argS, reduceIte, Nat.reduceEqDiff, Nat.reduceAdd, Nat.reduceLT, Nat.reduceLeDiff, A.okCells, A.cells, A.one, splice]
    refine W_seq (W_seq (W_reg ?_))
    simp only [xs, xl, argS, reduceIte, Nat.reduceEqDiff, Nat.reduceAdd, Nat.reduceLT, Nat.reduceLeDiff, A.okCells, A.cells, A.one, splice]
    refine W_block ?_
    let S : Nat → St := fun i => ⟨look [(1, .ptr 0 1 0 0), (3, .int i)], [tmB t]⟩
    refine W_co (s' := S 0) (Co.keep _ (by simp [x_upd, x_look])) ?_
    refine W_loop (fun m s => ∃ i, i ≤ t.rows.length ∧ m = t.rows.length - i ∧ s = S i ∧ (t.rows.take i).any greatC = false) ⟨0, Nat.zero_le _, rfl, rfl, by simp⟩ ?_
    rintro m s ⟨i, hi, rfl, rfl, hpre⟩
    refine W_seq (W_seq (W_reg ?_))
    simp only [S, tmB, tmR, xs, xl, argS, reduceIte, Nat.reduceEqDiff, Nat.reduceAdd, Nat.reduceLT, Nat.reduceLeDiff, A.okCells, A.cells, A.one, splice, crRows_len]
    refine W_cond rfl (fun hc => W_skip ?_) (fun hc => W_exit ?_)
    · have hlt : i < t.rows.length := by simpa using hc
      simp only [xs, xl, argS, reduceIte, Nat.reduceEqDiff, Nat.reduceAdd, Nat.reduceLT, Nat.reduceLeDiff, A.okCells, A.cells, A.one, splice]
      refine W_seq (W_block (W_seq (W_reg ?_)))
      simp only [xs, xl, argS, reduceIte, Nat.reduceEqDiff, Nat.reduceAdd, Nat.reduceLT, Nat.reduceLeDiff, A.okCells, A.cells, A.one, splice, crRows_get hlt, crRows_len]
      refine ⟨by omega, by omega, ?_⟩
      refine c_fn (Hg _) rfl ?_
      simp only [xs, xl, argS, reduceIte, Nat.reduceEqDiff, Nat.reduceAdd, Nat.reduceLT, Nat.reduceLeDiff, A.okCells, A.cells, A.one, splice]
      refine W_cond rfl (fun hd => ?_) (fun hd => W_skip ?_)
      · refine W_seq (W_reg ?_)
        simp only [xs, xl, argS, reduceIte, Nat.reduceEqDiff, Nat.reduceAdd, Nat.reduceLT, Nat.reduceLeDiff, A.okCells, A.cells, A.one, splice]
        refine W_ret ?_
        simp only [xs, xl, argS, reduceIte, Nat.reduceEqDiff, Nat.reduceAdd, Nat.reduceLT, Nat.reduceLeDiff, A.okCells, A.cells, A.one, splice]
        refine .tmp ?_ rfl
        have : t.rows.any greatC = true := List.any_eq_true.2 ⟨t.rows[i], List.getElem_mem hlt, hd⟩
        simp only [x_upd, reduceIte, largeT, this, Bool.or_true]
      · simp only [xs, xl, argS, reduceIte, Nat.reduceEqDiff, Nat.reduceAdd, Nat.reduceLT, Nat.reduceLeDiff, A.okCells, A.cells, A.one, splice]
        refine W_reg ?_
        simp only [xs, xl, argS, reduceIte, Nat.reduceEqDiff, Nat.reduceAdd, Nat.reduceLT, Nat.reduceLeDiff, A.okCells, A.cells, A.one, splice]
        refine ⟨t.rows.length - (i + 1), S (i + 1), by omega, Co.keep _ ?_, i + 1, hlt, rfl, rfl, any_take_succ hlt hpre hd⟩
        simp [x_upd, x_look, i64_succ hlt hlr]
    · have hle : i = t.rows.length := by simp at hc; omega
      subst hle
      rw [List.take_length] at hpre
      rename_i hg _
      simp only [xs, xl, argS, reduceIte, Nat.reduceEqDiff, Nat.reduceAdd, Nat.reduceLT, Nat.reduceLeDiff, A.okCells, A.cells, A.one, splice]
      refine W_seq (W_reg ?_)
      simp only [xs, xl, argS, reduceIte, Nat.reduceEqDiff, Nat.reduceAdd, Nat.reduceLT, Nat.reduceLeDiff, A.okCells, A.cells, A.one, splice]
      refine W_ret (.tmp ?_ rfl)
      simp only [x_upd, reduceIte, largeT, hpre, Bool.or_false]
      rw [‹decide (12 < t.rows.length) = false›]

def badT (t : Tm) : Bool := ((((!szOk t.w t.h || !decide ((t.rows.length : Int) = t.h)) || decide (t.row < 0)) || decide (t.h ≤ t.row)) || decide (t.col < 0)) || decide (t.w ≤ t.col)
def badRow (w : Int) (l : List Ce) : Bool := (!decide ((l.length : Int) = w) || !decide (checkR l = 0)) || l.any badA
def showT (t : Tm) : Bool := !(badT t || t.rows.any (badRow t.w))

set_option maxHeartbeats 400000 in
theorem showable_fn {f fs fc fn f1 : FuncId} (H : FnIs P f N [.t 2] (x_view_showable fs fc fn f1)) (hN : 1 ≤ N) (Hs : ∀ w h, FnP Γ P fs [.int w, .int h] (.bool (szOk w h))) (Hc : ∀ l : List Ce, (∀ c ∈ l, c.text.size ≤ 1000) → FnP Γ P fc [.d (.sl eCe (ceRows l))] (.int (checkR l)))
    (Hn : ∀ l : List Ce, FnP Γ P fn [.d (.sl eCe (ceRows l)), .fn f1 []] (.bool (l.any badA))) (t : Tm) (ht : ∀ l ∈ t.rows, ∀ c ∈ l, c.text.size ≤ 1000) : FnP Γ P f [tmA t] (.bool (showT t)) := by
  refine .of_W H (by simpa using hN) (W_aggsl 0 2 rfl rfl fun ⟨_, hroom, _⟩ => ?_)
  have hlr : t.rows.length ≤ room := le_of_mul (by rw [crRows_len] at hroom; exact hroom)
  unfold x_view_showable
  refine W_seq (W_reg ?_)
  simp only [tmA, tmR, xs, xl, argS, reduceIte, Nat.reduceEqDiff, Nat.reduceAdd, Nat.reduceLT, Nat.reduceLeDiff, A.okCells, A.cells, A.one, splice, tm_len]
  refine W_seq (W_drw (by intro p hp; simp only [List.mem_cons, List.not_mem_nil, or_false] at hp; rcases hp with rfl | rfl | rfl | rfl <;> rfl) ?_)
  simp only [xs, xl, argS, reduceIte, Nat.reduceEqDiff, Nat.reduceAdd, Nat.reduceLT, Nat.reduceLeDiff, A.okCells, A.cells, A.one, splice]
  let H0 : Heap := [tmB t, .cells ⟨3, 40⟩ [[.int t.w, .int t.h, .d (.sl eRw (crRows t.rows))]], .cells ⟨3, 24⟩ [[.int t.row, .int t.col, .d t.x8]]]
  let U : List (Nat × A) → St := fun l => ⟨look ((3, .ptr 1 1 0 0) :: (4, .ptr 2 1 0 0) :: l), H0⟩
  refine W_co (s' := U []) (Co.keep _ (by simp [x_upd, x_look])) ?_
  refine W_seq (W_cutC (· = U [(48, .bool (badT t))]) (fun K hK => ?_) ?_)
  · unfold badT at hK
    refine runC_cut 7 (· = U [(17, .bool (!szOk t.w t.h))]) rfl (by intro h; cases h) (fun K1 hK1 => ?_) ?_
    · simp only [U, H0, xs, xl, argS, reduceIte, Nat.reduceEqDiff, Nat.reduceAdd, Nat.reduceLT, Nat.reduceLeDiff, A.okCells, A.cells, A.one, splice]
      refine c_fn (Hs _ _) rfl ?_
      simp only [xs, xl, argS, reduceIte, Nat.reduceEqDiff, Nat.reduceAdd, Nat.reduceLT, Nat.reduceLeDiff, A.okCells, A.cells, A.one, splice]
      exact hK1 _ (U [(17, .bool (!szOk t.w t.h))]) (Co.keep _ (by simp [x_upd, x_look])) rfl
    rintro _ rfl
    generalize (!szOk t.w t.h) = b0 at hK ⊢
    refine runC_cut 8 (· = U [(25, .bool (b0 || !decide ((t.rows.length : Int) = t.h)))]) rfl (by intro h; cases h) (fun K1 hK1 => ?_) ?_
    · cases b0 <;> simp only [U, H0, xs, xl, argS, reduceIte, Nat.reduceEqDiff, Nat.reduceAdd, Nat.reduceLT, Nat.reduceLeDiff, A.okCells, A.cells, A.one, splice, crRows_len, Bool.false_or, Bool.true_or]
      all_goals (refine hK1 _ _ (Co.keep _ ?_) rfl; simp [x_upd, x_look])
    rintro _ rfl
    generalize (b0 || !decide ((t.rows.length : Int) = t.h)) = b1 at hK ⊢
    refine runC_cut 5 (· = U [(30, .bool (b1 || decide (t.row < 0)))]) rfl (by intro h; cases h) (fun K1 hK1 => ?_) ?_
    · cases b1 <;> simp only [U, H0, xs, xl, argS, reduceIte, Nat.reduceEqDiff, Nat.reduceAdd, Nat.reduceLT, Nat.reduceLeDiff, A.okCells, A.cells, A.one, splice, Bool.false_or, Bool.true_or]
      all_goals (refine hK1 _ _ (Co.keep _ ?_) rfl; simp [x_upd, x_look])
    rintro _ rfl
    generalize (b1 || decide (t.row < 0)) = b2 at hK ⊢
    refine runC_cut 7 (· = U [(37, .bool (b2 || decide (t.h ≤ t.row)))]) rfl (by intro h; cases h) (fun K1 hK1 => ?_) ?_
    · cases b2 <;> simp only [U, H0, xs, xl, argS, reduceIte, Nat.reduceEqDiff, Nat.reduceAdd, Nat.reduceLT, Nat.reduceLeDiff, A.okCells, A.cells, A.one, splice, Bool.false_or, Bool.true_or]
      all_goals (refine hK1 _ _ (Co.keep _ ?_) rfl; simp [x_upd, x_look])
    rintro _ rfl
    generalize (b2 || decide (t.h ≤ t.row)) = b3 at hK ⊢
    refine runC_cut 5 (· = U [(42, .bool (b3 || decide (t.col < 0)))]) rfl (by intro h; cases h) (fun K1 hK1 => ?_) ?_
    · cases b3 <;> simp only [U, H0, xs, xl, argS, reduceIte, Nat.reduceEqDiff, Nat.reduceAdd, Nat.reduceLT, Nat.reduceLeDiff, A.okCells, A.cells, A.one, splice, Bool.false_or, Bool.true_or]
      all_goals (refine hK1 _ _ (Co.keep _ ?_) rfl; simp [x_upd, x_look])
    rintro _ rfl
    generalize (b3 || decide (t.col < 0)) = b4 at hK ⊢
    refine runC_end rfl ?_
    cases b4 <;> simp only [U, H0, xs, xl, argS, reduceIte, Nat.reduceEqDiff, Nat.reduceAdd, Nat.reduceLT, Nat.reduceLeDiff, A.okCells, A.cells, A.one, splice, Bool.false_or, Bool.true_or]
    all_goals (refine hK _ _ (Co.keep _ ?_) rfl; simp [x_upd, x_look])
  rintro _ rfl
  refine W_cond rfl (fun hb => ?_) (fun hb => W_skip ?_)
  · refine W_seq (W_reg ?_)
    simp only [U, xs, xl, argS, reduceIte, Nat.reduceEqDiff, Nat.reduceAdd, Nat.reduceLT, Nat.reduceLeDiff, A.okCells, A.cells, A.one, splice]
    refine W_ret (.tmp ?_ rfl)
    simp only [x_upd, reduceIte, showT, hb, Bool.true_or, Bool.not_true]
  simp only [U, H0, xs, xl, argS, reduceIte, Nat.reduceEqDiff, Nat.reduceAdd, Nat.reduceLT, Nat.reduceLeDiff, A.okCells, A.cells, A.one, splice]
  refine W_seq (W_seq (W_reg ?_))
  simp only [xs, xl, argS, reduceIte, Nat.reduceEqDiff, Nat.reduceAdd, Nat.reduceLT, Nat.reduceLeDiff, A.okCells, A.cells, A.one, splice, crRows_len]
  refine W_block ?_
  let S : Nat → St := fun i => U [(50, .d (.sl eRw (crRows t.rows))), (51, .int t.rows.length), (52, .int i)]
  refine W_co (s' := S 0) (Co.keep _ (by simp [x_upd, x_look])) ?_
  refine W_loop (fun m s => ∃ i, i ≤ t.rows.length ∧ m = t.rows.length - i ∧ s = S i ∧ (t.rows.take i).any (badRow t.w) = false) ⟨0, Nat.zero_le _, rfl, rfl, by simp⟩ ?_
  rintro m s ⟨i, hi, rfl, rfl, hpre⟩
  refine W_seq (W_reg ?_)
  simp only [S, U, H0, xs, xl, argS, reduceIte, Nat.reduceEqDiff, Nat.reduceAdd, Nat.reduceLT, Nat.reduceLeDiff, A.okCells, A.cells, A.one, splice]
  refine W_seq (W_cond rfl (fun hc => W_skip ?_) (fun hc => W_exit ?_))
  · have hlt : i < t.rows.length := by simpa using hc
    have htl := ht _ (List.getElem_mem hlt)
    simp only [xs, xl, argS, reduceIte, Nat.reduceEqDiff, Nat.reduceAdd, Nat.reduceLT, Nat.reduceLeDiff, A.okCells, A.cells, A.one, splice]
    refine W_seq (W_block (W_seq (W_reg ?_)))
    simp only [xs, xl, argS, reduceIte, Nat.reduceEqDiff, Nat.reduceAdd, Nat.reduceLT, Nat.reduceLeDiff, A.okCells, A.cells, A.one, splice, crRows_get hlt, crRows_len]
    refine ⟨by omega, by omega, ?_⟩
    have hC := Hc _ htl
    have hNn := Hn t.rows[i]
    let V : Bool → St := fun b => U [(50, .d (.sl eRw (crRows t.rows))), (51, .int t.rows.length), (52, .int i), (69, .bool b)]
    refine W_cutX (· = V (badRow t.w t.rows[i])) rfl (fun K hK => ?_) ?_
    · have fin : ∀ sl b, sl 3 = .ptr 1 1 0 0 → sl 4 = .ptr 2 1 0 0 → sl 50 = .d (.sl eRw (crRows t.rows)) → sl 51 = .int t.rows.length → sl 52 = .int i → sl 69 = .bool b → b = badRow t.w t.rows[i] → K ⟨sl, H0⟩ := fun sl b a1 a2 a3 a4 a5 a6 a7 => by
        subst a7
        exact hK _ (V _) (Co.keep _ (by simp [a1, a2, a3, a4, a5, a6])) rfl
      cases e1 : decide ((t.rows[i].length : Int) = t.w)
      · simp only [xs, xl, argS, reduceIte, Nat.reduceEqDiff, Nat.reduceAdd, Nat.reduceLT, Nat.reduceLeDiff, A.okCells, A.cells, A.one, splice, ceRows_length, e1]
        exact fin _ true rfl rfl rfl rfl rfl rfl (by simp only [badRow, e1, Bool.not_false, Bool.true_or])
      · refine run_take 7 fun K1 hK1 => ?_
        simp only [xs, xl, argS, reduceIte, Nat.reduceEqDiff, Nat.reduceAdd, Nat.reduceLT, Nat.reduceLeDiff, A.okCells, A.cells, A.one, splice, ceRows_length, e1]
        refine hK1 _ ?_
        simp only [xs, xl, argS, reduceIte, Nat.reduceEqDiff, Nat.reduceAdd, Nat.reduceLT, Nat.reduceLeDiff, A.okCells, A.cells, A.one, splice]
        refine c_fn hC rfl ?_
        cases e2 : decide (checkR t.rows[i] = 0)
        · simp only [xs, xl, argS, reduceIte, Nat.reduceEqDiff, Nat.reduceAdd, Nat.reduceLT, Nat.reduceLeDiff, A.okCells, A.cells, A.one, splice, e2]
          exact fin _ true rfl rfl rfl rfl rfl rfl (by simp only [badRow, e1, e2, Bool.not_false, Bool.not_true, Bool.false_or, Bool.true_or])
        · simp only [xs, xl, argS, reduceIte, Nat.reduceEqDiff, Nat.reduceAdd, Nat.reduceLT, Nat.reduceLeDiff, A.okCells, A.cells, A.one, splice, e2]
          refine c_fn hNn rfl ?_
          simp only [xs, xl, argS, reduceIte, Nat.reduceEqDiff, Nat.reduceAdd, Nat.reduceLT, Nat.reduceLeDiff, A.okCells, A.cells, A.one, splice]
          exact fin _ _ rfl rfl rfl rfl rfl rfl (by simp only [badRow, e1, e2, Bool.not_true, Bool.false_or])
    rintro _ rfl
    refine W_cond rfl (fun hd => ?_) (fun hd => W_skip ?_)
    · refine W_seq (W_reg ?_)
      simp only [V, U, H0, xs, xl, argS, reduceIte, Nat.reduceEqDiff, Nat.reduceAdd, Nat.reduceLT, Nat.reduceLeDiff, A.okCells, A.cells, A.one, splice]
      refine W_ret ?_
      simp only [xs, xl, argS, reduceIte, Nat.reduceEqDiff, Nat.reduceAdd, Nat.reduceLT, Nat.reduceLeDiff, A.okCells, A.cells, A.one, splice]
      refine .tmp ?_ rfl
      have : t.rows.any (badRow t.w) = true := List.any_eq_true.2 ⟨t.rows[i], List.getElem_mem hlt, hd⟩
      simp only [x_upd, reduceIte, showT, this, Bool.or_true, Bool.not_true]
    · simp only [V, U, H0, xs, xl, argS, reduceIte, Nat.reduceEqDiff, Nat.reduceAdd, Nat.reduceLT, Nat.reduceLeDiff, A.okCells, A.cells, A.one, splice]
      refine W_reg ?_
      simp only [xs, xl, argS, reduceIte, Nat.reduceEqDiff, Nat.reduceAdd, Nat.reduceLT, Nat.reduceLeDiff, A.okCells, A.cells, A.one, splice]
      refine ⟨t.rows.length - (i + 1), S (i + 1), by omega, Co.keep _ ?_, i + 1, hlt, rfl, rfl, any_take_succ hlt hpre hd⟩
      simp [x_upd, x_look, i64_succ hlt hlr]
  · have hle : i = t.rows.length := by simp at hc; omega
    subst hle
    rw [List.take_length] at hpre
    simp only [xs, xl, argS, reduceIte, Nat.reduceEqDiff, Nat.reduceAdd, Nat.reduceLT, Nat.reduceLeDiff, A.okCells, A.cells, A.one, splice]
    refine W_seq (W_reg ?_)
    simp only [xs, xl, argS, reduceIte, Nat.reduceEqDiff, Nat.reduceAdd, Nat.reduceLT, Nat.reduceLeDiff, A.okCells, A.cells, A.one, splice]
    refine W_ret (.tmp ?_ rfl)
    simp only [x_upd, reduceIte, showT, hb, hpre, Bool.or_false, Bool.not_false]

end Go.Proofs.YtmagahmklndcgaaDoor.Nx

namespace Go.Proofs.YtmagahmklndcgaaDoor.Nx
set_option linter.unusedSimpArgs false
set_option linter.unusedVariables false
set_option linter.unnecessarySimpa false
open Go

variable {P : Program} {N : Nat} {Γ : Tabs}

theorem badA_eq (c : Ce) : (((((decide (c.fore < -1) || decide (255 < c.fore)) || decide (c.back < -1)) || decide (255 < c.back)) || decide (c.flags < 0)) || decide (255 < c.flags)) = badA c := by
  simp only [badA, badN, Bool.or_assoc]

theorem right_fn {f : FuncId} (H : FnIs P f N [.t 2] x_ref04_Right) (hN : 1 ≤ N) (c : Ce) : FnP Γ P f [attrA c] (.int (if badA c then 0 else 1)) := by
  refine .of_W H (by simpa using hN) ?_
  unfold x_ref04_Right
  refine W_seq (W_reg ?_)
  simp only [attrA, xs, xl, argS, reduceIte, Nat.reduceEqDiff, Nat.reduceAdd, Nat.reduceLT, Nat.reduceLeDiff, A.okCells, A.cells, A.one, splice]
  let H0 : Heap := [.cells ⟨3, 24⟩ [[.int c.fore, .int c.back, .int c.flags]]]
  let U : List (Nat × A) → St := fun l => ⟨look ((1, .ptr 0 1 0 0) :: l), H0⟩
  refine W_seq (W_cutC (· = U [(30, .bool (badA c))]) (fun K hK => ?_) ?_)
  · rw [← badA_eq] at hK
    refine runC_cut 4 (· = U [(6, .bool (decide (c.fore < -1)))]) rfl (by intro h; cases h) (fun K1 hK1 => ?_) ?_
    · simp only [U, H0, xs, xl, argS, reduceIte, Nat.reduceEqDiff, Nat.reduceAdd, Nat.reduceLT, Nat.reduceLeDiff, A.okCells, A.cells, A.one, splice]
      exact hK1 _ (U [(6, .bool (decide (c.fore < -1)))]) (Co.keep _ (by simp [x_upd, x_look])) rfl
    rintro _ rfl
    generalize decide (c.fore < -1) = b0 at hK ⊢
    refine runC_cut 5 (· = U [(11, .bool (b0 || decide (255 < c.fore)))]) rfl (by intro h; cases h) (fun K1 hK1 => ?_) ?_
    · cases b0 <;> simp only [U, H0, xs, xl, argS, reduceIte, Nat.reduceEqDiff, Nat.reduceAdd, Nat.reduceLT, Nat.reduceLeDiff, A.okCells, A.cells, A.one, splice, Bool.false_or, Bool.true_or]
      all_goals (refine hK1 _ _ (Co.keep _ ?_) rfl; simp [x_upd, x_look])
    rintro _ rfl
    generalize (b0 || decide (255 < c.fore)) = b1 at hK ⊢
    refine runC_cut 5 (· = U [(16, .bool (b1 || decide (c.back < -1)))]) rfl (by intro h; cases h) (fun K1 hK1 => ?_) ?_
    · cases b1 <;> simp only [U, H0, xs, xl, argS, reduceIte, Nat.reduceEqDiff, Nat.reduceAdd, Nat.reduceLT, Nat.reduceLeDiff, A.okCells, A.cells, A.one, splice, Bool.false_or, Bool.true_or]
      all_goals (refine hK1 _ _ (Co.keep _ ?_) rfl; simp [x_upd, x_look])
    rintro _ rfl
    generalize (b1 || decide (c.back < -1)) = b2 at hK ⊢
    refine runC_cut 5 (· = U [(21, .bool (b2 || decide (255 < c.back)))]) rfl (by intro h; cases h) (fun K1 hK1 => ?_) ?_
    · cases b2 <;> simp only [U, H0, xs, xl, argS, reduceIte, Nat.reduceEqDiff, Nat.reduceAdd, Nat.reduceLT, Nat.reduceLeDiff, A.okCells, A.cells, A.one, splice, Bool.false_or, Bool.true_or]
      all_goals (refine hK1 _ _ (Co.keep _ ?_) rfl; simp [x_upd, x_look])
    rintro _ rfl
    generalize (b2 || decide (255 < c.back)) = b3 at hK ⊢
    refine runC_cut 5 (· = U [(26, .bool (b3 || decide (c.flags < 0)))]) rfl (by intro h; cases h) (fun K1 hK1 => ?_) ?_
    · cases b3 <;> simp only [U, H0, xs, xl, argS, reduceIte, Nat.reduceEqDiff, Nat.reduceAdd, Nat.reduceLT, Nat.reduceLeDiff, A.okCells, A.cells, A.one, splice, Bool.false_or, Bool.true_or]
      all_goals (refine hK1 _ _ (Co.keep _ ?_) rfl; simp [x_upd, x_look])
    rintro _ rfl
    generalize (b3 || decide (c.flags < 0)) = b4 at hK ⊢
    refine runC_end rfl ?_
    cases b4 <;> simp only [U, H0, xs, xl, argS, reduceIte, Nat.reduceEqDiff, Nat.reduceAdd, Nat.reduceLT, Nat.reduceLeDiff, A.okCells, A.cells, A.one, splice, Bool.false_or, Bool.true_or]
    all_goals (refine hK _ _ (Co.keep _ ?_) rfl; simp [x_upd, x_look])
  rintro _ rfl
  refine W_cond rfl (fun hb => ?_) (fun hb => W_skip ?_)
  · refine W_seq (W_reg ?_)
    simp only [U, xs, xl, argS, reduceIte, Nat.reduceEqDiff, Nat.reduceAdd, Nat.reduceLT, Nat.reduceLeDiff, A.okCells, A.cells, A.one, splice]
    refine W_ret (.tmp ?_ rfl)
    simp only [x_upd, reduceIte, hb]
  · simp only [U, xs, xl, argS, reduceIte, Nat.reduceEqDiff, Nat.reduceAdd, Nat.reduceLT, Nat.reduceLeDiff, A.okCells, A.cells, A.one, splice]
    refine W_seq (W_reg ?_)
    simp only [xs, xl, argS, reduceIte, Nat.reduceEqDiff, Nat.reduceAdd, Nat.reduceLT, Nat.reduceLeDiff, A.okCells, A.cells, A.one, splice]
    refine W_ret (.tmp ?_ rfl)
    simp only [x_upd, reduceIte, hb, Bool.false_eq_true]

set_option maxHeartbeats 400000 in
theorem refShow_fn {f fs fc fr : FuncId} (H : FnIs P f N [.t 2] (x_ref15_Showable fs fc fr)) (hN : 1 ≤ N) (Hs : ∀ w h, FnP Γ P fs [.int w, .int h] (.bool (szOk w h))) (Hc : ∀ l : List Ce, (∀ c ∈ l, c.text.size ≤ 1000) → FnP Γ P fc [.d (.sl eCe (ceRows l))] (.int (checkR l)))
    (Hr : ∀ c : Ce, FnP Γ P fr [attrA c] (.int (if badA c then 0 else 1))) (t : Tm) (ht : ∀ l ∈ t.rows, ∀ c ∈ l, c.text.size ≤ 1000) : FnP Γ P f [tmA t] (.bool (showT t)) := by
  refine .of_W H (by simpa using hN) (W_aggsl 0 2 rfl rfl fun ⟨_, hroom, _⟩ => ?_)
  have hlr : t.rows.length ≤ room := le_of_mul (by rw [crRows_len] at hroom; exact hroom)
  unfold x_ref15_Showable
  refine W_seq (W_reg ?_)
  simp only [tmA, tmR, xs, xl, argS, reduceIte, Nat.reduceEqDiff, Nat.reduceAdd, Nat.reduceLT, Nat.reduceLeDiff, A.okCells, A.cells, A.one, splice, tm_len]
  refine W_seq (W_reg ?_)
  simp only [xs, xl, argS, reduceIte, Nat.reduceEqDiff, Nat.reduceAdd, Nat.reduceLT, Nat.reduceLeDiff, A.okCells, A.cells, A.one, splice]
  let H0 : Heap := [tmB t, .cells ⟨3, 40⟩ [[.int t.w, .int t.h, .d (.sl eRw (crRows t.rows))]]]
  let U : List (Nat × A) → St := fun l => ⟨look ((1, .ptr 0 1 0 0) :: (3, .ptr 1 1 0 0) :: l), H0⟩
  refine W_co (s' := U []) (Co.keep _ (by simp [x_upd, x_look])) ?_
  refine W_seq (W_cutC (· = U [(49, .bool (badT t))]) (fun K hK => ?_) ?_)
  · unfold badT at hK
    refine runC_cut 7 (· = U [(14, .bool (!szOk t.w t.h))]) rfl (by intro h; cases h) (fun K1 hK1 => ?_) ?_
    · simp only [U, H0, xs, xl, argS, reduceIte, Nat.reduceEqDiff, Nat.reduceAdd, Nat.reduceLT, Nat.reduceLeDiff, A.okCells, A.cells, A.one, splice]
      refine c_fn (Hs _ _) rfl ?_
      simp only [xs, xl, argS, reduceIte, Nat.reduceEqDiff, Nat.reduceAdd, Nat.reduceLT, Nat.reduceLeDiff, A.okCells, A.cells, A.one, splice]
      exact hK1 _ (U [(14, .bool (!szOk t.w t.h))]) (Co.keep _ (by simp [x_upd, x_look])) rfl
    rintro _ rfl
    generalize (!szOk t.w t.h) = b0 at hK ⊢
    refine runC_cut 8 (· = U [(22, .bool (b0 || !decide ((t.rows.length : Int) = t.h)))]) rfl (by intro h; cases h) (fun K1 hK1 => ?_) ?_
    · cases b0 <;> simp only [U, H0, xs, xl, argS, reduceIte, Nat.reduceEqDiff, Nat.reduceAdd, Nat.reduceLT, Nat.reduceLeDiff, A.okCells, A.cells, A.one, splice, crRows_len, Bool.false_or, Bool.true_or]
      all_goals (refine hK1 _ _ (Co.keep _ ?_) rfl; simp [x_upd, x_look])
    rintro _ rfl
    generalize (b0 || !decide ((t.rows.length : Int) = t.h)) = b1 at hK ⊢
    refine runC_cut 6 (· = U [(28, .bool (b1 || decide (t.row < 0)))]) rfl (by intro h; cases h) (fun K1 hK1 => ?_) ?_
    · cases b1 <;> simp only [U, H0, tmB, tmR, xs, xl, argS, reduceIte, Nat.reduceEqDiff, Nat.reduceAdd, Nat.reduceLT, Nat.reduceLeDiff, A.okCells, A.cells, A.one, splice, Bool.false_or, Bool.true_or]
      all_goals (refine hK1 _ _ (Co.keep _ ?_) rfl; simp [x_upd, x_look])
    rintro _ rfl
    generalize (b1 || decide (t.row < 0)) = b2 at hK ⊢
    refine runC_cut 8 (· = U [(36, .bool (b2 || decide (t.h ≤ t.row)))]) rfl (by intro h; cases h) (fun K1 hK1 => ?_) ?_
    · cases b2 <;> simp only [U, H0, tmB, tmR, xs, xl, argS, reduceIte, Nat.reduceEqDiff, Nat.reduceAdd, Nat.reduceLT, Nat.reduceLeDiff, A.okCells, A.cells, A.one, splice, Bool.false_or, Bool.true_or]
      all_goals (refine hK1 _ _ (Co.keep _ ?_) rfl; simp [x_upd, x_look])
    rintro _ rfl
    generalize (b2 || decide (t.h ≤ t.row)) = b3 at hK ⊢
    refine runC_cut 6 (· = U [(42, .bool (b3 || decide (t.col < 0)))]) rfl (by intro h; cases h) (fun K1 hK1 => ?_) ?_
    · cases b3 <;> simp only [U, H0, tmB, tmR, xs, xl, argS, reduceIte, Nat.reduceEqDiff, Nat.reduceAdd, Nat.reduceLT, Nat.reduceLeDiff, A.okCells, A.cells, A.one, splice, Bool.false_or, Bool.true_or]
      all_goals (refine hK1 _ _ (Co.keep _ ?_) rfl; simp [x_upd, x_look])
    rintro _ rfl
    generalize (b3 || decide (t.col < 0)) = b4 at hK ⊢
    refine runC_end rfl ?_
    cases b4 <;> simp only [U, H0, tmB, tmR, xs, xl, argS, reduceIte, Nat.reduceEqDiff, Nat.reduceAdd, Nat.reduceLT, Nat.reduceLeDiff, A.okCells, A.cells, A.one, splice, Bool.false_or, Bool.true_or]
    all_goals (refine hK _ _ (Co.keep _ ?_) rfl; simp [x_upd, x_look])
  rintro _ rfl
  refine W_cond rfl (fun hb => ?_) (fun hb => W_skip ?_)
  · refine W_seq (W_reg ?_)
    simp only [U, xs, xl, argS, reduceIte, Nat.reduceEqDiff, Nat.reduceAdd, Nat.reduceLT, Nat.reduceLeDiff, A.okCells, A.cells, A.one, splice]
    refine W_ret (.tmp ?_ rfl)
    simp only [x_upd, reduceIte, showT, hb, Bool.true_or, Bool.not_true]
  simp only [U, H0, xs, xl, argS, reduceIte, Nat.reduceEqDiff, Nat.reduceAdd, Nat.reduceLT, Nat.reduceLeDiff, A.okCells, A.cells, A.one, splice]
  refine W_seq (W_seq (W_reg ?_))
  simp only [xs, xl, argS, reduceIte, Nat.reduceEqDiff, Nat.reduceAdd, Nat.reduceLT, Nat.reduceLeDiff, A.okCells, A.cells, A.one, splice]
  refine W_block ?_
  let S : Nat → St := fun i => U [(4, .int i)]
  refine W_co (s' := S 0) (Co.keep _ (by simp [x_upd, x_look])) ?_
  refine W_loop (fun m s => ∃ i, i ≤ t.rows.length ∧ m = t.rows.length - i ∧ s = S i ∧ (t.rows.take i).any (badRow t.w) = false) ⟨0, Nat.zero_le _, rfl, rfl, by simp⟩ ?_
  rintro m s ⟨i, hi, rfl, rfl, hpre⟩
  refine W_seq (W_seq (W_reg ?_))
  simp only [S, U, H0, xs, xl, argS, reduceIte, Nat.reduceEqDiff, Nat.reduceAdd, Nat.reduceLT, Nat.reduceLeDiff, A.okCells, A.cells, A.one, splice, crRows_len]
  refine W_cond rfl (fun hc => W_skip ?_) (fun hc => W_exit ?_)
  · have hlt : i < t.rows.length := by simpa using hc
    have htl := ht _ (List.getElem_mem hlt)
    have k1 : (0 : Int) ≤ (i : Int) := by omega
    have k2 : ((i : Int) < (t.rows.length : Int)) := by omega
    have hC := Hc _ htl
    have hget : (crRows t.rows).getD i [] = [.sl eCe (ceRows t.rows[i])] := crRows_get hlt
    have hany : badRow t.w t.rows[i] = true → t.rows.any (badRow t.w) = true := fun h => List.any_eq_true.2 ⟨t.rows[i], List.getElem_mem hlt, h⟩
    have hsucc : badRow t.w t.rows[i] = false → (t.rows.take (i + 1)).any (badRow t.w) = false := any_take_succ hlt hpre
    generalize t.rows[i] = L at hC hget hany hsucc
    simp only [xs, xl, argS, reduceIte, Nat.reduceEqDiff, Nat.reduceAdd, Nat.reduceLT, Nat.reduceLeDiff, A.okCells, A.cells, A.one, splice]
    let V : Bool → St := fun b => U [(4, .int i), (74, .bool b)]
    refine W_seq (W_block (W_seq (W_cut (· = V (!decide ((L.length : Int) = t.w) || !decide (checkR L = 0))) (W_drw (by simp) ?_) ?_)))
    · have fin : ∀ sl b B, sl 1 = .ptr 0 1 0 0 → sl 3 = .ptr 1 1 0 0 → sl 4 = .int i → sl 74 = .bool b → b = B → ∃ s1, Co 0 ⟨sl, H0⟩ s1 ∧ s1 = V B := fun sl b B a1 a2 a3 a4 a5 => by
        subst a5
        exact ⟨V _, Co.keep _ (by simp [a1, a2, a3, a4]), rfl⟩
      cases e1 : (!decide ((L.length : Int) = t.w))
      · refine run_take 10 fun K1 hK1 => ?_
        simp only [Bool.true_eq_false, if_false, xs, xl, argS, reduceIte, Nat.reduceEqDiff, Nat.reduceAdd, Nat.reduceLT, Nat.reduceLeDiff, A.okCells, A.cells, A.one, splice, hget, crRows_len, k1, k2, ceRows_length, e1]
        refine hK1 _ ?_
        simp only [Bool.true_eq_false, if_false, xs, xl, argS, reduceIte, Nat.reduceEqDiff, Nat.reduceAdd, Nat.reduceLT, Nat.reduceLeDiff, A.okCells, A.cells, A.one, splice, hget, crRows_len, k1, k2]
        refine c_fn hC rfl ?_
        simp only [Bool.true_eq_false, if_false, xs, xl, argS, reduceIte, Nat.reduceEqDiff, Nat.reduceAdd, Nat.reduceLT, Nat.reduceLeDiff, A.okCells, A.cells, A.one, splice]
        exact fin _ _ _ rfl rfl rfl rfl (Bool.false_or _).symm
      · refine run_take 10 fun K1 hK1 => ?_
        simp only [Bool.true_eq_false, if_false, xs, xl, argS, reduceIte, Nat.reduceEqDiff, Nat.reduceAdd, Nat.reduceLT, Nat.reduceLeDiff, A.okCells, A.cells, A.one, splice, hget, crRows_len, k1, k2, ceRows_length, e1]
        refine hK1 _ ?_
        simp only [Bool.true_eq_false, if_false, xs, xl, argS, reduceIte, Nat.reduceEqDiff, Nat.reduceAdd, Nat.reduceLT, Nat.reduceLeDiff, A.okCells, A.cells, A.one, splice]
        exact fin _ true _ rfl rfl rfl rfl (Bool.true_or _).symm
    rintro _ rfl
    refine W_cond rfl (fun hd => ?_) (fun hd => W_skip ?_)
    · refine W_seq (W_reg ?_)
      simp only [V, U, H0, xs, xl, argS, reduceIte, Nat.reduceEqDiff, Nat.reduceAdd, Nat.reduceLT, Nat.reduceLeDiff, A.okCells, A.cells, A.one, splice]
      refine W_ret ?_
      simp only [xs, xl, argS, reduceIte, Nat.reduceEqDiff, Nat.reduceAdd, Nat.reduceLT, Nat.reduceLeDiff, A.okCells, A.cells, A.one, splice]
      refine .tmp ?_ rfl
      simp only [x_upd, reduceIte, showT, hany (by simp only [badRow, hd, Bool.true_or]), Bool.or_true, Bool.not_true]
    simp only [V, U, H0, xs, xl, argS, reduceIte, Nat.reduceEqDiff, Nat.reduceAdd, Nat.reduceLT, Nat.reduceLeDiff, A.okCells, A.cells, A.one, splice]
    refine W_seq (W_reg ?_)
    simp only [xs, xl, argS, reduceIte, Nat.reduceEqDiff, Nat.reduceAdd, Nat.reduceLT, Nat.reduceLeDiff, A.okCells, A.cells, A.one, splice]
    refine W_block ?_
    let Z : Nat → St := fun k => U [(4, .int i), (5, .int k)]
    refine W_co (s' := Z 0) (Co.keep _ (by simp [x_upd, x_look])) ?_
    refine W_loop (fun m s => ∃ k, k ≤ L.length ∧ m = L.length - k ∧ s = Z k ∧ (L.take k).any badA = false) ⟨0, Nat.zero_le _, rfl, rfl, by simp⟩ ?_
    rintro m s ⟨k, hk, rfl, rfl, hpk⟩
    refine W_seq (W_seq (W_reg ?_))
    simp only [Z, U, H0, xs, xl, argS, reduceIte, Nat.reduceEqDiff, Nat.reduceAdd, Nat.reduceLT, Nat.reduceLeDiff, A.okCells, A.cells, A.one, splice, hget, crRows_len, k1, k2, ceRows_length]
    refine W_cond rfl (fun hc => W_skip ?_) (fun hc => W_exit ?_)
    · have hltk : k < L.length := by simpa using hc
      have hR := Hr L[k]
      simp only [attrA] at hR
      simp only [xs, xl, argS, reduceIte, Nat.reduceEqDiff, Nat.reduceAdd, Nat.reduceLT, Nat.reduceLeDiff, A.okCells, A.cells, A.one, splice]
      refine W_seq (W_block (W_seq (W_reg ?_)))
      simp only [xs, xl, argS, reduceIte, Nat.reduceEqDiff, Nat.reduceAdd, Nat.reduceLT, Nat.reduceLeDiff, A.okCells, A.cells, A.one, splice, hget, crRows_len, k1, k2, ceRows_get hltk, ceRows_length, Ce.row]
      refine ⟨by omega, by omega, ?_⟩
      refine c_fn hR rfl ?_
      simp only [xs, xl, argS, reduceIte, Nat.reduceEqDiff, Nat.reduceAdd, Nat.reduceLT, Nat.reduceLeDiff, A.okCells, A.cells, A.one, splice]
      refine W_cond rfl (fun he => ?_) (fun he => W_skip ?_)
      · have hbad : badA L[k] = true := by
          cases hb : badA L[k] with
          | true => rfl
          | false => rw [hb] at he; simp at he
        refine W_seq (W_reg ?_)
        simp only [xs, xl, argS, reduceIte, Nat.reduceEqDiff, Nat.reduceAdd, Nat.reduceLT, Nat.reduceLeDiff, A.okCells, A.cells, A.one, splice]
        refine W_ret ?_
        simp only [xs, xl, argS, reduceIte, Nat.reduceEqDiff, Nat.reduceAdd, Nat.reduceLT, Nat.reduceLeDiff, A.okCells, A.cells, A.one, splice]
        refine .tmp ?_ rfl
        have : L.any badA = true := List.any_eq_true.2 ⟨L[k], List.getElem_mem hltk, hbad⟩
        simp only [x_upd, reduceIte, showT, hany (by simp only [badRow, this, Bool.or_true]), Bool.or_true, Bool.not_true]
      · have hok : badA L[k] = false := by
          cases hb : badA L[k] with
          | false => rfl
          | true => rw [hb] at he; simp at he
        simp only [xs, xl, argS, reduceIte, Nat.reduceEqDiff, Nat.reduceAdd, Nat.reduceLT, Nat.reduceLeDiff, A.okCells, A.cells, A.one, splice]
        refine W_reg ?_
        simp only [xs, xl, argS, reduceIte, Nat.reduceEqDiff, Nat.reduceAdd, Nat.reduceLT, Nat.reduceLeDiff, A.okCells, A.cells, A.one, splice]
        refine ⟨L.length - (k + 1), Z (k + 1), by omega, Co.keep _ ?_, k + 1, hltk, rfl, rfl, any_take_succ hltk hpk hok⟩
        have hL1 : (L.length : Int) = t.w := by
          simp only [Bool.or_eq_false_iff, Bool.not_eq_false', decide_eq_true_eq] at hd
          exact hd.1
        have hw1 := (szOk_le (show szOk t.w t.h = true by
          simp only [badT, Bool.or_eq_false_iff, Bool.not_eq_false'] at hb
          exact hb.1.1.1.1.1)).1
        have hLt : IntKind.i64.wrap ((k : Int) + 1) = ((k + 1 : Nat) : Int) := i64_of (by omega)
        simp [x_upd, x_look, hLt]
    · have hle : k = L.length := by simp at hc; omega
      subst hle
      rw [List.take_length] at hpk
      simp only [xs, xl, argS, reduceIte, Nat.reduceEqDiff, Nat.reduceAdd, Nat.reduceLT, Nat.reduceLeDiff, A.okCells, A.cells, A.one, splice]
      refine W_reg ?_
      simp only [xs, xl, argS, reduceIte, Nat.reduceEqDiff, Nat.reduceAdd, Nat.reduceLT, Nat.reduceLeDiff, A.okCells, A.cells, A.one, splice]
      refine ⟨t.rows.length - (i + 1), S (i + 1), by omega, Co.keep _ ?_, i + 1, hlt, rfl, rfl, hsucc (by simp only [badRow, hd, hpk, Bool.or_false])⟩
      simp [x_upd, x_look, i64_succ hlt hlr]
  · have hle : i = t.rows.length := by simp at hc; omega
    subst hle
    rw [List.take_length] at hpre
    simp only [xs, xl, argS, reduceIte, Nat.reduceEqDiff, Nat.reduceAdd, Nat.reduceLT, Nat.reduceLeDiff, A.okCells, A.cells, A.one, splice]
    refine W_seq (W_reg ?_)
    simp only [xs, xl, argS, reduceIte, Nat.reduceEqDiff, Nat.reduceAdd, Nat.reduceLT, Nat.reduceLeDiff, A.okCells, A.cells, A.one, splice]
    refine W_ret (.tmp ?_ rfl)
    simp only [x_upd, reduceIte, showT, hb, hpre, Bool.or_false, Bool.not_false]

end Go.Proofs.YtmagahmklndcgaaDoor.Nx


/- Grids: the law GridEdits. -/
import Derived.Test.YthpbagpnnokalaaDoorNxQ3
namespace Go.Proofs.YthpbagpnnokalaaDoor.Nx
set_option linter.unusedSimpArgs false
set_option linter.unusedVariables false
set_option linter.unnecessarySimpa false
open Go

variable {P : Program} {N : Nat} {Γ : Tabs}

set_option maxHeartbeats 1000000 in
theorem gridEditsLaw_fn {f fg fa fs fr fe fc fd : FuncId} (H : FnIs P f N [.t 10] (x_law08_GridEdits fg fa fs fr fe fc fd)) (hN : 5 ≤ N) (Hg : Great10Ok Γ P fg) (Ha : FnP Γ P fa [] (.bool true)) (Hs : SetOk Γ P fs) (Hr : SetOk Γ P fr) (He : SameGOk Γ P fe) (Hc : ClearOk Γ P fc) (Hd : ClearOk Γ P fd)
    (g : Gd) (row to : Int) (l : List Ce) (a b c : Int) : FnP Γ P f [gdA g, .int row, .int to, .d (.sl eCe (ceRows l)), atA a b c] (.bool true) := by
  refine .of_W H (by simpa using hN) ?_
  have hG := Hg g.rows
  have hG2 := Hg [l]
  unfold x_law08_GridEdits
  refine W_seq (W_reg ?_)
  simp only [gdA, gdR, atA, xs, xl, argS, reduceIte, Nat.reduceEqDiff, Nat.reduceAdd, Nat.reduceLT, Nat.reduceLeDiff, A.okCells, A.cells, A.one, splice]
  let U : Bool → St := fun x => ⟨look [(1, .int row), (2, .int to), (3, .d (.sl eCe (ceRows l))), (5, .ptr 0 1 0 0), (9, .ptr 1 1 0 0), (24, .bool x)], [gB g, atB a b c]⟩
  refine W_seq (W_cutC (· = U (great10 g.rows || great10 [l])) (fun K hK => ?_) ?_)
  · cases hg : great10 g.rows <;> simp only [hg, Bool.false_eq_true, if_true, if_false] at hG
    · refine runC_cut 7 (· = ⟨look [(1, .int row), (2, .int to), (3, .d (.sl eCe (ceRows l))), (5, .ptr 0 1 0 0), (9, .ptr 1 1 0 0), (19, .bool false), (21, .d (.sl eRw (crRows [l])))], [gB g, atB a b c]⟩) rfl (by intro h; cases h) (fun K1 hK1 => ?_) ?_
      · simp only [xs, xl, argS, reduceIte, Nat.reduceEqDiff, Nat.reduceAdd, Nat.reduceLT, Nat.reduceLeDiff, A.okCells, A.cells, A.one, splice]
        refine c_fn hG rfl ?_
        simp only [xs, xl, argS, reduceIte, Nat.reduceEqDiff, Nat.reduceAdd, Nat.reduceLT, Nat.reduceLeDiff, A.okCells, A.cells, A.one, splice, Int.lt_irrefl, decide_false, Nat.reduceMul]
        refine hK1 _ _ (Co.frz _ 2 ?_ (Nat.zero_le _) (by simp) ?_) rfl
        · intro p hp
          simp only [List.mem_cons, List.not_mem_nil, or_false] at hp
          rcases hp with rfl | rfl | rfl | rfl | rfl | rfl | rfl
          · exact .same rfl
          · exact .same rfl
          · exact .same rfl
          · exact .same rfl
          · exact .same rfl
          · exact .same rfl
          · have := frz_rows (k := 2) (id := 2) (off := 0) (len := 1) (full := true) (e := eRw) (rows := crRows [l]) (h := [gB g, atB a b c, crBk [l]]) (Nat.le_refl _) rfl (by simp [crRows])
            exact this
        · intro B hB
          simp only [List.take_succ_cons, List.take_zero, List.mem_cons, List.not_mem_nil, or_false] at hB
          rcases hB with rfl | rfl
          · exact under_gB
          · exact under_atB
      rintro _ rfl
      refine runC_end rfl ?_
      simp only [xs, xl, argS, reduceIte, Nat.reduceEqDiff, Nat.reduceAdd, Nat.reduceLT, Nat.reduceLeDiff, A.okCells, A.cells, A.one, splice]
      cases hg2 : great10 [l] <;> simp only [hg2, Bool.false_eq_true, if_true, if_false] at hG2
      · refine c_fn hG2 rfl ?_
        simp only [xs, xl, argS, reduceIte, Nat.reduceEqDiff, Nat.reduceAdd, Nat.reduceLT, Nat.reduceLeDiff, A.okCells, A.cells, A.one, splice, Int.lt_irrefl, decide_false]
        exact hK _ _ (Co.keep _ (by simp [x_upd, x_look, hg, hg2])) rfl
      · refine c_fn hG2 rfl ?_
        simp only [xs, xl, argS, reduceIte, Nat.reduceEqDiff, Nat.reduceAdd, Nat.reduceLT, Nat.reduceLeDiff, A.okCells, A.cells, A.one, splice, show decide ((0 : Int) < 1) = true from rfl]
        exact hK _ _ (Co.keep _ (by simp [x_upd, x_look, hg, hg2])) rfl
    · refine runC_end rfl ?_
      simp only [xs, xl, argS, reduceIte, Nat.reduceEqDiff, Nat.reduceAdd, Nat.reduceLT, Nat.reduceLeDiff, A.okCells, A.cells, A.one, splice]
      refine c_fn hG rfl ?_
      simp only [xs, xl, argS, reduceIte, Nat.reduceEqDiff, Nat.reduceAdd, Nat.reduceLT, Nat.reduceLeDiff, A.okCells, A.cells, A.one, splice, show decide ((0 : Int) < 1) = true from rfl]
      exact hK _ _ (Co.keep _ (by simp [x_upd, x_look, hg])) rfl
  rintro _ rfl
  refine W_cond rfl (fun hc => ?_) (fun hc => W_skip ?_)
  · refine W_seq (W_reg ?_)
    simp only [U, xs, xl, argS, reduceIte, Nat.reduceEqDiff, Nat.reduceAdd, Nat.reduceLT, Nat.reduceLeDiff, A.okCells, A.cells, A.one, splice]
    refine c_fn Ha rfl ?_
    simp only [xs, xl, argS, reduceIte, Nat.reduceEqDiff, Nat.reduceAdd, Nat.reduceLT, Nat.reduceLeDiff, A.okCells, A.cells, A.one, splice]
    refine W_ret (.tmp ?_ rfl)
    simp only [x_upd, reduceIte]
  have hc := hc
  rw [Bool.or_eq_false_iff] at hc
  obtain ⟨hg1, hg2⟩ := hc
  obtain ⟨hl1, hl2⟩ := (great10_small hg2).2 l (List.mem_cons_self ..)
  have S1 := Hs g (great10_small hg1).2 row l (by omega) hl2
  have S2 := Hr g (great10_small hg1).2 row l (by omega) hl2
  have C1 := Hc g (great10_small hg1).2 row to a b c
  have C2 := Hd g (great10_small hg1).2 row to a b c
  generalize setR g row l = q at S1 S2
  generalize clearR g row to b = q2 at C1 C2
  obtain ⟨x, e⟩ := q
  obtain ⟨x2, e2⟩ := q2
  have E1 := He x x
  have E2 := He x2 x2
  rw [decide_eq_true rfl] at E1 E2
  simp only [gdA, gdR, gdE, atA] at S1 S2 E1 C1 C2 E2
  simp only [U, xs, xl, argS, reduceIte, Nat.reduceEqDiff, Nat.reduceAdd, Nat.reduceLT, Nat.reduceLeDiff, A.okCells, A.cells, A.one, splice]
  refine W_seq (W_reg ?_)
  simp only [gdR, xs, xl, argS, reduceIte, Nat.reduceEqDiff, Nat.reduceAdd, Nat.reduceLT, Nat.reduceLeDiff, A.okCells, A.cells, A.one, splice]
  refine c_fn S1 (by simp [A.underL, A.under]) ?_
  simp only [xs, xl, argS, reduceIte, Nat.reduceEqDiff, Nat.reduceAdd, Nat.reduceLT, Nat.reduceLeDiff, A.okCells, A.cells, A.one, splice]
  refine W_seq (W_reg ?_)
  simp only [gdR, xs, xl, argS, reduceIte, Nat.reduceEqDiff, Nat.reduceAdd, Nat.reduceLT, Nat.reduceLeDiff, A.okCells, A.cells, A.one, splice]
  refine c_fn S2 (by simp [A.underL, A.under]) ?_
  simp only [xs, xl, argS, reduceIte, Nat.reduceEqDiff, Nat.reduceAdd, Nat.reduceLT, Nat.reduceLeDiff, A.okCells, A.cells, A.one, splice]
  refine W_seq (W_seq (W_reg ?_))
  simp only [xs, xl, argS, reduceIte, Nat.reduceEqDiff, Nat.reduceAdd, Nat.reduceLT, Nat.reduceLeDiff, A.okCells, A.cells, A.one, splice]
  refine c_fn E1 rfl ?_
  simp only [xs, xl, argS, reduceIte, Nat.reduceEqDiff, Nat.reduceAdd, Nat.reduceLT, Nat.reduceLeDiff, A.okCells, A.cells, A.one, splice, decide_true, Bool.not_true]
  refine W_cond rfl (fun hc => by simp at hc) (fun _ => W_skip ?_)
  simp only [xs, xl, argS, reduceIte, Nat.reduceEqDiff, Nat.reduceAdd, Nat.reduceLT, Nat.reduceLeDiff, A.okCells, A.cells, A.one, splice]
  refine W_seq (W_reg ?_)
  simp only [gdR, xs, xl, argS, reduceIte, Nat.reduceEqDiff, Nat.reduceAdd, Nat.reduceLT, Nat.reduceLeDiff, A.okCells, A.cells, A.one, splice]
  refine c_fn C1 (by simp [A.underL, A.under]) ?_
  simp only [xs, xl, argS, reduceIte, Nat.reduceEqDiff, Nat.reduceAdd, Nat.reduceLT, Nat.reduceLeDiff, A.okCells, A.cells, A.one, splice]
  refine W_seq (W_reg ?_)
  simp only [gdR, xs, xl, argS, reduceIte, Nat.reduceEqDiff, Nat.reduceAdd, Nat.reduceLT, Nat.reduceLeDiff, A.okCells, A.cells, A.one, splice]
  refine c_fn C2 (by simp [A.underL, A.under]) ?_
  simp only [xs, xl, argS, reduceIte, Nat.reduceEqDiff, Nat.reduceAdd, Nat.reduceLT, Nat.reduceLeDiff, A.okCells, A.cells, A.one, splice]
  refine W_seq (W_reg ?_)
  simp only [xs, xl, argS, reduceIte, Nat.reduceEqDiff, Nat.reduceAdd, Nat.reduceLT, Nat.reduceLeDiff, A.okCells, A.cells, A.one, splice]
  refine c_fn E2 rfl ?_
  simp only [xs, xl, argS, reduceIte, Nat.reduceEqDiff, Nat.reduceAdd, Nat.reduceLT, Nat.reduceLeDiff, A.okCells, A.cells, A.one, splice, decide_true]
  refine c_fn Ha rfl ?_
  simp only [xs, xl, argS, reduceIte, Nat.reduceEqDiff, Nat.reduceAdd, Nat.reduceLT, Nat.reduceLeDiff, A.okCells, A.cells, A.one, splice]
  refine W_ret (.tmp ?_ rfl)
  simp only [x_upd, reduceIte]

end Go.Proofs.YthpbagpnnokalaaDoor.Nx

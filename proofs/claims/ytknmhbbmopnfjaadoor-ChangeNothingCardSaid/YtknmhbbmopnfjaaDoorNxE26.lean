/- Layer 19: the law ChangeNothing. -/
import Derived.Test.YtknmhbbmopnfjaaDoorNxE21
import Derived.Test.YtknmhbbmopnfjaaDoorNxDL
namespace Go.Proofs.YtknmhbbmopnfjaaDoor.Nx
set_option linter.unusedSimpArgs false
set_option linter.unusedVariables false
set_option linter.unnecessarySimpa false
open Go

variable {P : Program} {N : Nat} {Γ : Tabs}

theorem rows_few (v : Vw) (l : List Cg) : (applyV v l).1.rows.length ≤ 1000 := by
  have he := applyV_ends v l
  by_cases h : (applyV v l).2.2 = 0
  · obtain ⟨_, _, h3⟩ := he.1 h
    have e := (viewC_zero.1 h3).1
    have := e.len
    have := szOk_iff.1 e.sz
    omega
  · rw [(he.2 h).1]; simp [zeroV]
abbrev RowsOk (Γ : Tabs) (P : Program) (f : FuncId) : Prop := ∀ (v : Vw) (l : List Cg), RunOk v l → (∀ c ∈ l, CgOk c) → FnP Γ P f [vwA v, cgsA l] (insA (rowsV v l))

set_option maxHeartbeats 1000000 in
theorem nothingLaw19_fn {f fg fa fp fi fv fe fr : FuncId} (H : FnIs P f N [.t 2] (x_law19_ChangeNothing fg fa fp fi fv fe fr)) (hN : 1 ≤ N) (Hg : ∀ v : Vw, FnP Γ P fg [vwA v] (.bool (greatV v))) (Ha : FnP Γ P fa [] (.bool true)) (Hp : ApOk Γ P fp) (Hi : InvOk Γ P fi) (Hv : VchkOk Γ P fv) (He : SameOk Γ P fe) (Hr : RowsOk Γ P fr) (v : Vw) :
    FnP Γ P f [vwA v] (.bool true) := by
  refine .of_W H (by simpa using hN) ?_
  have hg := Hg v
  unfold x_law19_ChangeNothing
  simp only [vwA, Vw.ds, List.map_cons, List.map_nil] at hg ⊢
  refine W_seq (W_reg ?_); simp only [xq, reduceIte, Nat.reduceEqDiff, Nat.reduceAdd, Nat.reduceLT, Nat.reduceLeDiff]
  refine W_seq ?_
  refine W_seq (W_reg ?_); simp only [xq, reduceIte, Nat.reduceEqDiff, Nat.reduceAdd, Nat.reduceLT, Nat.reduceLeDiff]
  refine c_fn (hg) rfl ?_; simp only [xq, reduceIte, Nat.reduceEqDiff, Nat.reduceAdd, Nat.reduceLT, Nat.reduceLeDiff]
  refine W_cond rfl (fun hc => ?_) (fun hc => W_skip ?_)
  · refine W_seq (W_reg ?_); simp only [xq, reduceIte, Nat.reduceEqDiff, Nat.reduceAdd, Nat.reduceLT, Nat.reduceLeDiff]
    refine c_fn (Ha) rfl ?_; simp only [xq, reduceIte, Nat.reduceEqDiff, Nat.reduceAdd, Nat.reduceLT, Nat.reduceLeDiff]
    refine W_ret (.tmp ?_ rfl)
    simp only [x_upd, reduceIte]
  obtain ⟨h1, h2⟩ := greatV_sm hc
  have hn : ∀ c ∈ ([] : List Cg), CgOk c := by simp
  have hro : RunOk v [] := h1.mono (by omega)
  have hp := Hp v [] hro hn
  have hi := Hi v [] hro hn fun h => (applyV_sm h1 (by simp) h).mono (by simp)
  have hp0 := hp.weak (.cons (weak_same (x := vwA v) rfl) (.cons weak_cgs .nil))
  have hi0 := hi.weak (.cons (weak_same (x := vwA v) rfl) (.cons weak_cgs .nil))
  have hr0 := (Hr v [] hro hn).weak (.cons (weak_same (x := vwA v) rfl) (.cons weak_cgs .nil))
  have hv := Hv v (h1.mono (by omega))
  by_cases hk : viewC v = 0
  · rw [inv_nil hk] at hi0
    rw [apply_nil hk] at hp0 hp
    rw [rowsV, apply_nil hk, if_pos rfl, rowsDiff_same] at hr0
    rw [hk] at hv
    have hE := He v v
    rw [decide_eq_true rfl] at hE
    simp only [apA, iv2, vwA, Vw.ds, List.map_cons, List.map_nil] at hp hp0 hi0 hr0 hv hE
    simp only [xq, reduceIte, Nat.reduceEqDiff, Nat.reduceAdd, Nat.reduceLT, Nat.reduceLeDiff]
    refine W_seq (W_reg ?_); simp only [xq, reduceIte, Nat.reduceEqDiff, Nat.reduceAdd, Nat.reduceLT, Nat.reduceLeDiff]
    refine c_fn (hp0) rfl ?_; simp only [xq, reduceIte, Nat.reduceEqDiff, Nat.reduceAdd, Nat.reduceLT, Nat.reduceLeDiff]
    refine W_seq (W_reg ?_); simp only [xq, reduceIte, Nat.reduceEqDiff, Nat.reduceAdd, Nat.reduceLT, Nat.reduceLeDiff, Vw.ds]
    refine c_fn (hi0) rfl ?_; simp only [xq, reduceIte, Nat.reduceEqDiff, Nat.reduceAdd, Nat.reduceLT, Nat.reduceLeDiff]
    refine W_seq ?_
    refine W_seq (W_reg ?_); simp only [xq, reduceIte, Nat.reduceEqDiff, Nat.reduceAdd, Nat.reduceLT, Nat.reduceLeDiff, Vw.ds]
    refine c_fn (hv) rfl ?_; simp only [xq, reduceIte, Nat.reduceEqDiff, Nat.reduceAdd, Nat.reduceLT, Nat.reduceLeDiff, (by decide : decide ((0 : Int) = 0) = true)]
    refine W_cond rfl (fun hd => by cases hd) (fun hd => W_skip ?_)
    simp only [xq, reduceIte, Nat.reduceEqDiff, Nat.reduceAdd, Nat.reduceLT, Nat.reduceLeDiff]
    refine W_seq (W_reg ?_); simp only [xq, reduceIte, Nat.reduceEqDiff, Nat.reduceAdd, Nat.reduceLT, Nat.reduceLeDiff, Vw.ds]
    refine c_fn (hp) rfl ?_; simp only [xq, reduceIte, Nat.reduceEqDiff, Nat.reduceAdd, Nat.reduceLT, Nat.reduceLeDiff]
    refine W_sreg fun K hK => ?_
    refine run_take 14 fun K1 hK1 => ?_
    simp only [xq, reduceIte, Nat.reduceEqDiff, Nat.reduceAdd, Nat.reduceLT, Nat.reduceLeDiff, (by decide : decide ((0 : Int) = 0) = true)]
    refine hK1 _ ?_
    clear hK1 K1
    refine run_take 10 fun K1 hK1 => ?_
    simp only [xq, reduceIte, Nat.reduceEqDiff, Nat.reduceAdd, Nat.reduceLT, Nat.reduceLeDiff, (by decide : decide ((0 : Int) = 0) = true), Vw.ds]
    refine c_fn (hE) rfl ?_; simp only [xq, reduceIte, Nat.reduceEqDiff, Nat.reduceAdd, Nat.reduceLT, Nat.reduceLeDiff, decide_true, Vw.ds]
    refine c_fn (hE) rfl ?_; simp only [xq, reduceIte, Nat.reduceEqDiff, Nat.reduceAdd, Nat.reduceLT, Nat.reduceLeDiff, decide_true, Vw.ds]
    refine hK1 _ ?_
    clear hK1 K1
    simp only [xq, reduceIte, Nat.reduceEqDiff, Nat.reduceAdd, Nat.reduceLT, Nat.reduceLeDiff, Vw.ds]
    refine c_fn (hr0) rfl ?_; simp only [xq, reduceIte, Nat.reduceEqDiff, Nat.reduceAdd, Nat.reduceLT, Nat.reduceLeDiff, inRows_len, List.length_nil, Int.natCast_zero, decide_true]
    refine c_fn (Ha) rfl ?_; simp only [xq, reduceIte, Nat.reduceEqDiff, Nat.reduceAdd, Nat.reduceLT, Nat.reduceLeDiff]
    refine hK _ ?_
    refine W_ret (.tmp ?_ rfl)
    simp only [x_upd, reduceIte]
  · have e1 : applyV v [] = (zeroV, 0, 1) := by rw [applyV, if_neg hk]
    have e2 : invV v [] = ([], 1) := by rw [invV, e1, if_neg (by decide)]
    rw [e1] at hp0
    rw [e2] at hi0
    simp only [apA, iv2, vwA, Vw.ds, List.map_cons, List.map_nil] at hp0 hi0 hv
    simp only [xq, reduceIte, Nat.reduceEqDiff, Nat.reduceAdd, Nat.reduceLT, Nat.reduceLeDiff]
    refine W_seq (W_reg ?_); simp only [xq, reduceIte, Nat.reduceEqDiff, Nat.reduceAdd, Nat.reduceLT, Nat.reduceLeDiff]
    refine c_fn (hp0) rfl ?_; simp only [xq, reduceIte, Nat.reduceEqDiff, Nat.reduceAdd, Nat.reduceLT, Nat.reduceLeDiff]
    refine W_seq (W_reg ?_); simp only [xq, reduceIte, Nat.reduceEqDiff, Nat.reduceAdd, Nat.reduceLT, Nat.reduceLeDiff, Vw.ds]
    refine c_fn (hi0) rfl ?_; simp only [xq, reduceIte, Nat.reduceEqDiff, Nat.reduceAdd, Nat.reduceLT, Nat.reduceLeDiff]
    refine W_seq ?_
    refine W_seq (W_reg ?_); simp only [xq, reduceIte, Nat.reduceEqDiff, Nat.reduceAdd, Nat.reduceLT, Nat.reduceLeDiff, Vw.ds]
    refine c_fn (hv) rfl ?_; simp only [xq, reduceIte, Nat.reduceEqDiff, Nat.reduceAdd, Nat.reduceLT, Nat.reduceLeDiff, decide_eq_false hk]
    refine W_cond rfl (fun hd => ?_) (fun hd => by cases hd)
    refine W_seq (W_reg ?_); simp only [xq, reduceIte, Nat.reduceEqDiff, Nat.reduceAdd, Nat.reduceLT, Nat.reduceLeDiff, (by decide : decide ((1 : Int) = 1) = true), (by decide : decide ((0 : Int) = 0) = true)]
    refine c_fn (Ha) rfl ?_; simp only [xq, reduceIte, Nat.reduceEqDiff, Nat.reduceAdd, Nat.reduceLT, Nat.reduceLeDiff]
    refine W_ret (.tmp ?_ rfl)
    simp only [x_upd, reduceIte]

end Go.Proofs.YtknmhbbmopnfjaaDoor.Nx

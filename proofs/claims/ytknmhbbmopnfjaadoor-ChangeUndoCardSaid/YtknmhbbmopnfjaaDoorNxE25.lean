/- Layer 19: the laws ChangeUndo, ChangeNothing. -/
import Derived.Test.YtknmhbbmopnfjaaDoorNxE21
import Derived.Test.YtknmhbbmopnfjaaDoorNxDL
namespace Go.Proofs.YtknmhbbmopnfjaaDoor.Nx
set_option linter.unusedSimpArgs false
set_option linter.unusedVariables false
set_option linter.unnecessarySimpa false
open Go

variable {P : Program} {N : Nat} {Γ : Tabs}

set_option maxHeartbeats 1000000 in
theorem undoLaw19_fn {f fg fa fp fi fe : FuncId} (H : FnIs P f N [.t 4] (x_law19_ChangeUndo fg fa fp fi fe)) (hN : 2 ≤ N) (Hg : GrtOk Γ P fg) (Ha : FnP Γ P fa [] (.bool true)) (Hp : ApOk Γ P fp) (Hi : InvOk Γ P fi) (He : SameOk Γ P fe) (v : Vw) (l : List Cg) :
    FnP Γ P f [vwA v, cgsA l] (.bool true) := by
  refine .of_W H (by simpa using hN) ?_
  have hg := Hg v l
  unfold x_law19_ChangeUndo
  simp only [vwA, Vw.ds, List.map_cons, List.map_nil] at hg ⊢
  refine W_seq (W_reg ?_); simp only [xq, reduceIte, Nat.reduceEqDiff, Nat.reduceAdd, Nat.reduceLT, Nat.reduceLeDiff]
  refine W_seq ?_
  refine W_seq (W_reg ?_); simp only [xq, reduceIte, Nat.reduceEqDiff, Nat.reduceAdd, Nat.reduceLT, Nat.reduceLeDiff]
  refine c_fn (hg) rfl ?_; simp only [xq, reduceIte, Nat.reduceEqDiff, Nat.reduceAdd, Nat.reduceLT, Nat.reduceLeDiff]
  refine W_cond rfl (fun hc => ?_) (fun hc => W_skip ?_)
  · refine W_seq (W_reg ?_); simp only [xq, reduceIte, Nat.reduceEqDiff, Nat.reduceAdd, Nat.reduceLT, Nat.reduceLeDiff]
    refine c_fn (Ha) rfl ?_; simp only [xq, reduceIte, Nat.reduceEqDiff, Nat.reduceAdd, Nat.reduceLT, Nat.reduceLeDiff]
    refine W_ret (.tmp ?_ rfl)
    simp only [x_upd, reduceIte]
  obtain ⟨h1, h2, h3, h4, h5, h6⟩ := small_of hc
  have hok : ∀ c ∈ l, CgOk c := fun c hc => (h4 c hc).ok
  have hp := Hp v l h5 hok
  have hi := Hi v l h5 hok fun h => (h6 h).mono (by omega)
  have he := applyV_ends v l
  obtain ⟨w, i, e, hap⟩ : ∃ w i e, applyV v l = (w, i, e) := ⟨_, _, _, rfl⟩
  obtain ⟨m, e2, hin⟩ : ∃ m e2, invV v l = (m, e2) := ⟨_, _, rfl⟩
  rw [hap] at hp he h6
  rw [hin] at hi
  simp only [apA, iv2, vwA, Vw.ds, List.map_cons, List.map_nil] at hp hi
  simp only at he h6
  simp only [xq, reduceIte, Nat.reduceEqDiff, Nat.reduceAdd, Nat.reduceLT, Nat.reduceLeDiff]
  refine W_seq (W_reg ?_); simp only [xq, reduceIte, Nat.reduceEqDiff, Nat.reduceAdd, Nat.reduceLT, Nat.reduceLeDiff]
  refine c_fn (hp) rfl ?_; simp only [xq, reduceIte, Nat.reduceEqDiff, Nat.reduceAdd, Nat.reduceLT, Nat.reduceLeDiff]
  refine W_seq (W_reg ?_); simp only [xq, reduceIte, Nat.reduceEqDiff, Nat.reduceAdd, Nat.reduceLT, Nat.reduceLeDiff, Vw.ds]
  refine c_fn (hi) rfl ?_; simp only [xq, reduceIte, Nat.reduceEqDiff, Nat.reduceAdd, Nat.reduceLT, Nat.reduceLeDiff]
  refine W_seq ?_
  refine W_seq (W_reg ?_); simp only [xq, reduceIte, Nat.reduceEqDiff, Nat.reduceAdd, Nat.reduceLT, Nat.reduceLeDiff]
  rw [invV, hap] at hin
  simp only at hin
  refine W_cond rfl (fun hk => ?_) (fun hk => W_skip ?_)
  · have hk : ¬ e = 0 := by simpa using hk
    rw [if_neg hk] at hin
    injection hin with a1 a2
    subst a1 a2
    refine W_seq (W_reg ?_); simp only [xq, reduceIte, Nat.reduceEqDiff, Nat.reduceAdd, Nat.reduceLT, Nat.reduceLeDiff, decide_true, cgRows_len, List.length_nil, (by decide : decide (((0 : Nat) : Int) = 0) = true)]
    refine c_fn (Ha) rfl ?_; simp only [xq, reduceIte, Nat.reduceEqDiff, Nat.reduceAdd, Nat.reduceLT, Nat.reduceLeDiff]
    refine W_ret (.tmp ?_ rfl)
    simp only [x_upd, reduceIte]
  · have hk : e = 0 := by simpa using hk
    subst hk
    rw [if_pos rfl] at hin
    injection hin with a1 a2
    subst a1 a2
    obtain ⟨q1, q2, q3⟩ := he.1 rfl
    have hp2 := Hp w (invL w v) (runOk_inv q3 q1 (h6 rfl) (h1.mono (by omega))) (inv_ok h1)
    rw [apply_inv q3 q1] at hp2
    have hE := He v v
    rw [decide_eq_true rfl] at hE
    simp only [apA, vwA, Vw.ds, List.map_cons, List.map_nil] at hp2 hE
    simp only [xq, reduceIte, Nat.reduceEqDiff, Nat.reduceAdd, Nat.reduceLT, Nat.reduceLeDiff]
    refine W_seq (W_reg ?_); simp only [xq, reduceIte, Nat.reduceEqDiff, Nat.reduceAdd, Nat.reduceLT, Nat.reduceLeDiff, Vw.ds]
    refine c_fn (hp2) rfl ?_; simp only [xq, reduceIte, Nat.reduceEqDiff, Nat.reduceAdd, Nat.reduceLT, Nat.reduceLeDiff]
    refine W_seq (W_reg ?_); simp only [xq, reduceIte, Nat.reduceEqDiff, Nat.reduceAdd, Nat.reduceLT, Nat.reduceLeDiff, decide_true, Vw.ds]
    refine c_fn (hE) rfl ?_; simp only [xq, reduceIte, Nat.reduceEqDiff, Nat.reduceAdd, Nat.reduceLT, Nat.reduceLeDiff]
    refine c_fn (Ha) rfl ?_; simp only [xq, reduceIte, Nat.reduceEqDiff, Nat.reduceAdd, Nat.reduceLT, Nat.reduceLeDiff]
    refine W_ret (.tmp ?_ rfl)
    simp only [x_upd, reduceIte]

end Go.Proofs.YtknmhbbmopnfjaaDoor.Nx

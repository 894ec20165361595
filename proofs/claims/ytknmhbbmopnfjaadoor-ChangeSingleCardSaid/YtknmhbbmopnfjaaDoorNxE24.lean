/- Layer 19: the laws ChangeSingle, ChangeUndo, ChangeNothing. -/
import Derived.Test.YtknmhbbmopnfjaaDoorNxE21
import Derived.Test.YtknmhbbmopnfjaaDoorNxDL
namespace Go.Proofs.YtknmhbbmopnfjaaDoor.Nx
set_option linter.unusedSimpArgs false
set_option linter.unusedVariables false
set_option linter.unnecessarySimpa false
open Go

variable {P : Program} {N : Nat} {Γ : Tabs}

theorem under_vwB {v : Vw} {k : Nat} : HB.under k (vwB v) := by
  intro r hr x hx
  simp only [List.mem_cons, List.not_mem_nil, or_false] at hr
  subst hr
  obtain ⟨d, _, rfl⟩ := List.mem_map.1 hx; rfl

/-- A list of changes that was built becomes data. -/
theorem co_lit {sl : Nat → A} {h : Heap} {cs : List Cg} (hu : ∀ B ∈ h, HB.under h.length B) (l : List (Nat × A)) (hl : ∀ p ∈ l, (sl p.1 = p.2 ∧ p.2.under h.length = true) ∨ (sl p.1 = .ref h.length cs.length 0 cs.length true ∧ p.2 = cgsA cs)) : Co 0 ⟨sl, h ++ [cgLB cs]⟩ ⟨look l, h⟩ := by
  have := Co.frz (n0 := 0) (s := ⟨sl, h ++ [cgLB cs]⟩) l h.length (fun p hp => ?_) (Nat.zero_le _) (by simp) (by simpa using hu)
  · simpa using this
  · simp only
    rcases hl p hp with ⟨h1, h2⟩ | ⟨h1, h2⟩
    · rw [h1]; exact .same h2
    · rw [h1, h2]
      have := frzD_rows (k := h.length) (id := h.length) (off := 0) (len := cs.length) (full := true) (e := eCg) (h := h ++ [cgLB cs]) (rows := cgRows cs) (Nat.le_refl _) hp_g0 (by rw [cgRows_len]; omega)
      rw [cgRows_len, List.drop_zero, List.take_of_length_le (by rw [cgRows_len]; exact Nat.le_refl _)] at this
      exact .d this

set_option maxHeartbeats 1000000 in
theorem singleLaw19_fn {f fg fa fc fp : FuncId} (H : FnIs P f N [.t 4] (x_law19_ChangeSingle fg fa fc fp)) (hN : 2 ≤ N) (Hg : GrtOk Γ P fg) (Ha : FnP Γ P fa [] (.bool true)) (Hc : ChkOk Γ P fc) (Hp : ApOk Γ P fp) (v : Vw) (c : Cg) :
    FnP Γ P f [vwA v, cgA c] (.bool true) := by
  refine .of_W H (by simpa using hN) ?_
  have hg := Hg v [c]
  have hu : ∀ B ∈ ([vwB v, cgB c] : Heap), HB.under ([vwB v, cgB c] : Heap).length B := by
    intro B hB
    simp only [List.mem_cons, List.not_mem_nil, or_false] at hB
    rcases hB with rfl | rfl
    · exact under_vwB
    · exact under_cgB
  unfold x_law19_ChangeSingle
  simp only [vwA, Vw.ds, cgA, Cg.ds, List.map_cons, List.map_nil] at hg ⊢
  refine W_seq (W_reg ?_); simp only [xq, reduceIte, Nat.reduceEqDiff, Nat.reduceAdd, Nat.reduceLT, Nat.reduceLeDiff]
  refine W_seq ?_
  refine W_sregC fun K hK => ?_
  refine runC_cut 3 (· = ⟨look [(2, .ptr 0 1 0 0), (3, .ptr 1 1 0 0), (9, vwA v), (11, cgsA [c])], [vwB v, cgB c]⟩) rfl (by intro h; cases h) (fun K1 hK1 => ?_) ?_
  · simp only [xq, reduceIte, Nat.reduceEqDiff, Nat.reduceAdd, Nat.reduceLT, Nat.reduceLeDiff]
    exact hK1 _ _ (co_lit (h := [vwB v, cgB c]) (cs := [c]) hu _ (by
      intro p hp
      simp only [List.mem_cons, List.not_mem_nil, or_false] at hp
      rcases hp with rfl | rfl | rfl | rfl
      · exact .inl ⟨rfl, rfl⟩
      · exact .inl ⟨rfl, rfl⟩
      · exact .inl ⟨rfl, rfl⟩
      · exact .inr ⟨rfl, rfl⟩)) rfl
  rintro _ rfl
  refine runC_end rfl ?_
  simp only [xq, reduceIte, Nat.reduceEqDiff, Nat.reduceAdd, Nat.reduceLT, Nat.reduceLeDiff, vwA, Vw.ds, List.map_cons, List.map_nil]
  refine c_fn (hg) rfl ?_; simp only [xq, reduceIte, Nat.reduceEqDiff, Nat.reduceAdd, Nat.reduceLT, Nat.reduceLeDiff]
  refine hK _ ?_
  refine W_cond rfl (fun hc => ?_) (fun hc => W_skip ?_)
  · refine W_seq (W_reg ?_); simp only [xq, reduceIte, Nat.reduceEqDiff, Nat.reduceAdd, Nat.reduceLT, Nat.reduceLeDiff]
    refine c_fn (Ha) rfl ?_; simp only [xq, reduceIte, Nat.reduceEqDiff, Nat.reduceAdd, Nat.reduceLT, Nat.reduceLeDiff]
    refine W_ret (.tmp ?_ rfl)
    simp only [x_upd, reduceIte]
  obtain ⟨h1, h2, h3, h4, h5, h6⟩ := small_of hc
  have hcs : CgSm c := h4 c (List.mem_singleton.2 rfl)
  have hp := Hp v [c] h5 fun c hc => (h4 c hc).ok
  have hC := Hc v c (h1.mono (by omega)) hcs.ok.txt
  obtain ⟨w, i, e, hap⟩ : ∃ w i e, applyV v [c] = (w, i, e) := ⟨_, _, _, rfl⟩
  rw [hap] at hp
  simp only [apA, vwA, Vw.ds, cgA, Cg.ds, List.map_cons, List.map_nil] at hp hC
  clear hK K
  simp only [xq, reduceIte, Nat.reduceEqDiff, Nat.reduceAdd, Nat.reduceLT, Nat.reduceLeDiff]
  refine W_seq (W_reg ?_); simp only [xq, reduceIte, Nat.reduceEqDiff, Nat.reduceAdd, Nat.reduceLT, Nat.reduceLeDiff, Vw.ds, Cg.ds]
  refine c_fn (hC) rfl ?_; simp only [xq, reduceIte, Nat.reduceEqDiff, Nat.reduceAdd, Nat.reduceLT, Nat.reduceLeDiff]
  refine W_sregC fun K hK => ?_
  refine runC_cut 3 (· = ⟨look [(2, .ptr 0 1 0 0), (3, .ptr 1 1 0 0), (5, .int (chkV v c)), (18, vwA v), (20, cgsA [c])], [vwB v, cgB c]⟩) rfl (by intro h; cases h) (fun K1 hK1 => ?_) ?_
  · simp only [xq, reduceIte, Nat.reduceEqDiff, Nat.reduceAdd, Nat.reduceLT, Nat.reduceLeDiff, vwB, Vw.ds, cgB, Cg.ds]
    exact hK1 _ _ (co_lit (h := [vwB v, cgB c]) (cs := [c]) hu _ (by
      intro p hp
      simp only [List.mem_cons, List.not_mem_nil, or_false] at hp
      rcases hp with rfl | rfl | rfl | rfl | rfl
      · exact .inl ⟨rfl, rfl⟩
      · exact .inl ⟨rfl, rfl⟩
      · exact .inl ⟨rfl, rfl⟩
      · exact .inl ⟨rfl, rfl⟩
      · exact .inr ⟨rfl, rfl⟩)) rfl
  rintro _ rfl
  refine runC_end rfl ?_
  simp only [xq, reduceIte, Nat.reduceEqDiff, Nat.reduceAdd, Nat.reduceLT, Nat.reduceLeDiff, vwA, Vw.ds, List.map_cons, List.map_nil]
  refine c_fn (hp) rfl ?_; simp only [xq, reduceIte, Nat.reduceEqDiff, Nat.reduceAdd, Nat.reduceLT, Nat.reduceLeDiff]
  refine hK _ ?_
  clear hK K
  refine W_seq ?_
  refine W_seq (W_reg ?_); simp only [xq, reduceIte, Nat.reduceEqDiff, Nat.reduceAdd, Nat.reduceLT, Nat.reduceLeDiff]
  refine W_cond rfl (fun hk => ?_) (fun hk => W_skip ?_)
  · have hk : ¬ chkV v c = 0 := by simpa using hk
    have hq : i = 0 ∧ e = chkV v c := by
      unfold chkV at hk ⊢
      unfold applyV at hap
      split at hk
      · rename_i hv
        rw [if_pos hv] at hap
        rw [if_pos hv]
        rw [runV, if_neg hk] at hap
        injection hap with a1 a2
        injection a2 with a2 a3
        exact ⟨a2.symm, a3.symm⟩
      · rename_i hv
        rw [if_neg hv] at hap
        rw [if_neg hv]
        injection hap with a1 a2
        injection a2 with a2 a3
        exact ⟨a2.symm, a3.symm⟩
    obtain ⟨rfl, rfl⟩ := hq
    refine W_seq (W_reg ?_); simp only [xq, reduceIte, Nat.reduceEqDiff, Nat.reduceAdd, Nat.reduceLT, Nat.reduceLeDiff, decide_true]
    refine c_fn (Ha) rfl ?_; simp only [xq, reduceIte, Nat.reduceEqDiff, Nat.reduceAdd, Nat.reduceLT, Nat.reduceLeDiff]
    refine W_ret (.tmp ?_ rfl)
    simp only [x_upd, reduceIte]
  · have hk : chkV v c = 0 := by simpa using hk
    have hvc : viewC v = 0 ∧ chgC v c = 0 := by
      unfold chkV at hk
      split at hk
      · rename_i hv; exact ⟨hv, hk⟩
      · cases hk
    rw [apply_one hvc.1 hvc.2] at hap
    simp only [xq, reduceIte, Nat.reduceEqDiff, Nat.reduceAdd, Nat.reduceLT, Nat.reduceLeDiff]
    split at hap
    · rename_i hwide
      injection hap with a1 a2
      injection a2 with a2 a3
      subst a2 a3
      have hk3 : c.kind = 3 := Decidable.byContradiction fun h => by
        rw [wide_step hvc.1 hvc.2 h] at hwide; cases hwide
      refine W_seq (W_reg ?_); simp only [xq, reduceIte, Nat.reduceEqDiff, Nat.reduceAdd, Nat.reduceLT, Nat.reduceLeDiff, (by decide : decide ((12 : Int) = 0) = false), (by decide : decide ((12 : Int) = 12) = true), (by decide : decide ((1 : Int) = 1) = true), undefA, Bool.true_eq_false, Cg.ds, hk3, (by decide : decide ((3 : Int) = 3) = true)]
      refine c_fn (Ha) rfl ?_; simp only [xq, reduceIte, Nat.reduceEqDiff, Nat.reduceAdd, Nat.reduceLT, Nat.reduceLeDiff]
      refine W_ret (.tmp ?_ rfl)
      simp only [x_upd, reduceIte]
    · injection hap with a1 a2
      injection a2 with a2 a3
      subst a2 a3
      refine W_seq (W_reg ?_); simp only [xq, reduceIte, Nat.reduceEqDiff, Nat.reduceAdd, Nat.reduceLT, Nat.reduceLeDiff, (by decide : decide ((0 : Int) = 0) = true), undefA, Bool.true_eq_false]
      refine c_fn (Ha) rfl ?_; simp only [xq, reduceIte, Nat.reduceEqDiff, Nat.reduceAdd, Nat.reduceLT, Nat.reduceLeDiff]
      refine W_ret (.tmp ?_ rfl)
      simp only [x_upd, reduceIte]

end Go.Proofs.YtknmhbbmopnfjaaDoor.Nx

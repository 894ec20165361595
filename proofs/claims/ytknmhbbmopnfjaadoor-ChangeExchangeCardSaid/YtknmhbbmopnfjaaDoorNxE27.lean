/- Layer 19: the law ChangeExchange. -/
import Derived.Test.YtknmhbbmopnfjaaDoorNxE24
import Derived.Test.YtknmhbbmopnfjaaDoorNxDL
namespace Go.Proofs.YtknmhbbmopnfjaaDoor.Nx
set_option linter.unusedSimpArgs false
set_option linter.unusedVariables false
set_option linter.unnecessarySimpa false
open Go

variable {P : Program} {N : Nat} {Γ : Tabs}

theorem chk_zero {v : Vw} {c : Cg} (h : chkV v c = 0) : viewC v = 0 ∧ chgC v c = 0 := by
  unfold chkV at h
  split at h
  · rename_i hv; exact ⟨hv, h⟩
  · cases h

/-- Two splices of different rows, one after the other. -/
theorem exchange_eq {v : Vw} {a b : Cg} (ha : chkV v a = 0) (hb : chkV v b = 0) (ka : a.kind = 3) (kb : b.kind = 3) (hne : a.row ≠ b.row) : applyV v [a, b] = applyV v [b, a] := by
  obtain ⟨hv, ha⟩ := chk_zero ha
  obtain ⟨_, hb⟩ := chk_zero hb
  have rowge : ∀ {c : Cg}, chgC v c = 0 → c.kind = 3 → 0 ≤ c.row := fun {c} hc hk => by
    obtain ⟨_, _, h3, _⟩ := chgC_zero hc
    rw [rangeG, if_neg (by omega), if_neg (by omega), if_pos hk] at h3
    simp only [Bool.and_eq_true, btw_iff] at h3
    omega
  have h1 := splice_swap (v := v) ka kb (rowge ha ka) (rowge hb kb) hne
  have h2 := splice_swap (v := v) kb ka (rowge hb kb) (rowge ha ka) (Ne.symm hne)
  have L : runV v 0 [a, b] = if wideV (stepV (stepV v a) b) then (zeroV, 0 + 1 + 1, 12) else (stepV (stepV v a) b, 0, 0) := by rw [runV, if_pos ha, runV, if_pos (by rw [h1.2]; exact hb), runV]
  have R : runV v 0 [b, a] = if wideV (stepV (stepV v b) a) then (zeroV, 0 + 1 + 1, 12) else (stepV (stepV v b) a, 0, 0) := by rw [runV, if_pos hb, runV, if_pos (by rw [h2.2]; exact ha), runV]
  rw [applyV, if_pos hv, applyV, if_pos hv, L, R, h1.1]

set_option maxHeartbeats 2000000 in
theorem exchangeLaw19_fn {f fg fc fa fp fe : FuncId} (H : FnIs P f N [.t 6] (x_law19_ChangeExchange fg fc fa fp fe)) (hN : 3 ≤ N) (Hg : GrtOk Γ P fg) (Hc : ChkOk Γ P fc) (Ha : FnP Γ P fa [] (.bool true)) (Hp : ApOk Γ P fp) (He : SameOk Γ P fe) (v : Vw) (a b : Cg) :
    FnP Γ P f [vwA v, cgA a, cgA b] (.bool true) := by
  refine .of_W H (by simpa using hN) ?_
  have hg := Hg v [a, b]
  have hu : ∀ B ∈ ([vwB v, cgB a, cgB b] : Heap), HB.under ([vwB v, cgB a, cgB b] : Heap).length B := by
    intro B hB
    simp only [List.mem_cons, List.not_mem_nil, or_false] at hB
    rcases hB with rfl | rfl | rfl
    · exact under_vwB
    · exact under_cgB
    · exact under_cgB
  unfold x_law19_ChangeExchange
  simp only [vwA, Vw.ds, cgA, Cg.ds, List.map_cons, List.map_nil] at hg ⊢
  refine W_seq (W_reg ?_); simp only [xq, reduceIte, Nat.reduceEqDiff, Nat.reduceAdd, Nat.reduceLT, Nat.reduceLeDiff]
  let S : Nat → Bool → St := fun n z => ⟨look [(3, .ptr 0 1 0 0), (4, .ptr 1 1 0 0), (5, .ptr 2 1 0 0), (n, .bool z)], [vwB v, cgB a, cgB b]⟩
  obtain ⟨g0, e0⟩ : ∃ g, g = (greatV v || greatL [a, b]) := ⟨_, rfl⟩
  obtain ⟨g1, e1⟩ : ∃ g, g = (g0 || !decide (a.kind = 3)) := ⟨_, rfl⟩
  obtain ⟨g2, e2⟩ : ∃ g, g = (g1 || !decide (b.kind = 3)) := ⟨_, rfl⟩
  obtain ⟨g3, e3⟩ : ∃ g, g = (g2 || decide (a.row = b.row)) := ⟨_, rfl⟩
  obtain ⟨g4, e4⟩ : ∃ g, g = (g3 || !decide (chkV v a = 0)) := ⟨_, rfl⟩
  obtain ⟨g5, e5⟩ : ∃ g, g = (g4 || !decide (chkV v b = 0)) := ⟨_, rfl⟩
  have i1 : g1 = false → g0 = false := fun h => by rw [e1] at h; simp at h; exact h.1
  have i2 : g2 = false → g1 = false := fun h => by rw [e2] at h; simp at h; exact h.1
  have i3 : g3 = false → g2 = false := fun h => by rw [e3] at h; simp at h; exact h.1
  have i4 : g4 = false → g3 = false := fun h => by rw [e4] at h; simp at h; exact h.1
  have i5 : g5 = false → g4 = false := fun h => by rw [e5] at h; simp at h; exact h.1
  rw [← e0] at hg
  have sm : g0 = false → Sm v 140 ∧ v.rows.length ≤ 12 ∧ [a, b].length ≤ 30 ∧ (∀ c ∈ [a, b], CgSm c) ∧ RunOk v [a, b] ∧ ((applyV v [a, b]).2.2 = 0 → Sm (applyV v [a, b]).1 20000) := fun h => small_of (e0.symm.trans h)
  refine W_seq (W_cut (· = S 46 g5) ?_ ?_)
  · refine W_regCK fun K hK => ?_
    refine runC_cut 4 (· = ⟨look [(3, .ptr 0 1 0 0), (4, .ptr 1 1 0 0), (5, .ptr 2 1 0 0), (13, vwA v), (16, cgsA [a, b])], [vwB v, cgB a, cgB b]⟩) rfl (by intro h; cases h) (fun K1 hK1 => ?_) ?_
    · simp only [xq, reduceIte, Nat.reduceEqDiff, Nat.reduceAdd, Nat.reduceLT, Nat.reduceLeDiff]
      exact hK1 _ _ (co_lit (h := [vwB v, cgB a, cgB b]) (cs := [a, b]) hu _ (by
        intro p hp
        simp only [List.mem_cons, List.not_mem_nil, or_false] at hp
        rcases hp with rfl | rfl | rfl | rfl | rfl
        · exact .inl ⟨rfl, rfl⟩
        · exact .inl ⟨rfl, rfl⟩
        · exact .inl ⟨rfl, rfl⟩
        · exact .inl ⟨rfl, rfl⟩
        · exact .inr ⟨rfl, rfl⟩)) rfl
    rintro _ rfl
    refine runC_cut 2 (· = S 18 g0) rfl (by intro h; cases h) (fun K1 hK1 => ?_) ?_
    · simp only [xq, reduceIte, Nat.reduceEqDiff, Nat.reduceAdd, Nat.reduceLT, Nat.reduceLeDiff, vwA, Vw.ds, List.map_cons, List.map_nil]
      refine c_fn (hg) rfl ?_; simp only [xq, reduceIte, Nat.reduceEqDiff, Nat.reduceAdd, Nat.reduceLT, Nat.reduceLeDiff]
      exact hK1 _ _ (Co.keep _ (by simp [x_upd, x_look])) rfl
    rintro _ rfl
    refine runC_cut 5 (· = S 23 g1) rfl (by intro h; cases h) (fun K1 hK1 => ?_) ?_
    · rw [e1] at hK1
      cases g0 <;> simp only [S, cgB, Cg.ds, xq, reduceIte, Nat.reduceEqDiff, Nat.reduceAdd, Nat.reduceLT, Nat.reduceLeDiff, Bool.true_or, Bool.false_or, undefA, Bool.true_eq_false]
      all_goals (refine hK1 _ _ (Co.keep _ ?_) rfl; simp [x_upd, x_look])
    rintro _ rfl
    refine runC_cut 5 (· = S 28 g2) rfl (by intro h; cases h) (fun K1 hK1 => ?_) ?_
    · rw [e2] at hK1
      cases g1 <;> simp only [S, cgB, Cg.ds, xq, reduceIte, Nat.reduceEqDiff, Nat.reduceAdd, Nat.reduceLT, Nat.reduceLeDiff, Bool.true_or, Bool.false_or, undefA, Bool.true_eq_false]
      all_goals (refine hK1 _ _ (Co.keep _ ?_) rfl; simp [x_upd, x_look])
    rintro _ rfl
    refine runC_cut 7 (· = S 35 g3) rfl (by intro h; cases h) (fun K1 hK1 => ?_) ?_
    · rw [e3] at hK1
      cases g2 <;> simp only [S, cgB, Cg.ds, xq, reduceIte, Nat.reduceEqDiff, Nat.reduceAdd, Nat.reduceLT, Nat.reduceLeDiff, Bool.true_or, Bool.false_or, undefA, Bool.true_eq_false]
      all_goals (refine hK1 _ _ (Co.keep _ ?_) rfl; simp [x_upd, x_look])
    rintro _ rfl
    refine runC_cut 6 (· = S 41 g4) rfl (by intro h; cases h) (fun K1 hK1 => ?_) ?_
    · rw [e4] at hK1
      cases h3 : g3
      · rw [h3] at hK1
        obtain ⟨h1, _, _, h4, _⟩ := sm (i1 (i2 (i3 h3)))
        have hC := Hc v a (h1.mono (by omega)) (h4 a (by simp)).ok.txt
        simp only [vwA, Vw.ds, cgA, Cg.ds, List.map_cons, List.map_nil] at hC
        simp only [S, vwB, Vw.ds, cgB, Cg.ds, xq, reduceIte, Nat.reduceEqDiff, Nat.reduceAdd, Nat.reduceLT, Nat.reduceLeDiff, Bool.false_or]
        refine c_fn (hC) rfl ?_; simp only [xq, reduceIte, Nat.reduceEqDiff, Nat.reduceAdd, Nat.reduceLT, Nat.reduceLeDiff]
        refine hK1 _ _ (Co.keep _ ?_) rfl; simp [x_upd, x_look]
      · rw [h3] at hK1
        simp only [S, cgB, Cg.ds, xq, reduceIte, Nat.reduceEqDiff, Nat.reduceAdd, Nat.reduceLT, Nat.reduceLeDiff, Bool.true_or, undefA, Bool.true_eq_false]
        refine hK1 _ _ (Co.keep _ ?_) rfl; simp [x_upd, x_look]
    rintro _ rfl
    refine runC_end rfl ?_
    rw [e5] at hK
    cases h4' : g4
    · rw [h4'] at hK
      obtain ⟨h1, _, _, h4, _⟩ := sm (i1 (i2 (i3 (i4 h4'))))
      have hC := Hc v b (h1.mono (by omega)) (h4 b (by simp)).ok.txt
      simp only [vwA, Vw.ds, cgA, Cg.ds, List.map_cons, List.map_nil] at hC
      simp only [S, vwB, Vw.ds, cgB, Cg.ds, xq, reduceIte, Nat.reduceEqDiff, Nat.reduceAdd, Nat.reduceLT, Nat.reduceLeDiff, Bool.false_or]
      refine c_fn (hC) rfl ?_; simp only [xq, reduceIte, Nat.reduceEqDiff, Nat.reduceAdd, Nat.reduceLT, Nat.reduceLeDiff]
      refine hK _ ⟨rfl, _, Co.keep _ ?_, rfl⟩; simp [x_upd, x_look]
    · rw [h4'] at hK
      simp only [S, cgB, Cg.ds, xq, reduceIte, Nat.reduceEqDiff, Nat.reduceAdd, Nat.reduceLT, Nat.reduceLeDiff, Bool.true_or, undefA, Bool.true_eq_false]
      refine hK _ ⟨rfl, _, Co.keep _ ?_, rfl⟩; simp [x_upd, x_look]
  rintro _ rfl
  refine W_cond rfl (fun hd => ?_) (fun hd => W_skip ?_)
  · refine W_seq (W_reg ?_); simp only [xq, reduceIte, Nat.reduceEqDiff, Nat.reduceAdd, Nat.reduceLT, Nat.reduceLeDiff, S]
    refine c_fn (Ha) rfl ?_; simp only [xq, reduceIte, Nat.reduceEqDiff, Nat.reduceAdd, Nat.reduceLT, Nat.reduceLeDiff]
    refine W_ret (.tmp ?_ rfl)
    simp only [x_upd, reduceIte]
  obtain ⟨h1, h2, h3, h4, h5, h6⟩ := sm (i1 (i2 (i3 (i4 (i5 hd)))))
  have k1 : a.kind = 3 := by have := i2 (i3 (i4 (i5 hd))); rw [e1] at this; simp at this; exact this.2
  have k2 : b.kind = 3 := by have := i3 (i4 (i5 hd)); rw [e2] at this; simp at this; exact this.2
  have k3 : a.row ≠ b.row := by have := i4 (i5 hd); rw [e3] at this; simp at this; exact this.2
  have k4 : chkV v a = 0 := by have := i5 hd; rw [e4] at this; simp at this; exact this.2
  have k5 : chkV v b = 0 := by have := hd; rw [e5] at this; simp at this; exact this.2
  have heq := exchange_eq k4 k5 k1 k2 k3
  clear e0 e1 e2 e3 e4 e5 i1 i2 i3 i4 i5 sm hg
  have hok : ∀ c ∈ [a, b], CgOk c := fun c hc => (h4 c hc).ok
  have hp := Hp v [a, b] h5 hok
  have hok2 : ∀ c ∈ [b, a], CgSm c := fun c hc => h4 c (by simp at hc ⊢; exact hc.symm)
  have hp2 := Hp v [b, a] (runOk_of h1 hok2 (by simp)) fun c hc => (hok2 c hc).ok
  rw [← heq] at hp2
  obtain ⟨w, i, e, hap⟩ : ∃ w i e, applyV v [a, b] = (w, i, e) := ⟨_, _, _, rfl⟩
  have hE := He w w
  rw [decide_eq_true rfl] at hE
  rw [hap] at hp hp2
  simp only [apA, vwA, Vw.ds, List.map_cons, List.map_nil] at hp hp2 hE
  simp only [xq, reduceIte, Nat.reduceEqDiff, Nat.reduceAdd, Nat.reduceLT, Nat.reduceLeDiff]
  have under4 : ∀ B ∈ ([vwB v, cgB a, cgB b, vwB w] : Heap), HB.under ([vwB v, cgB a, cgB b, vwB w] : Heap).length B := by
    intro B hB
    simp only [List.mem_cons, List.not_mem_nil, or_false] at hB
    rcases hB with rfl | rfl | rfl | rfl
    · exact under_vwB
    · exact under_cgB
    · exact under_cgB
    · exact under_vwB
  refine W_sregC fun K hK => ?_
  refine runC_cut 4 (· = ⟨look [(3, .ptr 0 1 0 0), (4, .ptr 1 1 0 0), (5, .ptr 2 1 0 0), (49, vwA v), (52, cgsA [a, b])], [vwB v, cgB a, cgB b]⟩) rfl (by intro h; cases h) (fun K1 hK1 => ?_) ?_
  · simp only [S, xq, reduceIte, Nat.reduceEqDiff, Nat.reduceAdd, Nat.reduceLT, Nat.reduceLeDiff, vwB, Vw.ds, cgB, Cg.ds]
    exact hK1 _ _ (co_lit (h := [vwB v, cgB a, cgB b]) (cs := [a, b]) hu _ (by
      intro p hp
      simp only [List.mem_cons, List.not_mem_nil, or_false] at hp
      rcases hp with rfl | rfl | rfl | rfl | rfl
      · exact .inl ⟨rfl, rfl⟩
      · exact .inl ⟨rfl, rfl⟩
      · exact .inl ⟨rfl, rfl⟩
      · exact .inl ⟨rfl, rfl⟩
      · exact .inr ⟨rfl, rfl⟩)) rfl
  rintro _ rfl
  refine runC_end rfl ?_
  simp only [xq, reduceIte, Nat.reduceEqDiff, Nat.reduceAdd, Nat.reduceLT, Nat.reduceLeDiff, vwA, Vw.ds, List.map_cons, List.map_nil]
  refine c_fn (hp) rfl ?_; simp only [xq, reduceIte, Nat.reduceEqDiff, Nat.reduceAdd, Nat.reduceLT, Nat.reduceLeDiff]
  refine hK _ ?_
  clear hK K
  refine W_sregC fun K hK => ?_
  refine runC_cut 4 (· = ⟨look [(3, .ptr 0 1 0 0), (4, .ptr 1 1 0 0), (5, .ptr 2 1 0 0), (7, .ptr 3 1 0 0), (8, .int i), (9, .int e), (58, vwA v), (61, cgsA [b, a])], [vwB v, cgB a, cgB b, vwB w]⟩) rfl (by intro h; cases h) (fun K1 hK1 => ?_) ?_
  · simp only [xq, reduceIte, Nat.reduceEqDiff, Nat.reduceAdd, Nat.reduceLT, Nat.reduceLeDiff, vwB, Vw.ds, cgB, Cg.ds]
    exact hK1 _ _ (co_lit (h := [vwB v, cgB a, cgB b, vwB w]) (cs := [b, a]) under4 _ (by
      intro p hp
      simp only [List.mem_cons, List.not_mem_nil, or_false] at hp
      rcases hp with rfl | rfl | rfl | rfl | rfl | rfl | rfl | rfl
      · exact .inl ⟨rfl, rfl⟩
      · exact .inl ⟨rfl, rfl⟩
      · exact .inl ⟨rfl, rfl⟩
      · exact .inl ⟨rfl, rfl⟩
      · exact .inl ⟨rfl, rfl⟩
      · exact .inl ⟨rfl, rfl⟩
      · exact .inl ⟨rfl, rfl⟩
      · exact .inr ⟨rfl, rfl⟩)) rfl
  rintro _ rfl
  refine runC_end rfl ?_
  simp only [xq, reduceIte, Nat.reduceEqDiff, Nat.reduceAdd, Nat.reduceLT, Nat.reduceLeDiff, vwA, Vw.ds, List.map_cons, List.map_nil]
  refine c_fn (hp2) rfl ?_; simp only [xq, reduceIte, Nat.reduceEqDiff, Nat.reduceAdd, Nat.reduceLT, Nat.reduceLeDiff]
  refine hK _ ?_
  clear hK K
  refine W_seq (W_reg ?_); simp only [xq, reduceIte, Nat.reduceEqDiff, Nat.reduceAdd, Nat.reduceLT, Nat.reduceLeDiff, decide_true, Vw.ds]
  refine c_fn (hE) rfl ?_; simp only [xq, reduceIte, Nat.reduceEqDiff, Nat.reduceAdd, Nat.reduceLT, Nat.reduceLeDiff]
  refine c_fn (Ha) rfl ?_; simp only [xq, reduceIte, Nat.reduceEqDiff, Nat.reduceAdd, Nat.reduceLT, Nat.reduceLeDiff]
  refine W_ret (.tmp ?_ rfl)
  simp only [x_upd, reduceIte]

end Go.Proofs.YtknmhbbmopnfjaaDoor.Nx

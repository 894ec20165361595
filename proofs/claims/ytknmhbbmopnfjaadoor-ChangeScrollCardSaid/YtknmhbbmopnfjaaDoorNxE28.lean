/- Layer 19: the law ChangeScroll. -/
import Derived.Test.YtknmhbbmopnfjaaDoorNxE27
import Derived.Test.YtknmhbbmopnfjaaDoorNxDL
namespace Go.Proofs.YtknmhbbmopnfjaaDoor.Nx
set_option linter.unusedSimpArgs false
set_option linter.unusedVariables false
set_option linter.unnecessarySimpa false
open Go

variable {P : Program} {N : Nat} {Γ : Tabs}

abbrev RowSameOk (Γ : Tabs) (P : Program) (f : FuncId) : Prop := ∀ a b : List Gl, FnP Γ P f [.d (.sl eGl (glRows a)), .d (.sl eGl (glRows b))] (.bool (decide (a = b)))

set_option maxHeartbeats 2000000 in
theorem scrollLaw19_fn {f fg fc fa fp fs : FuncId} (H : FnIs P f N [.t 8] (x_law19_ChangeScroll fg fc fa fp fs)) (hN : 4 ≤ N) (Hg : ∀ v : Vw, FnP Γ P fg [vwA v] (.bool (greatV v))) (Hc : ChkOk Γ P fc) (Ha : FnP Γ P fa [] (.bool true)) (Hp : ApOk Γ P fp) (Hs : RowSameOk Γ P fs) (v : Vw) (top bottom b : Int) :
    FnP Γ P f [vwA v, .int top, .int bottom, .int b] (.bool true) := by
  refine .of_W H (by simpa using hN) ?_
  have hg := Hg v
  let c : Cg := ⟨2, top, 0, b, bottom, []⟩
  obtain ⟨g1, e1⟩ : ∃ g, g = (greatV v || !decide (chkV v c = 0)) := ⟨_, rfl⟩
  unfold x_law19_ChangeScroll
  simp only [vwA, Vw.ds, List.map_cons, List.map_nil] at hg ⊢
  refine W_seq (W_reg ?_); simp only [xq, reduceIte, Nat.reduceEqDiff, Nat.reduceAdd, Nat.reduceLT, Nat.reduceLeDiff]
  refine W_seq (W_reg ?_); simp only [xq, reduceIte, Nat.reduceEqDiff, Nat.reduceAdd, Nat.reduceLT, Nat.reduceLeDiff]
  refine W_co (Co.viewLast (h := [vwB v]) (r2 := c.ds.map .d) [(1, .int top), (2, .int bottom), (3, .int b), (4, .ptr 0 1 0 0), (9, .ptr 1 1 0 0)] (by simp [x_upd, x_look]) rfl ?_) ?_
  · intro j y hj
    rcases j with _ | _ | _ | _ | _ | _ | j
    · cases hj; exact .inl rfl
    · cases hj; exact .inl rfl
    · cases hj; exact .inl rfl
    · cases hj; exact .inl rfl
    · cases hj; exact .inl rfl
    · cases hj; exact .inr ⟨.nil _, _, rfl⟩
    · simp [c, Cg.ds] at hj
  refine W_seq (W_cut (· = ⟨look [(1, .int top), (2, .int bottom), (3, .int b), (4, .ptr 0 1 0 0), (9, .ptr 1 1 0 0), (26, .bool g1)], [vwB v, cgB c]⟩) (W_reg ?_) ?_)
  · rw [e1]
    simp only [xq, reduceIte, Nat.reduceEqDiff, Nat.reduceAdd, Nat.reduceLT, Nat.reduceLeDiff, Vw.ds, List.map_cons, List.map_nil]
    refine c_fn (hg) rfl ?_; simp only [xq, reduceIte, Nat.reduceEqDiff, Nat.reduceAdd, Nat.reduceLT, Nat.reduceLeDiff, undefA, Bool.true_eq_false]
    cases hgr : greatV v
    · have hC := Hc v c ((greatV_sm hgr).1.mono (by omega)) (by simp [c])
      simp only [vwA, Vw.ds, cgA, Cg.ds, List.map_cons, List.map_nil] at hC
      simp only [xq, reduceIte, Nat.reduceEqDiff, Nat.reduceAdd, Nat.reduceLT, Nat.reduceLeDiff, Vw.ds, Cg.ds, List.map_cons, List.map_nil]
      refine c_fn (hC) rfl ?_; simp only [xq, reduceIte, Nat.reduceEqDiff, Nat.reduceAdd, Nat.reduceLT, Nat.reduceLeDiff]
      exact ⟨_, Co.keep _ (by simp [x_upd, x_look]), rfl⟩
    · simp only [xq, reduceIte, Nat.reduceEqDiff, Nat.reduceAdd, Nat.reduceLT, Nat.reduceLeDiff, undefA, Bool.true_eq_false]
      exact ⟨_, Co.keep _ (by simp [x_upd, x_look]), rfl⟩
  rintro _ rfl
  refine W_cond rfl (fun hd => ?_) (fun hd => W_skip ?_)
  · refine W_seq (W_reg ?_); simp only [xq, reduceIte, Nat.reduceEqDiff, Nat.reduceAdd, Nat.reduceLT, Nat.reduceLeDiff]
    refine c_fn (Ha) rfl ?_; simp only [xq, reduceIte, Nat.reduceEqDiff, Nat.reduceAdd, Nat.reduceLT, Nat.reduceLeDiff]
    refine W_ret (.tmp ?_ rfl)
    simp only [x_upd, reduceIte]
  rw [hd, eq_comm, Bool.or_eq_false_iff] at e1
  obtain ⟨q1, q2⟩ := e1
  have q2 : chkV v c = 0 := by simpa using q2
  obtain ⟨hv, hch⟩ := chk_zero q2
  obtain ⟨h1, h2⟩ := greatV_sm q1
  have hrg := (chgC_zero hch).2.2.1
  have ev := (viewC_zero.1 hv).1
  have lv := ev.len
  have hro : RunOk v [c] := runOk_of h1 (by intro x hx; simp at hx; subst hx; exact ⟨by simp [c], by simp [c]⟩) (by simp)
  have hp := Hp v [c] hro (by intro x hx; simp at hx; subst hx; exact ⟨by simp [c], by simp [c]⟩)
  rw [apply_one hv hch, wide_step hv hch (by simp [c])] at hp
  have hst : stepV v c = { v with rows := scrollL v.rows top bottom b } := by simp [stepV, c]
  rw [hst] at hp
  rw [rangeG, if_neg (by simp [c]), if_pos rfl] at hrg
  simp only [Bool.and_eq_true, decide_eq_true_eq] at hrg
  have hr1 : 0 ≤ top ∧ top < bottom ∧ bottom ≤ v.height := ⟨hrg.1.1.1.1.1, hrg.1.1.1.1.2, hrg.1.1.1.2⟩
  have hr2 : b < bottom - top ∧ top - bottom < b := ⟨hrg.1.2, hrg.2⟩
  clear hrg hro hst hch hv q2 hg
  obtain ⟨R, hR⟩ : ∃ R, R = scrollL v.rows top bottom b := ⟨_, rfl⟩
  have hRl : R.length = v.rows.length := by rw [hR, scrollL_len]
  have hRg : ∀ i (hi : i < R.length), R[i] = scrollR v.rows top bottom b i := by
    subst hR
    intro i hi
    simp [scrollL]
  rw [← hR] at hp
  have hu : ∀ B ∈ ([vwB v, cgB c] : Heap), HB.under ([vwB v, cgB c] : Heap).length B := by
    intro B hB
    simp only [List.mem_cons, List.not_mem_nil, or_false] at hB
    rcases hB with rfl | rfl
    · exact under_vwB
    · exact under_cgB
  simp only [Bool.false_eq_true, if_false, apA, vwA, Vw.ds, List.map_cons, List.map_nil] at hp
  simp only [xq, reduceIte, Nat.reduceEqDiff, Nat.reduceAdd, Nat.reduceLT, Nat.reduceLeDiff]
  refine W_sregC fun K hK => ?_
  refine runC_cut 3 (· = ⟨look [(1, .int top), (2, .int bottom), (3, .int b), (4, .ptr 0 1 0 0), (29, vwA v), (31, cgsA [c])], [vwB v, cgB c]⟩) rfl (by intro h; cases h) (fun K1 hK1 => ?_) ?_
  · simp only [xq, reduceIte, Nat.reduceEqDiff, Nat.reduceAdd, Nat.reduceLT, Nat.reduceLeDiff, vwB, Vw.ds, cgB, Cg.ds]
    exact hK1 _ _ (co_lit (h := [vwB v, cgB c]) (cs := [c]) hu _ (by
      intro p hp
      simp only [List.mem_cons, List.not_mem_nil, or_false] at hp
      rcases hp with rfl | rfl | rfl | rfl | rfl | rfl
      · exact .inl ⟨rfl, rfl⟩
      · exact .inl ⟨rfl, rfl⟩
      · exact .inl ⟨rfl, rfl⟩
      · exact .inl ⟨rfl, rfl⟩
      · exact .inl ⟨rfl, rfl⟩
      · exact .inr ⟨rfl, rfl⟩)) rfl
  rintro _ rfl
  refine runC_end rfl ?_
  simp only [xq, reduceIte, Nat.reduceEqDiff, Nat.reduceAdd, Nat.reduceLT, Nat.reduceLeDiff, vwA, Vw.ds, List.map_cons, List.map_nil]
  refine c_fn (hp) rfl ?_; simp only [xq, reduceIte, Nat.reduceEqDiff, Nat.reduceAdd, Nat.reduceLT, Nat.reduceLeDiff]
  refine hK _ ?_
  clear hK K
  let w : Vw := { v with rows := R }
  let T : List (Nat × A) := [(1, .int top), (2, .int bottom), (3, .int b), (4, .ptr 0 1 0 0), (10, .ptr 2 1 0 0)]
  refine W_seq (W_cut (· = ⟨look (T ++ [(67, .bool false)]), [vwB v, cgB c, vwB w]⟩) ?_ ?_)
  · have hne : (v.vis != v.vis) = false := by simp
    refine W_regK fun K hK => ?_
    refine run_take 10 fun K1 hK1 => ?_
    simp only [xq, reduceIte, Nat.reduceEqDiff, Nat.reduceAdd, Nat.reduceLT, Nat.reduceLeDiff, Vw.ds, decide_true, bne_self_eq_false]
    refine hK1 _ ?_
    clear hK1 K1
    refine run_take 7 fun K1 hK1 => ?_
    simp only [xq, reduceIte, Nat.reduceEqDiff, Nat.reduceAdd, Nat.reduceLT, Nat.reduceLeDiff, Vw.ds, decide_true, bne_self_eq_false]
    refine hK1 _ ?_
    clear hK1 K1
    refine run_take 7 fun K1 hK1 => ?_
    simp only [xq, reduceIte, Nat.reduceEqDiff, Nat.reduceAdd, Nat.reduceLT, Nat.reduceLeDiff, Vw.ds, hne, bne_self_eq_false]
    refine hK1 _ ?_
    clear hK1 K1
    simp only [xq, reduceIte, Nat.reduceEqDiff, Nat.reduceAdd, Nat.reduceLT, Nat.reduceLeDiff, Vw.ds, rwRows_len, hRl, decide_true, bne_self_eq_false]
    refine hK _ ?_
    exact ⟨rfl, _, Co.keep _ (by simp [x_upd, x_look, T]), rfl⟩
  rintro _ rfl
  simp only [T]
  refine W_cond rfl (fun hd => by cases hd) (fun hd => W_skip ?_)
  simp only [xq, reduceIte, Nat.reduceEqDiff, Nat.reduceAdd, Nat.reduceLT, Nat.reduceLeDiff]
  refine W_seq ?_
  refine W_seq (W_reg ?_); simp only [xq, reduceIte, Nat.reduceEqDiff, Nat.reduceAdd, Nat.reduceLT, Nat.reduceLeDiff]
  refine W_block ?_
  let S : Nat → St := fun i => ⟨look [(1, .int top), (2, .int bottom), (3, .int b), (4, .ptr 0 1 0 0), (10, .ptr 2 1 0 0), (13, .int i)], [vwB v, cgB c, vwB w]⟩
  refine W_co (s' := S 0) (Co.keep _ (by simp [x_upd, x_look])) ?_
  refine W_loop (fun m s => ∃ i, i ≤ v.rows.length ∧ m = v.rows.length - i ∧ s = S i) ⟨0, Nat.zero_le _, rfl, rfl⟩ ?_
  rintro m s ⟨i, hi, rfl, rfl⟩
  simp only [S]
  refine W_seq (W_seq ?_)
  refine W_reg ?_; simp only [xq, reduceIte, Nat.reduceEqDiff, Nat.reduceAdd, Nat.reduceLT, Nat.reduceLeDiff, vwB, Vw.ds, rwRows_len]
  refine W_cond rfl (fun hc => W_skip ?_) (fun hc => W_exit ?_)
  · have hlt : i < v.rows.length := by simpa using hc
    have hltR : i < R.length := by omega
    have w1 : IntKind.i64.wrap ((i : Int) + 1) = ((i + 1 : Nat) : Int) := by rw [i64_of (by omega)]; omega
    have w2 : IntKind.i64.wrap ((i : Int) + b) = (i : Int) + b := i64_of (by omega)
    simp only [xq, reduceIte, Nat.reduceEqDiff, Nat.reduceAdd, Nat.reduceLT, Nat.reduceLeDiff]
    refine W_seq (W_block ?_)
    refine W_seq (W_reg ?_); simp only [xq, reduceIte, Nat.reduceEqDiff, Nat.reduceAdd, Nat.reduceLT, Nat.reduceLeDiff]
    refine W_cut (fun s => ∃ x, s = ⟨look [(1, .int top), (2, .int bottom), (3, .int b), (4, .ptr 0 1 0 0), (10, .ptr 2 1 0 0), (13, .int i), (14, x)], [vwB v, cgB c, vwB w]⟩ ∧ FrzA 0 [] x (.d (.sl eGl (glRows R[i]))) ∧ x.under 0 = true) ?_ ?_
    · rw [hRg i hltR]
      unfold scrollR
      by_cases hin : top ≤ (i : Int) ∧ (i : Int) < bottom
      · have d1 : decide ((i : Int) < top) = false := decide_eq_false (by omega)
        have d2 : decide (bottom ≤ (i : Int)) = false := decide_eq_false (by omega)
        rw [if_pos hin]
        refine W_seq (W_reg ?_); simp only [xq, reduceIte, Nat.reduceEqDiff, Nat.reduceAdd, Nat.reduceLT, Nat.reduceLeDiff, d1, d2]
        refine W_cond rfl (fun hd => by cases hd) (fun hd => ?_)
        by_cases hin2 : top ≤ (i : Int) + b ∧ (i : Int) + b < bottom
        · have d3 : decide (top ≤ (i : Int) + b) = true := decide_eq_true (by omega)
          have d4 : decide ((i : Int) + b < bottom) = true := decide_eq_true (by omega)
          obtain ⟨j, hj⟩ : ∃ j : Nat, (i : Int) + b = j := ⟨((i : Int) + b).toNat, by omega⟩
          have hjl : j < v.rows.length := by omega
          have hra : rowAt v.rows ((i : Int) + b) = v.rows[j] := by
            unfold rowAt
            rw [hj, Int.toNat_natCast, List.getD_eq_getElem?_getD, List.getElem?_eq_getElem hjl]; rfl
          rw [if_pos hin2, hra]
          have w3 := w2.trans hj
          rw [hj] at d3 d4
          refine W_seq (W_reg ?_); simp only [xq, reduceIte, Nat.reduceEqDiff, Nat.reduceAdd, Nat.reduceLT, Nat.reduceLeDiff, w3, d3, d4]
          refine W_cond rfl (fun hd => ?_) (fun hd => by cases hd)
          refine W_reg ?_; simp only [xq, reduceIte, Nat.reduceEqDiff, Nat.reduceAdd, Nat.reduceLT, Nat.reduceLeDiff, Vw.ds, rwRows_len, rwRows_get hjl, w3, Int.toNat_natCast]
          refine ⟨by omega, by omega, ?_⟩
          exact ⟨_, Co.keep _ (by simp [x_upd, x_look]), _, rfl, .same rfl, rfl⟩
        · rw [if_neg hin2]
          by_cases h3 : top ≤ (i : Int) + b
          · have d3 : decide (top ≤ (i : Int) + b) = true := decide_eq_true h3
            have d4 : decide ((i : Int) + b < bottom) = false := decide_eq_false (by omega)
            refine W_seq (W_reg ?_); simp only [xq, reduceIte, Nat.reduceEqDiff, Nat.reduceAdd, Nat.reduceLT, Nat.reduceLeDiff, w2, d3, d4]
            refine W_cond rfl (fun hd => by cases hd) (fun hd => W_skip ?_)
            exact ⟨rfl, _, Co.keep [(1, .int top), (2, .int bottom), (3, .int b), (4, .ptr 0 1 0 0), (10, .ptr 2 1 0 0), (13, .int i), (14, .nil)] (by simp [x_upd, x_look]), _, rfl, .d (.nil _), rfl⟩
          · have d3 : decide (top ≤ (i : Int) + b) = false := decide_eq_false h3
            refine W_seq (W_reg ?_); simp only [xq, reduceIte, Nat.reduceEqDiff, Nat.reduceAdd, Nat.reduceLT, Nat.reduceLeDiff, w2, d3, undefA, Bool.true_eq_false]
            refine W_cond rfl (fun hd => by cases hd) (fun hd => W_skip ?_)
            exact ⟨rfl, _, Co.keep [(1, .int top), (2, .int bottom), (3, .int b), (4, .ptr 0 1 0 0), (10, .ptr 2 1 0 0), (13, .int i), (14, .nil)] (by simp [x_upd, x_look]), _, rfl, .d (.nil _), rfl⟩
      · rw [if_neg hin]
        have gv : v.rows.getD i [] = v.rows[i] := by rw [List.getD_eq_getElem?_getD, List.getElem?_eq_getElem hlt]; rfl
        rw [gv]
        have done : ∀ sl : Nat → A, sl 1 = .int top → sl 2 = .int bottom → sl 3 = .int b → sl 4 = .ptr 0 1 0 0 → sl 10 = .ptr 2 1 0 0 → sl 13 = .int i → W Γ.ctx P N none 0 (.reg [
            { dst := some 83, op := .faddr 2 (.t 4) },
            { dst := some 84, op := .load 1 false (.t 83) },
            { dst := some 85, op := .mov (.t 13) },
            { dst := some 86, op := .iaddr ⟨1, 24⟩ (.t 84) (.t 85) },
            { dst := some 87, op := .load 1 false (.t 86) },
            { dst := some 14, op := .mov (.t 87) }]) (fun e s' => e = .normal ∧ ∃ s1, Co 0 s' s1 ∧ ∃ x, s1 = ⟨look [(1, .int top), (2, .int bottom), (3, .int b), (4, .ptr 0 1 0 0), (10, .ptr 2 1 0 0), (13, .int i), (14, x)], [vwB v, cgB c, vwB w]⟩ ∧ FrzA 0 [] x (.d (.sl eGl (glRows v.rows[i]))) ∧ x.under 0 = true) ⟨sl, [vwB v, cgB c, vwB w]⟩ := by
          intro sl s1 s2 s3 s4 s10 s13
          refine W_reg ?_; simp only [xq, reduceIte, Nat.reduceEqDiff, Nat.reduceAdd, Nat.reduceLT, Nat.reduceLeDiff, s4, s13, Vw.ds, rwRows_len, rwRows_get hlt, Int.toNat_natCast]
          refine ⟨by omega, by omega, ?_⟩
          exact ⟨_, Co.keep [(1, .int top), (2, .int bottom), (3, .int b), (4, .ptr 0 1 0 0), (10, .ptr 2 1 0 0), (13, .int i), (14, .d (.sl eGl (glRows v.rows[i])))] (by simp [x_upd, s1, s2, s3, s4, s10, s13]), _, rfl, .same rfl, rfl⟩
        by_cases h3 : (i : Int) < top
        · have d1 : decide ((i : Int) < top) = true := decide_eq_true h3
          refine W_seq (W_reg ?_); simp only [xq, reduceIte, Nat.reduceEqDiff, Nat.reduceAdd, Nat.reduceLT, Nat.reduceLeDiff, d1, undefA, Bool.true_eq_false]
          refine W_cond rfl (fun hd => ?_) (fun hd => by cases hd)
          exact done _ rfl rfl rfl rfl rfl rfl
        · have d1 : decide ((i : Int) < top) = false := decide_eq_false h3
          have d2 : decide (bottom ≤ (i : Int)) = true := decide_eq_true (by omega)
          refine W_seq (W_reg ?_); simp only [xq, reduceIte, Nat.reduceEqDiff, Nat.reduceAdd, Nat.reduceLT, Nat.reduceLeDiff, d1, d2]
          refine W_cond rfl (fun hd => ?_) (fun hd => by cases hd)
          exact done _ rfl rfl rfl rfl rfl rfl
    rintro _ ⟨x, rfl, hx, hx0⟩
    have hS : FnP Γ P fs [.d (.sl eGl (glRows R[i])), x] (.bool true) := by
      have := (Hs R[i] R[i]).weak (.cons (weak_same (x := .d (.sl eGl (glRows R[i]))) rfl) (.cons hx .nil))
      rwa [decide_eq_true rfl] at this
    refine W_seq (W_reg ?_); simp only [xq, reduceIte, Nat.reduceEqDiff, Nat.reduceAdd, Nat.reduceLT, Nat.reduceLeDiff, Vw.ds, w, rwRows_len, rwRows_get hltR, Int.toNat_natCast]
    refine ⟨by omega, by omega, ?_⟩
    refine c_fn hS (by simp [A.underL, hx0]; rfl) ?_
    simp only [xq, reduceIte, Nat.reduceEqDiff, Nat.reduceAdd, Nat.reduceLT, Nat.reduceLeDiff]
    refine W_cond rfl (fun hd => by cases hd) (fun hd => W_skip ?_)
    simp only [xq, reduceIte, Nat.reduceEqDiff, Nat.reduceAdd, Nat.reduceLT, Nat.reduceLeDiff]
    refine W_reg ?_; simp only [xq, reduceIte, Nat.reduceEqDiff, Nat.reduceAdd, Nat.reduceLT, Nat.reduceLeDiff, w1]
    exact ⟨v.rows.length - (i + 1), S (i + 1), by omega, Co.keep _ (by simp [x_upd, x_look]), i + 1, hlt, rfl, rfl⟩
  · simp only [xq, reduceIte, Nat.reduceEqDiff, Nat.reduceAdd, Nat.reduceLT, Nat.reduceLeDiff]
    refine W_seq (W_reg ?_); simp only [xq, reduceIte, Nat.reduceEqDiff, Nat.reduceAdd, Nat.reduceLT, Nat.reduceLeDiff]
    refine c_fn (Ha) rfl ?_; simp only [xq, reduceIte, Nat.reduceEqDiff, Nat.reduceAdd, Nat.reduceLT, Nat.reduceLeDiff]
    refine W_ret (.tmp ?_ rfl)
    simp only [x_upd, reduceIte]

end Go.Proofs.YtknmhbbmopnfjaaDoor.Nx

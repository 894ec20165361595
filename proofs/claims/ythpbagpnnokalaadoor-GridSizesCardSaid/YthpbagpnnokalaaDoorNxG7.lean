/- Grids: New and the reference's New; the law GridCheck. -/
/- Grids: Set and Clear. -/
/- Grids: the reference's Set and Clear. -/
/- Grids: the law GridEdits. -/
import Derived.Test.YthpbagpnnokalaaDoorNxQ3
namespace Go.Proofs.YthpbagpnnokalaaDoor.Nx
set_option linter.unusedSimpArgs false
set_option linter.unusedVariables false
set_option linter.unnecessarySimpa false
open Go

variable {P : Program} {N : Nat} {Γ : Tabs}

/-- What New answers. -/
def newR (w h : Int) : Gd × Int := if szOk w h then (⟨w, h, List.replicate h.toNat (blankRow w (-1))⟩, 0) else (zeroGd, 2)
abbrev NewOk (Γ : Tabs) (P : Program) (f : FuncId) : Prop := ∀ w h : Int, FnP Γ P f [.int w, .int h] (gdE (newR w h))

theorem standard_fn {f : FuncId} (H : FnIs P f N [.c 0 3 true] x_grid_standard) (hN : 0 ≤ N) : FnP Γ P f [] (atA (-1) (-1) 0) := by
  refine .of_W H (by simpa using hN) ?_
  unfold x_grid_standard
  refine W_seq (W_reg ?_)
  simp only [xs, xl, argS, reduceIte, Nat.reduceEqDiff, Nat.reduceAdd, Nat.reduceLT, Nat.reduceLeDiff, A.okCells, A.cells, A.one, splice]
  refine W_seq (W_reg ?_)
  simp only [xs, xl, argS, reduceIte, Nat.reduceEqDiff, Nat.reduceAdd, Nat.reduceLT, Nat.reduceLeDiff, A.okCells, A.cells, A.one, splice]
  refine W_ret ⟨.inr rfl, ?_⟩
  simp only [readRs, readR, single, x_upd, reduceIte, Nat.reduceEqDiff, x_look, argS, xs, xl, argS, reduceIte, Nat.reduceEqDiff, Nat.reduceAdd, Nat.reduceLT, Nat.reduceLeDiff, A.okCells, A.cells, A.one, splice, loadsTo]
  exact .same rfl

theorem blankRow_len {w b : Int} : (blankRow w b).length ≤ 132 := by
  unfold blankRow; split
  · simp
  · simp; omega
theorem blankRow_small {w b : Int} : ∀ c ∈ blankRow w b, c.text.size ≤ 1000 := by
  intro c hc
  unfold blankRow at hc
  split at hc
  · simp at hc
  · have := List.eq_of_mem_replicate hc
    subst this
    show (1 : Nat) ≤ 1000
    decide

theorem newH_under (w n : Int) (i : Nat) (L M : List (List Ce)) : ∀ B ∈ [zgB, oB w n (.ref 3 i 0 i true), crBk L, crBk M], HB.under 4 B := by
  intro B hB
  simp only [List.mem_cons, List.not_mem_nil, or_false] at hB
  rcases hB with rfl | rfl | rfl | rfl
  · exact under_ints fun x hx => by
      simp only [List.mem_cons, List.not_mem_nil, or_false] at hx
      rcases hx with rfl | rfl | rfl <;> rfl
  · exact under_ints fun x hx => by
      simp only [List.mem_cons, List.not_mem_nil, or_false] at hx
      rcases hx with rfl | rfl | rfl <;> rfl
  · exact under_d
  · exact under_d

set_option maxHeartbeats 1000000 in
theorem new_fn {f fs fst fb f1 : FuncId} (H : FnIs P f N [.c 4 3 true, .t 5] (x_grid_New fs fst fb)) (hN : 2 ≤ N) (Hs : ∀ w h, FnP Γ P fs [.int w, .int h] (.int (if szOk w h then 0 else 2))) (Hst : FnP Γ P fst [] (atA (-1) (-1) 0))
    (Hb : ∀ w a b c, FnP Γ P fb [.int w, atA a b c] (.fn f1 [.iptr [.sc (.int .i64 w)], .iptr (atD a b c)])) (H1 : ∀ w a b c, FnP Γ P f1 [.iptr [.sc (.int .i64 w)], .iptr (atD a b c)] (.d (.sl eCe (ceRows (blankRow w b))))) (w h : Int) :
    FnP Γ P f [.int w, .int h] (gdE (newR w h)) := by
  refine .of_W H (by simpa using hN) ?_
  have hS := Hs w h
  have hB := Hb w (-1) (-1) 0
  have hF := H1 w (-1) (-1) 0
  simp only [atA] at hB Hst
  unfold x_grid_New
  refine W_seq (W_reg ?_)
  simp only [xs, xl, argS, reduceIte, Nat.reduceEqDiff, Nat.reduceAdd, Nat.reduceLT, Nat.reduceLeDiff, A.okCells, A.cells, A.one, splice]
  refine W_seq (W_seq (W_reg ?_))
  simp only [xs, xl, argS, reduceIte, Nat.reduceEqDiff, Nat.reduceAdd, Nat.reduceLT, Nat.reduceLeDiff, A.okCells, A.cells, A.one, splice]
  refine c_fn hS rfl ?_
  simp only [xs, xl, argS, reduceIte, Nat.reduceEqDiff, Nat.reduceAdd, Nat.reduceLT, Nat.reduceLeDiff, A.okCells, A.cells, A.one, splice]
  refine W_seq (W_reg ?_)
  simp only [xs, xl, argS, reduceIte, Nat.reduceEqDiff, Nat.reduceAdd, Nat.reduceLT, Nat.reduceLeDiff, A.okCells, A.cells, A.one, splice]
  cases hz : szOk w h
  all_goals simp only [hz, Bool.false_eq_true, if_true, if_false]
  · refine W_cond rfl (fun _ => ?_) (fun hc => by simp at hc)
    refine W_seq (W_reg ?_)
    simp only [xs, xl, argS, reduceIte, Nat.reduceEqDiff, Nat.reduceAdd, Nat.reduceLT, Nat.reduceLeDiff, A.okCells, A.cells, A.one, splice]
    refine W_ret ⟨.inr rfl, ?_⟩
    simp only [readRs, readR, single, x_upd, reduceIte, Nat.reduceEqDiff, x_look, argS, xs, xl, argS, reduceIte, Nat.reduceEqDiff, Nat.reduceAdd, Nat.reduceLT, Nat.reduceLeDiff, A.okCells, A.cells, A.one, splice, loadsTo, newR, hz, Bool.false_eq_true, if_false]
    exact frz_gd (.d (.nil _))
  refine W_cond rfl (fun hc => by simp at hc) (fun _ => W_skip ?_)
  obtain ⟨⟨hw1, hw2⟩, hh1, hh2⟩ := szOk_le hz
  obtain ⟨n, rfl⟩ : ∃ n : Nat, h = n := ⟨h.toNat, by omega⟩
  simp only [newR, hz, if_true, Int.toNat_natCast]
  obtain ⟨bl, hbl⟩ : ∃ bl, bl = blankRow w (-1) := ⟨_, rfl⟩
  rw [← hbl] at hF ⊢
  simp only [xs, xl, argS, reduceIte, Nat.reduceEqDiff, Nat.reduceAdd, Nat.reduceLT, Nat.reduceLeDiff, A.okCells, A.cells, A.one, splice]
  let caps : List A := [.iptr [.sc (.int .i64 w)], .iptr (atD (-1) (-1) 0)]
  refine W_seq (W_reg ?_)
  simp only [xs, xl, argS, reduceIte, Nat.reduceEqDiff, Nat.reduceAdd, Nat.reduceLT, Nat.reduceLeDiff, A.okCells, A.cells, A.one, splice]
  refine c_fn Hst rfl ?_
  simp only [xs, xl, argS, reduceIte, Nat.reduceEqDiff, Nat.reduceAdd, Nat.reduceLT, Nat.reduceLeDiff, A.okCells, A.cells, A.one, splice]
  refine c_fn hB rfl ?_
  simp only [xs, xl, argS, reduceIte, Nat.reduceEqDiff, Nat.reduceAdd, Nat.reduceLT, Nat.reduceLeDiff, A.okCells, A.cells, A.one, splice]
  refine W_seq (W_reg ?_)
  simp only [xs, xl, argS, reduceIte, Nat.reduceEqDiff, Nat.reduceAdd, Nat.reduceLT, Nat.reduceLeDiff, A.okCells, A.cells, A.one, splice]
  refine W_seq (W_seq (W_reg ?_))
  simp only [xs, xl, argS, reduceIte, Nat.reduceEqDiff, Nat.reduceAdd, Nat.reduceLT, Nat.reduceLeDiff, A.okCells, A.cells, A.one, splice]
  refine W_block ?_
  let M : Nat → List (List Ce) := fun i => List.replicate i bl
  have hMl : ∀ i, (M i).length = i := fun i => by simp [M]
  have hMs : ∀ i, ((crRows (M i)).map fun r => r.map A.d) ++ [[A.d (.sl eCe (ceRows bl))]] = (crRows (M (i + 1))).map fun r => r.map A.d := fun i => by simp [M, crRows, List.replicate_succ']
  let bx : Nat → A := fun i => if i = 0 then .nil else .ref 3 i 0 i true
  let Hp : Nat → Heap := fun i => if i = 0 then [zgB, oB w n .nil] else [zgB, oB w n (.ref 3 i 0 i true), crBk [bl], crBk (M i)]
  let S : Nat → St := fun i => ⟨look [(4, .ptr 0 1 0 0), (7, .fn f1 caps), (8, .ptr 1 1 0 0), (22, .int n), (23, .int i)], Hp i⟩
  refine W_co (s' := S 0) (Co.keep _ (by simp [x_upd, x_look, caps])) ?_
  refine W_loop (fun q s => ∃ i, i ≤ n ∧ q = n - i ∧ s = S i) ⟨0, Nat.zero_le _, rfl, rfl⟩ ?_
  rintro q s ⟨i, hi, rfl, rfl⟩
  refine W_seq (W_reg ?_)
  simp only [S, xs, xl, argS, reduceIte, Nat.reduceEqDiff, Nat.reduceAdd, Nat.reduceLT, Nat.reduceLeDiff, A.okCells, A.cells, A.one, splice]
  refine W_seq (W_cond rfl (fun hc => W_skip ?_) (fun hc => W_exit ?_))
  · have hlt : i < n := by simpa using hc
    simp only [xs, xl, argS, reduceIte, Nat.reduceEqDiff, Nat.reduceAdd, Nat.reduceLT, Nat.reduceLeDiff, A.okCells, A.cells, A.one, splice]
    refine W_seq (W_block (W_drw (by simp) ?_))
    rcases Nat.eq_zero_or_pos i with rfl | hpos
    · have hH : Hp 0 = [zgB, oB w n .nil] := rfl
      simp only [hH, xs, xl, argS, reduceIte, Nat.reduceEqDiff, Nat.reduceAdd, Nat.reduceLT, Nat.reduceLeDiff, A.okCells, A.cells, A.one, splice]
      refine c_clo (caps := caps) (args := []) hF rfl ?_
      simp only [xs, xl, argS, reduceIte, Nat.reduceEqDiff, Nat.reduceAdd, Nat.reduceLT, Nat.reduceLeDiff, A.okCells, A.cells, A.one, splice]
      rw [if_neg (by simp)]
      refine ⟨by decide, by decide, ?_⟩
      refine W_reg ?_
      simp only [xs, xl, argS, reduceIte, Nat.reduceEqDiff, Nat.reduceAdd, Nat.reduceLT, Nat.reduceLeDiff, A.okCells, A.cells, A.one, splice]
      refine ⟨n - (0 + 1), S 1, by omega, ?_, 1, hlt, rfl, rfl⟩
      have hS1 : S 1 = ⟨look [(4, .ptr 0 1 0 0), (7, .fn f1 caps), (8, .ptr 1 1 0 0), (22, .int n), (23, .int 1)], [zgB, oB w n (.ref 3 1 0 1 true), crBk [bl], crBk [bl]]⟩ := rfl
      rw [hS1]
      refine Co.keep _ ?_
      have w1 : IntKind.i64.wrap 1 = 1 := rfl
      simp [x_upd, x_look, w1, caps]
    · have hH : Hp i = [zgB, oB w n (.ref 3 i 0 i true), crBk [bl], crBk (M i)] := by simp only [Hp, if_neg (by omega : ¬ i = 0)]
      have w2 : IntKind.i64.wrap ((i : Int) + 1) = ((i + 1 : Nat) : Int) := i64_of (by omega)
      simp only [hH, xs, xl, argS, reduceIte, Nat.reduceEqDiff, Nat.reduceAdd, Nat.reduceLT, Nat.reduceLeDiff, A.okCells, A.cells, A.one, splice]
      refine c_clo (caps := caps) (args := []) hF rfl ?_
      simp only [xs, xl, argS, reduceIte, Nat.reduceEqDiff, Nat.reduceAdd, Nat.reduceLT, Nat.reduceLeDiff, A.okCells, A.cells, A.one, splice, crRows_len, hMl, hMs]
      refine ⟨by simp only [room]; omega, by simp only [maxLen]; omega, ?_⟩
      refine W_reg ?_
      simp only [xs, xl, argS, reduceIte, Nat.reduceEqDiff, Nat.reduceAdd, Nat.reduceLT, Nat.reduceLeDiff, A.okCells, A.cells, A.one, splice, w2]
      refine ⟨n - (i + 1), S (i + 1), by omega, ?_, i + 1, hlt, rfl, rfl⟩
      have hS1 : S (i + 1) = ⟨look [(4, .ptr 0 1 0 0), (7, .fn f1 caps), (8, .ptr 1 1 0 0), (22, .int n), (23, .int ((i + 1 : Nat) : Int))], [zgB, oB w n (.ref 3 (i + 1) 0 (i + 1) true), crBk [bl], crBk (M (i + 1))]⟩ := by
        simp only [S, Hp, if_neg (Nat.succ_ne_zero i)]
      rw [hS1]
      refine Co.to _ 4 ?_ (Nat.zero_le _) (by simp) ?_
      · have : ∀ q, A.underL q caps = true := fun _ => rfl
        simp [x_upd, x_look, A.under, this]
      · intro B hB
        simp only [List.take_succ_cons, List.take_zero] at hB
        exact newH_under _ _ _ _ _ B hB
  · have hle : i = n := by simp at hc; omega
    subst hle
    have hH : Hp i = [zgB, oB w i (.ref 3 i 0 i true), crBk [bl], crBk (M i)] := by simp only [Hp, if_neg (by omega : ¬ i = 0)]
    simp only [hH, xs, xl, argS, reduceIte, Nat.reduceEqDiff, Nat.reduceAdd, Nat.reduceLT, Nat.reduceLeDiff, A.okCells, A.cells, A.one, splice]
    refine W_seq (W_reg ?_)
    simp only [xs, xl, argS, reduceIte, Nat.reduceEqDiff, Nat.reduceAdd, Nat.reduceLT, Nat.reduceLeDiff, A.okCells, A.cells, A.one, splice]
    refine W_ret ⟨.inr rfl, ?_⟩
    simp only [readRs, readR, single, x_upd, reduceIte, Nat.reduceEqDiff, x_look, argS, xs, xl, argS, reduceIte, Nat.reduceEqDiff, Nat.reduceAdd, Nat.reduceLT, Nat.reduceLeDiff, A.okCells, A.cells, A.one, splice, loadsTo]
    refine frz_gd ?_
    have := frz_all (id := 3) (full := true) (e := eRw) (rows := crRows (M i)) (h := [.cells eGd [[.int w, .int i, .ref 3 i 0 i true]], oB w i (.ref 3 i 0 i true), crBk [bl], crBk (M i)]) rfl
    rw [crRows_len, hMl] at this
    exact this

set_option maxHeartbeats 1000000 in
theorem rnew_fn {f fs fB : FuncId} (H : FnIs P f N [.c 4 3 true, .t 5] (x_ref08_New fs fB)) (hN : 2 ≤ N) (Hs : ∀ w h, FnP Γ P fs [.int w, .int h] (.bool (szOk w h)))
    (HBl : ∀ w a b c, FnP Γ P fB [.int w, atA a b c] (.d (.sl eCe (ceRows (blankRow w b))))) (w h : Int) :
    FnP Γ P f [.int w, .int h] (gdE (newR w h)) := by
  refine .of_W H (by simpa using hN) ?_
  have hS := Hs w h
  have hB := HBl w 0 (-1) 0
  simp only [atA] at hB
  unfold x_ref08_New
  refine W_seq (W_reg ?_)
  simp only [xs, xl, argS, reduceIte, Nat.reduceEqDiff, Nat.reduceAdd, Nat.reduceLT, Nat.reduceLeDiff, A.okCells, A.cells, A.one, splice]
  refine W_seq (W_seq (W_reg ?_))
  simp only [xs, xl, argS, reduceIte, Nat.reduceEqDiff, Nat.reduceAdd, Nat.reduceLT, Nat.reduceLeDiff, A.okCells, A.cells, A.one, splice]
  refine c_fn hS rfl ?_
  simp only [xs, xl, argS, reduceIte, Nat.reduceEqDiff, Nat.reduceAdd, Nat.reduceLT, Nat.reduceLeDiff, A.okCells, A.cells, A.one, splice]
  cases hz : szOk w h
  all_goals simp only [hz, Bool.not_true, Bool.not_false]
  · refine W_cond rfl (fun _ => ?_) (fun hc => by simp at hc)
    refine W_seq (W_reg ?_)
    simp only [xs, xl, argS, reduceIte, Nat.reduceEqDiff, Nat.reduceAdd, Nat.reduceLT, Nat.reduceLeDiff, A.okCells, A.cells, A.one, splice]
    refine W_ret ⟨.inr rfl, ?_⟩
    simp only [readRs, readR, single, x_upd, reduceIte, Nat.reduceEqDiff, x_look, argS, xs, xl, argS, reduceIte, Nat.reduceEqDiff, Nat.reduceAdd, Nat.reduceLT, Nat.reduceLeDiff, A.okCells, A.cells, A.one, splice, loadsTo, newR, hz, Bool.false_eq_true, if_false]
    exact frz_gd (.d (.nil _))
  refine W_cond rfl (fun hc => by simp at hc) (fun _ => W_skip ?_)
  obtain ⟨⟨hw1, hw2⟩, hh1, hh2⟩ := szOk_le hz
  obtain ⟨n, rfl⟩ : ∃ n : Nat, h = n := ⟨h.toNat, by omega⟩
  simp only [newR, hz, if_true, Int.toNat_natCast]
  obtain ⟨bl, hbl⟩ : ∃ bl, bl = blankRow w (-1) := ⟨_, rfl⟩
  rw [← hbl] at hB ⊢
  simp only [xs, xl, argS, reduceIte, Nat.reduceEqDiff, Nat.reduceAdd, Nat.reduceLT, Nat.reduceLeDiff, A.okCells, A.cells, A.one, splice]
  refine W_seq (W_reg ?_)
  simp only [xs, xl, argS, reduceIte, Nat.reduceEqDiff, Nat.reduceAdd, Nat.reduceLT, Nat.reduceLeDiff, A.okCells, A.cells, A.one, splice]
  refine W_seq (W_seq (W_reg ?_))
  simp only [xs, xl, argS, reduceIte, Nat.reduceEqDiff, Nat.reduceAdd, Nat.reduceLT, Nat.reduceLeDiff, A.okCells, A.cells, A.one, splice]
  refine W_block ?_
  let M : Nat → List (List Ce) := fun i => List.replicate i bl
  have hMl : ∀ i, (M i).length = i := fun i => by simp [M]
  have hMs : ∀ i, ((crRows (M i)).map fun r => r.map A.d) ++ [[A.d (.sl eCe (ceRows bl))]] = (crRows (M (i + 1))).map fun r => r.map A.d := fun i => by simp [M, crRows, List.replicate_succ']
  let Hp : Nat → Heap := fun i => if i = 0 then [zgB, oB w n .nil] else [zgB, oB w n (.ref 3 i 0 i true), crBk [bl], crBk (M i)]
  let S : Nat → St := fun i => ⟨look [(0, .int w), (1, .int n), (4, .ptr 0 1 0 0), (6, .ptr 1 1 0 0), (7, .int i)], Hp i⟩
  refine W_co (s' := S 0) (Co.keep _ (by simp [x_upd, x_look])) ?_
  refine W_loop (fun q s => ∃ i, i ≤ n ∧ q = n - i ∧ s = S i) ⟨0, Nat.zero_le _, rfl, rfl⟩ ?_
  rintro q s ⟨i, hi, rfl, rfl⟩
  refine W_seq (W_seq (W_reg ?_))
  simp only [S, xs, xl, argS, reduceIte, Nat.reduceEqDiff, Nat.reduceAdd, Nat.reduceLT, Nat.reduceLeDiff, A.okCells, A.cells, A.one, splice]
  refine W_cond rfl (fun hc => W_skip ?_) (fun hc => W_exit ?_)
  · have hlt : i < n := by simpa using hc
    simp only [xs, xl, argS, reduceIte, Nat.reduceEqDiff, Nat.reduceAdd, Nat.reduceLT, Nat.reduceLeDiff, A.okCells, A.cells, A.one, splice]
    refine W_seq (W_block (W_drw (by simp) ?_))
    rcases Nat.eq_zero_or_pos i with rfl | hpos
    · have hH : Hp 0 = [zgB, oB w n .nil] := rfl
      simp only [hH, xs, xl, argS, reduceIte, Nat.reduceEqDiff, Nat.reduceAdd, Nat.reduceLT, Nat.reduceLeDiff, A.okCells, A.cells, A.one, splice]
      refine c_fn hB rfl ?_
      simp only [xs, xl, argS, reduceIte, Nat.reduceEqDiff, Nat.reduceAdd, Nat.reduceLT, Nat.reduceLeDiff, A.okCells, A.cells, A.one, splice]
      rw [if_neg (by simp)]
      refine ⟨by decide, by decide, ?_⟩
      refine W_reg ?_
      simp only [xs, xl, argS, reduceIte, Nat.reduceEqDiff, Nat.reduceAdd, Nat.reduceLT, Nat.reduceLeDiff, A.okCells, A.cells, A.one, splice]
      refine ⟨n - (0 + 1), S 1, by omega, ?_, 1, hlt, rfl, rfl⟩
      have hS1 : S 1 = ⟨look [(0, .int w), (1, .int n), (4, .ptr 0 1 0 0), (6, .ptr 1 1 0 0), (7, .int 1)], [zgB, oB w n (.ref 3 1 0 1 true), crBk [bl], crBk [bl]]⟩ := rfl
      rw [hS1]
      refine Co.keep _ ?_
      have w1 : IntKind.i64.wrap 1 = 1 := rfl
      simp [x_upd, x_look, w1]
    · have hH : Hp i = [zgB, oB w n (.ref 3 i 0 i true), crBk [bl], crBk (M i)] := by simp only [Hp, if_neg (by omega : ¬ i = 0)]
      have w2 : IntKind.i64.wrap ((i : Int) + 1) = ((i + 1 : Nat) : Int) := i64_of (by omega)
      simp only [hH, xs, xl, argS, reduceIte, Nat.reduceEqDiff, Nat.reduceAdd, Nat.reduceLT, Nat.reduceLeDiff, A.okCells, A.cells, A.one, splice]
      refine c_fn hB rfl ?_
      simp only [xs, xl, argS, reduceIte, Nat.reduceEqDiff, Nat.reduceAdd, Nat.reduceLT, Nat.reduceLeDiff, A.okCells, A.cells, A.one, splice, crRows_len, hMl, hMs]
      refine ⟨by simp only [room]; omega, by simp only [maxLen]; omega, ?_⟩
      refine W_reg ?_
      simp only [xs, xl, argS, reduceIte, Nat.reduceEqDiff, Nat.reduceAdd, Nat.reduceLT, Nat.reduceLeDiff, A.okCells, A.cells, A.one, splice, w2]
      refine ⟨n - (i + 1), S (i + 1), by omega, ?_, i + 1, hlt, rfl, rfl⟩
      have hS1 : S (i + 1) = ⟨look [(0, .int w), (1, .int n), (4, .ptr 0 1 0 0), (6, .ptr 1 1 0 0), (7, .int ((i + 1 : Nat) : Int))], [zgB, oB w n (.ref 3 (i + 1) 0 (i + 1) true), crBk [bl], crBk (M (i + 1))]⟩ := by
        simp only [S, Hp, if_neg (Nat.succ_ne_zero i)]
      rw [hS1]
      refine Co.to _ 4 ?_ (Nat.zero_le _) (by simp) ?_
      · simp [x_upd, x_look, A.under]
      · intro B hB
        simp only [List.take_succ_cons, List.take_zero] at hB
        exact newH_under _ _ _ _ _ B hB
  · have hle : i = n := by simp at hc; omega
    subst hle
    have hH : Hp i = [zgB, oB w i (.ref 3 i 0 i true), crBk [bl], crBk (M i)] := by simp only [Hp, if_neg (by omega : ¬ i = 0)]
    simp only [hH, xs, xl, argS, reduceIte, Nat.reduceEqDiff, Nat.reduceAdd, Nat.reduceLT, Nat.reduceLeDiff, A.okCells, A.cells, A.one, splice]
    refine W_seq (W_reg ?_)
    simp only [xs, xl, argS, reduceIte, Nat.reduceEqDiff, Nat.reduceAdd, Nat.reduceLT, Nat.reduceLeDiff, A.okCells, A.cells, A.one, splice]
    refine W_ret ⟨.inr rfl, ?_⟩
    simp only [readRs, readR, single, x_upd, reduceIte, Nat.reduceEqDiff, x_look, argS, xs, xl, argS, reduceIte, Nat.reduceEqDiff, Nat.reduceAdd, Nat.reduceLT, Nat.reduceLeDiff, A.okCells, A.cells, A.one, splice, loadsTo]
    refine frz_gd ?_
    have := frz_all (id := 3) (full := true) (e := eRw) (rows := crRows (M i)) (h := [.cells eGd [[.int w, .int i, .ref 3 i 0 i true]], oB w i (.ref 3 i 0 i true), crBk [bl], crBk (M i)]) rfl
    rw [crRows_len, hMl] at this
    exact this

set_option maxHeartbeats 1000000 in
theorem gridCheckLaw_fn {f fg fa fn fm fc fd fe : FuncId} (H : FnIs P f N [.t 6] (x_law08_GridCheck fg fa fn fm fc fd fe)) (hN : 3 ≤ N) (Hg : Great10Ok Γ P fg) (Ha : FnP Γ P fa [] (.bool true)) (Hn : NewOk Γ P fn) (Hm : NewOk Γ P fm) (Hc : GCheckOk Γ P fc) (Hd : GCheckOk Γ P fd) (He : SameGOk Γ P fe)
    (g : Gd) (w h : Int) : FnP Γ P f [gdA g, .int w, .int h] (.bool true) := by
  refine .of_W H (by simpa using hN) ?_
  have hG := Hg g.rows
  unfold x_law08_GridCheck
  refine W_seq (W_reg ?_)
  simp only [gdA, gdR, xs, xl, argS, reduceIte, Nat.reduceEqDiff, Nat.reduceAdd, Nat.reduceLT, Nat.reduceLeDiff, A.okCells, A.cells, A.one, splice]
  cases hg : great10 g.rows
  all_goals simp only [hg, Bool.false_eq_true, if_true, if_false] at hG
  · have C1 := Hc g (great10_small hg).2
    have C2 := Hd g (great10_small hg).2
    have N1 := Hn w h
    have N2 := Hm w h
    generalize newR w h = q at N1 N2
    obtain ⟨x, e⟩ := q
    have E1 := He x x
    rw [decide_eq_true rfl] at E1
    simp only [gdA, gdR, gdE] at N1 N2 E1 C1 C2
    refine W_seq (W_seq (W_reg ?_))
    simp only [xs, xl, argS, reduceIte, Nat.reduceEqDiff, Nat.reduceAdd, Nat.reduceLT, Nat.reduceLeDiff, A.okCells, A.cells, A.one, splice]
    refine c_fn hG rfl ?_
    simp only [xs, xl, argS, reduceIte, Nat.reduceEqDiff, Nat.reduceAdd, Nat.reduceLT, Nat.reduceLeDiff, A.okCells, A.cells, A.one, splice]
    refine W_cond rfl (fun hc => by simp at hc) (fun _ => W_skip ?_)
    simp only [xs, xl, argS, reduceIte, Nat.reduceEqDiff, Nat.reduceAdd, Nat.reduceLT, Nat.reduceLeDiff, A.okCells, A.cells, A.one, splice]
    refine W_seq (W_reg ?_)
    simp only [xs, xl, argS, reduceIte, Nat.reduceEqDiff, Nat.reduceAdd, Nat.reduceLT, Nat.reduceLeDiff, A.okCells, A.cells, A.one, splice]
    refine c_fn N1 rfl ?_
    simp only [xs, xl, argS, reduceIte, Nat.reduceEqDiff, Nat.reduceAdd, Nat.reduceLT, Nat.reduceLeDiff, A.okCells, A.cells, A.one, splice]
    refine W_seq (W_reg ?_)
    simp only [xs, xl, argS, reduceIte, Nat.reduceEqDiff, Nat.reduceAdd, Nat.reduceLT, Nat.reduceLeDiff, A.okCells, A.cells, A.one, splice]
    refine c_fn N2 rfl ?_
    simp only [xs, xl, argS, reduceIte, Nat.reduceEqDiff, Nat.reduceAdd, Nat.reduceLT, Nat.reduceLeDiff, A.okCells, A.cells, A.one, splice]
    refine W_seq (W_drw (by simp) ?_)
    simp only [xs, xl, argS, reduceIte, Nat.reduceEqDiff, Nat.reduceAdd, Nat.reduceLT, Nat.reduceLeDiff, A.okCells, A.cells, A.one, splice]
    refine c_fn C1 rfl ?_
    simp only [xs, xl, argS, reduceIte, Nat.reduceEqDiff, Nat.reduceAdd, Nat.reduceLT, Nat.reduceLeDiff, A.okCells, A.cells, A.one, splice]
    refine c_fn C2 rfl ?_
    simp only [xs, xl, argS, reduceIte, Nat.reduceEqDiff, Nat.reduceAdd, Nat.reduceLT, Nat.reduceLeDiff, A.okCells, A.cells, A.one, splice, decide_true]
    refine c_fn E1 rfl ?_
    simp only [xs, xl, argS, reduceIte, Nat.reduceEqDiff, Nat.reduceAdd, Nat.reduceLT, Nat.reduceLeDiff, A.okCells, A.cells, A.one, splice, decide_true]
    refine c_fn Ha rfl ?_
    simp only [xs, xl, argS, reduceIte, Nat.reduceEqDiff, Nat.reduceAdd, Nat.reduceLT, Nat.reduceLeDiff, A.okCells, A.cells, A.one, splice]
    refine W_ret (.tmp ?_ rfl)
    simp only [x_upd, reduceIte]
  · refine W_seq (W_seq (W_reg ?_))
    simp only [xs, xl, argS, reduceIte, Nat.reduceEqDiff, Nat.reduceAdd, Nat.reduceLT, Nat.reduceLeDiff, A.okCells, A.cells, A.one, splice]
    refine c_fn hG rfl ?_
    simp only [xs, xl, argS, reduceIte, Nat.reduceEqDiff, Nat.reduceAdd, Nat.reduceLT, Nat.reduceLeDiff, A.okCells, A.cells, A.one, splice]
    refine W_cond rfl (fun _ => ?_) (fun hc => by simp at hc)
    refine W_seq (W_reg ?_)
    simp only [xs, xl, argS, reduceIte, Nat.reduceEqDiff, Nat.reduceAdd, Nat.reduceLT, Nat.reduceLeDiff, A.okCells, A.cells, A.one, splice]
    refine c_fn Ha rfl ?_
    simp only [xs, xl, argS, reduceIte, Nat.reduceEqDiff, Nat.reduceAdd, Nat.reduceLT, Nat.reduceLeDiff, A.okCells, A.cells, A.one, splice]
    refine W_ret (.tmp ?_ rfl)
    simp only [x_upd, reduceIte]

end Go.Proofs.YthpbagpnnokalaaDoor.Nx

namespace Go.Proofs.YthpbagpnnokalaaDoor.Nx
set_option linter.unusedSimpArgs false
set_option linter.unusedVariables false
set_option linter.unnecessarySimpa false
open Go

variable {P : Program} {N : Nat} {Γ : Tabs}

/-- What Set answers. -/
def setR (g : Gd) (row : Int) (l : List Ce) : Gd × Int :=
  if gridCk g ≠ 0 then (zeroGd, 1) else if row < 0 ∨ g.h ≤ row then (zeroGd, 2) else if checkR l ≠ 0 then (zeroGd, checkR l) else if (l.length : Int) ≠ g.w then (zeroGd, 12) else
    (⟨g.w, g.h, g.rows.set row.toNat l⟩, 0)
/-- What Clear answers. -/
def clearR (g : Gd) (from_ to b : Int) : Gd × Int :=
  if gridCk g ≠ 0 then (zeroGd, 1) else if (from_ < 0 ∨ to < from_) ∨ g.h < to then (zeroGd, 2) else
    (⟨g.w, g.h, g.rows.take from_.toNat ++ List.replicate (to - from_).toNat (blankRow g.w b) ++ g.rows.drop to.toNat⟩, 0)
abbrev smallR (l : List Ce) : Prop := ∀ c ∈ l, c.text.size ≤ 1000
abbrev SetOk (Γ : Tabs) (P : Program) (f : FuncId) : Prop := ∀ g : Gd, g.small → ∀ (row : Int) (l : List Ce), l.length ≤ 100000 → smallR l → FnP Γ P f [gdA g, .int row, .d (.sl eCe (ceRows l))] (gdE (setR g row l))
abbrev ClearOk (Γ : Tabs) (P : Program) (f : FuncId) : Prop := ∀ g : Gd, g.small → ∀ from_ to a b c : Int, FnP Γ P f [gdA g, .int from_, .int to, atA a b c] (gdE (clearR g from_ to b))

abbrev sRf (k n : Nat) : A := .ref k n 0 n true
/-- The blocks behind ready's copy in Set. -/
def setH (w : Int) (rows : List (List Ce)) : Heap := [oB w rows.length (sRf 6 rows.length), zgB, gB ⟨w, rows.length, rows⟩, oB w rows.length (sRf 6 rows.length), oB w rows.length (sRf 6 rows.length), oB w rows.length (sRf 6 rows.length), crBk rows]

theorem crC_set {rows : List (List Ce)} {i : Nat} {r : List Ce} : (crC rows).set i [A.d (.sl eCe (ceRows r))] = crC (rows.set i r) := by
  simp [crC, crRows, List.map_set]

set_option maxHeartbeats 1000000 in
theorem set_fn {f fr fc fk : FuncId} (H : FnIs P f N [.c 6 3 true, .t 7] (x_grid_Set fr fc fk)) (hN : 3 ≤ N) (g : Gd) (row : Int) (l : List Ce)
    (Hr : ∀ h : Heap, FnD Γ.ctx P fr [gdA g] h (readyA g h.length) (h ++ readyH g h.length)) (Hc : FnP Γ P fc [.d (.sl eCe (ceRows l))] (.int (checkR l))) (Hk : ∀ rows, FnP Γ P fk [.d (.sl eCe rows)] (.d (.sl eCe rows))) :
    FnP Γ P f [gdA g, .int row, .d (.sl eCe (ceRows l))] (gdE (setR g row l)) := by
  have hR := Hr [gB g, zgB]
  refine .of_W H (by simpa using hN) ?_
  unfold x_grid_Set
  refine W_seq (W_reg ?_)
  simp only [gdA, gdR, xs, xl, argS, reduceIte, Nat.reduceEqDiff, Nat.reduceAdd, Nat.reduceLT, Nat.reduceLeDiff, A.okCells, A.cells, A.one, splice]
  by_cases hck : ¬ gridCk g = 0
  · simp only [readyA, readyH, if_neg hck, gdA, gdR, List.length_cons, List.length_nil, Nat.reduceAdd] at hR
    refine W_seq (W_reg ?_)
    simp only [xs, xl, argS, reduceIte, Nat.reduceEqDiff, Nat.reduceAdd, Nat.reduceLT, Nat.reduceLeDiff, A.okCells, A.cells, A.one, splice]
    refine ce_fn hR ?_
    simp only [gdR, xs, xl, argS, reduceIte, Nat.reduceEqDiff, Nat.reduceAdd, Nat.reduceLT, Nat.reduceLeDiff, A.okCells, A.cells, A.one, splice]
    refine W_seq (W_block (W_seq (W_reg ?_)))
    simp only [xs, xl, argS, reduceIte, Nat.reduceEqDiff, Nat.reduceAdd, Nat.reduceLT, Nat.reduceLeDiff, A.okCells, A.cells, A.one, splice]
    refine W_cond rfl (fun _ => ?_) (fun hc => by simp at hc)
    refine W_seq (W_reg ?_)
    simp only [xs, xl, argS, reduceIte, Nat.reduceEqDiff, Nat.reduceAdd, Nat.reduceLT, Nat.reduceLeDiff, A.okCells, A.cells, A.one, splice]
    refine W_ret ⟨.inr rfl, ?_⟩
    simp only [readRs, readR, single, x_upd, reduceIte, Nat.reduceEqDiff, x_look, argS, xs, xl, argS, reduceIte, Nat.reduceEqDiff, Nat.reduceAdd, Nat.reduceLT, Nat.reduceLeDiff, A.okCells, A.cells, A.one, splice, loadsTo, setR, ne_eq, hck, not_false_eq_true]
    exact frz_gd (.d (.nil _))
  have hck : gridCk g = 0 := Decidable.not_not.1 hck
  obtain ⟨hgh, hgl, _, _⟩ := gridCk_h hck
  obtain ⟨w, hh, rows⟩ := g
  dsimp only at hgh hgl
  subst hgh
  simp only [readyA, readyH, if_pos hck, gdA, gdR, ownH, List.length_cons, List.length_nil, Nat.reduceAdd, List.cons_append, List.nil_append] at hR
  refine W_seq (W_reg ?_)
  simp only [xs, xl, argS, reduceIte, Nat.reduceEqDiff, Nat.reduceAdd, Nat.reduceLT, Nat.reduceLeDiff, A.okCells, A.cells, A.one, splice]
  refine ce_fn hR ?_
  simp only [gdR, xs, xl, argS, reduceIte, Nat.reduceEqDiff, Nat.reduceAdd, Nat.reduceLT, Nat.reduceLeDiff, A.okCells, A.cells, A.one, splice]
  let U : St := ⟨look [(1, .int row), (2, .d (.sl eCe (ceRows l))), (3, .ptr 0 1 0 0), (6, .ptr 1 1 0 0)], setH w rows⟩
  by_cases hd : row < 0 ∨ (rows.length : Int) ≤ row
  · refine W_seq (W_block (W_seq (W_reg ?_)))
    simp only [xs, xl, argS, reduceIte, Nat.reduceEqDiff, Nat.reduceAdd, Nat.reduceLT, Nat.reduceLeDiff, A.okCells, A.cells, A.one, splice]
    refine W_cond rfl (fun hc => by simp at hc) (fun _ => ?_)
    let U1 : Bool → St := fun x => ⟨look [(6, .ptr 1 1 0 0), (20, .bool x)], setH w rows⟩
    refine (W_cutX (· = U1 true) rfl (fun K hK => ?_) ?_)
    · cases e : decide (row < 0)
      · have e2 : decide ((rows.length : Int) ≤ row) = true := by simp at e; simp; omega
        simp only [xs, xl, argS, reduceIte, Nat.reduceEqDiff, Nat.reduceAdd, Nat.reduceLT, Nat.reduceLeDiff, A.okCells, A.cells, A.one, splice, e, e2]
        exact hK _ _ (Co.keep _ (by simp [x_upd, x_look, setH])) rfl
      · simp only [xs, xl, argS, reduceIte, Nat.reduceEqDiff, Nat.reduceAdd, Nat.reduceLT, Nat.reduceLeDiff, A.okCells, A.cells, A.one, splice, e]
        exact hK _ _ (Co.keep _ (by simp [x_upd, x_look, setH])) rfl
    rintro _ rfl
    refine W_cond rfl (fun _ => ?_) (fun hc => by simp at hc)
    refine W_seq (W_reg ?_)
    simp only [U1, setH, xs, xl, argS, reduceIte, Nat.reduceEqDiff, Nat.reduceAdd, Nat.reduceLT, Nat.reduceLeDiff, A.okCells, A.cells, A.one, splice]
    refine W_ret ⟨.inr rfl, ?_⟩
    simp only [readRs, readR, single, x_upd, reduceIte, Nat.reduceEqDiff, x_look, argS, xs, xl, argS, reduceIte, Nat.reduceEqDiff, Nat.reduceAdd, Nat.reduceLT, Nat.reduceLeDiff, A.okCells, A.cells, A.one, splice, loadsTo, setR, hck, ne_eq, not_true_eq_false, if_pos hd]
    exact frz_gd (.d (.nil _))
  have hd1 : decide (row < 0) = false := by simp; omega
  have hd2 : decide ((rows.length : Int) ≤ row) = false := by simp; omega
  refine (W_cut (· = U) (W_block (W_seq (W_reg ?_))) ?_)
  · simp only [xs, xl, argS, reduceIte, Nat.reduceEqDiff, Nat.reduceAdd, Nat.reduceLT, Nat.reduceLeDiff, A.okCells, A.cells, A.one, splice]
    refine W_cond rfl (fun hc => by simp at hc) (fun _ => ?_)
    refine W_seq (W_reg ?_)
    simp only [xs, xl, argS, reduceIte, Nat.reduceEqDiff, Nat.reduceAdd, Nat.reduceLT, Nat.reduceLeDiff, A.okCells, A.cells, A.one, splice, hd1, hd2]
    refine W_cond rfl (fun hc => by simp at hc) (fun _ => W_skip ?_)
    exact ⟨rfl, U, Co.keep _ (by simp [x_upd, x_look, setH]), rfl⟩
  rintro _ rfl
  refine W_seq (W_seq (W_reg ?_))
  simp only [U, xs, xl, argS, reduceIte, Nat.reduceEqDiff, Nat.reduceAdd, Nat.reduceLT, Nat.reduceLeDiff, A.okCells, A.cells, A.one, splice]
  refine c_fn Hc rfl ?_
  simp only [xs, xl, argS, reduceIte, Nat.reduceEqDiff, Nat.reduceAdd, Nat.reduceLT, Nat.reduceLeDiff, A.okCells, A.cells, A.one, splice]
  refine W_seq (W_reg ?_)
  simp only [xs, xl, argS, reduceIte, Nat.reduceEqDiff, Nat.reduceAdd, Nat.reduceLT, Nat.reduceLeDiff, A.okCells, A.cells, A.one, splice]
  refine W_cond rfl (fun hc => ?_) (fun hc => W_skip ?_)
  · have hne : checkR l ≠ 0 := by simpa using hc
    refine W_seq (W_reg ?_)
    simp only [setH, xs, xl, argS, reduceIte, Nat.reduceEqDiff, Nat.reduceAdd, Nat.reduceLT, Nat.reduceLeDiff, A.okCells, A.cells, A.one, splice]
    refine W_ret ⟨.inr rfl, ?_⟩
    simp only [readRs, readR, single, x_upd, reduceIte, Nat.reduceEqDiff, x_look, argS, xs, xl, argS, reduceIte, Nat.reduceEqDiff, Nat.reduceAdd, Nat.reduceLT, Nat.reduceLeDiff, A.okCells, A.cells, A.one, splice, loadsTo, setR, hck, ne_eq, not_true_eq_false, if_neg hd, hne, not_false_eq_true, if_true, if_false]
    exact frz_gd (.d (.nil _))
  have hc0 : checkR l = 0 := by simpa using hc
  simp only [xs, xl, argS, reduceIte, Nat.reduceEqDiff, Nat.reduceAdd, Nat.reduceLT, Nat.reduceLeDiff, A.okCells, A.cells, A.one, splice]
  refine W_seq (W_seq (W_reg ?_))
  simp only [setH, xs, xl, argS, reduceIte, Nat.reduceEqDiff, Nat.reduceAdd, Nat.reduceLT, Nat.reduceLeDiff, A.okCells, A.cells, A.one, splice, ceRows_length]
  refine W_cond rfl (fun hc => ?_) (fun hc => W_skip ?_)
  · have hne : ¬ (l.length : Int) = w := by simpa using hc
    refine W_seq (W_reg ?_)
    simp only [xs, xl, argS, reduceIte, Nat.reduceEqDiff, Nat.reduceAdd, Nat.reduceLT, Nat.reduceLeDiff, A.okCells, A.cells, A.one, splice]
    refine W_ret ⟨.inr rfl, ?_⟩
    simp only [readRs, readR, single, x_upd, reduceIte, Nat.reduceEqDiff, x_look, argS, xs, xl, argS, reduceIte, Nat.reduceEqDiff, Nat.reduceAdd, Nat.reduceLT, Nat.reduceLeDiff, A.okCells, A.cells, A.one, splice, loadsTo, setR, hck, ne_eq, not_true_eq_false, if_neg hd, hc0, hne, not_false_eq_true, if_true, if_false]
    exact frz_gd (.d (.nil _))
  have hlw : (l.length : Int) = w := by simpa using hc
  obtain ⟨i, rfl⟩ : ∃ i : Nat, row = i := ⟨row.toNat, by omega⟩
  have hil : i < rows.length := by omega
  have hres : setR ⟨w, rows.length, rows⟩ i l = (⟨w, rows.length, rows.set i l⟩, 0) := by
    simp only [setR, hck, ne_eq, not_true_eq_false, if_neg hd, hc0, hlw, if_false, Int.toNat_natCast]
  rw [hres]
  simp only [xs, xl, argS, reduceIte, Nat.reduceEqDiff, Nat.reduceAdd, Nat.reduceLT, Nat.reduceLeDiff, A.okCells, A.cells, A.one, splice]
  refine W_seq (W_drw (by simp) ?_)
  simp only [xs, xl, argS, reduceIte, Nat.reduceEqDiff, Nat.reduceAdd, Nat.reduceLT, Nat.reduceLeDiff, A.okCells, A.cells, A.one, splice]
  refine c_fn (Hk _) rfl ?_
  have hget : ∃ y, (crC rows)[i]? = some [y] := by
    refine ⟨A.d (.sl eCe (ceRows rows[i])), ?_⟩
    simp [crC, crRows, List.getElem?_map, List.getElem?_eq_getElem hil]
  obtain ⟨y, hget⟩ := hget
  simp only [xs, xl, argS, reduceIte, Nat.reduceEqDiff, Nat.reduceAdd, Nat.reduceLT, Nat.reduceLeDiff, A.okCells, A.cells, A.one, splice, crRows_len, hget, crC_set, Int.toNat_natCast]
  refine ⟨by omega, by omega, ?_⟩
  refine W_seq (W_reg ?_)
  simp only [xs, xl, argS, reduceIte, Nat.reduceEqDiff, Nat.reduceAdd, Nat.reduceLT, Nat.reduceLeDiff, A.okCells, A.cells, A.one, splice]
  refine W_ret ⟨.inr rfl, ?_⟩
  simp only [readRs, readR, single, x_upd, reduceIte, Nat.reduceEqDiff, x_look, argS, xs, xl, argS, reduceIte, Nat.reduceEqDiff, Nat.reduceAdd, Nat.reduceLT, Nat.reduceLeDiff, A.okCells, A.cells, A.one, splice, loadsTo]
  refine frz_gd ?_
  have := frz_all (id := 6) (full := true) (e := eRw) (rows := crRows (rows.set i l)) (h := [oB w rows.length (sRf 6 rows.length), oB w rows.length (sRf 6 rows.length), gB ⟨w, rows.length, rows⟩, oB w rows.length (sRf 6 rows.length), oB w rows.length (sRf 6 rows.length), oB w rows.length (sRf 6 rows.length), crBk (rows.set i l)]) rfl
  rw [crRows_len, List.length_set] at this
  exact this

theorem crC_rep {rows : List (List Ce)} {i f : Nat} {bl : List Ce} (hf : f ≤ i) (hi : i < rows.length) :
    (rows.take f ++ List.replicate (i - f) bl ++ rows.drop i).set i bl = rows.take f ++ List.replicate (i + 1 - f) bl ++ rows.drop (i + 1) := by
  have h1 : (rows.take f ++ List.replicate (i - f) bl).length = i := by simp; omega
  rw [List.set_append_right _ _ (by omega), h1, Nat.sub_self, List.drop_eq_getElem_cons hi, List.set_cons_zero, show i + 1 - f = (i - f) + 1 by omega, List.replicate_succ']
  simp

set_option maxHeartbeats 1000000 in
theorem clear_fn {f fr fb f1 : FuncId} (H : FnIs P f N [.c 8 3 true, .t 9] (x_grid_Clear fr fb)) (hN : 4 ≤ N) (g : Gd) (from_ to a b c : Int)
    (Hr : ∀ h : Heap, FnD Γ.ctx P fr [gdA g] h (readyA g h.length) (h ++ readyH g h.length)) (Hb : ∀ w, FnP Γ P fb [.int w, atA a b c] (.fn f1 [.iptr [.sc (.int .i64 w)], .iptr (atD a b c)]))
    (H1 : ∀ w, FnP Γ P f1 [.iptr [.sc (.int .i64 w)], .iptr (atD a b c)] (.d (.sl eCe (ceRows (blankRow w b))))) :
    FnP Γ P f [gdA g, .int from_, .int to, atA a b c] (gdE (clearR g from_ to b)) := by
  have hR := Hr [gB g, atB a b c, zgB]
  refine .of_W H (by simpa using hN) ?_
  unfold x_grid_Clear
  refine W_seq (W_reg ?_)
  simp only [gdA, gdR, atA, xs, xl, argS, reduceIte, Nat.reduceEqDiff, Nat.reduceAdd, Nat.reduceLT, Nat.reduceLeDiff, A.okCells, A.cells, A.one, splice]
  by_cases hck : ¬ gridCk g = 0
  · simp only [readyA, readyH, if_neg hck, gdA, gdR, List.length_cons, List.length_nil, Nat.reduceAdd] at hR
    refine W_seq (W_reg ?_)
    simp only [xs, xl, argS, reduceIte, Nat.reduceEqDiff, Nat.reduceAdd, Nat.reduceLT, Nat.reduceLeDiff, A.okCells, A.cells, A.one, splice]
    refine ce_fn hR ?_
    simp only [gdR, xs, xl, argS, reduceIte, Nat.reduceEqDiff, Nat.reduceAdd, Nat.reduceLT, Nat.reduceLeDiff, A.okCells, A.cells, A.one, splice]
    refine W_seq (W_block (W_seq (W_reg ?_)))
    simp only [xs, xl, argS, reduceIte, Nat.reduceEqDiff, Nat.reduceAdd, Nat.reduceLT, Nat.reduceLeDiff, A.okCells, A.cells, A.one, splice]
    refine W_cond rfl (fun _ => ?_) (fun hc => by simp at hc)
    refine W_seq (W_reg ?_)
    simp only [xs, xl, argS, reduceIte, Nat.reduceEqDiff, Nat.reduceAdd, Nat.reduceLT, Nat.reduceLeDiff, A.okCells, A.cells, A.one, splice]
    refine W_ret ⟨.inr rfl, ?_⟩
    simp only [readRs, readR, single, x_upd, reduceIte, Nat.reduceEqDiff, x_look, argS, xs, xl, argS, reduceIte, Nat.reduceEqDiff, Nat.reduceAdd, Nat.reduceLT, Nat.reduceLeDiff, A.okCells, A.cells, A.one, splice, loadsTo, clearR, ne_eq, hck, not_false_eq_true]
    exact frz_gd (.d (.nil _))
  have hck : gridCk g = 0 := Decidable.not_not.1 hck
  obtain ⟨hgh, hgl, _, _⟩ := gridCk_h hck
  obtain ⟨w, hh, rows⟩ := g
  dsimp only at hgh hgl
  subst hgh
  simp only [readyA, readyH, if_pos hck, gdA, gdR, ownH, List.length_cons, List.length_nil, Nat.reduceAdd, List.cons_append, List.nil_append] at hR
  refine W_seq (W_reg ?_)
  simp only [xs, xl, argS, reduceIte, Nat.reduceEqDiff, Nat.reduceAdd, Nat.reduceLT, Nat.reduceLeDiff, A.okCells, A.cells, A.one, splice]
  refine ce_fn hR ?_
  simp only [gdR, xs, xl, argS, reduceIte, Nat.reduceEqDiff, Nat.reduceAdd, Nat.reduceLT, Nat.reduceLeDiff, A.okCells, A.cells, A.one, splice]
  let U : St := ⟨look [(1, .int from_), (2, .int to), (4, .ptr 0 1 0 0), (7, .ptr 1 1 0 0), (8, .ptr 2 1 0 0)], scrH w rows a b c⟩
  by_cases hd : (from_ < 0 ∨ to < from_) ∨ (rows.length : Int) < to
  · refine W_seq (W_block (W_seq (W_reg ?_)))
    simp only [xs, xl, argS, reduceIte, Nat.reduceEqDiff, Nat.reduceAdd, Nat.reduceLT, Nat.reduceLeDiff, A.okCells, A.cells, A.one, splice]
    refine W_cond rfl (fun hc => by simp at hc) (fun _ => ?_)
    let U1 : Bool → St := fun x => ⟨look [(8, .ptr 2 1 0 0), (23, .bool x)], scrH w rows a b c⟩
    refine (W_cutX (· = U1 true) rfl (fun K hK => ?_) ?_)
    · cases e : decide (from_ < 0)
      · cases e2 : decide (to < from_)
        · have e3 : decide ((rows.length : Int) < to) = true := by simp at e e2; simp; omega
          simp only [xs, xl, argS, reduceIte, Nat.reduceEqDiff, Nat.reduceAdd, Nat.reduceLT, Nat.reduceLeDiff, A.okCells, A.cells, A.one, splice, e, e2, e3]
          exact hK _ _ (Co.keep _ (by simp [x_upd, x_look, scrH])) rfl
        · simp only [xs, xl, argS, reduceIte, Nat.reduceEqDiff, Nat.reduceAdd, Nat.reduceLT, Nat.reduceLeDiff, A.okCells, A.cells, A.one, splice, e, e2]
          exact hK _ _ (Co.keep _ (by simp [x_upd, x_look, scrH])) rfl
      · simp only [xs, xl, argS, reduceIte, Nat.reduceEqDiff, Nat.reduceAdd, Nat.reduceLT, Nat.reduceLeDiff, A.okCells, A.cells, A.one, splice, e]
        exact hK _ _ (Co.keep _ (by simp [x_upd, x_look, scrH])) rfl
    rintro _ rfl
    refine W_cond rfl (fun _ => ?_) (fun hc => by simp at hc)
    refine W_seq (W_reg ?_)
    simp only [U1, scrH, xs, xl, argS, reduceIte, Nat.reduceEqDiff, Nat.reduceAdd, Nat.reduceLT, Nat.reduceLeDiff, A.okCells, A.cells, A.one, splice]
    refine W_ret ⟨.inr rfl, ?_⟩
    simp only [readRs, readR, single, x_upd, reduceIte, Nat.reduceEqDiff, x_look, argS, xs, xl, argS, reduceIte, Nat.reduceEqDiff, Nat.reduceAdd, Nat.reduceLT, Nat.reduceLeDiff, A.okCells, A.cells, A.one, splice, loadsTo, clearR, hck, ne_eq, not_true_eq_false, if_pos hd]
    exact frz_gd (.d (.nil _))
  have hd1 : decide (from_ < 0) = false := by simp; omega
  have hd2 : decide (to < from_) = false := by simp; omega
  have hd3 : decide ((rows.length : Int) < to) = false := by simp; omega
  refine (W_cut (· = U) (W_block (W_seq (W_reg ?_))) ?_)
  · simp only [xs, xl, argS, reduceIte, Nat.reduceEqDiff, Nat.reduceAdd, Nat.reduceLT, Nat.reduceLeDiff, A.okCells, A.cells, A.one, splice]
    refine W_cond rfl (fun hc => by simp at hc) (fun _ => ?_)
    refine W_seq (W_reg ?_)
    simp only [xs, xl, argS, reduceIte, Nat.reduceEqDiff, Nat.reduceAdd, Nat.reduceLT, Nat.reduceLeDiff, A.okCells, A.cells, A.one, splice, hd1, hd2, hd3]
    refine W_cond rfl (fun hc => by simp at hc) (fun _ => W_skip ?_)
    exact ⟨rfl, U, Co.keep _ (by simp [x_upd, x_look, scrH]), rfl⟩
  rintro _ rfl
  obtain ⟨f0, rfl⟩ : ∃ f0 : Nat, from_ = f0 := ⟨from_.toNat, by omega⟩
  obtain ⟨t, rfl⟩ : ∃ t : Nat, to = t := ⟨to.toNat, by omega⟩
  have htl : t ≤ rows.length := by omega
  have hft : f0 ≤ t := by omega
  obtain ⟨bl, hbl⟩ : ∃ bl, bl = blankRow w b := ⟨_, rfl⟩
  have hF := H1 w
  rw [← hbl] at hF
  have hres : clearR ⟨w, rows.length, rows⟩ f0 t b = (⟨w, rows.length, rows.take f0 ++ List.replicate (t - f0) bl ++ rows.drop t⟩, 0) := by
    simp only [clearR, hck, ne_eq, not_true_eq_false, if_neg hd, if_false, Int.toNat_natCast, ← hbl]
    rw [show ((t : Int) - (f0 : Int)).toNat = t - f0 by omega]
  rw [hres]
  let caps : List A := [.iptr [.sc (.int .i64 w)], .iptr (atD a b c)]
  refine W_seq (W_reg ?_)
  simp only [U, scrH, xs, xl, argS, reduceIte, Nat.reduceEqDiff, Nat.reduceAdd, Nat.reduceLT, Nat.reduceLeDiff, A.okCells, A.cells, A.one, splice]
  refine c_fn (Hb w) (by simp [A.underL, A.under]) ?_
  simp only [xs, xl, argS, reduceIte, Nat.reduceEqDiff, Nat.reduceAdd, Nat.reduceLT, Nat.reduceLeDiff, A.okCells, A.cells, A.one, splice]
  refine W_seq (W_seq (W_reg ?_))
  simp only [xs, xl, argS, reduceIte, Nat.reduceEqDiff, Nat.reduceAdd, Nat.reduceLT, Nat.reduceLeDiff, A.okCells, A.cells, A.one, splice]
  refine W_block ?_
  let M : Nat → List (List Ce) := fun i => rows.take f0 ++ List.replicate (i - f0) bl ++ rows.drop i
  have hMl : ∀ i, f0 ≤ i → i ≤ rows.length → (M i).length = rows.length := fun i h1 h2 => by simp [M]; omega
  have hM0 : M f0 = rows := by simp [M]
  let S : Nat → St := fun i => ⟨look [(2, .int t), (4, .ptr 0 1 0 0), (8, .ptr 2 1 0 0), (11, .fn f1 caps), (12, .int i)], [oB w rows.length (sRef rows.length), atB a b c, zgB, gB ⟨w, rows.length, rows⟩, oB w rows.length (sRef rows.length), oB w rows.length (sRef rows.length), oB w rows.length (sRef rows.length), crBk (M i)]⟩
  refine W_co (s' := S f0) (by simp only [S, hM0]; exact Co.keep _ (by simp [x_upd, x_look, caps])) ?_
  refine W_loop (fun q s => ∃ i, f0 ≤ i ∧ i ≤ t ∧ q = t - i ∧ s = S i) ⟨f0, Nat.le_refl _, hft, rfl, rfl⟩ ?_
  rintro q s ⟨i, hfi, hi, rfl, rfl⟩
  refine W_seq (W_seq (W_reg ?_))
  simp only [S, xs, xl, argS, reduceIte, Nat.reduceEqDiff, Nat.reduceAdd, Nat.reduceLT, Nat.reduceLeDiff, A.okCells, A.cells, A.one, splice]
  refine W_cond rfl (fun hc => W_skip ?_) (fun hc => W_exit ?_)
  · have hlt : i < t := by simpa using hc
    have w2 : IntKind.i64.wrap ((i : Int) + 1) = ((i + 1 : Nat) : Int) := i64_of (by omega)
    have hml := hMl i hfi (by omega)
    have hget : ∃ y, (crC (M i))[i]? = some [y] := by
      have hil : i < (M i).length := by omega
      refine ⟨A.d (.sl eCe (ceRows (M i)[i])), ?_⟩
      simp [crC, crRows, List.getElem?_map, List.getElem?_eq_getElem hil]
    obtain ⟨y, hget⟩ := hget
    have hset : (crC (M i)).set i [A.d (.sl eCe (ceRows bl))] = crC (M (i + 1)) := by
      rw [crC_set]
      simp only [M]
      rw [crC_rep hfi (by omega)]
    simp only [xs, xl, argS, reduceIte, Nat.reduceEqDiff, Nat.reduceAdd, Nat.reduceLT, Nat.reduceLeDiff, A.okCells, A.cells, A.one, splice]
    refine W_seq (W_block (W_drw (by simp) ?_))
    simp only [xs, xl, argS, reduceIte, Nat.reduceEqDiff, Nat.reduceAdd, Nat.reduceLT, Nat.reduceLeDiff, A.okCells, A.cells, A.one, splice]
    refine c_clo (caps := caps) (args := []) hF rfl ?_
    simp only [xs, xl, argS, reduceIte, Nat.reduceEqDiff, Nat.reduceAdd, Nat.reduceLT, Nat.reduceLeDiff, A.okCells, A.cells, A.one, splice, crRows_len, hml, hget, hset, Int.toNat_natCast]
    refine ⟨by omega, by omega, ?_⟩
    refine W_reg ?_
    simp only [xs, xl, argS, reduceIte, Nat.reduceEqDiff, Nat.reduceAdd, Nat.reduceLT, Nat.reduceLeDiff, A.okCells, A.cells, A.one, splice, w2]
    refine ⟨t - (i + 1), S (i + 1), by omega, Co.keep _ ?_, i + 1, by omega, hlt, rfl, rfl⟩
    simp [x_upd, x_look, caps]
  · have hle : i = t := by simp at hc; omega
    subst hle
    simp only [xs, xl, argS, reduceIte, Nat.reduceEqDiff, Nat.reduceAdd, Nat.reduceLT, Nat.reduceLeDiff, A.okCells, A.cells, A.one, splice]
    refine W_seq (W_reg ?_)
    simp only [xs, xl, argS, reduceIte, Nat.reduceEqDiff, Nat.reduceAdd, Nat.reduceLT, Nat.reduceLeDiff, A.okCells, A.cells, A.one, splice]
    refine W_ret ⟨.inr rfl, ?_⟩
    simp only [readRs, readR, single, x_upd, reduceIte, Nat.reduceEqDiff, x_look, argS, xs, xl, argS, reduceIte, Nat.reduceEqDiff, Nat.reduceAdd, Nat.reduceLT, Nat.reduceLeDiff, A.okCells, A.cells, A.one, splice, loadsTo]
    refine frz_gd ?_
    have := frz_all (id := 7) (full := true) (e := eRw) (rows := crRows (M i)) (h := [oB w rows.length (sRef rows.length), atB a b c, oB w rows.length (sRef rows.length), gB ⟨w, rows.length, rows⟩, oB w rows.length (sRef rows.length), oB w rows.length (sRef rows.length), oB w rows.length (sRef rows.length), crBk (M i)]) rfl
    rw [crRows_len, hMl i hft htl] at this
    exact this

end Go.Proofs.YthpbagpnnokalaaDoor.Nx

namespace Go.Proofs.YthpbagpnnokalaaDoor.Nx
set_option linter.unusedSimpArgs false
set_option linter.unusedVariables false
set_option linter.unnecessarySimpa false
open Go

variable {P : Program} {N : Nat} {Γ : Tabs}

theorem copied8D_fn {f : FuncId} {Δ : Ctx} (H : FnIs P f N [.t 2] x_ref08_copied) (hN : 1 ≤ N) (l : List (List Ce)) (hl : l.length ≤ 100000) (hr : ∀ r ∈ l, r.length ≤ 100000) (h : Heap) (hb : Δ.b ≤ h.length)
    (hu : ∀ (id : Nat) (B : HB), h[id]? = some B → ∃ e rows, B = .cells e rows ∧ HB.under (h.length + 1) (.cells e rows)) :
    FnD Δ P f [.d (.sl eRw (crRows l))] h (.ref h.length l.length 0 l.length true) (h ++ [crBk l]) := by
  refine .of_W H (by simpa using hN) hb ?_
  unfold x_ref08_copied
  refine W_seq (W_reg ?_)
  simp only [xs, xl, argS, reduceIte, Nat.reduceEqDiff, Nat.reduceAdd, Nat.reduceLT, Nat.reduceLeDiff, A.okCells, A.cells, A.one, splice]
  refine W_seq (W_reg ?_)
  simp only [xs, xl, argS, reduceIte, Nat.reduceEqDiff, Nat.reduceAdd, Nat.reduceLT, Nat.reduceLeDiff, A.okCells, A.cells, A.one, splice]
  refine W_seq (W_seq (W_reg ?_))
  simp only [xs, xl, argS, reduceIte, Nat.reduceEqDiff, Nat.reduceAdd, Nat.reduceLT, Nat.reduceLeDiff, A.okCells, A.cells, A.one, splice]
  refine W_block ?_
  let O : Nat → List (List Ce) := fun i => l.take i
  have hOl : ∀ i, i ≤ l.length → (O i).length = i := fun i hi => by simp only [O, List.length_take]; omega
  let S : Nat → St := fun i => ⟨look [(0, .d (.sl eRw (crRows l))), (3, .ref h.length i 0 i true), (4, .int i)], h ++ [crBk (O i)]⟩
  refine W_co (s' := S 0) (by
    have : crBk (O 0) = .cells eRw [] := rfl
    simp only [S, this]; exact Co.keep _ (by simp [x_upd, x_look])) ?_
  refine W_loop (fun m s => ∃ i, i ≤ l.length ∧ m = l.length - i ∧ s = S i) ⟨0, Nat.zero_le _, rfl, rfl⟩ ?_
  rintro m s ⟨i, hi, rfl, rfl⟩
  refine W_seq (W_seq (W_reg ?_))
  simp only [S, xs, xl, argS, reduceIte, Nat.reduceEqDiff, Nat.reduceAdd, Nat.reduceLT, Nat.reduceLeDiff, A.okCells, A.cells, A.one, splice, crRows_len]
  refine W_cond rfl (fun hc => W_skip ?_) (fun hc => W_exit ?_)
  · have hlt : i < l.length := by simpa using hc
    have hos : O (i + 1) = O i ++ [l[i]] := by simp only [O]; rw [List.take_add_one, List.getElem?_eq_getElem hlt]; rfl
    have hrl := hr _ (List.getElem_mem hlt)
    have hol := hOl i hi
    have hgk : (crRows l).getD i [] = [.sl eCe (ceRows l[i])] := crRows_get hlt
    have f1' : IntKind.i64.wrap ((i : Int) + 1) = ((i + 1 : Nat) : Int) := i64_of (by omega)
    have k1 : (0 : Int) ≤ (i : Int) := by omega
    have k2 : ((i : Int) < (l.length : Int)) := by omega
    generalize l[i] = L at hos hrl hgk
    simp only [xs, xl, argS, reduceIte, Nat.reduceEqDiff, Nat.reduceAdd, Nat.reduceLT, Nat.reduceLeDiff, A.okCells, A.cells, A.one, splice]
    let Z : St := ⟨look [(0, .d (.sl eRw (crRows l))), (3, .ref h.length (i + 1) 0 (i + 1) true), (4, .int i)], h ++ [crBk (O (i + 1))]⟩
    refine W_cut (· = Z) (W_block (W_reg ?_)) ?_
    · simp only [xs, xl, argS, reduceIte, Nat.reduceEqDiff, Nat.reduceAdd, Nat.reduceLT, Nat.reduceLeDiff, A.okCells, A.cells, A.one, splice, List.append_assoc, hp_g0, hp_g1, hp_g2, hp_s0, hp_s1, hgk, crRows_len, k1, k2, ceRows_length, hol]
      refine ⟨by simp only [room]; omega, by simp only [maxLen]; omega, by simp only [room]; omega, by simp only [maxLen]; omega, ?_⟩
      refine ⟨Z, ?_, rfl⟩
      refine Co.frzH _ (h.length + 1) _ ?_ (by omega) (by simp) (by simp) ?_
      · intro p hp
        simp only [List.mem_cons, List.not_mem_nil, or_false] at hp
        rcases hp with rfl | rfl | rfl
        · exact ⟨.same rfl, rfl⟩
        · exact ⟨.same (decide_eq_true (Nat.lt_succ_self _)), decide_eq_true (Nat.lt_succ_self _)⟩
        · exact ⟨.same rfl, rfl⟩
      · intro id hid
        rcases Nat.lt_or_ge id h.length with hlt2 | hge
        · obtain ⟨e, rws, hB, hun⟩ := hu id h[id] (List.getElem?_eq_getElem hlt2)
          refine blkF_same ?_ ?_ hun
          · dsimp only; rw [List.getElem?_append_left hlt2, List.getElem?_eq_getElem hlt2, hB]
          · rw [List.getElem?_append_left hlt2, List.getElem?_eq_getElem hlt2, hB]
        have : id = h.length := by omega
        subst this
        refine ⟨eRw, _, _, hp_g0, hp_g0, ?_, fun q r r2 hq hq2 => ?_⟩
        · rw [hos]; simp [crRows]
        · rw [hos] at hq2
          have hcs : ((crRows (O i ++ [L])).map fun r => r.map A.d) = ((crRows (O i)).map fun r => r.map A.d) ++ [[.d (.sl eCe (ceRows L))]] := by simp [crRows]
          rw [hcs] at hq2
          rcases Nat.lt_or_ge q ((crRows (O i)).map fun r => r.map A.d).length with h1 | h1
          · rw [List.getElem?_append_left h1] at hq hq2
            rw [hq] at hq2
            cases hq2
            refine ⟨rfl, fun j y hj => ?_⟩
            have hy : y.under (h.length + 1) = true := (under_d (rows := crRows (O i)) (e := eRw) (k := h.length + 1)) r (List.mem_of_getElem? hq) y (List.mem_of_getElem? hj)
            rw [List.getD_eq_getElem?_getD, hj]
            exact ⟨.same hy, hy⟩
          · rw [List.getElem?_append_right h1] at hq hq2
            cases hqq : q - ((crRows (O i)).map fun r => r.map A.d).length with
            | succ q' => rw [hqq] at hq; simp at hq
            | zero =>
              rw [hqq] at hq hq2
              cases hq; cases hq2
              refine ⟨rfl, fun j y hj => ?_⟩
              cases j with
              | succ j => simp at hj
              | zero =>
                cases hj
                refine ⟨?_, rfl⟩
                have hfz := frz_rows (k := h.length + 1) (id := h.length + 1) (off := 0) (len := L.length) (full := true) (e := eCe) (rows := ceRows L) (h := h ++ [.cells eRw (crC (O i) ++ [[.ref (h.length + 1) L.length 0 L.length true]]), .cells eCe ((ceRows L).map fun r => r.map A.d), .cells eRw [[.ref (h.length + 1) L.length 0 L.length true]]]) (Nat.le_refl _) hp_g1 (by rw [ceRows_length]; omega)
                rw [ceRows_length, List.drop_zero, List.take_of_length_le (by rw [ceRows_length]; exact Nat.le_refl _)] at hfz
                exact hfz
    rintro _ rfl
    refine W_reg ?_
    simp only [Z, xs, xl, argS, reduceIte, Nat.reduceEqDiff, Nat.reduceAdd, Nat.reduceLT, Nat.reduceLeDiff, A.okCells, A.cells, A.one, splice, f1']
    refine ⟨l.length - (i + 1), S (i + 1), by omega, Co.keep _ ?_, i + 1, hlt, rfl, rfl⟩
    simp [x_upd, x_look]
  · have hle : i = l.length := by simp at hc; omega
    subst hle
    have hOe : O l.length = l := by simp only [O, List.take_length]
    simp only [xs, xl, argS, reduceIte, Nat.reduceEqDiff, Nat.reduceAdd, Nat.reduceLT, Nat.reduceLeDiff, A.okCells, A.cells, A.one, splice, hOe]
    refine W_seq (W_reg ?_)
    simp only [xs, xl, argS, reduceIte, Nat.reduceEqDiff, Nat.reduceAdd, Nat.reduceLT, Nat.reduceLeDiff, A.okCells, A.cells, A.one, splice]
    refine W_ret ⟨.inr rfl, ?_⟩
    simp only [readRs, readR, single, x_upd, reduceIte, Nat.reduceEqDiff, x_look, xs, xl, argS, reduceIte, Nat.reduceEqDiff, Nat.reduceAdd, Nat.reduceLT, Nat.reduceLeDiff, A.okCells, A.cells, A.one, splice]

theorem under_gB {g : Gd} {k : Nat} : HB.under k (gB g) := under_ints fun x hx => by
  simp only [gdR, List.mem_cons, List.not_mem_nil, or_false] at hx
  rcases hx with rfl | rfl | rfl <;> rfl
theorem under_zgB {k : Nat} : HB.under k zgB := under_ints fun x hx => by
  simp only [List.mem_cons, List.not_mem_nil, or_false] at hx
  rcases hx with rfl | rfl | rfl <;> rfl
theorem under_atB {a b c : Int} {k : Nat} : HB.under k (atB a b c) := under_ints fun x hx => by
  simp only [List.mem_cons, List.not_mem_nil, or_false] at hx
  rcases hx with rfl | rfl | rfl <;> rfl
theorem under_oB {w h : Int} {j n : Nat} {k : Nat} (hj : j < k) : HB.under k (oB w h (.ref j n 0 n true)) := under_ints fun x hx => by
  simp only [List.mem_cons, List.not_mem_nil, or_false] at hx
  rcases hx with rfl | rfl | rfl
  · rfl
  · rfl
  · exact decide_eq_true hj

/-- A block of rows whose every row freezes. -/
theorem frz_each {h : Heap} {id : Nat} {RR : List (List A)} {R : List (List Ce)} (hid : h[id]? = some (.cells eRw RR)) (hl : RR.length = R.length) (hc : ∀ (i : Nat) (r : List Ce), R[i]? = some r → ∃ x, RR[i]? = some [x] ∧ FrzD 0 h x (.sl eCe (ceRows r))) :
    FrzA 0 h (.ref id R.length 0 R.length true) (.d (.sl eRw (crRows R))) := by
  rw [← hl]
  refine .d (.ref (Nat.zero_le _) hid (by rw [crRows_len, hl]) (fun i r hi => ?_) (fun i r j d hi hj => ?_))
  · simp only [crRows, List.getElem?_map, Option.map_eq_some_iff] at hi
    obtain ⟨r', hr', rfl⟩ := hi
    obtain ⟨x, hx, _⟩ := hc i r' hr'
    rw [Nat.zero_add, List.getD_eq_getElem?_getD, hx]; rfl
  · simp only [crRows, List.getElem?_map, Option.map_eq_some_iff] at hi
    obtain ⟨r', hr', rfl⟩ := hi
    obtain ⟨x, hx, hf⟩ := hc i r' hr'
    rw [Nat.zero_add, List.getD_eq_getElem?_getD (l := RR), hx]
    cases j with
    | succ j => simp at hj
    | zero => cases hj; exact hf
theorem frzD_cells {h : Heap} {j : Nat} {l : List Ce} (hj : h[j]? = some (.cells eCe ((ceRows l).map fun r => r.map A.d))) : FrzD 0 h (.ref j l.length 0 l.length true) (.sl eCe (ceRows l)) := by
  have := frz_all (full := true) hj
  rw [ceRows_length] at this
  cases this with
  | d h => exact h

set_option maxHeartbeats 1000000 in
theorem rset_fn {f fc fk fp : FuncId} {Np : Nat} (H : FnIs P f N [.c 6 3 true, .t 7] (x_ref08_Set fc fk fp)) (hN : 3 ≤ N) (Hp : FnIs P fp Np [.t 2] x_ref08_copied) (hNp : 1 ≤ Np) (g : Gd) (row : Int) (l : List Ce) (hll : l.length ≤ 100000) (hrl : ∀ r ∈ g.rows, r.length ≤ 100000)
    (Hck : FnP Γ P fc [gdA g] (.int (gridCk g))) (Hk : FnP Γ P fk [.d (.sl eCe (ceRows l))] (.int (checkR l))) :
    FnP Γ P f [gdA g, .int row, .d (.sl eCe (ceRows l))] (gdE (setR g row l)) := by
  refine .of_W H (by simpa using hN) ?_
  have hC := Hck
  have hu := gd_under g 0
  simp only [gdA, gdR] at hC hu
  unfold x_ref08_Set
  refine W_seq (W_reg ?_)
  simp only [gdA, gdR, xs, xl, argS, reduceIte, Nat.reduceEqDiff, Nat.reduceAdd, Nat.reduceLT, Nat.reduceLeDiff, A.okCells, A.cells, A.one, splice]
  refine W_seq (W_seq (W_reg ?_))
  simp only [xs, xl, argS, reduceIte, Nat.reduceEqDiff, Nat.reduceAdd, Nat.reduceLT, Nat.reduceLeDiff, A.okCells, A.cells, A.one, splice]
  refine c_fn hC hu ?_
  simp only [xs, xl, argS, reduceIte, Nat.reduceEqDiff, Nat.reduceAdd, Nat.reduceLT, Nat.reduceLeDiff, A.okCells, A.cells, A.one, splice]
  refine W_cond rfl (fun hc => ?_) (fun hc => W_skip ?_)
  · have hck : gridCk g ≠ 0 := by simpa using hc
    refine W_seq (W_reg ?_)
    simp only [xs, xl, argS, reduceIte, Nat.reduceEqDiff, Nat.reduceAdd, Nat.reduceLT, Nat.reduceLeDiff, A.okCells, A.cells, A.one, splice]
    refine W_ret ⟨.inr rfl, ?_⟩
    simp only [readRs, readR, single, x_upd, reduceIte, Nat.reduceEqDiff, x_look, argS, xs, xl, argS, reduceIte, Nat.reduceEqDiff, Nat.reduceAdd, Nat.reduceLT, Nat.reduceLeDiff, A.okCells, A.cells, A.one, splice, loadsTo, setR, if_pos hck]
    exact frz_gd (.d (.nil _))
  have hck : gridCk g = 0 := by simpa using hc
  obtain ⟨hgh, hgl, _, _⟩ := gridCk_h hck
  obtain ⟨w, hh, rows⟩ := g
  dsimp only at hgh hgl hrl
  subst hgh
  simp only [xs, xl, argS, reduceIte, Nat.reduceEqDiff, Nat.reduceAdd, Nat.reduceLT, Nat.reduceLeDiff, A.okCells, A.cells, A.one, splice]
  let U : Bool → St := fun x => ⟨look [(1, .int row), (2, .d (.sl eCe (ceRows l))), (3, .ptr 0 1 0 0), (6, .ptr 1 1 0 0), (20, .bool x)], [gB ⟨w, rows.length, rows⟩, zgB]⟩
  refine W_seq (W_cutX (· = U (decide (row < 0) || decide ((rows.length : Int) ≤ row))) rfl (fun K hK => ?_) ?_)
  · cases e : decide (row < 0)
    · simp only [xs, xl, argS, reduceIte, Nat.reduceEqDiff, Nat.reduceAdd, Nat.reduceLT, Nat.reduceLeDiff, A.okCells, A.cells, A.one, splice, e]
      refine hK _ _ (Co.keep _ ?_) rfl
      simp [x_upd, x_look, e]
    · simp only [xs, xl, argS, reduceIte, Nat.reduceEqDiff, Nat.reduceAdd, Nat.reduceLT, Nat.reduceLeDiff, A.okCells, A.cells, A.one, splice, e]
      refine hK _ _ (Co.keep _ ?_) rfl
      simp [x_upd, x_look, e]
  rintro _ rfl
  refine W_cond rfl (fun hd => ?_) (fun hd => W_skip ?_)
  · have hd : row < 0 ∨ (rows.length : Int) ≤ row := by simpa using hd
    refine W_seq (W_reg ?_)
    simp only [U, gdR, xs, xl, argS, reduceIte, Nat.reduceEqDiff, Nat.reduceAdd, Nat.reduceLT, Nat.reduceLeDiff, A.okCells, A.cells, A.one, splice]
    refine W_ret ⟨.inr rfl, ?_⟩
    simp only [readRs, readR, single, x_upd, reduceIte, Nat.reduceEqDiff, x_look, argS, xs, xl, argS, reduceIte, Nat.reduceEqDiff, Nat.reduceAdd, Nat.reduceLT, Nat.reduceLeDiff, A.okCells, A.cells, A.one, splice, loadsTo, setR, hck, ne_eq, not_true_eq_false, if_pos hd]
    exact frz_gd (.d (.nil _))
  have hd : ¬ (row < 0 ∨ (rows.length : Int) ≤ row) := by
    simp only [Bool.or_eq_false_iff, decide_eq_false_iff_not] at hd; omega
  refine W_seq (W_reg ?_)
  simp only [U, gdR, xs, xl, argS, reduceIte, Nat.reduceEqDiff, Nat.reduceAdd, Nat.reduceLT, Nat.reduceLeDiff, A.okCells, A.cells, A.one, splice]
  refine c_fn Hk rfl ?_
  simp only [xs, xl, argS, reduceIte, Nat.reduceEqDiff, Nat.reduceAdd, Nat.reduceLT, Nat.reduceLeDiff, A.okCells, A.cells, A.one, splice]
  refine W_seq (W_seq (W_reg ?_))
  simp only [xs, xl, argS, reduceIte, Nat.reduceEqDiff, Nat.reduceAdd, Nat.reduceLT, Nat.reduceLeDiff, A.okCells, A.cells, A.one, splice]
  refine W_cond rfl (fun hc => ?_) (fun hc => W_skip ?_)
  · have hne : checkR l ≠ 0 := by simpa using hc
    refine W_seq (W_reg ?_)
    simp only [xs, xl, argS, reduceIte, Nat.reduceEqDiff, Nat.reduceAdd, Nat.reduceLT, Nat.reduceLeDiff, A.okCells, A.cells, A.one, splice]
    refine W_ret ⟨.inr rfl, ?_⟩
    simp only [readRs, readR, single, x_upd, reduceIte, Nat.reduceEqDiff, x_look, argS, xs, xl, argS, reduceIte, Nat.reduceEqDiff, Nat.reduceAdd, Nat.reduceLT, Nat.reduceLeDiff, A.okCells, A.cells, A.one, splice, loadsTo, setR, hck, ne_eq, not_true_eq_false, if_neg hd, hne, not_false_eq_true, if_true, if_false]
    exact frz_gd (.d (.nil _))
  have hc0 : checkR l = 0 := by simpa using hc
  simp only [xs, xl, argS, reduceIte, Nat.reduceEqDiff, Nat.reduceAdd, Nat.reduceLT, Nat.reduceLeDiff, A.okCells, A.cells, A.one, splice]
  refine W_seq (W_seq (W_reg ?_))
  simp only [xs, xl, argS, reduceIte, Nat.reduceEqDiff, Nat.reduceAdd, Nat.reduceLT, Nat.reduceLeDiff, A.okCells, A.cells, A.one, splice, ceRows_length]
  refine W_cond rfl (fun hc => ?_) (fun hc => W_skip ?_)
  · have hne : ¬ (l.length : Int) = w := by simpa using hc
    refine W_seq (W_reg ?_)
    simp only [xs, xl, argS, reduceIte, Nat.reduceEqDiff, Nat.reduceAdd, Nat.reduceLT, Nat.reduceLeDiff, A.okCells, A.cells, A.one, splice]
    refine W_ret ⟨.inr rfl, ?_⟩
    simp only [readRs, readR, single, x_upd, reduceIte, Nat.reduceEqDiff, x_look, argS, xs, xl, argS, reduceIte, Nat.reduceEqDiff, Nat.reduceAdd, Nat.reduceLT, Nat.reduceLeDiff, A.okCells, A.cells, A.one, splice, loadsTo, setR, hck, ne_eq, not_true_eq_false, if_neg hd, hc0, hne, not_false_eq_true, if_true, if_false]
    exact frz_gd (.d (.nil _))
  have hlw : (l.length : Int) = w := by simpa using hc
  obtain ⟨i, rfl⟩ : ∃ i : Nat, row = i := ⟨row.toNat, by omega⟩
  have hil : i < rows.length := by omega
  have hres : setR ⟨w, rows.length, rows⟩ i l = (⟨w, rows.length, rows.set i l⟩, 0) := by
    simp only [setR, hck, ne_eq, not_true_eq_false, if_neg hd, hc0, hlw, if_false, Int.toNat_natCast]
  rw [hres]
  have hcp := copied8D_fn (Δ := Γ.ctx) Hp hNp rows (by omega) hrl [gB ⟨w, rows.length, rows⟩, zgB] (Nat.zero_le _) (by
    intro id B hB
    rcases id with _ | _ | id
    · cases hB; exact ⟨_, _, rfl, under_gB⟩
    · cases hB; exact ⟨_, _, rfl, under_zgB⟩
    · simp at hB)
  simp only [List.length_cons, List.length_nil, Nat.reduceAdd, List.cons_append, List.nil_append, gdR] at hcp
  simp only [xs, xl, argS, reduceIte, Nat.reduceEqDiff, Nat.reduceAdd, Nat.reduceLT, Nat.reduceLeDiff, A.okCells, A.cells, A.one, splice]
  refine W_seq (W_reg ?_)
  simp only [xs, xl, argS, reduceIte, Nat.reduceEqDiff, Nat.reduceAdd, Nat.reduceLT, Nat.reduceLeDiff, A.okCells, A.cells, A.one, splice]
  refine ce_fn hcp ?_
  simp only [gdR, xs, xl, argS, reduceIte, Nat.reduceEqDiff, Nat.reduceAdd, Nat.reduceLT, Nat.reduceLeDiff, A.okCells, A.cells, A.one, splice]
  refine W_seq (W_drw ?_ ?_)
  · intro p hp
    simp only [List.mem_cons, List.not_mem_nil, or_false] at hp
    rcases hp with rfl | rfl <;> (simp only [x_upd, x_look, reduceIte, Nat.reduceEqDiff]; rfl)
  have hget : ∃ y, (crC rows)[i]? = some [y] := by
    refine ⟨A.d (.sl eCe (ceRows rows[i])), ?_⟩
    simp [crC, crRows, List.getElem?_map, List.getElem?_eq_getElem hil]
  obtain ⟨y, hget⟩ := hget
  simp only [xs, xl, argS, reduceIte, Nat.reduceEqDiff, Nat.reduceAdd, Nat.reduceLT, Nat.reduceLeDiff, A.okCells, A.cells, A.one, splice, crRows_len, ceRows_length, hget, Int.toNat_natCast]
  refine ⟨by simp only [room]; omega, by simp only [maxLen]; omega, by omega, by omega, ?_⟩
  refine W_seq (W_reg ?_)
  simp only [xs, xl, argS, reduceIte, Nat.reduceEqDiff, Nat.reduceAdd, Nat.reduceLT, Nat.reduceLeDiff, A.okCells, A.cells, A.one, splice]
  refine W_ret ⟨.inr rfl, ?_⟩
  simp only [readRs, readR, single, x_upd, reduceIte, Nat.reduceEqDiff, x_look, argS, xs, xl, argS, reduceIte, Nat.reduceEqDiff, Nat.reduceAdd, Nat.reduceLT, Nat.reduceLeDiff, A.okCells, A.cells, A.one, splice, loadsTo]
  refine frz_gd ?_
  have hfe := frz_each (R := rows.set i l) (RR := (crC rows).set i [.ref 3 l.length 0 l.length true]) (id := 2)
    (h := [oB w rows.length (sRf 2 rows.length), oB w rows.length (sRf 2 rows.length), .cells eRw ((crC rows).set i [.ref 3 l.length 0 l.length true]), .cells eCe ((ceRows l).map fun r => r.map A.d), .res]) rfl (by simp [crC, crRows]) (fun q r hq => by
      rw [List.getElem?_set] at hq ⊢
      by_cases hqi : i = q
      · subst hqi
        rw [if_pos rfl, if_pos hil] at hq
        cases hq
        rw [if_pos rfl, if_pos (by rw [crC_len]; exact hil)]
        exact ⟨_, rfl, frzD_cells rfl⟩
      · rw [if_neg hqi] at hq ⊢
        refine ⟨.d (.sl eCe (ceRows r)), ?_, .d _⟩
        simp [crC, crRows, List.getElem?_map, hq])
  rw [List.length_set] at hfe
  exact hfe

set_option maxHeartbeats 1000000 in
theorem rclear_fn {f fc fp fB : FuncId} {Np : Nat} (H : FnIs P f N [.c 8 3 true, .t 9] (x_ref08_Clear fc fp fB)) (hN : 4 ≤ N) (Hp : FnIs P fp Np [.t 2] x_ref08_copied) (hNp : 1 ≤ Np) (g : Gd) (from_ to a b c : Int) (hrl : ∀ r ∈ g.rows, r.length ≤ 100000)
    (Hck : FnP Γ P fc [gdA g] (.int (gridCk g))) (HBl : ∀ w a b c, FnP Γ P fB [.int w, atA a b c] (.d (.sl eCe (ceRows (blankRow w b))))) :
    FnP Γ P f [gdA g, .int from_, .int to, atA a b c] (gdE (clearR g from_ to b)) := by
  refine .of_W H (by simpa using hN) ?_
  have hC := Hck
  have hu := gd_under g 0
  simp only [gdA, gdR] at hC hu
  unfold x_ref08_Clear
  refine W_seq (W_reg ?_)
  simp only [gdA, gdR, atA, xs, xl, argS, reduceIte, Nat.reduceEqDiff, Nat.reduceAdd, Nat.reduceLT, Nat.reduceLeDiff, A.okCells, A.cells, A.one, splice]
  refine W_seq (W_seq (W_reg ?_))
  simp only [xs, xl, argS, reduceIte, Nat.reduceEqDiff, Nat.reduceAdd, Nat.reduceLT, Nat.reduceLeDiff, A.okCells, A.cells, A.one, splice]
  refine c_fn hC hu ?_
  simp only [xs, xl, argS, reduceIte, Nat.reduceEqDiff, Nat.reduceAdd, Nat.reduceLT, Nat.reduceLeDiff, A.okCells, A.cells, A.one, splice]
  refine W_cond rfl (fun hc => ?_) (fun hc => W_skip ?_)
  · have hck : gridCk g ≠ 0 := by simpa using hc
    refine W_seq (W_reg ?_)
    simp only [xs, xl, argS, reduceIte, Nat.reduceEqDiff, Nat.reduceAdd, Nat.reduceLT, Nat.reduceLeDiff, A.okCells, A.cells, A.one, splice]
    refine W_ret ⟨.inr rfl, ?_⟩
    simp only [readRs, readR, single, x_upd, reduceIte, Nat.reduceEqDiff, x_look, argS, xs, xl, argS, reduceIte, Nat.reduceEqDiff, Nat.reduceAdd, Nat.reduceLT, Nat.reduceLeDiff, A.okCells, A.cells, A.one, splice, loadsTo, clearR, if_pos hck]
    exact frz_gd (.d (.nil _))
  have hck : gridCk g = 0 := by simpa using hc
  obtain ⟨hgh, hgl, _, _⟩ := gridCk_h hck
  obtain ⟨w, hh, rows⟩ := g
  dsimp only at hgh hgl hrl
  subst hgh
  simp only [xs, xl, argS, reduceIte, Nat.reduceEqDiff, Nat.reduceAdd, Nat.reduceLT, Nat.reduceLeDiff, A.okCells, A.cells, A.one, splice]
  let U : Bool → St := fun x => ⟨look [(1, .int from_), (2, .int to), (4, .ptr 0 1 0 0), (7, .ptr 1 1 0 0), (8, .ptr 2 1 0 0), (27, .bool x)], [gB ⟨w, rows.length, rows⟩, atB a b c, zgB]⟩
  refine W_seq (W_cutX (· = U ((decide (from_ < 0) || decide (to < from_)) || decide ((rows.length : Int) < to))) rfl (fun K hK => ?_) ?_)
  · cases e : decide (from_ < 0)
    · cases e2 : decide (to < from_)
      · simp only [xs, xl, argS, reduceIte, Nat.reduceEqDiff, Nat.reduceAdd, Nat.reduceLT, Nat.reduceLeDiff, A.okCells, A.cells, A.one, splice, e, e2]
        refine hK _ _ (Co.keep _ ?_) rfl
        simp [x_upd, x_look, e, e2]
      · simp only [xs, xl, argS, reduceIte, Nat.reduceEqDiff, Nat.reduceAdd, Nat.reduceLT, Nat.reduceLeDiff, A.okCells, A.cells, A.one, splice, e, e2]
        refine hK _ _ (Co.keep _ ?_) rfl
        simp [x_upd, x_look, e, e2]
    · simp only [xs, xl, argS, reduceIte, Nat.reduceEqDiff, Nat.reduceAdd, Nat.reduceLT, Nat.reduceLeDiff, A.okCells, A.cells, A.one, splice, e]
      refine hK _ _ (Co.keep _ ?_) rfl
      simp [x_upd, x_look, e]
  rintro _ rfl
  refine W_cond rfl (fun hd => ?_) (fun hd => W_skip ?_)
  · have hd : (from_ < 0 ∨ to < from_) ∨ (rows.length : Int) < to := by simpa using hd
    refine W_seq (W_reg ?_)
    simp only [U, gdR, xs, xl, argS, reduceIte, Nat.reduceEqDiff, Nat.reduceAdd, Nat.reduceLT, Nat.reduceLeDiff, A.okCells, A.cells, A.one, splice]
    refine W_ret ⟨.inr rfl, ?_⟩
    simp only [readRs, readR, single, x_upd, reduceIte, Nat.reduceEqDiff, x_look, argS, xs, xl, argS, reduceIte, Nat.reduceEqDiff, Nat.reduceAdd, Nat.reduceLT, Nat.reduceLeDiff, A.okCells, A.cells, A.one, splice, loadsTo, clearR, hck, ne_eq, not_true_eq_false, if_pos hd]
    exact frz_gd (.d (.nil _))
  have hd : ¬ ((from_ < 0 ∨ to < from_) ∨ (rows.length : Int) < to) := by
    simp only [Bool.or_eq_false_iff, decide_eq_false_iff_not] at hd
    omega
  obtain ⟨f0, rfl⟩ : ∃ f0 : Nat, from_ = f0 := ⟨from_.toNat, by omega⟩
  obtain ⟨t, rfl⟩ : ∃ t : Nat, to = t := ⟨to.toNat, by omega⟩
  have htl : t ≤ rows.length := by omega
  have hft : f0 ≤ t := by omega
  obtain ⟨bl, hbl⟩ : ∃ bl, bl = blankRow w b := ⟨_, rfl⟩
  have hB := HBl w a b c
  simp only [atA] at hB
  rw [← hbl] at hB
  have hres : clearR ⟨w, rows.length, rows⟩ f0 t b = (⟨w, rows.length, rows.take f0 ++ List.replicate (t - f0) bl ++ rows.drop t⟩, 0) := by
    simp only [clearR, hck, ne_eq, not_true_eq_false, if_neg hd, if_false, Int.toNat_natCast, ← hbl]
    rw [show ((t : Int) - (f0 : Int)).toNat = t - f0 by omega]
  rw [hres]
  have hcp := copied8D_fn (Δ := Γ.ctx) Hp hNp rows (by omega) hrl [gB ⟨w, rows.length, rows⟩, atB a b c, zgB] (Nat.zero_le _) (by
    intro id B hB
    rcases id with _ | _ | _ | id
    · cases hB; exact ⟨_, _, rfl, under_gB⟩
    · cases hB; exact ⟨_, _, rfl, under_atB⟩
    · cases hB; exact ⟨_, _, rfl, under_zgB⟩
    · simp at hB)
  simp only [List.length_cons, List.length_nil, Nat.reduceAdd, List.cons_append, List.nil_append, gdR] at hcp
  simp only [xs, xl, argS, reduceIte, Nat.reduceEqDiff, Nat.reduceAdd, Nat.reduceLT, Nat.reduceLeDiff, A.okCells, A.cells, A.one, splice]
  refine W_seq (W_reg ?_)
  simp only [U, gdR, xs, xl, argS, reduceIte, Nat.reduceEqDiff, Nat.reduceAdd, Nat.reduceLT, Nat.reduceLeDiff, A.okCells, A.cells, A.one, splice]
  refine ce_fn hcp ?_
  simp only [gdR, xs, xl, argS, reduceIte, Nat.reduceEqDiff, Nat.reduceAdd, Nat.reduceLT, Nat.reduceLeDiff, A.okCells, A.cells, A.one, splice]
  refine W_seq (W_seq (W_reg ?_))
  simp only [xs, xl, argS, reduceIte, Nat.reduceEqDiff, Nat.reduceAdd, Nat.reduceLT, Nat.reduceLeDiff, A.okCells, A.cells, A.one, splice]
  refine W_block ?_
  let M : Nat → List (List Ce) := fun i => rows.take f0 ++ List.replicate (i - f0) bl ++ rows.drop i
  have hMl : ∀ i, f0 ≤ i → i ≤ rows.length → (M i).length = rows.length := fun i h1 h2 => by simp [M]; omega
  have hM0 : M f0 = rows := by simp [M]
  let S : Nat → St := fun i => ⟨look [(2, .int t), (4, .ptr 0 1 0 0), (7, .ptr 1 1 0 0), (8, .ptr 2 1 0 0), (10, .int i)], [oB w rows.length (sRf 3 rows.length), atB a b c, zgB, crBk (M i)]⟩
  refine W_co (s' := S f0) (by simp only [S, hM0]; exact Co.keep _ (by simp [x_upd, x_look])) ?_
  refine W_loop (fun q s => ∃ i, f0 ≤ i ∧ i ≤ t ∧ q = t - i ∧ s = S i) ⟨f0, Nat.le_refl _, hft, rfl, rfl⟩ ?_
  rintro q s ⟨i, hfi, hi, rfl, rfl⟩
  refine W_seq (W_seq (W_reg ?_))
  simp only [S, xs, xl, argS, reduceIte, Nat.reduceEqDiff, Nat.reduceAdd, Nat.reduceLT, Nat.reduceLeDiff, A.okCells, A.cells, A.one, splice]
  refine W_cond rfl (fun hc => W_skip ?_) (fun hc => W_exit ?_)
  · have hlt : i < t := by simpa using hc
    have w2 : IntKind.i64.wrap ((i : Int) + 1) = ((i + 1 : Nat) : Int) := i64_of (by omega)
    have hml := hMl i hfi (by omega)
    have hget : ∃ y, (crC (M i))[i]? = some [y] := by
      have hil : i < (M i).length := by omega
      refine ⟨A.d (.sl eCe (ceRows (M i)[i])), ?_⟩
      simp [crC, crRows, List.getElem?_map, List.getElem?_eq_getElem hil]
    obtain ⟨y, hget⟩ := hget
    have hset : (crC (M i)).set i [A.d (.sl eCe (ceRows bl))] = crC (M (i + 1)) := by
      rw [crC_set]
      simp only [M]
      rw [crC_rep hfi (by omega)]
    simp only [xs, xl, argS, reduceIte, Nat.reduceEqDiff, Nat.reduceAdd, Nat.reduceLT, Nat.reduceLeDiff, A.okCells, A.cells, A.one, splice]
    refine W_seq (W_block (W_drw (by simp) ?_))
    simp only [xs, xl, argS, reduceIte, Nat.reduceEqDiff, Nat.reduceAdd, Nat.reduceLT, Nat.reduceLeDiff, A.okCells, A.cells, A.one, splice]
    refine c_fn hB rfl ?_
    simp only [xs, xl, argS, reduceIte, Nat.reduceEqDiff, Nat.reduceAdd, Nat.reduceLT, Nat.reduceLeDiff, A.okCells, A.cells, A.one, splice, crRows_len, hml, hget, hset, Int.toNat_natCast]
    refine ⟨by omega, by omega, ?_⟩
    refine W_reg ?_
    simp only [xs, xl, argS, reduceIte, Nat.reduceEqDiff, Nat.reduceAdd, Nat.reduceLT, Nat.reduceLeDiff, A.okCells, A.cells, A.one, splice, w2]
    refine ⟨t - (i + 1), S (i + 1), by omega, Co.keep _ ?_, i + 1, by omega, hlt, rfl, rfl⟩
    simp [x_upd, x_look]
  · have hle : i = t := by simp at hc; omega
    subst hle
    simp only [xs, xl, argS, reduceIte, Nat.reduceEqDiff, Nat.reduceAdd, Nat.reduceLT, Nat.reduceLeDiff, A.okCells, A.cells, A.one, splice]
    refine W_seq (W_reg ?_)
    simp only [xs, xl, argS, reduceIte, Nat.reduceEqDiff, Nat.reduceAdd, Nat.reduceLT, Nat.reduceLeDiff, A.okCells, A.cells, A.one, splice]
    refine W_ret ⟨.inr rfl, ?_⟩
    simp only [readRs, readR, single, x_upd, reduceIte, Nat.reduceEqDiff, x_look, argS, xs, xl, argS, reduceIte, Nat.reduceEqDiff, Nat.reduceAdd, Nat.reduceLT, Nat.reduceLeDiff, A.okCells, A.cells, A.one, splice, loadsTo]
    refine frz_gd ?_
    have := frz_all (id := 3) (full := true) (e := eRw) (rows := crRows (M i)) (h := [oB w rows.length (sRf 3 rows.length), atB a b c, oB w rows.length (sRf 3 rows.length), crBk (M i)]) rfl
    rw [crRows_len, hMl i hft htl] at this
    exact this

end Go.Proofs.YthpbagpnnokalaaDoor.Nx

namespace Go.Proofs.YthpbagpnnokalaaDoor.Nx
set_option linter.unusedSimpArgs false
set_option linter.unusedVariables false
set_option linter.unnecessarySimpa false
open Go

variable {P : Program} {N : Nat} {Γ : Tabs}

set_option maxHeartbeats 1000000 in
theorem gridEditsLaw_fn {f fg fa fs fr fe fc fd : FuncId} (H : FnIs P f N [.t 10] (x_law08_GridEdits fg fa fs fr fe fc fd)) (hN : 5 ≤ N) (Hg : Great10Ok Γ P fg) (Ha : FnP Γ P fa [] (.bool true)) (Hs : SetOk Γ P fs) (Hr : SetOk Γ P fr) (He : SameGOk Γ P fe) (Hc : ClearOk Γ P fc) (Hd : ClearOk Γ P fd)
    (g : Gd) (row to : Int) (l : List Ce) (a b c : Int) : FnP Γ P f [gdA g, .int row, .int to, .d (.sl eCe (ceRows l)), atA a b c] (.bool true) := by
  refine .of_W H (by simpa using hN) ?_
  have hG := Hg g.rows
  have hG2 := Hg [l]
  unfold x_law08_GridEdits
  refine W_seq (W_reg ?_)
  simp only [gdA, gdR, atA, xs, xl, argS, reduceIte, Nat.reduceEqDiff, Nat.reduceAdd, Nat.reduceLT, Nat.reduceLeDiff, A.okCells, A.cells, A.one, splice]
  let U : Bool → St := fun x => ⟨look [(1, .int row), (2, .int to), (3, .d (.sl eCe (ceRows l))), (5, .ptr 0 1 0 0), (9, .ptr 1 1 0 0), (24, .bool x)], [gB g, atB a b c]⟩
  refine W_seq (W_cutC (· = U (great10 g.rows || great10 [l])) (fun K hK => ?_) ?_)
  · cases hg : great10 g.rows <;> simp only [hg, Bool.false_eq_true, if_true, if_false] at hG
    · refine runC_cut 7 (· = ⟨look [(1, .int row), (2, .int to), (3, .d (.sl eCe (ceRows l))), (5, .ptr 0 1 0 0), (9, .ptr 1 1 0 0), (19, .bool false), (21, .d (.sl eRw (crRows [l])))], [gB g, atB a b c]⟩) rfl (by intro h; cases h) (fun K1 hK1 => ?_) ?_
      · simp only [xs, xl, argS, reduceIte, Nat.reduceEqDiff, Nat.reduceAdd, Nat.reduceLT, Nat.reduceLeDiff, A.okCells, A.cells, A.one, splice]
        refine c_fn hG rfl ?_
        simp only [xs, xl, argS, reduceIte, Nat.reduceEqDiff, Nat.reduceAdd, Nat.reduceLT, Nat.reduceLeDiff, A.okCells, A.cells, A.one, splice, Int.lt_irrefl, decide_false, Nat.reduceMul]
        refine hK1 _ _ (Co.frz _ 2 ?_ (Nat.zero_le _) (by simp) ?_) rfl
        · intro p hp
          simp only [List.mem_cons, List.not_mem_nil, or_false] at hp
          rcases hp with rfl | rfl | rfl | rfl | rfl | rfl | rfl
          · exact .same rfl
          · exact .same rfl
          · exact .same rfl
          · exact .same rfl
          · exact .same rfl
          · exact .same rfl
          · have := frz_rows (k := 2) (id := 2) (off := 0) (len := 1) (full := true) (e := eRw) (rows := crRows [l]) (h := [gB g, atB a b c, crBk [l]]) (Nat.le_refl _) rfl (by simp [crRows])
            exact this
        · intro B hB
          simp only [List.take_succ_cons, List.take_zero, List.mem_cons, List.not_mem_nil, or_false] at hB
          rcases hB with rfl | rfl
          · exact under_gB
          · exact under_atB
      rintro _ rfl
      refine runC_end rfl ?_
      simp only [xs, xl, argS, reduceIte, Nat.reduceEqDiff, Nat.reduceAdd, Nat.reduceLT, Nat.reduceLeDiff, A.okCells, A.cells, A.one, splice]
      cases hg2 : great10 [l] <;> simp only [hg2, Bool.false_eq_true, if_true, if_false] at hG2
      · refine c_fn hG2 rfl ?_
        simp only [xs, xl, argS, reduceIte, Nat.reduceEqDiff, Nat.reduceAdd, Nat.reduceLT, Nat.reduceLeDiff, A.okCells, A.cells, A.one, splice, Int.lt_irrefl, decide_false]
        exact hK _ _ (Co.keep _ (by simp [x_upd, x_look, hg, hg2])) rfl
      · refine c_fn hG2 rfl ?_
        simp only [xs, xl, argS, reduceIte, Nat.reduceEqDiff, Nat.reduceAdd, Nat.reduceLT, Nat.reduceLeDiff, A.okCells, A.cells, A.one, splice, show decide ((0 : Int) < 1) = true from rfl]
        exact hK _ _ (Co.keep _ (by simp [x_upd, x_look, hg, hg2])) rfl
    · refine runC_end rfl ?_
      simp only [xs, xl, argS, reduceIte, Nat.reduceEqDiff, Nat.reduceAdd, Nat.reduceLT, Nat.reduceLeDiff, A.okCells, A.cells, A.one, splice]
      refine c_fn hG rfl ?_
      simp only [xs, xl, argS, reduceIte, Nat.reduceEqDiff, Nat.reduceAdd, Nat.reduceLT, Nat.reduceLeDiff, A.okCells, A.cells, A.one, splice, show decide ((0 : Int) < 1) = true from rfl]
      exact hK _ _ (Co.keep _ (by simp [x_upd, x_look, hg])) rfl
  rintro _ rfl
  refine W_cond rfl (fun hc => ?_) (fun hc => W_skip ?_)
  · refine W_seq (W_reg ?_)
    simp only [U, xs, xl, argS, reduceIte, Nat.reduceEqDiff, Nat.reduceAdd, Nat.reduceLT, Nat.reduceLeDiff, A.okCells, A.cells, A.one, splice]
    refine c_fn Ha rfl ?_
    simp only [xs, xl, argS, reduceIte, Nat.reduceEqDiff, Nat.reduceAdd, Nat.reduceLT, Nat.reduceLeDiff, A.okCells, A.cells, A.one, splice]
    refine W_ret (.tmp ?_ rfl)
    simp only [x_upd, reduceIte]
  have hc := hc
  rw [Bool.or_eq_false_iff] at hc
  obtain ⟨hg1, hg2⟩ := hc
  obtain ⟨hl1, hl2⟩ := (great10_small hg2).2 l (List.mem_cons_self ..)
  have S1 := Hs g (great10_small hg1).2 row l (by omega) hl2
  have S2 := Hr g (great10_small hg1).2 row l (by omega) hl2
  have C1 := Hc g (great10_small hg1).2 row to a b c
  have C2 := Hd g (great10_small hg1).2 row to a b c
  generalize setR g row l = q at S1 S2
  generalize clearR g row to b = q2 at C1 C2
  obtain ⟨x, e⟩ := q
  obtain ⟨x2, e2⟩ := q2
  have E1 := He x x
  have E2 := He x2 x2
  rw [decide_eq_true rfl] at E1 E2
  simp only [gdA, gdR, gdE, atA] at S1 S2 E1 C1 C2 E2
  simp only [U, xs, xl, argS, reduceIte, Nat.reduceEqDiff, Nat.reduceAdd, Nat.reduceLT, Nat.reduceLeDiff, A.okCells, A.cells, A.one, splice]
  refine W_seq (W_reg ?_)
  simp only [gdR, xs, xl, argS, reduceIte, Nat.reduceEqDiff, Nat.reduceAdd, Nat.reduceLT, Nat.reduceLeDiff, A.okCells, A.cells, A.one, splice]
  refine c_fn S1 (by simp [A.underL, A.under]) ?_
  simp only [xs, xl, argS, reduceIte, Nat.reduceEqDiff, Nat.reduceAdd, Nat.reduceLT, Nat.reduceLeDiff, A.okCells, A.cells, A.one, splice]
  refine W_seq (W_reg ?_)
  simp only [gdR, xs, xl, argS, reduceIte, Nat.reduceEqDiff, Nat.reduceAdd, Nat.reduceLT, Nat.reduceLeDiff, A.okCells, A.cells, A.one, splice]
  refine c_fn S2 (by simp [A.underL, A.under]) ?_
  simp only [xs, xl, argS, reduceIte, Nat.reduceEqDiff, Nat.reduceAdd, Nat.reduceLT, Nat.reduceLeDiff, A.okCells, A.cells, A.one, splice]
  refine W_seq (W_seq (W_reg ?_))
  simp only [xs, xl, argS, reduceIte, Nat.reduceEqDiff, Nat.reduceAdd, Nat.reduceLT, Nat.reduceLeDiff, A.okCells, A.cells, A.one, splice]
  refine c_fn E1 rfl ?_
  simp only [xs, xl, argS, reduceIte, Nat.reduceEqDiff, Nat.reduceAdd, Nat.reduceLT, Nat.reduceLeDiff, A.okCells, A.cells, A.one, splice, decide_true, Bool.not_true]
  refine W_cond rfl (fun hc => by simp at hc) (fun _ => W_skip ?_)
  simp only [xs, xl, argS, reduceIte, Nat.reduceEqDiff, Nat.reduceAdd, Nat.reduceLT, Nat.reduceLeDiff, A.okCells, A.cells, A.one, splice]
  refine W_seq (W_reg ?_)
  simp only [gdR, xs, xl, argS, reduceIte, Nat.reduceEqDiff, Nat.reduceAdd, Nat.reduceLT, Nat.reduceLeDiff, A.okCells, A.cells, A.one, splice]
  refine c_fn C1 (by simp [A.underL, A.under]) ?_
  simp only [xs, xl, argS, reduceIte, Nat.reduceEqDiff, Nat.reduceAdd, Nat.reduceLT, Nat.reduceLeDiff, A.okCells, A.cells, A.one, splice]
  refine W_seq (W_reg ?_)
  simp only [gdR, xs, xl, argS, reduceIte, Nat.reduceEqDiff, Nat.reduceAdd, Nat.reduceLT, Nat.reduceLeDiff, A.okCells, A.cells, A.one, splice]
  refine c_fn C2 (by simp [A.underL, A.under]) ?_
  simp only [xs, xl, argS, reduceIte, Nat.reduceEqDiff, Nat.reduceAdd, Nat.reduceLT, Nat.reduceLeDiff, A.okCells, A.cells, A.one, splice]
  refine W_seq (W_reg ?_)
  simp only [xs, xl, argS, reduceIte, Nat.reduceEqDiff, Nat.reduceAdd, Nat.reduceLT, Nat.reduceLeDiff, A.okCells, A.cells, A.one, splice]
  refine c_fn E2 rfl ?_
  simp only [xs, xl, argS, reduceIte, Nat.reduceEqDiff, Nat.reduceAdd, Nat.reduceLT, Nat.reduceLeDiff, A.okCells, A.cells, A.one, splice, decide_true]
  refine c_fn Ha rfl ?_
  simp only [xs, xl, argS, reduceIte, Nat.reduceEqDiff, Nat.reduceAdd, Nat.reduceLT, Nat.reduceLeDiff, A.okCells, A.cells, A.one, splice]
  refine W_ret (.tmp ?_ rfl)
  simp only [x_upd, reduceIte]

end Go.Proofs.YthpbagpnnokalaaDoor.Nx


/- charwidth: tables of ranges, finder, Mark, Width. -/
/- cluster: Check, Width of a text. -/
import Derived.Test.YtckglkbbdbmdkaaDoorNxD15
import Derived.Test.YtckglkbbdbmdkaaDoorNxWalk
import Derived.Test.YtckglkbbdbmdkaaDoorNxU1
namespace Go.Proofs.YtckglkbbdbmdkaaDoor.Nx
set_option linter.unusedSimpArgs false
set_option linter.unusedVariables false
set_option linter.unnecessarySimpa false
open Go

variable {P : Program} {N : Nat} {Γ : Tabs}

abbrev eRg : Elt := ⟨2, 8⟩
def rgRows (l : List (Int × Int)) : List (List D) := l.map fun p => [.sc (.int .i32 p.1), .sc (.int .i32 p.2)]
theorem rgRows_len {l : List (Int × Int)} : (rgRows l).length = l.length := by simp [rgRows]
theorem rgRows_get {l : List (Int × Int)} {i : Nat} (hi : i < l.length) : (rgRows l).getD i [] = [.sc (.int .i32 l[i].1), .sc (.int .i32 l[i].2)] := by
  rw [List.getD_eq_getElem?_getD, rgRows, List.getElem?_map, List.getElem?_eq_getElem hi]; rfl

def marksT : List (Int × Int) := [(768, 879), (6832, 6911), (7616, 7679), (8203, 8207), (8400, 8447), (65024, 65039), (65056, 65071)]
def wideT : List (Int × Int) := [(4352, 4447), (11904, 12350), (12353, 13311), (13312, 19903), (19968, 40959), (40960, 42191), (44032, 55203), (63744, 64255), (65072, 65135), (65280, 65376), (65504, 65510), (127744, 128591), (129280, 129535), (131072, 262141)]

/-- Whether a number lies in one of the ranges. -/
def inR (l : List (Int × Int)) (r : Int) : Bool := l.any fun p => decide (p.1 ≤ r) && decide (r ≤ p.2)
def markC (r : Int) : Bool := inR marksT r
def widthC (r : Int) : Int := if r < 32 ∨ (127 ≤ r ∧ r ≤ 159) then -1 else if markC r then 0 else if inR wideT r then 2 else 1

theorem marks_fn {f : FuncId} (H : FnIs P f N [.t 0] x_charwidth_marks) : FnP Γ P f [] (.d (.sl eRg (rgRows marksT))) := by
  refine .of_W H (by simp) ?_
  unfold x_charwidth_marks
  refine W_seq (W_reg ?_)
  simp only [xs, xl, argS, reduceIte, Nat.reduceEqDiff, Nat.reduceAdd, Nat.reduceLT, Nat.reduceLeDiff, A.okCells, A.cells, A.one, splice]
  refine W_seq (W_reg ?_)
  simp only [xs, xl, argS, reduceIte, Nat.reduceEqDiff, Nat.reduceAdd, Nat.reduceLT, Nat.reduceLeDiff, A.okCells, A.cells, A.one, splice]
  refine W_ret (.frz ?_)
  simp only [xs, xl, argS, reduceIte, Nat.reduceEqDiff, Nat.reduceAdd, Nat.reduceLT, Nat.reduceLeDiff, A.okCells, A.cells, A.one, splice]
  exact frz_all (id := 0) (full := true) (e := eRg) (rows := rgRows marksT) rfl

theorem wides_fn {f : FuncId} (H : FnIs P f N [.t 0] x_charwidth_Wide) : FnP Γ P f [] (.d (.sl eRg (rgRows wideT))) := by
  refine .of_W H (by simp) ?_
  unfold x_charwidth_Wide
  refine W_seq (W_reg ?_)
  simp only [xs, xl, argS, reduceIte, Nat.reduceEqDiff, Nat.reduceAdd, Nat.reduceLT, Nat.reduceLeDiff, A.okCells, A.cells, A.one, splice]
  refine W_seq (W_reg ?_)
  simp only [xs, xl, argS, reduceIte, Nat.reduceEqDiff, Nat.reduceAdd, Nat.reduceLT, Nat.reduceLeDiff, A.okCells, A.cells, A.one, splice]
  refine W_ret (.frz ?_)
  simp only [xs, xl, argS, reduceIte, Nat.reduceEqDiff, Nat.reduceAdd, Nat.reduceLT, Nat.reduceLeDiff, A.okCells, A.cells, A.one, splice]
  exact frz_all (id := 0) (full := true) (e := eRg) (rows := rgRows wideT) rfl

theorem finder_fn {f f1 : FuncId} (H : FnIs P f N [.t 2] (x_charwidth_finder f1)) (hN : 1 ≤ N) (rows : List (List D)) : FnP Γ P f [.d (.sl eRg rows)] (.fn f1 [.iptr [.sl eRg rows]]) := by
  refine .of_W H (by simpa using hN) ?_
  unfold x_charwidth_finder
  refine W_seq (W_reg ?_)
  simp only [xs, xl, argS, reduceIte, Nat.reduceEqDiff, Nat.reduceAdd, Nat.reduceLT, Nat.reduceLeDiff, A.okCells, A.cells, A.one, splice]
  refine W_seq (W_reg ?_)
  simp only [xs, xl, argS, reduceIte, Nat.reduceEqDiff, Nat.reduceAdd, Nat.reduceLT, Nat.reduceLeDiff, A.okCells, A.cells, A.one, splice]
  refine W_ret (.frz ?_)
  simp only [xs, xl, argS, reduceIte, Nat.reduceEqDiff, Nat.reduceAdd, Nat.reduceLT, Nat.reduceLeDiff, A.okCells, A.cells, A.one, splice]
  refine .fn rfl fun j y hj => ?_
  cases j with
  | zero =>
    cases hj
    refine FrzA.iptr (rows := [[.d (.sl eRg rows)]]) (i := 0) (off := 0) (id := 0) (Nat.zero_le 0) rfl rfl fun k d hk => ?_
    cases k with
    | zero => cases hk; exact ⟨by simp, .d _⟩
    | succ k => simp at hk
  | succ j => simp at hj

def Sorted (l : List (Int × Int)) : Prop := ∀ j, j < l.length → ∀ i, i < j → (l.getD i (0, 0)).1 ≤ (l.getD j (0, 0)).1 ∧ (l.getD i (0, 0)).2 ≤ (l.getD j (0, 0)).2
theorem Sorted.le {l : List (Int × Int)} (h : Sorted l) {i j : Nat} (hij : i ≤ j) (hj : j < l.length) : (l[i]'(by omega)).1 ≤ l[j].1 ∧ (l[i]'(by omega)).2 ≤ l[j].2 := by
  rcases Nat.lt_or_ge i j with h1 | h1
  · have := h j hj i h1
    rw [List.getD_eq_getElem?_getD, List.getD_eq_getElem?_getD, List.getElem?_eq_getElem hj, List.getElem?_eq_getElem (by omega)] at this
    exact this
  · have : i = j := by omega
    subst this; exact ⟨Int.le_refl _, Int.le_refl _⟩
theorem marks_sorted : Sorted marksT := by unfold Sorted; decide
theorem wide_sorted : Sorted wideT := by unfold Sorted; decide

theorem inR_at {l : List (Int × Int)} (h : Sorted l) {r : Int} {k : Nat} (hk : k < l.length) (h1 : ∀ i (hi : i < l.length), i < k → l[i].2 < r) (h2 : r ≤ l[k].2) : inR l r = decide (l[k].1 ≤ r) := by
  rw [Bool.eq_iff_iff]
  simp only [inR, List.any_eq_true, Bool.and_eq_true, decide_eq_true_eq]
  constructor
  · rintro ⟨p, hp, hp1, hp2⟩
    obtain ⟨i, hi, rfl⟩ := List.mem_iff_getElem.1 hp
    rcases Nat.lt_or_ge i k with hik | hik
    · have := h1 i hi hik; omega
    · have := (h.le hik hi).1; omega
  · intro hk1
    exact ⟨l[k], List.getElem_mem hk, hk1, h2⟩
theorem inR_none {l : List (Int × Int)} {r : Int} (h1 : ∀ i (hi : i < l.length), l[i].2 < r) : inR l r = false := by
  rw [Bool.eq_false_iff]
  intro h
  simp only [inR, List.any_eq_true, Bool.and_eq_true, decide_eq_true_eq] at h
  obtain ⟨p, hp, hp1, hp2⟩ := h
  obtain ⟨i, hi, rfl⟩ := List.mem_iff_getElem.1 hp
  have := h1 i hi; omega

theorem finder1_fn {f : FuncId} (H : FnIs P f N [.t 3] x_charwidth_finder_1) (hN : 2 ≤ N) {l : List (Int × Int)} (hs : Sorted l) (hl : l.length ≤ 1000) (r : Int) :
    FnP Γ P f [.sc (.int .i32 r), .iptr [.sl eRg (rgRows l)]] (.bool (inR l r)) := by
  refine .of_W H (by simpa using hN) ?_
  unfold x_charwidth_finder_1
  refine W_seq (W_reg ?_)
  simp only [xs, xl, argS, reduceIte, Nat.reduceEqDiff, Nat.reduceAdd, Nat.reduceLT, Nat.reduceLeDiff, A.okCells, A.cells, A.one, splice]
  refine W_seq (W_drw (by simp) ?_)
  simp only [xs, xl, argS, reduceIte, Nat.reduceEqDiff, Nat.reduceAdd, Nat.reduceLT, Nat.reduceLeDiff, A.okCells, A.cells, A.one, splice, rgRows_len]
  let S : Nat → Nat → St := fun i j => ⟨look [(0, .sc (.int .i32 r)), (1, .iptr [.sl eRg (rgRows l)]), (4, .int i), (5, .int j)], []⟩
  refine W_co (s' := S 0 l.length) (Co.keep _ (by simp [x_upd, x_look])) ?_
  refine W_seq (W_block ?_)
  refine W_loop (fun m s => ∃ i j, i ≤ j ∧ j ≤ l.length ∧ m = j - i ∧ s = S i j ∧ (∀ k (hk : k < l.length), k < i → l[k].2 < r) ∧ (∀ k (hk : k < l.length), j ≤ k → r ≤ l[k].2)) ⟨0, l.length, Nat.zero_le _, Nat.le_refl _, rfl, rfl, fun _ _ h => by omega, fun _ _ h => by omega⟩ ?_
  rintro m s ⟨i, j, hij, hj, rfl, rfl, hlo, hhi⟩
  refine W_seq (W_seq (W_reg ?_))
  simp only [xs, xl, argS, reduceIte, Nat.reduceEqDiff, Nat.reduceAdd, Nat.reduceLT, Nat.reduceLeDiff, A.okCells, A.cells, A.one, splice, S]
  refine W_cond rfl (fun hc => W_skip ?_) (fun hc => W_exit ?_)
  · have hlt : i < j := by simpa using hc
    simp only [xs, xl, argS, reduceIte, Nat.reduceEqDiff, Nat.reduceAdd, Nat.reduceLT, Nat.reduceLeDiff, A.okCells, A.cells, A.one, splice]
    have e1 : IntKind.i64.wrap ((i : Int) + (j : Int)) = (i : Int) + (j : Int) := i64_of (by omega)
    have e2 : IntKind.i64.wrap (((i : Int) + (j : Int)).tdiv 2) = (((i + j) / 2 : Nat) : Int) := by
      rw [Int.tdiv_eq_ediv_of_nonneg (by omega), i64_of (by omega)]; omega
    have hm1 : i ≤ (i + j) / 2 := by omega
    have hm2 : (i + j) / 2 < j := by omega
    generalize (i + j) / 2 = mid at e2 hm1 hm2
    have hml : mid < l.length := by omega
    refine W_block (W_seq (W_reg ?_))
    simp only [xs, xl, argS, reduceIte, Nat.reduceEqDiff, Nat.reduceAdd, Nat.reduceLT, Nat.reduceLeDiff, A.okCells, A.cells, A.one, splice, b_quo (k := .i64) (show (2 : Int) ≠ 0 by decide), e1, e2]
    refine W_seq (W_reg ?_)
    simp only [xs, xl, argS, reduceIte, Nat.reduceEqDiff, Nat.reduceAdd, Nat.reduceLT, Nat.reduceLeDiff, A.okCells, A.cells, A.one, splice, rgRows_get hml, rgRows_len, show Int.toNat 1 = 1 from rfl, Nat.mul_one]
    refine ⟨by omega, by omega, by decide, by decide, ?_⟩
    refine W_cond rfl (fun hd => W_reg ?_) (fun hd => W_reg ?_)
    · have hgt : l[mid].2 < r := by simpa using hd
      simp only [xs, xl, argS, reduceIte, Nat.reduceEqDiff, Nat.reduceAdd, Nat.reduceLT, Nat.reduceLeDiff, A.okCells, A.cells, A.one, splice]
      refine ⟨j - (mid + 1), S (mid + 1) j, by omega, Co.keep _ ?_, mid + 1, j, by omega, hj, rfl, rfl, fun k hk hk2 => ?_, hhi⟩
      · simp [x_upd, x_look, i64_succ hml (show l.length ≤ room by simp only [room]; omega)]
      · have := (hs.le (show k ≤ mid by omega) hml).2; omega
    · have hle : r ≤ l[mid].2 := by simp at hd; omega
      simp only [xs, xl, argS, reduceIte, Nat.reduceEqDiff, Nat.reduceAdd, Nat.reduceLT, Nat.reduceLeDiff, A.okCells, A.cells, A.one, splice]
      refine ⟨mid - i, S i mid, by omega, Co.keep _ ?_, i, mid, hm1, by omega, rfl, rfl, hlo, fun k hk hk2 => ?_⟩
      · simp [x_upd, x_look]
      · have := (hs.le hk2 hk).2; omega
  · have hle : i = j := by simp at hc; omega
    subst hle
    simp only [xs, xl, argS, reduceIte, Nat.reduceEqDiff, Nat.reduceAdd, Nat.reduceLT, Nat.reduceLeDiff, A.okCells, A.cells, A.one, splice]
    by_cases hin : i < l.length
    · have d1 : decide ((i : Int) < (l.length : Int)) = true := decide_eq_true (by omega)
      refine W_seq (W_reg ?_)
      simp only [xs, xl, argS, reduceIte, Nat.reduceEqDiff, Nat.reduceAdd, Nat.reduceLT, Nat.reduceLeDiff, A.okCells, A.cells, A.one, splice, rgRows_get hin, rgRows_len, d1, Nat.zero_mul]
      refine ⟨by omega, by omega, by decide, by decide, ?_⟩
      refine W_ret (.tmp ?_ rfl)
      simp only [x_upd, reduceIte, inR_at hs hin (fun k hk hk2 => hlo k hk hk2) (hhi i hin (Nat.le_refl _))]
    · have d1 : decide ((i : Int) < (l.length : Int)) = false := decide_eq_false (by omega)
      refine W_seq (W_reg ?_)
      simp only [xs, xl, argS, reduceIte, Nat.reduceEqDiff, Nat.reduceAdd, Nat.reduceLT, Nat.reduceLeDiff, A.okCells, A.cells, A.one, splice, rgRows_len, d1]
      refine W_ret (.tmp ?_ rfl)
      simp only [x_upd, reduceIte, inR_none (fun k hk => hlo k hk (by omega))]

theorem mark_fn {f fm ff f1 : FuncId} {Nm Nf N1 : Nat} (H : FnIs P f N [.t 2] (x_charwidth_Mark fm ff)) (hN : 1 ≤ N) (Hm : FnIs P fm Nm [.t 0] x_charwidth_marks) (Hf : FnIs P ff Nf [.t 2] (x_charwidth_finder f1)) (hNf : 1 ≤ Nf) (H1 : FnIs P f1 N1 [.t 3] x_charwidth_finder_1) (hN1 : 2 ≤ N1) (r : Int) :
    FnP Γ P f [.sc (.int .i32 r)] (.bool (markC r)) := by
  refine .of_W H (by simpa using hN) ?_
  unfold x_charwidth_Mark
  refine W_seq (W_reg ?_)
  simp only [xs, xl, argS, reduceIte, Nat.reduceEqDiff, Nat.reduceAdd, Nat.reduceLT, Nat.reduceLeDiff, A.okCells, A.cells, A.one, splice]
  refine W_seq (W_reg ?_)
  simp only [xs, xl, argS, reduceIte, Nat.reduceEqDiff, Nat.reduceAdd, Nat.reduceLT, Nat.reduceLeDiff, A.okCells, A.cells, A.one, splice]
  refine c_fn (marks_fn Hm) rfl ?_
  simp only [xs, xl, argS, reduceIte, Nat.reduceEqDiff, Nat.reduceAdd, Nat.reduceLT, Nat.reduceLeDiff, A.okCells, A.cells, A.one, splice]
  refine c_fn (finder_fn Hf hNf _) rfl ?_
  simp only [xs, xl, argS, reduceIte, Nat.reduceEqDiff, Nat.reduceAdd, Nat.reduceLT, Nat.reduceLeDiff, A.okCells, A.cells, A.one, splice]
  refine c_clo (finder1_fn H1 hN1 marks_sorted (by decide) r) rfl ?_
  simp only [xs, xl, argS, reduceIte, Nat.reduceEqDiff, Nat.reduceAdd, Nat.reduceLT, Nat.reduceLeDiff, A.okCells, A.cells, A.one, splice]
  refine W_ret (.tmp ?_ rfl)
  simp only [x_upd, reduceIte, markC]

theorem widthC_fn {f fk fm fw ff f1 : FuncId} {Nk Nm Nw Nf N1 : Nat} (H : FnIs P f N [.t 2] (x_charwidth_Width fk fw ff)) (hN : 1 ≤ N) (Hk : FnIs P fk Nk [.t 2] (x_charwidth_Mark fm ff)) (hNk : 1 ≤ Nk) (Hm : FnIs P fm Nm [.t 0] x_charwidth_marks)
    (Hw : FnIs P fw Nw [.t 0] x_charwidth_Wide) (Hf : FnIs P ff Nf [.t 2] (x_charwidth_finder f1)) (hNf : 1 ≤ Nf) (H1 : FnIs P f1 N1 [.t 3] x_charwidth_finder_1) (hN1 : 2 ≤ N1) (r : Int) :
    FnP Γ P f [.sc (.int .i32 r)] (.int (widthC r)) := by
  refine .of_W H (by simpa using hN) ?_
  unfold x_charwidth_Width
  refine W_seq (W_reg ?_)
  simp only [xs, xl, argS, reduceIte, Nat.reduceEqDiff, Nat.reduceAdd, Nat.reduceLT, Nat.reduceLeDiff, A.okCells, A.cells, A.one, splice]
  let S : Bool → St := fun b => ⟨look [(0, .sc (.int .i32 r)), (3, .bool b)], []⟩
  refine W_seq (W_block (W_cutX (· = S (decide (r < 32) || (decide (127 ≤ r) && decide (r ≤ 159)))) rfl (fun K hK => ?_) ?_))
  · cases h1 : decide (r < 32) with
    | true =>
      simp only [xs, xl, argS, reduceIte, Nat.reduceEqDiff, Nat.reduceAdd, Nat.reduceLT, Nat.reduceLeDiff, A.okCells, A.cells, A.one, splice, h1]
      exact hK _ (S true) (Co.keep _ (by simp [x_upd, x_look])) (by rw [h1, Bool.true_or])
    | false =>
      cases h2 : decide (127 ≤ r) with
      | true =>
        simp only [xs, xl, argS, reduceIte, Nat.reduceEqDiff, Nat.reduceAdd, Nat.reduceLT, Nat.reduceLeDiff, A.okCells, A.cells, A.one, splice, h1, h2]
        exact hK _ (S (decide (r ≤ 159))) (Co.keep _ (by simp [x_upd, x_look])) (by rw [h1, h2, Bool.false_or, Bool.true_and])
      | false =>
        simp only [xs, xl, argS, reduceIte, Nat.reduceEqDiff, Nat.reduceAdd, Nat.reduceLT, Nat.reduceLeDiff, A.okCells, A.cells, A.one, splice, h1, h2]
        exact hK _ (S false) (Co.keep _ (by simp [x_upd, x_look])) (by rw [h1, h2, Bool.false_or, Bool.false_and])
  · rintro _ rfl
    refine W_cond rfl (fun hc => ?_) (fun hc => ?_)
    · have hc' : r < 32 ∨ (127 ≤ r ∧ r ≤ 159) := by simpa using hc
      refine W_seq (W_reg ?_)
      simp only [S, xs, xl, argS, reduceIte, Nat.reduceEqDiff, Nat.reduceAdd, Nat.reduceLT, Nat.reduceLeDiff, A.okCells, A.cells, A.one, splice]
      refine W_ret ?_
      simp only [xs, xl, argS, reduceIte, Nat.reduceEqDiff, Nat.reduceAdd, Nat.reduceLT, Nat.reduceLeDiff, A.okCells, A.cells, A.one, splice]
      refine .tmp ?_ rfl
      simp only [x_upd, reduceIte, widthC, hc']
    · have hc' : ¬ (r < 32 ∨ (127 ≤ r ∧ r ≤ 159)) := by
        intro h
        rw [Bool.eq_false_iff] at hc
        exact hc (by simpa using h)
      refine W_seq (W_reg ?_)
      simp only [S, xs, xl, argS, reduceIte, Nat.reduceEqDiff, Nat.reduceAdd, Nat.reduceLT, Nat.reduceLeDiff, A.okCells, A.cells, A.one, splice]
      refine c_fn (mark_fn Hk hNk Hm Hf hNf H1 hN1 r) rfl ?_
      simp only [xs, xl, argS, reduceIte, Nat.reduceEqDiff, Nat.reduceAdd, Nat.reduceLT, Nat.reduceLeDiff, A.okCells, A.cells, A.one, splice]
      refine W_cond rfl (fun hm => ?_) (fun hm => ?_)
      · refine W_seq (W_reg ?_)
        simp only [xs, xl, argS, reduceIte, Nat.reduceEqDiff, Nat.reduceAdd, Nat.reduceLT, Nat.reduceLeDiff, A.okCells, A.cells, A.one, splice]
        refine W_ret ?_
        simp only [xs, xl, argS, reduceIte, Nat.reduceEqDiff, Nat.reduceAdd, Nat.reduceLT, Nat.reduceLeDiff, A.okCells, A.cells, A.one, splice]
        refine .tmp ?_ rfl
        simp only [x_upd, reduceIte, widthC, hc', hm]
      · refine W_seq (W_reg ?_)
        simp only [xs, xl, argS, reduceIte, Nat.reduceEqDiff, Nat.reduceAdd, Nat.reduceLT, Nat.reduceLeDiff, A.okCells, A.cells, A.one, splice]
        refine c_fn (wides_fn Hw) rfl ?_
        simp only [xs, xl, argS, reduceIte, Nat.reduceEqDiff, Nat.reduceAdd, Nat.reduceLT, Nat.reduceLeDiff, A.okCells, A.cells, A.one, splice]
        refine c_fn (finder_fn Hf hNf _) rfl ?_
        simp only [xs, xl, argS, reduceIte, Nat.reduceEqDiff, Nat.reduceAdd, Nat.reduceLT, Nat.reduceLeDiff, A.okCells, A.cells, A.one, splice]
        refine c_clo (finder1_fn H1 hN1 wide_sorted (by decide) r) rfl ?_
        simp only [xs, xl, argS, reduceIte, Nat.reduceEqDiff, Nat.reduceAdd, Nat.reduceLT, Nat.reduceLeDiff, A.okCells, A.cells, A.one, splice]
        refine W_cond rfl (fun hw => ?_) (fun hw => W_skip ?_)
        · refine W_seq (W_reg ?_)
          simp only [xs, xl, argS, reduceIte, Nat.reduceEqDiff, Nat.reduceAdd, Nat.reduceLT, Nat.reduceLeDiff, A.okCells, A.cells, A.one, splice]
          refine W_ret ?_
          simp only [xs, xl, argS, reduceIte, Nat.reduceEqDiff, Nat.reduceAdd, Nat.reduceLT, Nat.reduceLeDiff, A.okCells, A.cells, A.one, splice]
          refine .tmp ?_ rfl
          simp only [x_upd, reduceIte, widthC, hc', hm, hw, Bool.false_eq_true]
        · simp only [xs, xl, argS, reduceIte, Nat.reduceEqDiff, Nat.reduceAdd, Nat.reduceLT, Nat.reduceLeDiff, A.okCells, A.cells, A.one, splice]
          refine W_seq (W_reg ?_)
          simp only [xs, xl, argS, reduceIte, Nat.reduceEqDiff, Nat.reduceAdd, Nat.reduceLT, Nat.reduceLeDiff, A.okCells, A.cells, A.one, splice]
          refine W_ret (.tmp ?_ rfl)
          simp only [x_upd, reduceIte, widthC, hc', hm, hw, Bool.false_eq_true]

end Go.Proofs.YtckglkbbdbmdkaaDoor.Nx

namespace Go.Proofs.YtckglkbbdbmdkaaDoor.Nx
set_option linter.unusedSimpArgs false
set_option linter.unusedVariables false
set_option linter.unnecessarySimpa false
open Go Go.Lib

variable {P : Program} {N : Nat} {Γ : Tabs}

abbrev eRn : Elt := ⟨1, 4⟩
def rnRows (l : List Nat) : List (List D) := l.map runeRow
theorem rnRows_len {l : List Nat} : (rnRows l).length = l.length := by simp [rnRows]
theorem rnRows_get {l : List Nat} {i : Nat} (hi : i < l.length) : (rnRows l).getD i [] = [.sc (.int .i32 l[i])] := by
  rw [List.getD_eq_getElem?_getD, rnRows, List.getElem?_map, List.getElem?_eq_getElem hi]; rfl
theorem rnRows_drop {l : List Nat} {n : Nat} : (rnRows l).drop n = rnRows (l.drop n) := by simp [rnRows, List.map_drop]

/-- Whether a text is valid UTF-8. -/
def validS (s : ByteArray) : Bool := validD s.data.toList
/-- What is wrong with characters that are to be a cluster. -/
def chkR : List Nat → Int
  | [] => 3
  | r :: l => if widthC r < 1 ∨ (l.all fun n => markC n) = false then 9 else if 3 < l.length then 5 else 0
def chkC (s : ByteArray) : Int := if s.size = 0 ∨ validS s = false then 3 else chkR (runesOf s)
def runesC (s : ByteArray) : List Nat := if chkC s = 0 then runesOf s else []
def widC (s : ByteArray) : Int := match runesC s with
  | [] => 0
  | r :: _ => widthC r

theorem marked_fn {f fk : FuncId} (H : FnIs P f N [.t 2] (x_cluster_marked fk)) (hN : 1 ≤ N) (Hk : ∀ r, FnP Γ P fk [.sc (.int .i32 r)] (.bool (markC r))) (l : List Nat) : FnP Γ P f [.d (.sl eRn (rnRows l))] (.bool (l.all fun n => markC n)) := by
  refine .of_W H (by simpa using hN) (W_sl 0 rfl fun ⟨_, hroom, _⟩ => ?_)
  have hlr : l.length ≤ room := le_of_mul (by rw [rnRows_len] at hroom; exact hroom)
  unfold x_cluster_marked
  refine W_seq (W_reg ?_)
  simp only [xs, xl, argS, reduceIte, Nat.reduceEqDiff, Nat.reduceAdd, Nat.reduceLT, Nat.reduceLeDiff, A.okCells, A.cells, A.one, splice]
  refine W_seq (W_seq (W_reg ?_))
  simp only [xs, xl, argS, reduceIte, Nat.reduceEqDiff, Nat.reduceAdd, Nat.reduceLT, Nat.reduceLeDiff, A.okCells, A.cells, A.one, splice, rnRows_len]
  refine W_block ?_
  let S : Nat → St := fun i => ⟨look [(5, .d (.sl eRn (rnRows l))), (6, .int l.length), (7, .int i)], []⟩
  refine W_co (s' := S 0) (Co.keep _ (by simp [x_upd, x_look])) ?_
  refine W_loop (fun m s => ∃ i, i ≤ l.length ∧ m = l.length - i ∧ s = S i ∧ (l.take i).any (fun n => !markC n) = false) ⟨0, Nat.zero_le _, rfl, rfl, by simp⟩ ?_
  rintro m s ⟨i, hi, rfl, rfl, hpre⟩
  refine W_seq (W_reg ?_)
  simp only [xs, xl, argS, reduceIte, Nat.reduceEqDiff, Nat.reduceAdd, Nat.reduceLT, Nat.reduceLeDiff, A.okCells, A.cells, A.one, splice, S]
  refine W_seq (W_cond rfl (fun hc => W_skip ?_) (fun hc => W_exit ?_))
  · have hlt : i < l.length := by simpa using hc
    simp only [xs, xl, argS, reduceIte, Nat.reduceEqDiff, Nat.reduceAdd, Nat.reduceLT, Nat.reduceLeDiff, A.okCells, A.cells, A.one, splice]
    refine W_seq (W_block (W_seq (W_reg ?_)))
    simp only [xs, xl, argS, reduceIte, Nat.reduceEqDiff, Nat.reduceAdd, Nat.reduceLT, Nat.reduceLeDiff, A.okCells, A.cells, A.one, splice, rnRows_get hlt, rnRows_len]
    refine ⟨by omega, by omega, ?_⟩
    refine W_seq (W_reg ?_)
    simp only [xs, xl, argS, reduceIte, Nat.reduceEqDiff, Nat.reduceAdd, Nat.reduceLT, Nat.reduceLeDiff, A.okCells, A.cells, A.one, splice]
    refine c_fn (Hk _) rfl ?_
    simp only [xs, xl, argS, reduceIte, Nat.reduceEqDiff, Nat.reduceAdd, Nat.reduceLT, Nat.reduceLeDiff, A.okCells, A.cells, A.one, splice]
    refine W_cond rfl (fun hd => ?_) (fun hd => W_skip ?_)
    · refine W_seq (W_reg ?_)
      simp only [xs, xl, argS, reduceIte, Nat.reduceEqDiff, Nat.reduceAdd, Nat.reduceLT, Nat.reduceLeDiff, A.okCells, A.cells, A.one, splice]
      refine W_ret ?_
      simp only [xs, xl, argS, reduceIte, Nat.reduceEqDiff, Nat.reduceAdd, Nat.reduceLT, Nat.reduceLeDiff, A.okCells, A.cells, A.one, splice]
      refine .tmp ?_ rfl
      have : (l.all fun n => markC n) = false := by
        rw [List.all_eq_false]
        exact ⟨l[i], List.getElem_mem hlt, by simpa using hd⟩
      simp only [x_upd, reduceIte, this]
    · simp only [xs, xl, argS, reduceIte, Nat.reduceEqDiff, Nat.reduceAdd, Nat.reduceLT, Nat.reduceLeDiff, A.okCells, A.cells, A.one, splice]
      refine W_reg ?_
      simp only [xs, xl, argS, reduceIte, Nat.reduceEqDiff, Nat.reduceAdd, Nat.reduceLT, Nat.reduceLeDiff, A.okCells, A.cells, A.one, splice]
      refine ⟨l.length - (i + 1), S (i + 1), by omega, Co.keep _ ?_, i + 1, hlt, rfl, rfl, any_take_succ hlt hpre hd⟩
      simp [x_upd, x_look, i64_succ hlt hlr]
  · have hle : i = l.length := by simp at hc; omega
    subst hle
    rw [List.take_length] at hpre
    simp only [xs, xl, argS, reduceIte, Nat.reduceEqDiff, Nat.reduceAdd, Nat.reduceLT, Nat.reduceLeDiff, A.okCells, A.cells, A.one, splice]
    refine W_seq (W_reg ?_)
    simp only [xs, xl, argS, reduceIte, Nat.reduceEqDiff, Nat.reduceAdd, Nat.reduceLT, Nat.reduceLeDiff, A.okCells, A.cells, A.one, splice]
    refine W_ret (.tmp ?_ rfl)
    have : (l.all fun n => markC n) = true := by
      rw [List.all_eq_true]
      intro n hn
      have h2 := List.any_eq_false.1 hpre n hn
      simpa using h2
    simp only [x_upd, reduceIte, this]

theorem valid_fn {f fv : FuncId} (H : FnIs P f N [.t 2] (x_utf8stream_Valid fv)) (hN : 1 ≤ N) (Hv : ∀ s : ByteArray, s.size ≤ 1000 → FnP Γ P fv [.str s] (.bool (validS s))) (s : ByteArray) (hs : s.size ≤ 1000) : FnP Γ P f [.str s] (.bool (validS s)) := by
  refine .of_W H (by simpa using hN) ?_
  unfold x_utf8stream_Valid
  refine W_seq (W_reg ?_)
  simp only [xs, xl, argS, reduceIte, Nat.reduceEqDiff, Nat.reduceAdd, Nat.reduceLT, Nat.reduceLeDiff, A.okCells, A.cells, A.one, splice]
  refine W_seq (W_reg ?_)
  simp only [xs, xl, argS, reduceIte, Nat.reduceEqDiff, Nat.reduceAdd, Nat.reduceLT, Nat.reduceLeDiff, A.okCells, A.cells, A.one, splice]
  refine c_fn (Hv s hs) rfl ?_
  simp only [xs, xl, argS, reduceIte, Nat.reduceEqDiff, Nat.reduceAdd, Nat.reduceLT, Nat.reduceLeDiff, A.okCells, A.cells, A.one, splice]
  refine W_ret (.tmp ?_ rfl)
  simp only [x_upd, reduceIte]

theorem bytes_empty {s : ByteArray} : s = ⟨#[]⟩ ↔ s.size = 0 := by
  constructor
  · rintro rfl; rfl
  · intro h
    rcases s with ⟨⟨l⟩⟩
    cases l with
    | nil => rfl
    | cons a l => simp [ByteArray.size] at h

theorem check_fn {f fv fw fk : FuncId} (H : FnIs P f N [.t 2] (x_cluster_Check fv fw fk)) (hN : 1 ≤ N) (Hv : ∀ s : ByteArray, s.size ≤ 1000 → FnP Γ P fv [.str s] (.bool (validS s))) (Hw : ∀ r, FnP Γ P fw [.sc (.int .i32 r)] (.int (widthC r)))
    (Hk : ∀ l, FnP Γ P fk [.d (.sl eRn (rnRows l))] (.bool (l.all fun n => markC n))) (s : ByteArray) (hs : s.size ≤ 1000) : FnP Γ P f [.str s] (.int (chkC s)) := by
  refine .of_W H (by simpa using hN) ?_
  unfold x_cluster_Check
  refine W_seq (W_reg ?_)
  simp only [xs, xl, argS, reduceIte, Nat.reduceEqDiff, Nat.reduceAdd, Nat.reduceLT, Nat.reduceLeDiff, A.okCells, A.cells, A.one, splice]
  let S : Bool → St := fun b => ⟨look [(0, .str s), (10, .bool b)], []⟩
  have e0 : decide (s = ⟨#[]⟩) = decide (s.size = 0) := by rw [Bool.eq_iff_iff]; simp only [decide_eq_true_eq]; exact bytes_empty
  refine W_seq (W_cutX (· = S (decide (s.size = 0) || !validS s)) rfl (fun K hK => ?_) ?_)
  · cases h0 : decide (s.size = 0) with
    | true =>
      simp only [xs, xl, argS, reduceIte, Nat.reduceEqDiff, Nat.reduceAdd, Nat.reduceLT, Nat.reduceLeDiff, A.okCells, A.cells, A.one, splice, e0, h0]
      exact hK _ (S true) (Co.keep _ (by simp [x_upd, x_look])) (by rw [h0, Bool.true_or])
    | false =>
      simp only [xs, xl, argS, reduceIte, Nat.reduceEqDiff, Nat.reduceAdd, Nat.reduceLT, Nat.reduceLeDiff, A.okCells, A.cells, A.one, splice, e0, h0]
      refine c_fn (Hv s hs) rfl ?_
      simp only [xs, xl, argS, reduceIte, Nat.reduceEqDiff, Nat.reduceAdd, Nat.reduceLT, Nat.reduceLeDiff, A.okCells, A.cells, A.one, splice]
      exact hK _ (S (!validS s)) (Co.keep _ (by simp [x_upd, x_look])) (by rw [h0, Bool.false_or])
  · rintro _ rfl
    refine W_cond rfl (fun hc => ?_) (fun hc => W_skip ?_)
    · refine W_seq (W_reg ?_)
      simp only [S, xs, xl, argS, reduceIte, Nat.reduceEqDiff, Nat.reduceAdd, Nat.reduceLT, Nat.reduceLeDiff, A.okCells, A.cells, A.one, splice]
      refine W_ret (.tmp ?_ rfl)
      have : s.size = 0 ∨ validS s = false := by simpa using hc
      simp only [x_upd, reduceIte, chkC, this]
    · have hno : ¬ (s.size = 0 ∨ validS s = false) := by
        intro h
        rw [Bool.eq_false_iff] at hc
        exact hc (by simpa using h)
      have hv : validS s = true := by
        cases h : validS s with
        | true => rfl
        | false => exact absurd (.inr h) hno
      have hne := runes_ne hv (by omega)
      have hlen := runesOf_len s
      have hchk : chkC s = chkR (runesOf s) := by rw [chkC, if_neg hno]
      rw [hchk]
      have hrows : (runesOf s).map runeRow = rnRows (runesOf s) := rfl
      have hrm : (runesOf s).length * 4 ≤ room := by simp only [room]; omega
      simp only [S, xs, xl, argS, reduceIte, Nat.reduceEqDiff, Nat.reduceAdd, Nat.reduceLT, Nat.reduceLeDiff, A.okCells, A.cells, A.one, splice]
      refine W_seq (W_reg ?_)
      simp only [xs, xl, argS, reduceIte, Nat.reduceEqDiff, Nat.reduceAdd, Nat.reduceLT, Nat.reduceLeDiff, A.okCells, A.cells, A.one, splice, x_s2r, s2_s, hrows]
      refine ⟨hrm, ?_⟩
      generalize runesOf s = l at hne hlen
      cases l with
      | nil => exact absurd rfl hne
      | cons r l =>
        have hr0 : (rnRows (r :: l)).getD 0 [] = [.sc (.int .i32 r)] := rfl
        have hd1 : (rnRows (r :: l)).drop 1 = rnRows l := rfl
        have ht : (rnRows l).take ((((r :: l).length : Nat) : Int) - 1).toNat = rnRows l := by
          refine List.take_of_length_le ?_
          rw [rnRows_len]; simp
        let T : Bool → St := fun b => ⟨look [(3, .d (.sl eRn (rnRows (r :: l)))), (13, .bool b)], []⟩
        refine W_seq (W_block (W_cutX (· = T (decide (widthC r < 1) || !(l.all fun n => markC n))) rfl (fun K hK => ?_) ?_))
        · simp only [xs, xl, argS, reduceIte, Nat.reduceEqDiff, Nat.reduceAdd, Nat.reduceLT, Nat.reduceLeDiff, A.okCells, A.cells, A.one, splice, rnRows_len, hr0]
          refine ⟨by decide, by simp, ?_⟩
          refine c_fn (Hw _) rfl ?_
          cases h1 : decide (widthC r < 1) with
          | true =>
            simp only [xs, xl, argS, reduceIte, Nat.reduceEqDiff, Nat.reduceAdd, Nat.reduceLT, Nat.reduceLeDiff, A.okCells, A.cells, A.one, splice, h1]
            exact hK _ (T true) (Co.keep _ (by simp [x_upd, x_look])) (by rw [h1, Bool.true_or])
          | false =>
            simp only [xs, xl, argS, reduceIte, Nat.reduceEqDiff, Nat.reduceAdd, Nat.reduceLT, Nat.reduceLeDiff, A.okCells, A.cells, A.one, splice, h1, rnRows_len, show Int.toNat 1 = 1 from rfl, hd1]
            refine ⟨by decide, by simp; omega, by omega, by omega, ?_⟩
            have ht' := ht
            simp only [List.length_cons] at ht'
            simp only [ht']
            refine c_fn (Hk l) rfl ?_
            simp only [xs, xl, argS, reduceIte, Nat.reduceEqDiff, Nat.reduceAdd, Nat.reduceLT, Nat.reduceLeDiff, A.okCells, A.cells, A.one, splice]
            exact hK _ (T (!(l.all fun n => markC n))) (Co.keep _ (by simp [x_upd, x_look])) (by rw [h1, Bool.false_or])
        · rintro _ rfl
          refine W_cond rfl (fun hd => ?_) (fun hd => ?_)
          · refine W_seq (W_reg ?_)
            simp only [T, xs, xl, argS, reduceIte, Nat.reduceEqDiff, Nat.reduceAdd, Nat.reduceLT, Nat.reduceLeDiff, A.okCells, A.cells, A.one, splice]
            refine W_ret ?_
            simp only [xs, xl, argS, reduceIte, Nat.reduceEqDiff, Nat.reduceAdd, Nat.reduceLT, Nat.reduceLeDiff, A.okCells, A.cells, A.one, splice]
            refine .tmp ?_ rfl
            have : widthC r < 1 ∨ (l.all fun n => markC n) = false := by simpa using hd
            simp only [x_upd, reduceIte, chkR, this]
          · have hno2 : ¬ (widthC r < 1 ∨ (l.all fun n => markC n) = false) := by
              intro h
              rw [Bool.eq_false_iff] at hd
              exact hd (by simpa using h)
            have e1 : IntKind.i64.wrap (((l.length + 1 : Nat) : Int) - 1) = (l.length : Int) := i64_pred (by simp only [room]; simp at hlen; omega)
            refine W_seq (W_reg ?_)
            simp only [T, xs, xl, argS, reduceIte, Nat.reduceEqDiff, Nat.reduceAdd, Nat.reduceLT, Nat.reduceLeDiff, A.okCells, A.cells, A.one, splice, rnRows_len, e1]
            refine W_cond rfl (fun h3 => ?_) (fun h3 => W_skip ?_)
            · refine W_seq (W_reg ?_)
              simp only [xs, xl, argS, reduceIte, Nat.reduceEqDiff, Nat.reduceAdd, Nat.reduceLT, Nat.reduceLeDiff, A.okCells, A.cells, A.one, splice]
              refine W_ret ?_
              simp only [xs, xl, argS, reduceIte, Nat.reduceEqDiff, Nat.reduceAdd, Nat.reduceLT, Nat.reduceLeDiff, A.okCells, A.cells, A.one, splice]
              refine .tmp ?_ rfl
              have : 3 < l.length := by simp at h3; omega
              simp only [x_upd, reduceIte, chkR, hno2, this]
            · simp only [xs, xl, argS, reduceIte, Nat.reduceEqDiff, Nat.reduceAdd, Nat.reduceLT, Nat.reduceLeDiff, A.okCells, A.cells, A.one, splice]
              refine W_seq (W_reg ?_)
              simp only [xs, xl, argS, reduceIte, Nat.reduceEqDiff, Nat.reduceAdd, Nat.reduceLT, Nat.reduceLeDiff, A.okCells, A.cells, A.one, splice]
              refine W_ret (.tmp ?_ rfl)
              have : ¬ 3 < l.length := by simp at h3; omega
              simp only [x_upd, reduceIte, chkR, hno2, this]

theorem runes_fn {f fc : FuncId} (H : FnIs P f N [.t 2] (x_cluster_runes fc)) (hN : 1 ≤ N) (Hc : ∀ s : ByteArray, s.size ≤ 1000 → FnP Γ P fc [.str s] (.int (chkC s))) (s : ByteArray) (hs : s.size ≤ 1000) : FnP Γ P f [.str s] (.d (.sl eRn (rnRows (runesC s)))) := by
  refine .of_W H (by simpa using hN) ?_
  have hlen := runesOf_len s
  have hrm : (runesOf s).length * 4 ≤ room := by simp only [room]; omega
  have hrows : (runesOf s).map runeRow = rnRows (runesOf s) := rfl
  unfold x_cluster_runes
  refine W_seq (W_reg ?_)
  simp only [xs, xl, argS, reduceIte, Nat.reduceEqDiff, Nat.reduceAdd, Nat.reduceLT, Nat.reduceLeDiff, A.okCells, A.cells, A.one, splice]
  refine W_seq (W_seq (W_reg ?_))
  simp only [xs, xl, argS, reduceIte, Nat.reduceEqDiff, Nat.reduceAdd, Nat.reduceLT, Nat.reduceLeDiff, A.okCells, A.cells, A.one, splice]
  refine c_fn (Hc s hs) rfl ?_
  simp only [xs, xl, argS, reduceIte, Nat.reduceEqDiff, Nat.reduceAdd, Nat.reduceLT, Nat.reduceLeDiff, A.okCells, A.cells, A.one, splice]
  refine W_cond rfl (fun hc => ?_) (fun hc => W_skip ?_)
  · refine W_seq (W_reg ?_)
    simp only [xs, xl, argS, reduceIte, Nat.reduceEqDiff, Nat.reduceAdd, Nat.reduceLT, Nat.reduceLeDiff, A.okCells, A.cells, A.one, splice]
    refine W_ret (.frz ?_)
    have : ¬ chkC s = 0 := by simpa using hc
    simp only [xs, xl, argS, reduceIte, Nat.reduceEqDiff, Nat.reduceAdd, Nat.reduceLT, Nat.reduceLeDiff, A.okCells, A.cells, A.one, splice, runesC, if_neg this]
    exact .d (.nil _)
  · have : chkC s = 0 := by simpa using hc
    simp only [xs, xl, argS, reduceIte, Nat.reduceEqDiff, Nat.reduceAdd, Nat.reduceLT, Nat.reduceLeDiff, A.okCells, A.cells, A.one, splice]
    refine W_seq (W_reg ?_)
    simp only [xs, xl, argS, reduceIte, Nat.reduceEqDiff, Nat.reduceAdd, Nat.reduceLT, Nat.reduceLeDiff, A.okCells, A.cells, A.one, splice, x_s2r, s2_s, hrows]
    refine ⟨hrm, ?_⟩
    refine W_ret (.tmp ?_ rfl)
    simp only [x_upd, reduceIte, runesC, if_pos this]

theorem cwidth_fn {f fr fw : FuncId} (H : FnIs P f N [.t 2] (x_cluster_Width fr fw)) (hN : 1 ≤ N) (Hr : ∀ s : ByteArray, s.size ≤ 1000 → FnP Γ P fr [.str s] (.d (.sl eRn (rnRows (runesC s))))) (Hw : ∀ r, FnP Γ P fw [.sc (.int .i32 r)] (.int (widthC r))) (s : ByteArray) (hs : s.size ≤ 1000) :
    FnP Γ P f [.str s] (.int (widC s)) := by
  refine .of_W H (by simpa using hN) ?_
  unfold x_cluster_Width
  refine W_seq (W_reg ?_)
  simp only [xs, xl, argS, reduceIte, Nat.reduceEqDiff, Nat.reduceAdd, Nat.reduceLT, Nat.reduceLeDiff, A.okCells, A.cells, A.one, splice]
  refine W_seq (W_seq (W_reg ?_))
  simp only [xs, xl, argS, reduceIte, Nat.reduceEqDiff, Nat.reduceAdd, Nat.reduceLT, Nat.reduceLeDiff, A.okCells, A.cells, A.one, splice]
  refine c_fn (Hr s hs) rfl ?_
  simp only [xs, xl, argS, reduceIte, Nat.reduceEqDiff, Nat.reduceAdd, Nat.reduceLT, Nat.reduceLeDiff, A.okCells, A.cells, A.one, splice]
  refine W_seq (W_reg ?_)
  simp only [xs, xl, argS, reduceIte, Nat.reduceEqDiff, Nat.reduceAdd, Nat.reduceLT, Nat.reduceLeDiff, A.okCells, A.cells, A.one, splice, rnRows_len]
  unfold widC
  generalize runesC s = l
  refine W_cond rfl (fun hc => ?_) (fun hc => W_skip ?_)
  · cases l with
    | nil => cases hc
    | cons r l =>
      have hr0 : (rnRows (r :: l)).getD 0 [] = [.sc (.int .i32 r)] := rfl
      refine W_seq (W_reg ?_)
      simp only [xs, xl, argS, reduceIte, Nat.reduceEqDiff, Nat.reduceAdd, Nat.reduceLT, Nat.reduceLeDiff, A.okCells, A.cells, A.one, splice, rnRows_len, hr0]
      refine ⟨by decide, by simp, ?_⟩
      refine c_fn (Hw _) rfl ?_
      simp only [xs, xl, argS, reduceIte, Nat.reduceEqDiff, Nat.reduceAdd, Nat.reduceLT, Nat.reduceLeDiff, A.okCells, A.cells, A.one, splice]
      refine W_ret ?_
      simp only [xs, xl, argS, reduceIte, Nat.reduceEqDiff, Nat.reduceAdd, Nat.reduceLT, Nat.reduceLeDiff, A.okCells, A.cells, A.one, splice]
      refine .tmp ?_ rfl
      simp only [x_upd, reduceIte]
  · have : l = [] := by
      cases l with
      | nil => rfl
      | cons r l => simp at hc
    subst this
    simp only [xs, xl, argS, reduceIte, Nat.reduceEqDiff, Nat.reduceAdd, Nat.reduceLT, Nat.reduceLeDiff, A.okCells, A.cells, A.one, splice]
    refine W_seq (W_reg ?_)
    simp only [xs, xl, argS, reduceIte, Nat.reduceEqDiff, Nat.reduceAdd, Nat.reduceLT, Nat.reduceLeDiff, A.okCells, A.cells, A.one, splice]
    refine W_ret (.tmp ?_ rfl)
    simp only [x_upd, reduceIte]

end Go.Proofs.YtckglkbbdbmdkaaDoor.Nx


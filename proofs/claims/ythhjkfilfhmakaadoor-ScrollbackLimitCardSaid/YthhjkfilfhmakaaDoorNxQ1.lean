/- Rows of cells: blank, Clone into an own block, Fit. -/
import Derived.Test.YthhjkfilfhmakaaDoorNxB1
import Derived.Test.YthhjkfilfhmakaaDoorNxD15
namespace Go.Proofs.YthhjkfilfhmakaaDoor.Nx
set_option linter.unusedSimpArgs false
set_option linter.unusedVariables false
set_option linter.unnecessarySimpa false
open Go

variable {P : Program} {N : Nat} {Γ : Tabs}

def blankC (back : Int) : Ce := ⟨⟨#[32]⟩, 1, -1, back, 0⟩
abbrev ceB' (l : List Ce) : HB := .cells eCe ((ceRows l).map fun r => r.map A.d)
theorem ceB'_len {l : List Ce} : ((ceRows l).map fun r => r.map A.d).length = l.length := by simp [ceRows]

theorem cblank_fn {f : FuncId} (H : FnIs P f N [.c 2 5 true] x_cellrow_blank) (hN : 1 ≤ N) (back : Int) : FnP Γ P f [.int back] (ceA (blankC back)) := by
  refine .of_W H (by simpa using hN) ?_
  unfold x_cellrow_blank
  refine W_seq (W_reg ?_)
  simp only [xs, xl, argS, reduceIte, Nat.reduceEqDiff, Nat.reduceAdd, Nat.reduceLT, Nat.reduceLeDiff, A.okCells, A.cells, A.one, splice]
  refine W_seq (W_reg ?_)
  simp only [xs, xl, argS, reduceIte, Nat.reduceEqDiff, Nat.reduceAdd, Nat.reduceLT, Nat.reduceLeDiff, A.okCells, A.cells, A.one, splice]
  refine W_ret ⟨.inr rfl, ?_⟩
  simp only [readRs, readR, single, x_upd, reduceIte, Nat.reduceEqDiff, x_look, argS, xs, xl, argS, reduceIte, Nat.reduceEqDiff, Nat.reduceAdd, Nat.reduceLT, Nat.reduceLeDiff, A.okCells, A.cells, A.one, splice, loadsTo]
  exact .same rfl

theorem cloneD_fn {f : FuncId} {Δ : Ctx} (H : FnIs P f N [.t 2] x_slices_Clone_750) (hN : 1 ≤ N) (l : List Ce) (hl : l ≠ []) (h : Heap) (hb : Δ.b ≤ h.length) :
    FnD Δ P f [.d (.sl eCe (ceRows l))] h (.ref h.length l.length 0 l.length true) (h ++ [ceB' l]) := by
  refine .of_W H (by simpa using hN) hb (W_sl 0 rfl fun ⟨hm, hroom, _⟩ => ?_)
  unfold x_slices_Clone_750
  refine W_nil 0 rfl (fun h0 => ?_) ?_
  · exact absurd (List.map_eq_nil_iff.1 h0) hl
  · refine W_seq (W_reg ?_)
    simp only [xs, xl, argS, reduceIte, Nat.reduceEqDiff, Nat.reduceAdd, Nat.reduceLT, Nat.reduceLeDiff, A.okCells, A.cells, A.one, splice]
    refine W_seq (W_seq (W_reg ?_))
    simp only [xs, xl, argS, reduceIte, Nat.reduceEqDiff, Nat.reduceAdd, Nat.reduceLT, Nat.reduceLeDiff, A.okCells, A.cells, A.one, splice, x_eqnil, EqNil]
    refine W_cond (t := false) (by simp [ev, x_upd]) (fun h => by cases h) (fun _ => W_skip ?_)
    simp only [xs, xl, argS, reduceIte, Nat.reduceEqDiff, Nat.reduceAdd, Nat.reduceLT, Nat.reduceLeDiff, A.okCells, A.cells, A.one, splice]
    refine W_seq (W_reg ?_)
    simp only [xs, xl, argS, reduceIte, Nat.reduceEqDiff, Nat.reduceAdd, Nat.reduceLT, Nat.reduceLeDiff, A.okCells, A.cells, A.one, splice, hp_g0, hp_s0, ceRows_length]
    rw [ceRows_length] at hm hroom
    refine ⟨hroom, hm, W_ret ⟨.inr rfl, ?_⟩⟩
    simp only [readRs, readR, single, x_upd, reduceIte, Nat.reduceEqDiff, x_look, xs, xl, argS, reduceIte, Nat.reduceEqDiff, Nat.reduceAdd, Nat.reduceLT, Nat.reduceLeDiff, A.okCells, A.cells, A.one, splice]

/-- A row of another width. -/
def fitC (l : List Ce) (w : Nat) : List Ce := if l.length ≤ w then l ++ List.replicate (w - l.length) (blankC (-1)) else
  match (l.take w).getLast? with
  | some c => if c.width = 2 then (l.take w).set (w - 1) (blankC c.back) else l.take w
  | none => []
/-- What Fit answers where the row's check is ck. -/
def fitR (ck : Int) (l : List Ce) (w : Int) : List Ce := if ck ≠ 0 ∨ w < 1 ∨ 132 < w then [] else fitC l w.toNat

set_option maxHeartbeats 1000000 in
theorem fit_fn {f fck fcl fbs fb : FuncId} {Nc Nb : Nat} (H : FnIs P f N [.t 4] (x_cellrow_Fit fck fcl fbs fb)) (hN : 2 ≤ N) (Hcl : FnIs P fcl Nc [.t 2] x_slices_Clone_750) (hNc : 1 ≤ Nc) (Hb : FnIs P fb Nb [.c 2 5 true] x_cellrow_blank) (hNb : 1 ≤ Nb)
    (l : List Ce) (w ck : Int) (Hck : FnP Γ P fck [.d (.sl eCe (ceRows l))] (.int ck)) (hck : ck = 0 → 1 ≤ l.length ∧ l.length ≤ 132)
    (Hbs : ∀ n : Nat, w = l.length + n → n ≤ 132 → FnP Γ P fbs [.int n, .int (-1)] (.d (.sl eCe (ceRows (List.replicate n (blankC (-1))))))) :
    FnP Γ P f [.d (.sl eCe (ceRows l)), .int w] (.d (.sl eCe (ceRows (fitR ck l w)))) := by
  refine .of_W H (by simpa using hN) ?_
  unfold x_cellrow_Fit
  refine W_seq (W_reg ?_)
  simp only [xs, xl, argS, reduceIte, Nat.reduceEqDiff, Nat.reduceAdd, Nat.reduceLT, Nat.reduceLeDiff, A.okCells, A.cells, A.one, splice]
  let U : Bool → St := fun c => ⟨look [(0, .d (.sl eCe (ceRows l))), (1, .int w), (4, .nil), (17, .bool c)], []⟩
  refine W_seq (W_cutX (· = U (((!decide (ck = 0)) || decide (w < 1)) || decide (132 < w))) rfl (fun K hK => ?_) ?_)
  · simp only [xs, xl, argS, reduceIte, Nat.reduceEqDiff, Nat.reduceAdd, Nat.reduceLT, Nat.reduceLeDiff, A.okCells, A.cells, A.one, splice]
    refine c_fn Hck rfl ?_
    cases e : !decide (ck = 0)
    · simp only [xs, xl, argS, reduceIte, Nat.reduceEqDiff, Nat.reduceAdd, Nat.reduceLT, Nat.reduceLeDiff, A.okCells, A.cells, A.one, splice, e]
      cases e2 : decide (w < 1)
      · simp only [xs, xl, argS, reduceIte, Nat.reduceEqDiff, Nat.reduceAdd, Nat.reduceLT, Nat.reduceLeDiff, A.okCells, A.cells, A.one, splice, e2]
        exact hK _ _ (Co.keep _ (by simp [x_upd, x_look, e, e2])) rfl
      · simp only [xs, xl, argS, reduceIte, Nat.reduceEqDiff, Nat.reduceAdd, Nat.reduceLT, Nat.reduceLeDiff, A.okCells, A.cells, A.one, splice, e2]
        exact hK _ _ (Co.keep _ (by simp [x_upd, x_look, e, e2])) rfl
    · simp only [xs, xl, argS, reduceIte, Nat.reduceEqDiff, Nat.reduceAdd, Nat.reduceLT, Nat.reduceLeDiff, A.okCells, A.cells, A.one, splice, e]
      exact hK _ _ (Co.keep _ (by simp [x_upd, x_look, e])) rfl
  rintro _ rfl
  refine W_cond rfl (fun hc => ?_) (fun hc => W_skip ?_)
  · have hc : ck ≠ 0 ∨ w < 1 ∨ 132 < w := by
      simp only [Bool.or_eq_true, Bool.not_eq_true', decide_eq_false_iff_not, decide_eq_true_eq] at hc
      rcases hc with (h | h) | h
      · exact .inl h
      · exact .inr (.inl h)
      · exact .inr (.inr h)
    refine W_seq (W_reg ?_)
    simp only [U, xs, xl, argS, reduceIte, Nat.reduceEqDiff, Nat.reduceAdd, Nat.reduceLT, Nat.reduceLeDiff, A.okCells, A.cells, A.one, splice]
    refine W_ret (.frz ?_)
    simp only [xs, xl, argS, reduceIte, Nat.reduceEqDiff, Nat.reduceAdd, Nat.reduceLT, Nat.reduceLeDiff, A.okCells, A.cells, A.one, splice, fitR, if_pos hc]
    exact .d (.nil _)
  have hc' : ck = 0 ∧ 1 ≤ w ∧ w ≤ 132 := by
    simp only [Bool.or_eq_false_iff, Bool.not_eq_false', decide_eq_true_eq, decide_eq_false_iff_not] at hc
    exact ⟨hc.1.1, by omega, by omega⟩
  have hcn : ¬ (ck ≠ 0 ∨ w < 1 ∨ 132 < w) := by rintro (h | h | h) <;> omega
  obtain ⟨hl1, hl2⟩ := hck hc'.1
  have hne : l ≠ [] := by rintro rfl; simp at hl1
  obtain ⟨n, rfl⟩ : ∃ n : Nat, w = n := ⟨w.toNat, by omega⟩
  simp only [U, xs, xl, argS, reduceIte, Nat.reduceEqDiff, Nat.reduceAdd, Nat.reduceLT, Nat.reduceLeDiff, A.okCells, A.cells, A.one, splice]
  refine W_seq (W_reg ?_)
  simp only [xs, xl, argS, reduceIte, Nat.reduceEqDiff, Nat.reduceAdd, Nat.reduceLT, Nat.reduceLeDiff, A.okCells, A.cells, A.one, splice]
  refine ce_fn (cloneD_fn Hcl hNc l hne [] (Nat.zero_le _)) ?_
  simp only [xs, xl, argS, reduceIte, Nat.reduceEqDiff, Nat.reduceAdd, Nat.reduceLT, Nat.reduceLeDiff, A.okCells, A.cells, A.one, splice]
  refine W_seq (W_seq (W_reg ?_))
  simp only [xs, xl, argS, reduceIte, Nat.reduceEqDiff, Nat.reduceAdd, Nat.reduceLT, Nat.reduceLeDiff, A.okCells, A.cells, A.one, splice, ceRows_length]
  refine W_cond rfl (fun hd => ?_) (fun hd => W_skip ?_)
  · have hge : l.length ≤ n := by simpa using hd
    have e1 : IntKind.i64.wrap ((n : Int) - (l.length : Int)) = ((n - l.length : Nat) : Int) := by rw [i64_of (by omega)]; omega
    have hB := Hbs (n - l.length) (by omega) (by omega)
    have hcs : ((ceRows l).map fun r => r.map A.d) ++ ((ceRows (List.replicate (n - l.length) (blankC (-1)))).map fun r => r.map A.d) = (ceRows (l ++ List.replicate (n - l.length) (blankC (-1)))).map fun r => r.map A.d := by simp [ceRows]
    refine W_seq (W_reg ?_)
    simp only [xs, xl, argS, reduceIte, Nat.reduceEqDiff, Nat.reduceAdd, Nat.reduceLT, Nat.reduceLeDiff, A.okCells, A.cells, A.one, splice, ceRows_length, e1]
    refine c_fn hB rfl ?_
    simp only [xs, xl, argS, reduceIte, Nat.reduceEqDiff, Nat.reduceAdd, Nat.reduceLT, Nat.reduceLeDiff, A.okCells, A.cells, A.one, splice, ceRows_length, hcs, List.length_replicate]
    refine ⟨by simp only [room]; omega, by simp only [maxLen]; omega, ?_⟩
    refine W_ret (.frz ?_)
    simp only [xs, xl, argS, reduceIte, Nat.reduceEqDiff, Nat.reduceAdd, Nat.reduceLT, Nat.reduceLeDiff, A.okCells, A.cells, A.one, splice, fitR, if_neg hcn, Int.toNat_natCast, fitC, if_pos hge]
    have := frz_all (id := 0) (full := true) (e := eCe) (rows := ceRows (l ++ List.replicate (n - l.length) (blankC (-1)))) (h := [.cells eCe ((ceRows (l ++ List.replicate (n - l.length) (blankC (-1)))).map fun r => r.map A.d)]) rfl
    rw [ceRows_length, List.length_append, List.length_replicate] at this
    exact this
  have hlt : n < l.length := by simpa using hd
  have hn1 : n - 1 < l.length := by omega
  have e1 : IntKind.i64.wrap ((n : Int) - 1) = ((n - 1 : Nat) : Int) := by rw [i64_of (by omega)]; omega
  have hg : ((ceRows l).map fun r => r.map A.d)[n - 1]? = some (l[n - 1].row.map .d) := by simp [ceRows, hn1]
  have hfl : fitR ck l n = if l[n - 1].width = 2 then (l.take n).set (n - 1) (blankC l[n - 1].back) else l.take n := by
    simp only [fitR, if_neg hcn, Int.toNat_natCast, fitC, if_neg (show ¬ l.length ≤ n by omega)]
    have : (l.take n).getLast? = some l[n - 1] := by
      rw [List.getLast?_eq_getElem?, List.length_take, Nat.min_eq_left (by omega), List.getElem?_take, if_pos (by omega), List.getElem?_eq_getElem hn1]
    rw [this]
  have hset : ∀ c : Ce, ((ceRows l).map fun r => r.map A.d).set (n - 1) (c.row.map .d) = (ceRows (l.set (n - 1) c)).map fun r => r.map A.d := fun c => by
    simp [ceRows, List.map_set]
  have hres : ∀ l' : List Ce, l'.length = l.length → FrzA 0 [ceB' l'] (.ref 0 l.length 0 n false) (.d (.sl eCe (ceRows (l'.take n)))) := fun l' hl' => by
    have := frz_rows (k := 0) (id := 0) (off := 0) (len := n) (full := false) (e := eCe) (rows := ceRows l') (h := [ceB' l']) (Nat.zero_le _) rfl (by rw [ceRows_length, hl']; omega)
    rw [ceRows_length, hl', List.drop_zero, ceRows_take] at this
    exact this
  refine W_seq (W_reg ?_)
  simp only [xs, xl, argS, reduceIte, Nat.reduceEqDiff, Nat.reduceAdd, Nat.reduceLT, Nat.reduceLeDiff, A.okCells, A.cells, A.one, splice, ceRows_length, Int.sub_zero, Option.isNone_some, Bool.and_false]
  refine ⟨by omega, by omega, by omega, by omega, ?_⟩
  let S : St := ⟨look [(1, .int n), (5, .ref 0 l.length 0 n false)], [ceB' l]⟩
  refine W_co (s' := S) (Co.keep _ (by simp [x_upd, x_look])) ?_
  let T : List Ce → St := fun l' => ⟨look [(5, .ref 0 l.length 0 n false)], [ceB' l']⟩
  have hend : ∀ l' : List Ce, l'.length = l.length → l'.take n = fitR ck l n → W Γ.ctx P N none 0 (.seq (.reg [
    { dst := some 51, op := .mov (.t 5) },
    { dst := some 4, op := .mov (.t 51) }]) .ret) (RetQ [.t 4] (.d (.sl eCe (ceRows (fitR ck l n))))) (T l') := by
    intro l' hl' hf
    refine W_seq (W_reg ?_)
    simp only [T, xs, xl, argS, reduceIte, Nat.reduceEqDiff, Nat.reduceAdd, Nat.reduceLT, Nat.reduceLeDiff, A.okCells, A.cells, A.one, splice]
    refine W_ret (.frz ?_)
    simp only [xs, xl, argS, reduceIte, Nat.reduceEqDiff, Nat.reduceAdd, Nat.reduceLT, Nat.reduceLeDiff, A.okCells, A.cells, A.one, splice, ← hf]
    exact hres l' hl'
  refine W_cut (fun s => ∃ l', l'.length = l.length ∧ l'.take n = fitR ck l n ∧ s = T l') ?_ ?_
  · refine W_seq (W_reg ?_)
    simp only [S, xs, xl, argS, reduceIte, Nat.reduceEqDiff, Nat.reduceAdd, Nat.reduceLT, Nat.reduceLeDiff, A.okCells, A.cells, A.one, splice, e1, ceRows_length, hg, Ce.row]
    refine ⟨by omega, by omega, ?_⟩
    refine W_seq (W_reg ?_)
    simp only [xs, xl, argS, reduceIte, Nat.reduceEqDiff, Nat.reduceAdd, Nat.reduceLT, Nat.reduceLeDiff, A.okCells, A.cells, A.one, splice]
    refine W_cond rfl (fun hd => W_reg ?_) (fun hd => W_skip ?_)
    · have hw : l[n - 1].width = 2 := by simpa using hd
      simp only [xs, xl, argS, reduceIte, Nat.reduceEqDiff, Nat.reduceAdd, Nat.reduceLT, Nat.reduceLeDiff, A.okCells, A.cells, A.one, splice, e1]
      refine c_fn (cblank_fn Hb hNb _) rfl ?_
      have hs := hset (blankC l[n - 1].back)
      simp only [ceA, blankC, Ce.row, List.map_cons, List.map_nil] at hs hg ⊢
      simp only [xs, xl, argS, reduceIte, Nat.reduceEqDiff, Nat.reduceAdd, Nat.reduceLT, Nat.reduceLeDiff, A.okCells, A.cells, A.one, splice, ceRows_length, hg, hs]
      refine ⟨by omega, by omega, T (l.set (n - 1) (blankC l[n - 1].back)), ?_, l.set (n - 1) (blankC l[n - 1].back), by simp, ?_, rfl⟩
      · refine Co.to _ 1 ?_ (Nat.zero_le _) (by simp) ?_
        · simp [x_upd, x_look, A.under]
        · intro B hB
          simp only [List.take_succ_cons, List.take_zero, List.mem_cons, List.not_mem_nil, or_false] at hB
          subst hB
          exact under_d
      · rw [hfl, if_pos hw, List.take_set]
    · have hw : ¬ l[n - 1].width = 2 := by simpa using hd
      refine ⟨rfl, T l, ?_, l, rfl, by rw [hfl, if_neg hw], rfl⟩
      refine Co.to _ 1 ?_ (Nat.zero_le _) (by simp) ?_
      · simp [x_upd, x_look, A.under]
      · intro B hB
        simp only [List.take_succ_cons, List.take_zero, List.mem_cons, List.not_mem_nil, or_false] at hB
        subst hB
        exact under_d
  · rintro s ⟨l', h1, h2, rfl⟩
    exact hend l' h1 h2

end Go.Proofs.YthhjkfilfhmakaaDoor.Nx

/- Rows of cells: the reference's copied, blank, Fit. -/
/- Grids: the reference's Blank, copied. -/
/- Grids: the reference's Scroll. -/
/- Reading rows of cells from data. -/
/- bits.Mul at the arguments that Repeat gives it. -/
/- Layer 8: contracts' names; the law GridScroll; what the evaluator is told of Scroll. -/
import Derived.Test.YthpbagpnnokalaaDoorNxQ1
import Derived.Test.YthpbagpnnokalaaDoorNxR1
import Derived.Test.YthpbagpnnokalaaDoorNxG0
import Derived.Test.YthpbagpnnokalaaDoorNxD15
import Derived.Test.YthpbagpnnokalaaDoorNxB0
import Derived.Test.YthpbagpnnokalaaDoorNxEval
namespace Go.Proofs.YthpbagpnnokalaaDoor.Nx
set_option linter.unusedSimpArgs false
set_option linter.unusedVariables false
set_option linter.unnecessarySimpa false
open Go

variable {P : Program} {N : Nat} {Γ : Tabs}

theorem rblank_fn {f : FuncId} (H : FnIs P f N [.c 2 5 true] x_ref07_blank) (hN : 1 ≤ N) (back : Int) : FnP Γ P f [.int back] (ceA (blankC back)) := by
  refine .of_W H (by simpa using hN) ?_
  unfold x_ref07_blank
  refine W_seq (W_reg ?_)
  simp only [xs, xl, argS, reduceIte, Nat.reduceEqDiff, Nat.reduceAdd, Nat.reduceLT, Nat.reduceLeDiff, A.okCells, A.cells, A.one, splice]
  refine W_seq (W_reg ?_)
  simp only [xs, xl, argS, reduceIte, Nat.reduceEqDiff, Nat.reduceAdd, Nat.reduceLT, Nat.reduceLeDiff, A.okCells, A.cells, A.one, splice]
  refine W_ret ⟨.inr rfl, ?_⟩
  simp only [readRs, readR, single, x_upd, reduceIte, Nat.reduceEqDiff, x_look, argS, xs, xl, argS, reduceIte, Nat.reduceEqDiff, Nat.reduceAdd, Nat.reduceLT, Nat.reduceLeDiff, A.okCells, A.cells, A.one, splice, loadsTo]
  exact .same rfl

theorem copiedD_fn {f : FuncId} {Δ : Ctx} (H : FnIs P f N [.t 2] x_ref07_copied) (hN : 1 ≤ N) (l : List Ce) (hl : l.length ≤ 100000) (h : Heap) (hb : Δ.b ≤ h.length) :
    FnD Δ P f [.d (.sl eCe (ceRows l))] h (.ref h.length l.length 0 l.length true) (h ++ [ceB' l]) := by
  refine .of_W H (by simpa using hN) hb ?_
  unfold x_ref07_copied
  refine W_seq (W_reg ?_)
  simp only [xs, xl, argS, reduceIte, Nat.reduceEqDiff, Nat.reduceAdd, Nat.reduceLT, Nat.reduceLeDiff, A.okCells, A.cells, A.one, splice]
  refine W_seq (W_reg ?_)
  simp only [xs, xl, argS, reduceIte, Nat.reduceEqDiff, Nat.reduceAdd, Nat.reduceLT, Nat.reduceLeDiff, A.okCells, A.cells, A.one, splice, hp_g0, hp_s0, ceRows_length]
  refine ⟨by simp only [room]; omega, by simp only [maxLen]; omega, W_ret ⟨.inr rfl, ?_⟩⟩
  simp only [readRs, readR, single, x_upd, reduceIte, Nat.reduceEqDiff, x_look, xs, xl, argS, reduceIte, Nat.reduceEqDiff, Nat.reduceAdd, Nat.reduceLT, Nat.reduceLeDiff, A.okCells, A.cells, A.one, splice]

/-- A proper row does not end with the first half of a pair. -/
theorem rowCk_last : ∀ (n : Nat) (l : List Ce), l.length ≤ n → rowCk l = 0 → ∀ c, l.getLast? = some c → c.width ≠ 2
  | _, [], _, _, c, hc => by simp at hc
  | 0, _ :: _, hn, _, _, _ => by simp at hn
  | n + 1, a :: l, hn, h, c, hc => by
    rw [rowCk.eq_def] at h
    simp only at h
    split at h
    · cases h
    · split at h
      · split at h
        · split at h
          · split at h
            · cases h
            · rename_i d l'
              split at h
              · rename_i hd
                cases l' with
                | nil =>
                  simp at hc
                  subst hc hd
                  simp [pairC]
                | cons e l'' =>
                  refine rowCk_last n (e :: l'') (by simp at hn ⊢; omega) h c ?_
                  rw [List.getLast?_cons_cons, List.getLast?_cons_cons] at hc
                  exact hc
              · cases h
          · rename_i hw2
            cases l with
            | nil => simp at hc; subst hc; exact hw2
            | cons e l'' =>
              refine rowCk_last n (e :: l'') (by simp at hn ⊢; omega) h c ?_
              rw [List.getLast?_cons_cons] at hc
              exact hc
        · cases h
      · cases h
theorem checkR_last {l : List Ce} (h : checkR l = 0) {c : Ce} (hc : l.getLast? = some c) : c.width ≠ 2 := by
  unfold checkR at h
  split at h
  · cases h
  · exact rowCk_last _ l (Nat.le_refl _) h c hc

set_option maxHeartbeats 1000000 in
theorem rfit_fn {f fck fcp fb : FuncId} {Nc Nb : Nat} (H : FnIs P f N [.t 4] (x_ref07_Fit fck fcp fb)) (hN : 2 ≤ N) (Hcp : FnIs P fcp Nc [.t 2] x_ref07_copied) (hNc : 1 ≤ Nc) (Hb : FnIs P fb Nb [.c 2 5 true] x_ref07_blank) (hNb : 1 ≤ Nb)
    (l : List Ce) (w : Int) (Hck : FnP Γ P fck [.d (.sl eCe (ceRows l))] (.int (checkR l))) :
    FnP Γ P f [.d (.sl eCe (ceRows l)), .int w] (.d (.sl eCe (ceRows (fitR (checkR l) l w)))) := by
  refine .of_W H (by simpa using hN) ?_
  unfold x_ref07_Fit
  refine W_seq (W_reg ?_)
  simp only [xs, xl, argS, reduceIte, Nat.reduceEqDiff, Nat.reduceAdd, Nat.reduceLT, Nat.reduceLeDiff, A.okCells, A.cells, A.one, splice]
  let U : Bool → St := fun c => ⟨look [(0, .d (.sl eCe (ceRows l))), (1, .int w), (4, .nil), (16, .bool c)], []⟩
  refine W_seq (W_cutX (· = U (((!decide (checkR l = 0)) || decide (w < 1)) || decide (132 < w))) rfl (fun K hK => ?_) ?_)
  · simp only [xs, xl, argS, reduceIte, Nat.reduceEqDiff, Nat.reduceAdd, Nat.reduceLT, Nat.reduceLeDiff, A.okCells, A.cells, A.one, splice]
    refine c_fn Hck rfl ?_
    cases e : !decide (checkR l = 0)
    · simp only [xs, xl, argS, reduceIte, Nat.reduceEqDiff, Nat.reduceAdd, Nat.reduceLT, Nat.reduceLeDiff, A.okCells, A.cells, A.one, splice, e]
      cases e2 : decide (w < 1)
      · simp only [xs, xl, argS, reduceIte, Nat.reduceEqDiff, Nat.reduceAdd, Nat.reduceLT, Nat.reduceLeDiff, A.okCells, A.cells, A.one, splice, e2]
        exact hK _ _ (Co.keep _ (by simp [x_upd, x_look, e, e2])) rfl
      · simp only [xs, xl, argS, reduceIte, Nat.reduceEqDiff, Nat.reduceAdd, Nat.reduceLT, Nat.reduceLeDiff, A.okCells, A.cells, A.one, splice, e2]
        exact hK _ _ (Co.keep _ (by simp [x_upd, x_look, e, e2])) rfl
    · simp only [xs, xl, argS, reduceIte, Nat.reduceEqDiff, Nat.reduceAdd, Nat.reduceLT, Nat.reduceLeDiff, A.okCells, A.cells, A.one, splice, e]
      exact hK _ _ (Co.keep _ (by simp [x_upd, x_look, e])) rfl
  rintro _ rfl
  refine W_cond rfl (fun hc => ?_) (fun hc => W_skip ?_)
  · have hc : checkR l ≠ 0 ∨ w < 1 ∨ 132 < w := by
      simp only [Bool.or_eq_true, Bool.not_eq_true', decide_eq_false_iff_not, decide_eq_true_eq] at hc
      rcases hc with (h | h) | h
      · exact .inl h
      · exact .inr (.inl h)
      · exact .inr (.inr h)
    refine W_seq (W_reg ?_)
    simp only [U, xs, xl, argS, reduceIte, Nat.reduceEqDiff, Nat.reduceAdd, Nat.reduceLT, Nat.reduceLeDiff, A.okCells, A.cells, A.one, splice]
    refine W_ret (.frz ?_)
    simp only [xs, xl, argS, reduceIte, Nat.reduceEqDiff, Nat.reduceAdd, Nat.reduceLT, Nat.reduceLeDiff, A.okCells, A.cells, A.one, splice, fitR, if_pos hc]
    exact .d (.nil _)
  have hc' : checkR l = 0 ∧ 1 ≤ w ∧ w ≤ 132 := by
    simp only [Bool.or_eq_false_iff, Bool.not_eq_false', decide_eq_true_eq, decide_eq_false_iff_not] at hc
    exact ⟨hc.1.1, by omega, by omega⟩
  have hcn : ¬ (checkR l ≠ 0 ∨ w < 1 ∨ 132 < w) := by rintro (h | h | h) <;> omega
  have hl12 : 1 ≤ l.length ∧ l.length ≤ 132 := by
    have h := hc'.1
    unfold checkR at h
    split at h
    · cases h
    · omega
  obtain ⟨hl1, hl2⟩ := hl12
  obtain ⟨n, rfl⟩ : ∃ n : Nat, w = n := ⟨w.toNat, by omega⟩
  simp only [U, xs, xl, argS, reduceIte, Nat.reduceEqDiff, Nat.reduceAdd, Nat.reduceLT, Nat.reduceLeDiff, A.okCells, A.cells, A.one, splice]
  refine W_seq (W_reg ?_)
  simp only [xs, xl, argS, reduceIte, Nat.reduceEqDiff, Nat.reduceAdd, Nat.reduceLT, Nat.reduceLeDiff, A.okCells, A.cells, A.one, splice]
  refine ce_fn (copiedD_fn Hcp hNc l (by omega) [] (Nat.zero_le _)) ?_
  simp only [xs, xl, argS, reduceIte, Nat.reduceEqDiff, Nat.reduceAdd, Nat.reduceLT, Nat.reduceLeDiff, A.okCells, A.cells, A.one, splice]
  let L : Nat → List Ce := fun k => l ++ List.replicate k (blankC (-1))
  have hLl : ∀ k, (L k).length = l.length + k := fun k => by simp [L]
  have hLs : ∀ k, ((ceRows (L k)).map fun r => r.map A.d) ++ [(blankC (-1)).row.map .d] = (ceRows (L (k + 1))).map fun r => r.map A.d := fun k => by
    simp [L, ceRows, List.replicate_succ']
  let S : Nat → St := fun k => ⟨look [(1, .int n), (5, .ref 0 (l.length + k) 0 (l.length + k) true)], [ceB' (L k)]⟩
  have hS0 : S 0 = ⟨look [(1, .int n), (5, .ref 0 l.length 0 l.length true)], [ceB' l]⟩ := by simp [S, L]
  refine W_co (s' := S 0) (by rw [hS0]; exact Co.keep _ (by simp [x_upd, x_look])) ?_
  refine W_cut (· = S (n - l.length)) (W_block ?_) ?_
  · refine W_loop (fun m s => ∃ k, k ≤ n - l.length ∧ m = n - l.length - k ∧ s = S k) ⟨0, Nat.zero_le _, rfl, rfl⟩ ?_
    rintro m s ⟨k, hk, rfl, rfl⟩
    refine W_seq (W_seq (W_reg ?_))
    simp only [S, xs, xl, argS, reduceIte, Nat.reduceEqDiff, Nat.reduceAdd, Nat.reduceLT, Nat.reduceLeDiff, A.okCells, A.cells, A.one, splice, ceRows_length, hLl]
    refine W_cond rfl (fun hc => W_skip ?_) (fun hc => W_exit ?_)
    · have hlt : l.length + k < n := by simp only [decide_eq_true_eq] at hc; omega
      simp only [xs, xl, argS, reduceIte, Nat.reduceEqDiff, Nat.reduceAdd, Nat.reduceLT, Nat.reduceLeDiff, A.okCells, A.cells, A.one, splice]
      refine W_block (W_reg ?_)
      simp only [xs, xl, argS, reduceIte, Nat.reduceEqDiff, Nat.reduceAdd, Nat.reduceLT, Nat.reduceLeDiff, A.okCells, A.cells, A.one, splice]
      refine c_fn (rblank_fn Hb hNb _) rfl ?_
      have hs := hLs k
      simp only [ceA, blankC, Ce.row, List.map_cons, List.map_nil] at hs ⊢
      simp only [xs, xl, argS, reduceIte, Nat.reduceEqDiff, Nat.reduceAdd, Nat.reduceLT, Nat.reduceLeDiff, A.okCells, A.cells, A.one, splice, ceRows_length, hLl, hs, Nat.reduceMul]
      refine ⟨by simp only [room]; omega, by simp only [maxLen]; omega, ?_⟩
      refine ⟨n - l.length - (k + 1), S (k + 1), by omega, Co.to _ 1 ?_ (Nat.zero_le _) (by simp) ?_, k + 1, by omega, rfl, rfl⟩
      · simp [x_upd, x_look, A.under, Nat.add_assoc]
      · intro B hB
        simp only [List.take_succ_cons, List.take_zero, List.mem_cons, List.not_mem_nil, or_false] at hB
        subst hB
        exact under_d
    · have hle : k = n - l.length := by simp only [decide_eq_false_iff_not] at hc; omega
      subst hle
      simp only [xs, xl, argS, reduceIte, Nat.reduceEqDiff, Nat.reduceAdd, Nat.reduceLT, Nat.reduceLeDiff, A.okCells, A.cells, A.one, splice]
      exact ⟨S (n - l.length), Co.keep _ (by simp [x_upd, x_look]), rfl⟩
  rintro _ rfl
  obtain ⟨M, hM⟩ : ∃ M, M = L (n - l.length) := ⟨_, rfl⟩
  have hMl : M.length = l.length + (n - l.length) := by rw [hM, hLl]
  have hMn : n ≤ M.length := by omega
  have hn1 : n - 1 < M.length := by omega
  have hfl : fitR (checkR l) l n = if M[n - 1].width = 2 then (M.take n).set (n - 1) (blankC M[n - 1].back) else M.take n := by
    simp only [fitR, if_neg hcn, Int.toNat_natCast, fitC]
    split
    · rename_i hge
      have ht : M.take n = l ++ List.replicate (n - l.length) (blankC (-1)) := by rw [List.take_of_length_le (by omega), hM]
      have hw2 : M[n - 1].width ≠ 2 := by
        rcases Nat.eq_or_lt_of_le hge with h | h
        · have hMe : M = l := by rw [hM]; simp [L, h]
          subst hMe
          refine checkR_last hc'.1 ?_
          rw [List.getLast?_eq_getElem?, h]; exact List.getElem?_eq_getElem _
        · have : M[n - 1]? = some (blankC (-1)) := by
            rw [hM]; simp only [L]
            rw [List.getElem?_append_right (by omega), List.getElem?_replicate, if_pos (by omega)]
          rw [List.getElem?_eq_getElem hn1] at this
          rw [Option.some.inj this]; decide
      rw [if_neg hw2, ht]
    · rename_i hlt
      have hMe : M = l := by rw [hM]; simp [L, show n - l.length = 0 by omega]
      subst hMe
      have : (M.take n).getLast? = some M[n - 1] := by
        rw [List.getLast?_eq_getElem?, List.length_take, Nat.min_eq_left (by omega), List.getElem?_take, if_pos (by omega), List.getElem?_eq_getElem hn1]
      rw [this]
  have e1 : IntKind.i64.wrap ((n : Int) - 1) = ((n - 1 : Nat) : Int) := by rw [i64_of (by omega)]; omega
  have hg : ((ceRows M).map fun r => r.map A.d)[n - 1]? = some (M[n - 1].row.map .d) := by simp [ceRows, hn1]
  have hset : ∀ c : Ce, ((ceRows M).map fun r => r.map A.d).set (n - 1) (c.row.map .d) = (ceRows (M.set (n - 1) c)).map fun r => r.map A.d := fun c => by
    simp [ceRows, List.map_set]
  have hres : ∀ l' : List Ce, l'.length = M.length → FrzA 0 [ceB' l'] (.ref 0 M.length 0 n true) (.d (.sl eCe (ceRows (l'.take n)))) := fun l' hl' => by
    have := frz_rows (k := 0) (id := 0) (off := 0) (len := n) (full := true) (e := eCe) (rows := ceRows l') (h := [ceB' l']) (Nat.zero_le _) rfl (by rw [ceRows_length, hl']; omega)
    rw [ceRows_length, hl', List.drop_zero, ceRows_take] at this
    exact this
  have hSM : S (n - l.length) = ⟨look [(1, .int n), (5, .ref 0 M.length 0 M.length true)], [ceB' M]⟩ := by
    simp only [S]; rw [← hM, ← hMl]
  rw [hSM]
  clear hSM
  refine W_seq (W_reg ?_)
  simp only [xs, xl, argS, reduceIte, Nat.reduceEqDiff, Nat.reduceAdd, Nat.reduceLT, Nat.reduceLeDiff, A.okCells, A.cells, A.one, splice, ceRows_length, Int.sub_zero, Option.isNone_none, Bool.and_true]
  refine ⟨by omega, by omega, by omega, by omega, ?_⟩
  let S2 : St := ⟨look [(1, .int n), (5, .ref 0 M.length 0 n true)], [ceB' M]⟩
  refine W_co (s' := S2) (Co.keep _ (by simp [x_upd, x_look])) ?_
  let T : List Ce → St := fun l' => ⟨look [(5, .ref 0 M.length 0 n true)], [ceB' l']⟩
  refine W_cut (fun s => ∃ l', l'.length = M.length ∧ l'.take n = fitR (checkR l) l n ∧ s = T l') ?_ ?_
  · refine W_seq (W_reg ?_)
    simp only [S2, xs, xl, argS, reduceIte, Nat.reduceEqDiff, Nat.reduceAdd, Nat.reduceLT, Nat.reduceLeDiff, A.okCells, A.cells, A.one, splice, e1, ceRows_length, hg, Ce.row]
    refine ⟨by omega, by omega, ?_⟩
    refine W_cond rfl (fun hd => W_reg ?_) (fun hd => W_skip ?_)
    · have hw : M[n - 1].width = 2 := by simpa using hd
      simp only [xs, xl, argS, reduceIte, Nat.reduceEqDiff, Nat.reduceAdd, Nat.reduceLT, Nat.reduceLeDiff, A.okCells, A.cells, A.one, splice, e1, ceRows_length, hg, Ce.row]
      refine ⟨by omega, by omega, ?_⟩
      refine c_fn (rblank_fn Hb hNb _) rfl ?_
      have hs := hset (blankC M[n - 1].back)
      simp only [ceA, blankC, Ce.row, List.map_cons, List.map_nil] at hs hg ⊢
      simp only [xs, xl, argS, reduceIte, Nat.reduceEqDiff, Nat.reduceAdd, Nat.reduceLT, Nat.reduceLeDiff, A.okCells, A.cells, A.one, splice, ceRows_length, hg, hs]
      refine ⟨by omega, by omega, T (M.set (n - 1) (blankC M[n - 1].back)), ?_, M.set (n - 1) (blankC M[n - 1].back), by simp, ?_, rfl⟩
      · exact Co.keep _ (by simp [x_upd, x_look])
      · rw [hfl, if_pos hw, List.take_set]
    · have hw : ¬ M[n - 1].width = 2 := by simpa using hd
      refine ⟨rfl, T M, ?_, M, rfl, by rw [hfl, if_neg hw], rfl⟩
      exact Co.keep _ (by simp [x_upd, x_look])
  · rintro s ⟨l', h1, h2, rfl⟩
    refine W_seq (W_reg ?_)
    simp only [T, xs, xl, argS, reduceIte, Nat.reduceEqDiff, Nat.reduceAdd, Nat.reduceLT, Nat.reduceLeDiff, A.okCells, A.cells, A.one, splice]
    refine W_ret (.frz ?_)
    simp only [xs, xl, argS, reduceIte, Nat.reduceEqDiff, Nat.reduceAdd, Nat.reduceLT, Nat.reduceLeDiff, A.okCells, A.cells, A.one, splice, ← h2]
    exact hres l' h1

end Go.Proofs.YthpbagpnnokalaaDoor.Nx

namespace Go.Proofs.YthpbagpnnokalaaDoor.Nx
set_option linter.unusedSimpArgs false
set_option linter.unusedVariables false
set_option linter.unnecessarySimpa false
open Go

variable {P : Program} {N : Nat} {Γ : Tabs}

theorem blkF_same {k : Nat} {h h2 : Heap} {id : Nat} {e : Elt} {rows : List (List A)} (h1 : h[id]? = some (.cells e rows)) (h3 : h2[id]? = some (.cells e rows)) (hu : HB.under k (.cells e rows)) : BlkF k h h2 id := by
  refine ⟨e, rows, rows, h1, h3, rfl, fun q r r2 hq hq2 => ?_⟩
  rw [hq] at hq2
  cases hq2
  refine ⟨rfl, fun j y hj => ?_⟩
  have hy := hu r (List.mem_of_getElem? hq) y (List.mem_of_getElem? hj)
  rw [List.getD_eq_getElem?_getD, hj]
  exact ⟨.same hy, hy⟩

set_option maxHeartbeats 1000000 in
theorem rBlank_fn {f fb : FuncId} {Nb : Nat} (H : FnIs P f N [.t 4] (x_ref07_Blank fb)) (hN : 2 ≤ N) (Hb : FnIs P fb Nb [.c 2 5 true] x_ref07_blank) (hNb : 1 ≤ Nb) (w a b c : Int) :
    FnP Γ P f [.int w, .agg [.int a, .int b, .int c]] (.d (.sl eCe (ceRows (blankRow w b)))) := by
  refine .of_W H (by simpa using hN) ?_
  unfold x_ref07_Blank
  refine W_seq (W_reg ?_)
  simp only [xs, xl, argS, reduceIte, Nat.reduceEqDiff, Nat.reduceAdd, Nat.reduceLT, Nat.reduceLeDiff, A.okCells, A.cells, A.one, splice]
  let U : Bool → St := fun t => ⟨look [(0, .int w), (3, .ptr 0 1 0 0), (4, .nil), (12, .bool t)], [atB a b c]⟩
  refine W_seq (W_cutX (· = U (decide (w < 1) || decide (132 < w))) rfl (fun K hK => ?_) ?_)
  · cases e : decide (w < 1)
    · simp only [xs, xl, argS, reduceIte, Nat.reduceEqDiff, Nat.reduceAdd, Nat.reduceLT, Nat.reduceLeDiff, A.okCells, A.cells, A.one, splice, e]
      exact hK _ _ (Co.keep _ (by simp [x_upd, x_look, e])) rfl
    · simp only [xs, xl, argS, reduceIte, Nat.reduceEqDiff, Nat.reduceAdd, Nat.reduceLT, Nat.reduceLeDiff, A.okCells, A.cells, A.one, splice, e]
      exact hK _ _ (Co.keep _ (by simp [x_upd, x_look, e])) rfl
  rintro _ rfl
  refine W_cond rfl (fun hc => ?_) (fun hc => W_skip ?_)
  · have hc : w < 1 ∨ 132 < w := by simpa using hc
    refine W_seq (W_reg ?_)
    simp only [U, xs, xl, argS, reduceIte, Nat.reduceEqDiff, Nat.reduceAdd, Nat.reduceLT, Nat.reduceLeDiff, A.okCells, A.cells, A.one, splice]
    refine W_ret (.frz ?_)
    simp only [xs, xl, argS, reduceIte, Nat.reduceEqDiff, Nat.reduceAdd, Nat.reduceLT, Nat.reduceLeDiff, A.okCells, A.cells, A.one, splice, blankRow, if_pos hc]
    exact .d (.nil _)
  have hc : ¬ (w < 1 ∨ 132 < w) := by simpa using hc
  obtain ⟨n, rfl⟩ : ∃ n : Nat, w = n := ⟨w.toNat, by omega⟩
  have hbr : blankRow n b = List.replicate n (blankC b) := by simp only [blankRow, if_neg hc, Int.toNat_natCast]
  rw [hbr]
  simp only [U, xs, xl, argS, reduceIte, Nat.reduceEqDiff, Nat.reduceAdd, Nat.reduceLT, Nat.reduceLeDiff, A.okCells, A.cells, A.one, splice]
  refine W_seq (W_reg ?_)
  simp only [xs, xl, argS, reduceIte, Nat.reduceEqDiff, Nat.reduceAdd, Nat.reduceLT, Nat.reduceLeDiff, A.okCells, A.cells, A.one, splice]
  refine W_seq (W_seq (W_reg ?_))
  simp only [xs, xl, argS, reduceIte, Nat.reduceEqDiff, Nat.reduceAdd, Nat.reduceLT, Nat.reduceLeDiff, A.okCells, A.cells, A.one, splice]
  refine W_block ?_
  let M : Nat → List Ce := fun i => List.replicate i (blankC b)
  have hMl : ∀ i, (M i).length = i := fun i => by simp [M]
  have hMs : ∀ i, ((ceRows (M i)).map fun r => r.map A.d) ++ [(blankC b).row.map .d] = (ceRows (M (i + 1))).map fun r => r.map A.d := fun i => by simp [M, ceRows, List.replicate_succ']
  let bx : Nat → A := fun i => if i = 0 then .nil else .ref 2 i 0 i true
  let Hp : Nat → Heap := fun i => if i = 0 then [atB a b c] else [atB a b c, ceB' [blankC b], ceB' (M i)]
  let S : Nat → St := fun i => ⟨look [(0, .int n), (3, .ptr 0 1 0 0), (5, bx i), (6, .int i)], Hp i⟩
  refine W_co (s' := S 0) (Co.keep _ (by simp [x_upd, x_look, bx])) ?_
  refine W_loop (fun q s => ∃ i, i ≤ n ∧ q = n - i ∧ s = S i) ⟨0, Nat.zero_le _, rfl, rfl⟩ ?_
  rintro q s ⟨i, hi, rfl, rfl⟩
  refine W_seq (W_seq (W_reg ?_))
  simp only [S, xs, xl, argS, reduceIte, Nat.reduceEqDiff, Nat.reduceAdd, Nat.reduceLT, Nat.reduceLeDiff, A.okCells, A.cells, A.one, splice]
  refine W_cond rfl (fun hc => W_skip ?_) (fun hc => W_exit ?_)
  · have hlt : i < n := by simpa using hc
    simp only [xs, xl, argS, reduceIte, Nat.reduceEqDiff, Nat.reduceAdd, Nat.reduceLT, Nat.reduceLeDiff, A.okCells, A.cells, A.one, splice]
    refine W_seq (W_block (W_reg ?_))
    rcases Nat.eq_zero_or_pos i with rfl | hpos
    · simp only [bx, Hp, xs, xl, argS, reduceIte, Nat.reduceEqDiff, Nat.reduceAdd, Nat.reduceLT, Nat.reduceLeDiff, A.okCells, A.cells, A.one, splice]
      refine c_fn (rblank_fn Hb hNb b) rfl ?_
      simp only [ceA, blankC, Ce.row, List.map_cons, List.map_nil, xs, xl, argS, reduceIte, Nat.reduceEqDiff, Nat.reduceAdd, Nat.reduceLT, Nat.reduceLeDiff, A.okCells, A.cells, A.one, splice, Nat.reduceMul]
      rw [if_neg (by simp)]
      refine ⟨by decide, by decide, ?_⟩
      refine W_reg ?_
      simp only [xs, xl, argS, reduceIte, Nat.reduceEqDiff, Nat.reduceAdd, Nat.reduceLT, Nat.reduceLeDiff, A.okCells, A.cells, A.one, splice]
      refine ⟨n - (0 + 1), S 1, by omega, ?_, 1, hlt, rfl, rfl⟩
      have hS1 : S 1 = ⟨look [(0, .int n), (3, .ptr 0 1 0 0), (5, .ref 2 1 0 1 true), (6, .int 1)], [atB a b c, ceB' [blankC b], ceB' [blankC b]]⟩ := rfl
      rw [hS1]
      refine Co.keep _ ?_
      have w1 : IntKind.i64.wrap 1 = 1 := rfl
      simp [x_upd, x_look, w1]
    · obtain ⟨i, rfl⟩ : ∃ i', i = i' + 1 := ⟨i - 1, by omega⟩
      have hs := hMs (i + 1)
      have w2 : IntKind.i64.wrap ((i : Int) + 1 + 1) = (i : Int) + 1 + 1 := i64_of (by omega)
      simp only [bx, Hp, if_neg (Nat.succ_ne_zero i)]
      simp only [xs, xl, argS, reduceIte, Nat.reduceEqDiff, Nat.reduceAdd, Nat.reduceLT, Nat.reduceLeDiff, A.okCells, A.cells, A.one, splice]
      refine c_fn (rblank_fn Hb hNb b) rfl ?_
      simp only [ceA, blankC, Ce.row, List.map_cons, List.map_nil] at hs ⊢
      simp only [xs, xl, argS, reduceIte, Nat.reduceEqDiff, Nat.reduceAdd, Nat.reduceLT, Nat.reduceLeDiff, A.okCells, A.cells, A.one, splice, ceRows_length, hMl, hs, Nat.reduceMul]
      refine ⟨by simp only [room]; omega, by simp only [maxLen]; omega, ?_⟩
      refine W_reg ?_
      simp only [xs, xl, argS, reduceIte, Nat.reduceEqDiff, Nat.reduceAdd, Nat.reduceLT, Nat.reduceLeDiff, A.okCells, A.cells, A.one, splice]
      refine ⟨n - (i + 1 + 1), S (i + 1 + 1), by omega, ?_, i + 1 + 1, hlt, rfl, rfl⟩
      have hS1 : S (i + 1 + 1) = ⟨look [(0, .int n), (3, .ptr 0 1 0 0), (5, .ref 2 (i + 1 + 1) 0 (i + 1 + 1) true), (6, .int ((i + 1 + 1 : Nat) : Int))], [atB a b c, ceB' [blankC b], ceB' (M (i + 1 + 1))]⟩ := by
        simp only [S, bx, Hp, if_neg (Nat.succ_ne_zero (i + 1))]
      rw [hS1]
      refine Co.to _ 3 ?_ (Nat.zero_le _) (by simp) ?_
      · simp [x_upd, x_look, A.under, w2]
      · intro B hB
        simp only [List.take_succ_cons, List.take_zero, List.mem_cons, List.not_mem_nil, or_false] at hB
        rcases hB with rfl | rfl | rfl
        · exact under_ints fun x hx => by
            simp only [List.mem_cons, List.not_mem_nil, or_false] at hx
            rcases hx with rfl | rfl | rfl <;> rfl
        · exact under_d
        · exact under_d
  · have hle : i = n := by simp at hc; omega
    subst hle
    have hpos : ¬ i = 0 := by omega
    simp only [bx, Hp, if_neg hpos, xs, xl, argS, reduceIte, Nat.reduceEqDiff, Nat.reduceAdd, Nat.reduceLT, Nat.reduceLeDiff, A.okCells, A.cells, A.one, splice]
    refine W_seq (W_reg ?_)
    simp only [xs, xl, argS, reduceIte, Nat.reduceEqDiff, Nat.reduceAdd, Nat.reduceLT, Nat.reduceLeDiff, A.okCells, A.cells, A.one, splice]
    refine W_ret (.frz ?_)
    simp only [xs, xl, argS, reduceIte, Nat.reduceEqDiff, Nat.reduceAdd, Nat.reduceLT, Nat.reduceLeDiff, A.okCells, A.cells, A.one, splice]
    have := frz_all (id := 2) (full := true) (e := eCe) (rows := ceRows (M i)) (h := [atB a b c, ceB' [blankC b], ceB' (M i)]) rfl
    rw [ceRows_length, hMl] at this
    exact this

theorem copied8_fn {f : FuncId} (H : FnIs P f N [.t 2] x_ref08_copied) (hN : 1 ≤ N) (l : List (List Ce)) (hl : l.length ≤ 100000) (hr : ∀ r ∈ l, r.length ≤ 100000) : FnP Γ P f [.d (.sl eRw (crRows l))] (.d (.sl eRw (crRows l))) := by
  refine .of_W H (by simpa using hN) ?_
  unfold x_ref08_copied
  refine W_seq (W_reg ?_)
  simp only [xs, xl, argS, reduceIte, Nat.reduceEqDiff, Nat.reduceAdd, Nat.reduceLT, Nat.reduceLeDiff, A.okCells, A.cells, A.one, splice]
  refine W_seq (W_reg ?_)
  simp only [xs, xl, argS, reduceIte, Nat.reduceEqDiff, Nat.reduceAdd, Nat.reduceLT, Nat.reduceLeDiff, A.okCells, A.cells, A.one, splice]
  refine W_seq (W_seq (W_reg ?_))
  simp only [xs, xl, argS, reduceIte, Nat.reduceEqDiff, Nat.reduceAdd, Nat.reduceLT, Nat.reduceLeDiff, A.okCells, A.cells, A.one, splice]
  refine W_block ?_
  let O : Nat → List (List Ce) := fun i => l.take i
  have hOl : ∀ i, i ≤ l.length → (O i).length = i := fun i hi => by simp only [O, List.length_take]; omega
  let S : Nat → St := fun i => ⟨look [(0, .d (.sl eRw (crRows l))), (3, .ref 0 i 0 i true), (4, .int i)], [crBk (O i)]⟩
  refine W_co (s' := S 0) (by
    have : crBk (O 0) = .cells eRw [] := rfl
    simp only [S, this]; exact Co.keep _ (by simp [x_upd, x_look])) ?_
  refine W_loop (fun m s => ∃ i, i ≤ l.length ∧ m = l.length - i ∧ s = S i) ⟨0, Nat.zero_le _, rfl, rfl⟩ ?_
  rintro m s ⟨i, hi, rfl, rfl⟩
  refine W_seq (W_seq (W_reg ?_))
  simp only [S, xs, xl, argS, reduceIte, Nat.reduceEqDiff, Nat.reduceAdd, Nat.reduceLT, Nat.reduceLeDiff, A.okCells, A.cells, A.one, splice, crRows_len]
  refine W_cond rfl (fun hc => W_skip ?_) (fun hc => W_exit ?_)
  · have hlt : i < l.length := by simpa using hc
    have hos : O (i + 1) = O i ++ [l[i]] := by simp only [O]; rw [List.take_add_one, List.getElem?_eq_getElem hlt]; rfl
    have hrl := hr _ (List.getElem_mem hlt)
    have hol := hOl i hi
    have hgk : (crRows l).getD i [] = [.sl eCe (ceRows l[i])] := crRows_get hlt
    have f1' : IntKind.i64.wrap ((i : Int) + 1) = ((i + 1 : Nat) : Int) := i64_of (by omega)
    have k1 : (0 : Int) ≤ (i : Int) := by omega
    have k2 : ((i : Int) < (l.length : Int)) := by omega
    generalize l[i] = L at hos hrl hgk
    simp only [xs, xl, argS, reduceIte, Nat.reduceEqDiff, Nat.reduceAdd, Nat.reduceLT, Nat.reduceLeDiff, A.okCells, A.cells, A.one, splice]
    let Z : St := ⟨look [(0, .d (.sl eRw (crRows l))), (3, .ref 0 (i + 1) 0 (i + 1) true), (4, .int i)], [crBk (O (i + 1))]⟩
    refine W_cut (· = Z) (W_block (W_reg ?_)) ?_
    · simp only [xs, xl, argS, reduceIte, Nat.reduceEqDiff, Nat.reduceAdd, Nat.reduceLT, Nat.reduceLeDiff, A.okCells, A.cells, A.one, splice, hgk, crRows_len, k1, k2, ceRows_length, hol]
      refine ⟨by simp only [room]; omega, by simp only [maxLen]; omega, by simp only [room]; omega, by simp only [maxLen]; omega, ?_⟩
      refine ⟨Z, ?_, rfl⟩
      refine Co.frzH _ 1 _ ?_ (Nat.zero_le _) (by simp) rfl ?_
      · intro p hp
        simp only [List.mem_cons, List.not_mem_nil, or_false] at hp
        rcases hp with rfl | rfl | rfl
        · exact ⟨.same rfl, rfl⟩
        · exact ⟨.same rfl, rfl⟩
        · exact ⟨.same rfl, rfl⟩
      · intro id hid
        have : id = 0 := by omega
        subst this
        refine ⟨eRw, _, _, rfl, rfl, ?_, fun q r r2 hq hq2 => ?_⟩
        · rw [hos]; simp [crRows]
        · rw [hos] at hq2
          have hcs : ((crRows (O i ++ [L])).map fun r => r.map A.d) = ((crRows (O i)).map fun r => r.map A.d) ++ [[.d (.sl eCe (ceRows L))]] := by simp [crRows]
          rw [hcs] at hq2
          rcases Nat.lt_or_ge q ((crRows (O i)).map fun r => r.map A.d).length with h1 | h1
          · rw [List.getElem?_append_left h1] at hq hq2
            rw [hq] at hq2
            cases hq2
            refine ⟨rfl, fun j y hj => ?_⟩
            have hy : y.under 1 = true := (under_d (rows := crRows (O i)) (e := eRw) (k := 1)) r (List.mem_of_getElem? hq) y (List.mem_of_getElem? hj)
            rw [List.getD_eq_getElem?_getD, hj]
            exact ⟨.same hy, hy⟩
          · rw [List.getElem?_append_right h1] at hq hq2
            cases hqq : q - ((crRows (O i)).map fun r => r.map A.d).length with
            | succ q' => rw [hqq] at hq; simp at hq
            | zero =>
              rw [hqq] at hq hq2
              cases hq; cases hq2
              refine ⟨rfl, fun j y hj => ?_⟩
              cases j with
              | succ j => simp at hj
              | zero =>
                cases hj
                refine ⟨?_, rfl⟩
                have hfz := frz_rows (k := 1) (id := 1) (off := 0) (len := L.length) (full := true) (e := eCe) (rows := ceRows L) (h := [.cells eRw (crC (O i) ++ [[.ref 1 L.length 0 L.length true]]), .cells eCe ((ceRows L).map fun r => r.map A.d), .cells eRw [[.ref 1 L.length 0 L.length true]]]) (Nat.le_refl _) rfl (by rw [ceRows_length]; omega)
                rw [ceRows_length, List.drop_zero, List.take_of_length_le (by rw [ceRows_length]; exact Nat.le_refl _)] at hfz
                exact hfz
    rintro _ rfl
    refine W_reg ?_
    simp only [Z, xs, xl, argS, reduceIte, Nat.reduceEqDiff, Nat.reduceAdd, Nat.reduceLT, Nat.reduceLeDiff, A.okCells, A.cells, A.one, splice, f1']
    refine ⟨l.length - (i + 1), S (i + 1), by omega, Co.keep _ ?_, i + 1, hlt, rfl, rfl⟩
    simp [x_upd, x_look]
  · have hle : i = l.length := by simp at hc; omega
    subst hle
    have hOe : O l.length = l := by simp only [O, List.take_length]
    simp only [xs, xl, argS, reduceIte, Nat.reduceEqDiff, Nat.reduceAdd, Nat.reduceLT, Nat.reduceLeDiff, A.okCells, A.cells, A.one, splice, hOe]
    refine W_seq (W_reg ?_)
    simp only [xs, xl, argS, reduceIte, Nat.reduceEqDiff, Nat.reduceAdd, Nat.reduceLT, Nat.reduceLeDiff, A.okCells, A.cells, A.one, splice]
    refine W_ret (.frz ?_)
    simp only [xs, xl, argS, reduceIte, Nat.reduceEqDiff, Nat.reduceAdd, Nat.reduceLT, Nat.reduceLeDiff, A.okCells, A.cells, A.one, splice]
    have := frz_all (id := 0) (full := true) (e := eRw) (rows := crRows l) (h := [crBk l]) rfl
    rw [crRows_len] at this
    exact this

end Go.Proofs.YthpbagpnnokalaaDoor.Nx

namespace Go.Proofs.YthpbagpnnokalaaDoor.Nx
set_option linter.unusedSimpArgs false
set_option linter.unusedVariables false
set_option linter.unnecessarySimpa false
open Go

variable {P : Program} {N : Nat} {Γ : Tabs}

/-- Row i of a scrolled grid. -/
def rsRow (rows : List (List Ce)) (t bt : Nat) (d : Int) (bl : List Ce) (i : Nat) : List Ce :=
  if i < t ∨ bt ≤ i then rows.getD i [] else if (t : Int) ≤ i + d ∧ i + d < bt then rows.getD (i + d).toNat [] else bl
def rsRows (rows : List (List Ce)) (t bt : Nat) (d : Int) (bl : List Ce) (n : Nat) : List (List Ce) := (List.range n).map (rsRow rows t bt d bl)
theorem rsRows_len {rows : List (List Ce)} {t bt : Nat} {d : Int} {bl : List Ce} {n : Nat} : (rsRows rows t bt d bl n).length = n := by simp [rsRows]
theorem rsRows_succ {rows : List (List Ce)} {t bt : Nat} {d : Int} {bl : List Ce} {n : Nat} : rsRows rows t bt d bl (n + 1) = rsRows rows t bt d bl n ++ [rsRow rows t bt d bl n] := by simp [rsRows, List.range_succ]

theorem rsRows_eq {rows : List (List Ce)} {t bt m : Nat} {d : Int} {bl : List Ce} (hm : m = bt - t) (htb : t < bt) (hb : bt ≤ rows.length) (hd : -(m : Int) ≤ d ∧ d ≤ m) :
    rsRows rows t bt d bl rows.length = rows.take t ++ scrollMv rows t m d bl ++ rows.drop bt := by
  have hml : (scrollMv rows t m d bl).length = m := by
    unfold scrollMv
    split
    · simp; omega
    · simp; omega
  apply List.ext_getElem?
  intro i
  rcases Nat.lt_or_ge i rows.length with hi | hi
  · simp only [rsRows, List.getElem?_map, List.getElem?_range hi, Option.map_some]
    rcases Nat.lt_or_ge i t with h1 | h1
    · rw [List.append_assoc, List.getElem?_append_left (by simp; omega), List.getElem?_take, if_pos h1]
      simp only [rsRow, if_pos (Or.inl h1 : i < t ∨ bt ≤ i), List.getD_eq_getElem?_getD, List.getElem?_eq_getElem hi, Option.getD_some]
    · rcases Nat.lt_or_ge i bt with h2 | h2
      · rw [List.append_assoc, List.getElem?_append_right (by simp; omega), List.getElem?_append_left (by simp [hml]; omega)]
        have hlt : (rows.take t).length = t := by simp; omega
        rw [hlt]
        simp only [rsRow, if_neg (by omega : ¬ (i < t ∨ bt ≤ i))]
        unfold scrollMv
        by_cases h0 : 0 ≤ d
        · obtain ⟨k, rfl⟩ : ∃ k : Nat, d = k := ⟨d.toNat, by omega⟩
          rw [if_pos h0, Int.toNat_natCast]
          by_cases h3 : i + k < bt
          · rw [if_pos (by omega), List.getElem?_append_left (by simp; omega), List.getElem?_take, if_pos (by omega), List.getElem?_drop]
            rw [show ((i : Int) + (k : Int)).toNat = t + k + (i - t) by omega, List.getD_eq_getElem?_getD, List.getElem?_eq_getElem (show t + k + (i - t) < rows.length by omega)]; rfl
          · rw [if_neg (by omega), List.getElem?_append_right (by simp; omega), List.getElem?_replicate, if_pos (by simp; omega)]
        · obtain ⟨k, rfl⟩ : ∃ k : Nat, d = -(k : Int) := ⟨(-d).toNat, by omega⟩
          rw [if_neg h0, Int.neg_neg, Int.toNat_natCast]
          by_cases h3 : t + k ≤ i
          · rw [if_pos (by omega), List.getElem?_append_right (by simp; omega), List.length_replicate, List.getElem?_take, if_pos (by omega), List.getElem?_drop]
            rw [show ((i : Int) + -(k : Int)).toNat = t + (i - t - k) by omega, List.getD_eq_getElem?_getD, List.getElem?_eq_getElem (show t + (i - t - k) < rows.length by omega)]; rfl
          · rw [if_neg (by omega), List.getElem?_append_left (by simp; omega), List.getElem?_replicate, if_pos (by omega)]
      · rw [List.getElem?_append_right (by simp [hml]; omega), List.getElem?_drop]
        have hlt : (rows.take t ++ scrollMv rows t m d bl).length = bt := by simp [hml]; omega
        rw [hlt, show bt + (i - bt) = i by omega]
        simp only [rsRow, if_pos (Or.inr h2 : i < t ∨ bt ≤ i), List.getD_eq_getElem?_getD, List.getElem?_eq_getElem hi, Option.getD_some]
  · rw [List.getElem?_eq_none (by rw [rsRows_len]; exact hi), List.getElem?_eq_none (by simp [hml]; omega)]

set_option maxHeartbeats 4000000 in
theorem rscroll_fn {f fc fB fcp : FuncId} (H : FnIs P f N [.c 10 3 true, .t 11, .t 12] (x_ref08_Scroll fc fB fcp)) (hN : 5 ≤ N) (g : Gd) (top bottom by_ a b c : Int) (Hck : FnP Γ P fc [gdA g] (.int (gridCk g)))
    (HBl : ∀ w, FnP Γ P fB [.int w, .agg [.int a, .int b, .int c]] (.d (.sl eCe (ceRows (blankRow w b))))) (Hcp : ∀ l : List (List Ce), l.length ≤ 100000 → (∀ r ∈ l, r.length ≤ 100000) → FnP Γ P fcp [.d (.sl eRw (crRows l))] (.d (.sl eRw (crRows l))))
    (hrl : ∀ r ∈ g.rows, r.length ≤ 100000) : FnP Γ P f [gdA g, .int top, .int bottom, .int by_, .agg [.int a, .int b, .int c]] (scrollA (scrollR g top bottom by_ b)) := by
  refine .of_W H (by simpa using hN) ?_
  have hC := Hck
  have hu := gd_under g 0
  simp only [gdA, gdR] at hC hu
  unfold x_ref08_Scroll
  refine W_seq (W_reg ?_)
  simp only [gdA, gdR, xs, xl, argS, reduceIte, Nat.reduceEqDiff, Nat.reduceAdd, Nat.reduceLT, Nat.reduceLeDiff, A.okCells, A.cells, A.one, splice]
  refine W_seq (W_seq (W_reg ?_))
  simp only [xs, xl, argS, reduceIte, Nat.reduceEqDiff, Nat.reduceAdd, Nat.reduceLT, Nat.reduceLeDiff, A.okCells, A.cells, A.one, splice]
  refine c_fn hC hu ?_
  simp only [xs, xl, argS, reduceIte, Nat.reduceEqDiff, Nat.reduceAdd, Nat.reduceLT, Nat.reduceLeDiff, A.okCells, A.cells, A.one, splice]
  refine W_cond rfl (fun hc => ?_) (fun hc => W_skip ?_)
  · have hck : gridCk g ≠ 0 := by simpa using hc
    refine W_seq (W_reg ?_)
    simp only [xs, xl, argS, reduceIte, Nat.reduceEqDiff, Nat.reduceAdd, Nat.reduceLT, Nat.reduceLeDiff, A.okCells, A.cells, A.one, splice]
    refine W_ret ⟨.inr rfl, ?_⟩
    simp only [readRs, readR, single, x_upd, reduceIte, Nat.reduceEqDiff, x_look, argS, xs, xl, argS, reduceIte, Nat.reduceEqDiff, Nat.reduceAdd, Nat.reduceLT, Nat.reduceLeDiff, A.okCells, A.cells, A.one, splice, loadsTo, scrollR, if_pos hck, scrollA]
    exact frz_tup3 (frz_gd1 (.d (.nil _))) (.d (.nil _)) (.same rfl)
  have hck : gridCk g = 0 := by simpa using hc
  obtain ⟨hgh, hgl, _, _⟩ := gridCk_h hck
  obtain ⟨w, hh, rows⟩ := g
  dsimp only at hgh hgl hrl
  subst hgh
  simp only [xs, xl, argS, reduceIte, Nat.reduceEqDiff, Nat.reduceAdd, Nat.reduceLT, Nat.reduceLeDiff, A.okCells, A.cells, A.one, splice]
  let H0 : Heap := [gB ⟨w, rows.length, rows⟩, atB a b c, zgB]
  let U : Bool → St := fun x => ⟨look [(1, .int top), (2, .int bottom), (3, .int by_), (5, .ptr 0 1 0 0), (9, .ptr 1 1 0 0), (10, .ptr 2 1 0 0), (34, .bool x)], H0⟩
  refine W_seq (W_cutX (· = U ((decide (top < 0) || decide (bottom ≤ top)) || decide ((rows.length : Int) < bottom))) rfl (fun K hK => ?_) ?_)
  · cases e : decide (top < 0)
    · cases e2 : decide (bottom ≤ top)
      · simp only [xs, xl, argS, reduceIte, Nat.reduceEqDiff, Nat.reduceAdd, Nat.reduceLT, Nat.reduceLeDiff, A.okCells, A.cells, A.one, splice, e, e2]
        refine hK _ _ (Co.keep _ ?_) rfl
        simp [x_upd, x_look, e, e2]
      · simp only [xs, xl, argS, reduceIte, Nat.reduceEqDiff, Nat.reduceAdd, Nat.reduceLT, Nat.reduceLeDiff, A.okCells, A.cells, A.one, splice, e, e2]
        refine hK _ _ (Co.keep _ ?_) rfl
        simp [x_upd, x_look, e, e2]
    · simp only [xs, xl, argS, reduceIte, Nat.reduceEqDiff, Nat.reduceAdd, Nat.reduceLT, Nat.reduceLeDiff, A.okCells, A.cells, A.one, splice, e]
      refine hK _ _ (Co.keep _ ?_) rfl
      simp [x_upd, x_look, e]
  rintro _ rfl
  refine W_cond rfl (fun hd => ?_) (fun hd => W_skip ?_)
  · have hd : (top < 0 ∨ bottom ≤ top) ∨ (rows.length : Int) < bottom := by simpa using hd
    refine W_seq (W_reg ?_)
    simp only [U, H0, gdR, xs, xl, argS, reduceIte, Nat.reduceEqDiff, Nat.reduceAdd, Nat.reduceLT, Nat.reduceLeDiff, A.okCells, A.cells, A.one, splice]
    refine W_ret ⟨.inr rfl, ?_⟩
    simp only [readRs, readR, single, x_upd, reduceIte, Nat.reduceEqDiff, x_look, argS, xs, xl, argS, reduceIte, Nat.reduceEqDiff, Nat.reduceAdd, Nat.reduceLT, Nat.reduceLeDiff, A.okCells, A.cells, A.one, splice, loadsTo, scrollR, hck, ne_eq, not_true_eq_false, if_pos hd, scrollA]
    exact frz_tup3 (frz_gd1 (.d (.nil _))) (.d (.nil _)) (.same rfl)
  have hd : ¬ ((top < 0 ∨ bottom ≤ top) ∨ (rows.length : Int) < bottom) := by
    simp only [Bool.or_eq_false_iff, decide_eq_false_iff_not] at hd
    omega
  obtain ⟨t, rfl⟩ : ∃ t : Nat, top = t := ⟨top.toNat, by omega⟩
  obtain ⟨bt, rfl⟩ : ∃ bt : Nat, bottom = bt := ⟨bottom.toNat, by omega⟩
  obtain ⟨m, hm⟩ : ∃ m, m = bt - t := ⟨_, rfl⟩
  have hmI : (bt : Int) - (t : Int) = (m : Int) := by omega
  have hdl := clampBy_le (m := (m : Int)) (b := by_) (by omega)
  have hres : scrollR ⟨w, rows.length, rows⟩ t bt by_ b = (⟨w, rows.length, rows.take t ++ scrollMv rows t m (clampBy m by_) (blankRow w b) ++ rows.drop bt⟩, scrollOut rows t (clampBy m by_), 0) := by
    simp only [scrollR, hck, ne_eq, not_true_eq_false, if_false, if_neg hd, hmI, Int.toNat_natCast]
  rw [hres]
  have e1 : IntKind.i64.wrap ((bt : Int) - (t : Int)) = (m : Int) := by rw [i64_of (by omega)]; omega
  have e2 : IntKind.i64.wrap (0 - (m : Int)) = -(m : Int) := by rw [i64_of (by omega)]; omega
  have e3 : minmaxInt true (-(m : Int)) (minmaxInt false by_ (m : Int)) = clampBy m by_ := by
    simp only [minmaxInt, clampBy, Bool.false_eq_true, if_false, if_true]
    split <;> split <;> omega
  generalize clampBy m by_ = d at hdl e3
  obtain ⟨bl, hbl⟩ : ∃ bl, bl = blankRow w b := ⟨_, rfl⟩
  have HBw := HBl w
  have hbll : bl.length ≤ 100000 := by
    rw [hbl]; unfold blankRow; split
    · simp
    · simp; omega
  rw [← hbl] at HBw ⊢
  rw [← rsRows_eq hm (by omega) (by omega) hdl]
  simp only [U, H0, gdR, xs, xl, argS, reduceIte, Nat.reduceEqDiff, Nat.reduceAdd, Nat.reduceLT, Nat.reduceLeDiff, A.okCells, A.cells, A.one, splice]
  refine W_seq (W_reg ?_)
  simp only [xs, xl, argS, reduceIte, Nat.reduceEqDiff, Nat.reduceAdd, Nat.reduceLT, Nat.reduceLeDiff, A.okCells, A.cells, A.one, splice, e1, e2, e3]
  refine W_seq (W_reg ?_)
  simp only [gdR, xs, xl, argS, reduceIte, Nat.reduceEqDiff, Nat.reduceAdd, Nat.reduceLT, Nat.reduceLeDiff, A.okCells, A.cells, A.one, splice]
  let R : Nat → List (List Ce) := rsRows rows t bt d bl
  have hRl : ∀ i, (R i).length = i := fun i => rsRows_len
  let g3 : Heap := [gB ⟨w, rows.length, rows⟩, atB a b c, zgB]
  let bx : Nat → A := fun i => if i = 0 then .nil else .ref 5 i 0 i true
  let Hp : Nat → Heap := fun i => if i = 0 then [gB ⟨w, rows.length, rows⟩, atB a b c, zgB, oB w rows.length .nil] else [gB ⟨w, rows.length, rows⟩, atB a b c, zgB, oB w rows.length (.ref 5 i 0 i true), crBk (R 1), crBk (R i)]
  let S : Nat → St := fun i => ⟨look [(1, .int t), (2, .int bt), (5, .ptr 0 1 0 0), (9, .ptr 1 1 0 0), (10, .ptr 2 1 0 0), (13, .int d), (14, .ptr 3 1 0 0), (15, .int i)], Hp i⟩
  let V : Nat → St := fun i => ⟨look [(1, .int t), (5, .ptr 0 1 0 0), (10, .ptr 2 1 0 0), (13, .int d), (14, .ptr 3 1 0 0)], Hp i⟩
  have hu6 : ∀ i, ∀ B ∈ [gB ⟨w, rows.length, rows⟩, atB a b c, zgB, oB w rows.length (.ref 5 i 0 i true), crBk (R 1), crBk (R i)], HB.under 6 B := by
    intro i B hB
    simp only [List.mem_cons, List.not_mem_nil, or_false] at hB
    rcases hB with rfl | rfl | rfl | rfl | rfl | rfl
    · exact under_ints fun x hx => by
        simp only [gdR, List.mem_cons, List.not_mem_nil, or_false] at hx
        rcases hx with rfl | rfl | rfl <;> rfl
    · exact under_ints fun x hx => by
        simp only [List.mem_cons, List.not_mem_nil, or_false] at hx
        rcases hx with rfl | rfl | rfl <;> rfl
    · exact under_ints fun x hx => by
        simp only [List.mem_cons, List.not_mem_nil, or_false] at hx
        rcases hx with rfl | rfl | rfl <;> rfl
    · exact under_ints fun x hx => by
        simp only [List.mem_cons, List.not_mem_nil, or_false] at hx
        rcases hx with rfl | rfl | rfl <;> rfl
    · exact under_d
    · exact under_d
  refine W_cut (· = V rows.length) ?_ ?_
  · refine W_seq (W_reg ?_)
    simp only [xs, xl, argS, reduceIte, Nat.reduceEqDiff, Nat.reduceAdd, Nat.reduceLT, Nat.reduceLeDiff, A.okCells, A.cells, A.one, splice]
    refine W_block ?_
    refine W_co (s' := S 0) (Co.keep _ (by simp [x_upd, x_look])) ?_
    refine W_loop (fun q s => ∃ i, i ≤ rows.length ∧ q = rows.length - i ∧ s = S i) ⟨0, Nat.zero_le _, rfl, rfl⟩ ?_
    rintro q s ⟨i, hi, rfl, rfl⟩
    have hH0 : ∀ i, (Hp i)[0]? = some (gB ⟨w, rows.length, rows⟩) := fun i => by
      simp only [Hp]; split <;> rfl
    refine W_seq (W_seq (W_reg ?_))
    simp only [S, xs, xl, argS, reduceIte, Nat.reduceEqDiff, Nat.reduceAdd, Nat.reduceLT, Nat.reduceLeDiff, A.okCells, A.cells, A.one, splice, hH0, gdR]
    refine W_cond rfl (fun hc => W_skip ?_) (fun hc => W_exit ?_)
    · have hlt : i < rows.length := by simpa using hc
      have hgk : (crRows rows).getD i [] = [.sl eCe (ceRows rows[i])] := crRows_get hlt
      have hs : ∀ r, rsRow rows t bt d bl i = r → ((crRows (R i)).map fun r => r.map A.d) ++ [[A.d (.sl eCe (ceRows r))]] = (crRows (R (i + 1))).map fun r => r.map A.d := fun r hr => by
        rw [show R (i + 1) = R i ++ [rsRow rows t bt d bl i] from rsRows_succ, hr]; simp [crRows]
      have f1' : IntKind.i64.wrap ((i : Int) + 1) = ((i + 1 : Nat) : Int) := i64_of (by omega)
      have ed : IntKind.i64.wrap ((i : Int) + d) = (i : Int) + d := i64_of (by omega)
      simp only [xs, xl, argS, reduceIte, Nat.reduceEqDiff, Nat.reduceAdd, Nat.reduceLT, Nat.reduceLeDiff, A.okCells, A.cells, A.one, splice]
      let Z : St := ⟨look [(1, .int t), (2, .int bt), (5, .ptr 0 1 0 0), (9, .ptr 1 1 0 0), (10, .ptr 2 1 0 0), (13, .int d), (14, .ptr 3 1 0 0), (15, .int i)], Hp (i + 1)⟩
      have hHs : Hp (i + 1) = [gB ⟨w, rows.length, rows⟩, atB a b c, zgB, oB w rows.length (.ref 5 (i + 1) 0 (i + 1) true), crBk (R 1), crBk (R (i + 1))] := by simp only [Hp, if_neg (Nat.succ_ne_zero i)]
      let U1 : Bool → St := fun x => ⟨look [(1, .int t), (2, .int bt), (5, .ptr 0 1 0 0), (9, .ptr 1 1 0 0), (10, .ptr 2 1 0 0), (13, .int d), (14, .ptr 3 1 0 0), (15, .int i), (64, .bool x)], Hp i⟩
      let U2 : Bool → St := fun x => ⟨look [(1, .int t), (2, .int bt), (5, .ptr 0 1 0 0), (9, .ptr 1 1 0 0), (10, .ptr 2 1 0 0), (13, .int d), (14, .ptr 3 1 0 0), (15, .int i), (86, .bool x)], Hp i⟩
      refine W_cut (· = Z) (W_block (W_cutX (· = U1 (decide ((i : Int) < (t : Int)) || decide ((bt : Int) ≤ (i : Int)))) rfl (fun K hK => ?_) ?_)) ?_
      · cases e : decide ((i : Int) < (t : Int))
        · simp only [xs, xl, argS, reduceIte, Nat.reduceEqDiff, Nat.reduceAdd, Nat.reduceLT, Nat.reduceLeDiff, A.okCells, A.cells, A.one, splice, e]
          refine hK _ _ (Co.keep _ ?_) rfl
          simp [x_upd, x_look]
          have : ¬ i < t := by simpa using e
          intro h; omega
        · simp only [xs, xl, argS, reduceIte, Nat.reduceEqDiff, Nat.reduceAdd, Nat.reduceLT, Nat.reduceLeDiff, A.okCells, A.cells, A.one, splice, e]
          refine hK _ _ (Co.keep _ ?_) rfl
          have : i < t := by simpa using e
          simp [x_upd, x_look, this]
      · rintro _ rfl
        refine W_cond rfl (fun hk => ?_) (fun hk => ?_)
        · have hk : i < t ∨ bt ≤ i := by simpa using hk
          have hr : rsRow rows t bt d bl i = rows[i] := by
            simp only [rsRow, if_pos hk, List.getD_eq_getElem?_getD, List.getElem?_eq_getElem hlt, Option.getD_some]
          have hs1 := hs _ hr
          clear hr hs
          generalize rows[i] = L at hgk hs1
          rcases Nat.eq_zero_or_pos i with rfl | hpos
          · have hR1 : (crRows (R 1)).map (fun r => r.map A.d) = [[A.d (.sl eCe (ceRows (L)))]] := hs1.symm
            have hH : Hp 0 = [gB ⟨w, rows.length, rows⟩, atB a b c, zgB, oB w rows.length .nil] := rfl
            refine W_drw (by simp) ?_
            simp only [U1, hH, gdR, xs, xl, argS, reduceIte, Nat.reduceEqDiff, Nat.reduceAdd, Nat.reduceLT, Nat.reduceLeDiff, A.okCells, A.cells, A.one, splice, hgk, crRows_len]
            refine ⟨by omega, by omega, ?_⟩
            rw [if_neg (by simp)]
            refine ⟨by decide, by decide, ?_⟩
            refine ⟨Z, ?_, rfl⟩
            have hZ : Z = ⟨look [(1, .int t), (2, .int bt), (5, .ptr 0 1 0 0), (9, .ptr 1 1 0 0), (10, .ptr 2 1 0 0), (13, .int d), (14, .ptr 3 1 0 0), (15, .int (0 : Nat))], [gB ⟨w, rows.length, rows⟩, atB a b c, zgB, oB w rows.length (.ref 5 1 0 1 true), .cells eRw [[A.d (.sl eCe (ceRows (L)))]], .cells eRw [[A.d (.sl eCe (ceRows (L)))]]]⟩ := by
              have hH1 : Hp 1 = [gB ⟨w, rows.length, rows⟩, atB a b c, zgB, oB w rows.length (.ref 5 1 0 1 true), crBk (R 1), crBk (R 1)] := rfl
              simp only [Z, Nat.zero_add, hH1, crBk, hR1]
            rw [hZ]
            exact Co.keep _ (by simp [x_upd, x_look])
          · have hH : Hp i = [gB ⟨w, rows.length, rows⟩, atB a b c, zgB, oB w rows.length (.ref 5 i 0 i true), crBk (R 1), crBk (R i)] := by simp only [Hp, if_neg (by omega : ¬ i = 0)]
            refine W_drw (by simp) ?_
            simp only [U1, hH, gdR, xs, xl, argS, reduceIte, Nat.reduceEqDiff, Nat.reduceAdd, Nat.reduceLT, Nat.reduceLeDiff, A.okCells, A.cells, A.one, splice, hgk, crRows_len]
            refine ⟨by omega, by omega, ?_⟩
            simp only [xs, xl, argS, reduceIte, Nat.reduceEqDiff, Nat.reduceAdd, Nat.reduceLT, Nat.reduceLeDiff, A.okCells, A.cells, A.one, splice, crRows_len, hRl, hs1]
            refine ⟨by simp only [room]; omega, by simp only [maxLen]; omega, ?_⟩
            refine ⟨Z, ?_, rfl⟩
            have hZ : Z = ⟨look [(1, .int t), (2, .int bt), (5, .ptr 0 1 0 0), (9, .ptr 1 1 0 0), (10, .ptr 2 1 0 0), (13, .int d), (14, .ptr 3 1 0 0), (15, .int i)], [gB ⟨w, rows.length, rows⟩, atB a b c, zgB, oB w rows.length (.ref 5 (i + 1) 0 (i + 1) true), crBk (R 1), crBk (R (i + 1))]⟩ := by simp only [Z, hHs]
            rw [hZ]
            refine Co.to _ 6 ?_ (Nat.zero_le _) (by simp) ?_
            · simp [x_upd, x_look, A.under]
            · intro B hB
              simp only [List.take_succ_cons, List.take_zero] at hB
              exact hu6 (i + 1) B hB
        · have hk : ¬ (i < t ∨ bt ≤ i) := by simp at hk; omega
          refine W_cutX (· = U2 (decide ((t : Int) ≤ (i : Int) + d) && decide ((i : Int) + d < (bt : Int)))) rfl (fun K hK => ?_) ?_
          · cases e : decide ((t : Int) ≤ (i : Int) + d)
            · simp only [U1, xs, xl, argS, reduceIte, Nat.reduceEqDiff, Nat.reduceAdd, Nat.reduceLT, Nat.reduceLeDiff, A.okCells, A.cells, A.one, splice, ed, e]
              refine hK _ _ (Co.keep _ ?_) rfl
              simp [x_upd, x_look, e]
            · simp only [U1, xs, xl, argS, reduceIte, Nat.reduceEqDiff, Nat.reduceAdd, Nat.reduceLT, Nat.reduceLeDiff, A.okCells, A.cells, A.one, splice, ed, e]
              refine hK _ _ (Co.keep _ ?_) rfl
              simp [x_upd, x_look, e]
          rintro _ rfl
          refine W_cond rfl (fun hk2 => ?_) (fun hk2 => ?_)
          · have hk2 : (t : Int) ≤ (i : Int) + d ∧ (i : Int) + d < (bt : Int) := by simpa using hk2
            obtain ⟨u, hu⟩ : ∃ u : Nat, (i : Int) + d = u := ⟨((i : Int) + d).toNat, by omega⟩
            have hul : u < rows.length := by omega
            have hgu : (crRows rows).getD u [] = [.sl eCe (ceRows rows[u])] := crRows_get hul
            have hr : rsRow rows t bt d bl i = rows[u] := by
              rw [hu] at hk2
              simp only [rsRow, if_neg hk, hu, if_pos hk2, Int.toNat_natCast, List.getD_eq_getElem?_getD, List.getElem?_eq_getElem hul, Option.getD_some]
            have hs1 := hs _ hr
            have ed2 : IntKind.i64.wrap ((i : Int) + d) = (u : Int) := by rw [ed, hu]
            clear hr hs ed
            generalize rows[u] = L at hgu hs1
            rcases Nat.eq_zero_or_pos i with rfl | hpos
            · have hR1 : (crRows (R 1)).map (fun r => r.map A.d) = [[A.d (.sl eCe (ceRows (L)))]] := hs1.symm
              have hH : Hp 0 = [gB ⟨w, rows.length, rows⟩, atB a b c, zgB, oB w rows.length .nil] := rfl
              refine W_drw (by simp) ?_
              simp only [U2, hH, gdR, xs, xl, argS, reduceIte, Nat.reduceEqDiff, Nat.reduceAdd, Nat.reduceLT, Nat.reduceLeDiff, A.okCells, A.cells, A.one, splice, ed2, hgu, crRows_len]
              refine ⟨by omega, by omega, ?_⟩
              rw [if_neg (by simp)]
              refine ⟨by decide, by decide, ?_⟩
              refine ⟨Z, ?_, rfl⟩
              have hZ : Z = ⟨look [(1, .int t), (2, .int bt), (5, .ptr 0 1 0 0), (9, .ptr 1 1 0 0), (10, .ptr 2 1 0 0), (13, .int d), (14, .ptr 3 1 0 0), (15, .int (0 : Nat))], [gB ⟨w, rows.length, rows⟩, atB a b c, zgB, oB w rows.length (.ref 5 1 0 1 true), .cells eRw [[A.d (.sl eCe (ceRows (L)))]], .cells eRw [[A.d (.sl eCe (ceRows (L)))]]]⟩ := by
                have hH1 : Hp 1 = [gB ⟨w, rows.length, rows⟩, atB a b c, zgB, oB w rows.length (.ref 5 1 0 1 true), crBk (R 1), crBk (R 1)] := rfl
                simp only [Z, Nat.zero_add, hH1, crBk, hR1]
              rw [hZ]
              exact Co.keep _ (by simp [x_upd, x_look])
            · have hH : Hp i = [gB ⟨w, rows.length, rows⟩, atB a b c, zgB, oB w rows.length (.ref 5 i 0 i true), crBk (R 1), crBk (R i)] := by simp only [Hp, if_neg (by omega : ¬ i = 0)]
              refine W_drw (by simp) ?_
              simp only [U2, hH, gdR, xs, xl, argS, reduceIte, Nat.reduceEqDiff, Nat.reduceAdd, Nat.reduceLT, Nat.reduceLeDiff, A.okCells, A.cells, A.one, splice, ed2, hgu, crRows_len]
              refine ⟨by omega, by omega, ?_⟩
              simp only [xs, xl, argS, reduceIte, Nat.reduceEqDiff, Nat.reduceAdd, Nat.reduceLT, Nat.reduceLeDiff, A.okCells, A.cells, A.one, splice, crRows_len, hRl, hs1]
              refine ⟨by simp only [room]; omega, by simp only [maxLen]; omega, ?_⟩
              refine ⟨Z, ?_, rfl⟩
              have hZ : Z = ⟨look [(1, .int t), (2, .int bt), (5, .ptr 0 1 0 0), (9, .ptr 1 1 0 0), (10, .ptr 2 1 0 0), (13, .int d), (14, .ptr 3 1 0 0), (15, .int i)], [gB ⟨w, rows.length, rows⟩, atB a b c, zgB, oB w rows.length (.ref 5 (i + 1) 0 (i + 1) true), crBk (R 1), crBk (R (i + 1))]⟩ := by simp only [Z, hHs]
              rw [hZ]
              refine Co.to _ 6 ?_ (Nat.zero_le _) (by simp) ?_
              · simp [x_upd, x_look, A.under]
              · intro B hB
                simp only [List.take_succ_cons, List.take_zero] at hB
                exact hu6 (i + 1) B hB
          · have hk2 : ¬ ((t : Int) ≤ (i : Int) + d ∧ (i : Int) + d < (bt : Int)) := by
              simp only [Bool.and_eq_false_iff, decide_eq_false_iff_not] at hk2; omega
            have hr : rsRow rows t bt d bl i = bl := by simp only [rsRow, if_neg hk, if_neg hk2]
            have hs1 := hs _ hr
            clear hr hs
            rcases Nat.eq_zero_or_pos i with rfl | hpos
            · have hR1 : (crRows (R 1)).map (fun r => r.map A.d) = [[A.d (.sl eCe (ceRows (bl)))]] := hs1.symm
              have hH : Hp 0 = [gB ⟨w, rows.length, rows⟩, atB a b c, zgB, oB w rows.length .nil] := rfl
              refine W_drw (by simp) ?_
              simp only [U2, hH, gdR, xs, xl, argS, reduceIte, Nat.reduceEqDiff, Nat.reduceAdd, Nat.reduceLT, Nat.reduceLeDiff, A.okCells, A.cells, A.one, splice, crRows_len]
              refine c_fn HBw (by simp [A.underL, A.under]) ?_
              simp only [xs, xl, argS, reduceIte, Nat.reduceEqDiff, Nat.reduceAdd, Nat.reduceLT, Nat.reduceLeDiff, A.okCells, A.cells, A.one, splice]
              rw [if_neg (by simp)]
              refine ⟨by decide, by decide, ?_⟩
              refine ⟨Z, ?_, rfl⟩
              have hZ : Z = ⟨look [(1, .int t), (2, .int bt), (5, .ptr 0 1 0 0), (9, .ptr 1 1 0 0), (10, .ptr 2 1 0 0), (13, .int d), (14, .ptr 3 1 0 0), (15, .int (0 : Nat))], [gB ⟨w, rows.length, rows⟩, atB a b c, zgB, oB w rows.length (.ref 5 1 0 1 true), .cells eRw [[A.d (.sl eCe (ceRows (bl)))]], .cells eRw [[A.d (.sl eCe (ceRows (bl)))]]]⟩ := by
                have hH1 : Hp 1 = [gB ⟨w, rows.length, rows⟩, atB a b c, zgB, oB w rows.length (.ref 5 1 0 1 true), crBk (R 1), crBk (R 1)] := rfl
                simp only [Z, Nat.zero_add, hH1, crBk, hR1]
              rw [hZ]
              exact Co.keep _ (by simp [x_upd, x_look])
            · have hH : Hp i = [gB ⟨w, rows.length, rows⟩, atB a b c, zgB, oB w rows.length (.ref 5 i 0 i true), crBk (R 1), crBk (R i)] := by simp only [Hp, if_neg (by omega : ¬ i = 0)]
              refine W_drw (by simp) ?_
              simp only [U2, hH, gdR, xs, xl, argS, reduceIte, Nat.reduceEqDiff, Nat.reduceAdd, Nat.reduceLT, Nat.reduceLeDiff, A.okCells, A.cells, A.one, splice, crRows_len]
              refine c_fn HBw (by simp [A.underL, A.under]) ?_
              simp only [xs, xl, argS, reduceIte, Nat.reduceEqDiff, Nat.reduceAdd, Nat.reduceLT, Nat.reduceLeDiff, A.okCells, A.cells, A.one, splice, crRows_len, hRl, hs1]
              refine ⟨by simp only [room]; omega, by simp only [maxLen]; omega, ?_⟩
              refine ⟨Z, ?_, rfl⟩
              have hZ : Z = ⟨look [(1, .int t), (2, .int bt), (5, .ptr 0 1 0 0), (9, .ptr 1 1 0 0), (10, .ptr 2 1 0 0), (13, .int d), (14, .ptr 3 1 0 0), (15, .int i)], [gB ⟨w, rows.length, rows⟩, atB a b c, zgB, oB w rows.length (.ref 5 (i + 1) 0 (i + 1) true), crBk (R 1), crBk (R (i + 1))]⟩ := by simp only [Z, hHs]
              rw [hZ]
              refine Co.to _ 6 ?_ (Nat.zero_le _) (by simp) ?_
              · simp [x_upd, x_look, A.under]
              · intro B hB
                simp only [List.take_succ_cons, List.take_zero] at hB
                exact hu6 (i + 1) B hB
      · rintro _ rfl
        refine W_reg ?_
        simp only [Z, xs, xl, argS, reduceIte, Nat.reduceEqDiff, Nat.reduceAdd, Nat.reduceLT, Nat.reduceLeDiff, A.okCells, A.cells, A.one, splice, f1']
        refine ⟨rows.length - (i + 1), S (i + 1), by omega, Co.keep _ ?_, i + 1, hlt, rfl, rfl⟩
        simp [x_upd, x_look]
    · have hle : i = rows.length := by simp at hc; omega
      subst hle
      simp only [xs, xl, argS, reduceIte, Nat.reduceEqDiff, Nat.reduceAdd, Nat.reduceLT, Nat.reduceLeDiff, A.okCells, A.cells, A.one, splice]
      exact ⟨V rows.length, Co.keep _ (by simp [x_upd, x_look]), rfl⟩
  rintro _ rfl
  have hn0 : ¬ rows.length = 0 := by omega
  have hRr : ∀ r ∈ R rows.length, r.length ≤ 100000 := by
    intro r hr
    obtain ⟨i, hi, rfl⟩ := List.mem_map.1 hr
    have hgd : ∀ i, (rows.getD i []).length ≤ 100000 := fun i => by
      rw [List.getD_eq_getElem?_getD]
      rcases Nat.lt_or_ge i rows.length with h | h
      · rw [List.getElem?_eq_getElem h]; exact hrl _ (List.getElem_mem h)
      · rw [List.getElem?_eq_none h]; simp
    simp only [rsRow]
    split
    · exact hgd _
    · split
      · exact hgd _
      · exact hbll
  have hub : ∀ k, HB.under k (gB ⟨w, rows.length, rows⟩) ∧ HB.under k (atB a b c) ∧ HB.under k zgB ∧ HB.under k (gB ⟨w, rows.length, R rows.length⟩) := fun k => by
    refine ⟨?_, ?_, ?_, ?_⟩ <;> refine under_ints fun x hx => ?_ <;> simp only [gdR, List.mem_cons, List.not_mem_nil, or_false] at hx <;> rcases hx with rfl | rfl | rfl <;> rfl
  let W1 : St := ⟨look [(1, .int t), (5, .ptr 0 1 0 0), (10, .ptr 2 1 0 0), (13, .int d), (14, .ptr 3 1 0 0)], [gB ⟨w, rows.length, rows⟩, atB a b c, zgB, gB ⟨w, rows.length, R rows.length⟩]⟩
  refine W_co (s' := W1) ?_ ?_
  · simp only [V, Hp, if_neg hn0]
    refine Co.frzH _ 4 _ ?_ (Nat.zero_le _) (by simp) rfl ?_
    · intro p hp
      simp only [List.mem_cons, List.not_mem_nil, or_false] at hp
      rcases hp with rfl | rfl | rfl | rfl | rfl
      · exact ⟨.same rfl, rfl⟩
      · exact ⟨.same rfl, rfl⟩
      · exact ⟨.same rfl, rfl⟩
      · exact ⟨.same rfl, rfl⟩
      · exact ⟨.same rfl, rfl⟩
    · intro id hid
      obtain ⟨u0, u1, u2, _⟩ := hub 4
      rcases (by omega : id = 0 ∨ id = 1 ∨ id = 2 ∨ id = 3) with rfl | rfl | rfl | rfl
      · exact blkF_same rfl rfl u0
      · exact blkF_same rfl rfl u1
      · exact blkF_same rfl rfl u2
      · refine ⟨eGd, _, _, rfl, rfl, rfl, fun q r r2 hq hq2 => ?_⟩
        cases q with
        | succ q => simp at hq
        | zero =>
          cases hq; cases hq2
          refine ⟨rfl, fun j y hj => ?_⟩
          rcases j with _ | _ | _ | j
          · cases hj; exact ⟨.same rfl, rfl⟩
          · cases hj; exact ⟨.same rfl, rfl⟩
          · cases hj
            refine ⟨?_, rfl⟩
            have := frz_rows (k := 4) (id := 5) (off := 0) (len := rows.length) (full := true) (e := eRw) (rows := crRows (R rows.length)) (h := [gB ⟨w, rows.length, rows⟩, atB a b c, zgB, oB w rows.length (.ref 5 rows.length 0 rows.length true), crBk (R 1), crBk (R rows.length)]) (by decide) rfl (by rw [crRows_len, hRl]; omega)
            rw [crRows_len, hRl, List.drop_zero, List.take_of_length_le (by rw [crRows_len, hRl]; exact Nat.le_refl _)] at this
            exact this
          · simp [gdR] at hj
  obtain ⟨RR, hRR⟩ : ∃ RR, RR = R rows.length := ⟨_, rfl⟩
  have hRR0 : rsRows rows t bt d bl rows.length = RR := hRR.symm
  have hRRl : RR.length = rows.length := by rw [hRR]; exact hRl _
  rw [hRR0]
  simp only [W1]
  rw [← hRR] at hRr hub ⊢
  have hCp := Hcp RR (by omega) hRr
  refine W_seq (W_reg ?_)
  simp only [gdR, xs, xl, argS, reduceIte, Nat.reduceEqDiff, Nat.reduceAdd, Nat.reduceLT, Nat.reduceLeDiff, A.okCells, A.cells, A.one, splice]
  refine c_fn hCp rfl ?_
  simp only [gdR, xs, xl, argS, reduceIte, Nat.reduceEqDiff, Nat.reduceAdd, Nat.reduceLT, Nat.reduceLeDiff, A.okCells, A.cells, A.one, splice]
  refine W_seq (W_reg ?_)
  simp only [xs, xl, argS, reduceIte, Nat.reduceEqDiff, Nat.reduceAdd, Nat.reduceLT, Nat.reduceLeDiff, A.okCells, A.cells, A.one, splice]
  obtain ⟨out, hout⟩ : ∃ out, out = scrollOut rows t d := ⟨_, rfl⟩
  have hout2 : (rows.drop t).take d.toNat = out := by
    rw [hout]; unfold scrollOut; split
    · rfl
    · rw [show d.toNat = 0 by omega]; rfl
  have houtl : out.length = d.toNat := by rw [← hout2]; simp; omega
  rw [← hout]
  let Q : St := ⟨look [(10, .ptr 2 1 0 0), (14, .ptr 3 1 0 0), (16, .d (.sl eRw (crRows out)))], [gB ⟨w, rows.length, rows⟩, atB a b c, zgB, gB ⟨w, rows.length, RR⟩]⟩
  refine W_cut (· = Q) ?_ ?_
  · refine W_seq (W_reg ?_)
    simp only [xs, xl, argS, reduceIte, Nat.reduceEqDiff, Nat.reduceAdd, Nat.reduceLT, Nat.reduceLeDiff, A.okCells, A.cells, A.one, splice]
    refine W_block ?_
    let O : Nat → List (List Ce) := fun j => (rows.drop t).take j
    have hOl : ∀ j, j ≤ d.toNat → (O j).length = j := fun j hj => by simp [O]; omega
    let S2 : Nat → St := fun j => ⟨look [(1, .int t), (5, .ptr 0 1 0 0), (10, .ptr 2 1 0 0), (13, .int d), (14, .ptr 3 1 0 0), (16, .ref 4 j 0 j true), (17, .int ((t + j : Nat) : Int))], [gB ⟨w, rows.length, rows⟩, atB a b c, zgB, gB ⟨w, rows.length, RR⟩, crBk (O j)]⟩
    have ewt : IntKind.i64.wrap ((t : Int) + d) = (t : Int) + d := i64_of (by omega)
    refine W_co (s' := S2 0) (by
      have : crBk (O 0) = .cells eRw [] := rfl
      simp only [S2, this, gdR]; exact Co.keep _ (by simp [x_upd, x_look])) ?_
    refine W_loop (fun q s => ∃ j, j ≤ d.toNat ∧ q = d.toNat - j ∧ s = S2 j) ⟨0, Nat.zero_le _, rfl, rfl⟩ ?_
    rintro q s ⟨j, hj, rfl, rfl⟩
    refine W_seq (W_seq (W_reg ?_))
    simp only [S2, xs, xl, argS, reduceIte, Nat.reduceEqDiff, Nat.reduceAdd, Nat.reduceLT, Nat.reduceLeDiff, A.okCells, A.cells, A.one, splice, ewt]
    refine W_cond rfl (fun hc => W_skip ?_) (fun hc => W_exit ?_)
    · have hlt : j < d.toNat := by simp only [decide_eq_true_eq] at hc; omega
      have htj : t + j < rows.length := by omega
      have hgk : (crRows rows).getD (t + j) [] = [.sl eCe (ceRows rows[t + j])] := crRows_get htj
      have hos : ((crRows (O j)).map fun r => r.map A.d) ++ [[A.d (.sl eCe (ceRows rows[t + j]))]] = (crRows (O (j + 1))).map fun r => r.map A.d := by
        simp only [O]
        rw [List.take_add_one, List.getElem?_drop, List.getElem?_eq_getElem htj]
        simp [crRows]
      have hol := hOl j hj
      have ew1 : IntKind.i64.wrap (((t + j : Nat) : Int) + 1) = ((t + (j + 1) : Nat) : Int) := by rw [i64_of (by omega)]; omega
      generalize rows[t + j] = L at hgk hos
      simp only [xs, xl, argS, reduceIte, Nat.reduceEqDiff, Nat.reduceAdd, Nat.reduceLT, Nat.reduceLeDiff, A.okCells, A.cells, A.one, splice]
      refine W_seq (W_block (W_reg ?_))
      simp only [gdR, xs, xl, argS, reduceIte, Nat.reduceEqDiff, Nat.reduceAdd, Nat.reduceLT, Nat.reduceLeDiff, A.okCells, A.cells, A.one, splice, hgk, crRows_len]
      refine ⟨by omega, by omega, ?_⟩
      simp only [xs, xl, argS, reduceIte, Nat.reduceEqDiff, Nat.reduceAdd, Nat.reduceLT, Nat.reduceLeDiff, A.okCells, A.cells, A.one, splice, hol, hos, crRows_len, Nat.reduceMul]
      refine ⟨by simp only [room]; omega, by simp only [maxLen]; omega, ?_⟩
      refine W_reg ?_
      simp only [xs, xl, argS, reduceIte, Nat.reduceEqDiff, Nat.reduceAdd, Nat.reduceLT, Nat.reduceLeDiff, A.okCells, A.cells, A.one, splice, ew1]
      refine ⟨d.toNat - (j + 1), S2 (j + 1), by omega, ?_, j + 1, hlt, rfl, rfl⟩
      refine Co.to _ 5 ?_ (Nat.zero_le _) (by simp) ?_
      · simp [x_upd, x_look, A.under]
      · intro B hB
        obtain ⟨u0, u1, u2, u3⟩ := hub 5
        simp only [List.take_succ_cons, List.take_zero, List.mem_cons, List.not_mem_nil, or_false] at hB
        rcases hB with rfl | rfl | rfl | rfl | rfl
        · exact u0
        · exact u1
        · exact u2
        · exact u3
        · exact under_d
    · have hle : j = d.toNat := by simp only [decide_eq_false_iff_not] at hc; omega
      subst hle
      simp only [xs, xl, argS, reduceIte, Nat.reduceEqDiff, Nat.reduceAdd, Nat.reduceLT, Nat.reduceLeDiff, A.okCells, A.cells, A.one, splice]
      refine ⟨Q, ?_, rfl⟩
      have hO : O d.toNat = out := hout2
      rw [hO]
      refine Co.frz _ 4 ?_ (Nat.zero_le _) (by simp) ?_
      · intro p hp
        simp only [List.mem_cons, List.not_mem_nil, or_false] at hp
        rcases hp with rfl | rfl | rfl
        · exact .same rfl
        · exact .same rfl
        · have := frz_rows (k := 4) (id := 4) (off := 0) (len := d.toNat) (full := true) (e := eRw) (rows := crRows out) (h := [gB ⟨w, rows.length, rows⟩, atB a b c, zgB, gB ⟨w, rows.length, RR⟩, crBk out]) (Nat.le_refl _) rfl (by rw [crRows_len, houtl]; omega)
          rw [crRows_len, houtl, List.drop_zero, List.take_of_length_le (by rw [crRows_len, houtl]; exact Nat.le_refl _)] at this
          exact this
      · intro B hB
        obtain ⟨u0, u1, u2, u3⟩ := hub 4
        simp only [List.take_succ_cons, List.take_zero, List.mem_cons, List.not_mem_nil, or_false] at hB
        rcases hB with rfl | rfl | rfl | rfl
        · exact u0
        · exact u1
        · exact u2
        · exact u3
  rintro _ rfl
  have hCp2 := Hcp out (by omega) (fun r hr => by
    rw [← hout2] at hr
    exact hrl r (List.mem_of_mem_drop (List.mem_of_mem_take hr)))
  refine W_seq (W_drw (by simp) ?_)
  simp only [Q, gdR, xs, xl, argS, reduceIte, Nat.reduceEqDiff, Nat.reduceAdd, Nat.reduceLT, Nat.reduceLeDiff, A.okCells, A.cells, A.one, splice]
  refine c_fn hCp2 rfl ?_
  simp only [xs, xl, argS, reduceIte, Nat.reduceEqDiff, Nat.reduceAdd, Nat.reduceLT, Nat.reduceLeDiff, A.okCells, A.cells, A.one, splice]
  refine W_ret ⟨.inr rfl, ?_⟩
  simp only [readRs, readR, single, x_upd, reduceIte, Nat.reduceEqDiff, x_look, argS, xs, xl, argS, reduceIte, Nat.reduceEqDiff, Nat.reduceAdd, Nat.reduceLT, Nat.reduceLeDiff, A.okCells, A.cells, A.one, splice, loadsTo, scrollA]
  exact frz_tup3 (frz_gd1 (.same rfl)) (.same rfl) (.same rfl)

end Go.Proofs.YthpbagpnnokalaaDoor.Nx

namespace Go.Proofs.YthpbagpnnokalaaDoor.Nx
set_option linter.unusedSimpArgs false
set_option linter.unusedVariables false
set_option linter.unnecessarySimpa false
open Go

def crOf : List D → Option (List Ce)
  | [.sl e rows] => if e = eCe then rows.mapM ceOf else none
  | _ => none
theorem crOf_ok {r : List D} {l : List Ce} (h : crOf r = some l) : r = [.sl eCe (ceRows l)] := by
  unfold crOf at h
  split at h
  · split at h
    · rename_i he; subst he; rw [ceOfs_ok h]
    · cases h
  · cases h
theorem crOfs_ok : ∀ {rows : List (List D)} {l : List (List Ce)}, rows.mapM crOf = some l → rows = crRows l
  | [], l, h => by simp at h; subst h; rfl
  | r :: rows, l, h => by
    simp only [List.mapM_cons, Option.bind_eq_bind, Option.pure_def, Option.bind_eq_some_iff, Option.some.injEq] at h
    obtain ⟨c, hc, l', hl, rfl⟩ := h
    rw [crOf_ok hc, crOfs_ok hl]; rfl

end Go.Proofs.YthpbagpnnokalaaDoor.Nx

namespace Go.Proofs.YthpbagpnnokalaaDoor.Nx
set_option linter.unusedSimpArgs false
set_option linter.unusedVariables false
set_option linter.unnecessarySimpa false
open Go

def mulOk (n : Nat) : Option A → Bool
  | some (.tup [.d (.sc (.int .u64 a)), .d (.sc (.int .u64 b))]) => decide (a = 0 ∧ b = n)
  | _ => false
theorem mulOk_ok {n : Nat} {x : Option A} (h : mulOk n x = true) : x = some (.tup [.d (.sc (.int .u64 0)), .d (.sc (.int .u64 n))]) := by
  unfold mulOk at h
  split at h
  · simp only [decide_eq_true_eq] at h
    obtain ⟨rfl, rfl⟩ := h
    rfl
  · cases h
theorem mul_of {P : Program} {Γ : Tabs} {o : Orc} (O : OrcOk (.all Γ.ctx P) o) {fm : FuncId} (h : (List.range 133).all (fun n => mulOk n (o.pure fm [.d (.sc (.int .u64 1)), .d (.sc (.int .u64 n))])) = true) :
    ∀ n : Nat, n ≤ 132 → FnP Γ P fm [.d (.sc (.int .u64 1)), .d (.sc (.int .u64 n))] (.tup [.d (.sc (.int .u64 0)), .d (.sc (.int .u64 n))]) := fun n hn =>
  O.pure _ _ _ (mulOk_ok (List.all_eq_true.1 h n (List.mem_range.2 (by omega))))

end Go.Proofs.YthpbagpnnokalaaDoor.Nx

namespace Go.Proofs.YthpbagpnnokalaaDoor.Nx
set_option linter.unusedSimpArgs false
set_option linter.unusedVariables false
set_option linter.unnecessarySimpa false
open Go

variable {P : Program} {N : Nat} {Γ : Tabs}

/-- Rows and texts of moderate sizes. -/
def smallL (l : List (List Ce)) : Prop := ∀ r ∈ l, r.length ≤ 1000 ∧ ∀ c ∈ r, c.text.size ≤ 1000
def Gd.small (g : Gd) : Prop := smallL g.rows
instance {l : List (List Ce)} : Decidable (smallL l) := by unfold smallL; infer_instance
instance {g : Gd} : Decidable g.small := by unfold Gd.small; infer_instance

theorem great10_small {l : List (List Ce)} (h : great10 l = false) : l.length ≤ 10 ∧ smallL l := by
  simp only [great10, Bool.or_eq_false_iff, decide_eq_false_iff_not] at h
  refine ⟨by omega, fun r hr => ?_⟩
  have h2 := List.any_eq_false.1 h.2 r hr
  have := greatC_small (by simpa using h2)
  exact ⟨by omega, fun c hc => by have := this.2 c hc; omega⟩

abbrev atA (a b c : Int) : A := .agg [.int a, .int b, .int c]
abbrev ScrollOk (Γ : Tabs) (P : Program) (f : FuncId) : Prop := ∀ g : Gd, g.small → ∀ top bottom by_ a b c : Int, FnP Γ P f [gdA g, .int top, .int bottom, .int by_, atA a b c] (scrollA (scrollR g top bottom by_ b))
abbrev Great10Ok (Γ : Tabs) (P : Program) (f : FuncId) : Prop := ∀ l : List (List Ce), FnP Γ P f [.d (.sl eRw (crRows l))] (.int (if great10 l then 1 else 0))
abbrev SameGOk (Γ : Tabs) (P : Program) (f : FuncId) : Prop := ∀ x y : Gd, FnP Γ P f [gdA x, gdA y] (.bool (decide (x = y)))
abbrev SameLOk (Γ : Tabs) (P : Program) (f : FuncId) : Prop := ∀ a b : List (List Ce), FnP Γ P f [.d (.sl eRw (crRows a)), .d (.sl eRw (crRows b))] (.bool (decide (a = b)))
abbrev GCheckOk (Γ : Tabs) (P : Program) (f : FuncId) : Prop := ∀ g : Gd, g.small → FnP Γ P f [gdA g] (.int (gridCk g))

set_option maxHeartbeats 1000000 in
theorem gridScrollLaw_fn {f fg fa fs fr fe fl : FuncId} (H : FnIs P f N [.t 10] (x_law08_GridScroll fg fa fs fr fe fl)) (hN : 5 ≤ N) (Hg : Great10Ok Γ P fg) (Ha : FnP Γ P fa [] (.bool true)) (Hs : ScrollOk Γ P fs) (Hr : ScrollOk Γ P fr) (He : SameGOk Γ P fe) (Hl : SameLOk Γ P fl)
    (g : Gd) (top bottom by_ a b c : Int) : FnP Γ P f [gdA g, .int top, .int bottom, .int by_, atA a b c] (.bool true) := by
  refine .of_W H (by simpa using hN) ?_
  have hG := Hg g.rows
  unfold x_law08_GridScroll
  refine W_seq (W_reg ?_)
  simp only [gdA, gdR, atA, xs, xl, argS, reduceIte, Nat.reduceEqDiff, Nat.reduceAdd, Nat.reduceLT, Nat.reduceLeDiff, A.okCells, A.cells, A.one, splice]
  cases hg : great10 g.rows
  all_goals simp only [hg, Bool.false_eq_true, if_true, if_false] at hG
  · have S1 := Hs g (great10_small hg).2 top bottom by_ a b c
    have S2 := Hr g (great10_small hg).2 top bottom by_ a b c
    generalize scrollR g top bottom by_ b = q at S1 S2
    obtain ⟨x, l, e⟩ := q
    have E1 := He x x
    have E2 := Hl l l
    rw [decide_eq_true rfl] at E1 E2
    simp only [gdA, gdR, scrollA] at S1 S2 E1
    refine W_seq (W_seq (W_reg ?_))
    simp only [xs, xl, argS, reduceIte, Nat.reduceEqDiff, Nat.reduceAdd, Nat.reduceLT, Nat.reduceLeDiff, A.okCells, A.cells, A.one, splice]
    refine c_fn hG rfl ?_
    simp only [xs, xl, argS, reduceIte, Nat.reduceEqDiff, Nat.reduceAdd, Nat.reduceLT, Nat.reduceLeDiff, A.okCells, A.cells, A.one, splice]
    refine W_cond rfl (fun hc => by simp at hc) (fun _ => W_skip ?_)
    simp only [xs, xl, argS, reduceIte, Nat.reduceEqDiff, Nat.reduceAdd, Nat.reduceLT, Nat.reduceLeDiff, A.okCells, A.cells, A.one, splice]
    refine W_seq (W_reg ?_)
    simp only [xs, xl, argS, reduceIte, Nat.reduceEqDiff, Nat.reduceAdd, Nat.reduceLT, Nat.reduceLeDiff, A.okCells, A.cells, A.one, splice]
    refine c_fn S1 rfl ?_
    simp only [xs, xl, argS, reduceIte, Nat.reduceEqDiff, Nat.reduceAdd, Nat.reduceLT, Nat.reduceLeDiff, A.okCells, A.cells, A.one, splice]
    refine W_seq (W_reg ?_)
    simp only [xs, xl, argS, reduceIte, Nat.reduceEqDiff, Nat.reduceAdd, Nat.reduceLT, Nat.reduceLeDiff, A.okCells, A.cells, A.one, splice]
    refine c_fn S2 rfl ?_
    simp only [xs, xl, argS, reduceIte, Nat.reduceEqDiff, Nat.reduceAdd, Nat.reduceLT, Nat.reduceLeDiff, A.okCells, A.cells, A.one, splice]
    refine W_seq (W_reg ?_)
    simp only [xs, xl, argS, reduceIte, Nat.reduceEqDiff, Nat.reduceAdd, Nat.reduceLT, Nat.reduceLeDiff, A.okCells, A.cells, A.one, splice]
    refine c_fn E1 rfl ?_
    simp only [xs, xl, argS, reduceIte, Nat.reduceEqDiff, Nat.reduceAdd, Nat.reduceLT, Nat.reduceLeDiff, A.okCells, A.cells, A.one, splice]
    refine c_fn E2 rfl ?_
    simp only [xs, xl, argS, reduceIte, Nat.reduceEqDiff, Nat.reduceAdd, Nat.reduceLT, Nat.reduceLeDiff, A.okCells, A.cells, A.one, splice, decide_true]
    refine c_fn Ha rfl ?_
    simp only [xs, xl, argS, reduceIte, Nat.reduceEqDiff, Nat.reduceAdd, Nat.reduceLT, Nat.reduceLeDiff, A.okCells, A.cells, A.one, splice]
    refine W_ret (.tmp ?_ rfl)
    simp only [x_upd, reduceIte]
  · refine W_seq (W_seq (W_reg ?_))
    simp only [xs, xl, argS, reduceIte, Nat.reduceEqDiff, Nat.reduceAdd, Nat.reduceLT, Nat.reduceLeDiff, A.okCells, A.cells, A.one, splice]
    refine c_fn hG rfl ?_
    simp only [xs, xl, argS, reduceIte, Nat.reduceEqDiff, Nat.reduceAdd, Nat.reduceLT, Nat.reduceLeDiff, A.okCells, A.cells, A.one, splice]
    refine W_cond rfl (fun _ => ?_) (fun hc => by simp at hc)
    refine W_seq (W_reg ?_)
    simp only [xs, xl, argS, reduceIte, Nat.reduceEqDiff, Nat.reduceAdd, Nat.reduceLT, Nat.reduceLeDiff, A.okCells, A.cells, A.one, splice]
    refine c_fn Ha rfl ?_
    simp only [xs, xl, argS, reduceIte, Nat.reduceEqDiff, Nat.reduceAdd, Nat.reduceLT, Nat.reduceLeDiff, A.okCells, A.cells, A.one, splice]
    refine W_ret (.tmp ?_ rfl)
    simp only [x_upd, reduceIte]

/-- Scroll at closed arguments. -/
def extScroll (fS : FuncId) (f : FuncId) (args : List A) : Option A :=
  if f = fS then match args with
    | [.agg [.d (.sc (.int .i64 w)), .d (.sc (.int .i64 h)), .d (.sl e rg)], .d (.sc (.int .i64 top)), .d (.sc (.int .i64 bottom)), .d (.sc (.int .i64 by_)), .agg [.d (.sc (.int .i64 _)), .d (.sc (.int .i64 b)), .d (.sc (.int .i64 _))]] =>
      if e = eRw then match rg.mapM crOf with
        | some rows => if Gd.small ⟨w, h, rows⟩ then some (scrollA (scrollR ⟨w, h, rows⟩ top bottom by_ b)) else none
        | none => none
      else none
    | _ => none
  else none
theorem extScroll_ok {fS : FuncId} (H : ScrollOk Γ P fS) : ∀ f args r, extScroll fS f args = some r → FnP Γ P f args r := by
  intro f args r h
  unfold extScroll at h
  split at h
  · rename_i hf; subst hf
    split at h
    · split at h
      · rename_i he; subst he
        split at h
        · rename_i rows hr
          split at h
          · rename_i hs
            cases h
            rw [crOfs_ok hr]
            exact H _ hs _ _ _ _ _ _
          · cases h
        · cases h
      · cases h
    · cases h
  · cases h

end Go.Proofs.YthpbagpnnokalaaDoor.Nx


/- Rows of cells: the reference's Put, Delete, Erase. -/
/- Rows of cells: the reference's Delete, Insert. -/
import Derived.Test.YtckglkbbdbmdkaaDoorNxK6
import Derived.Test.YtckglkbbdbmdkaaDoorNxWalk
namespace Go.Proofs.YtckglkbbdbmdkaaDoor.Nx
set_option linter.unusedSimpArgs false
set_option linter.unusedVariables false
set_option linter.unnecessarySimpa false
open Go

variable {P : Program} {N : Nat} {Γ : Tabs}

abbrev CopyOk (Γ : Tabs) (P : Program) (f : FuncId) : Prop := ∀ l : List Ce, l.length ≤ 100000 → ∀ h : Heap, FnD Γ.ctx P f [.d (.sl eCe (ceRows l))] h (.ref h.length l.length 0 l.length true) (h ++ [ceB' l])
abbrev RowOk (Γ : Tabs) (P : Program) (f : FuncId) : Prop := ∀ l : List Ce, smallR l → FnP Γ P f [.d (.sl eCe (ceRows l))] (.int (checkR l))

set_option maxHeartbeats 1000000 in
theorem rput_fn {f fk fck fw fc fs : FuncId} (H : FnIs P f N [.t 8, .t 9] (x_ref07_Put fk fck fw fc fs)) (hN : 4 ≤ N) (Hk : RowOk Γ P fk) (Hc : CopyOk Γ P fc) (Hh : HalveOk Γ P fs)
    (Hck : ∀ s : ByteArray, s.size ≤ 1000 → FnP Γ P fck [.str s] (.int (chkC s))) (Hw : ∀ s : ByteArray, s.size ≤ 1000 → FnP Γ P fw [.str s] (.int (widC s))) : PutOk Γ P f := by
  intro l hs col s hss a b c
  refine .of_W H (by simpa using hN) ?_
  unfold x_ref07_Put
  refine W_seq (W_reg ?_); simp only [xs, xl, argS, reduceIte, Nat.reduceEqDiff, Nat.reduceAdd, Nat.reduceLT, Nat.reduceLeDiff, A.okCells, A.cells, A.one, splice]
  refine W_seq ?_
  refine W_seq (W_reg ?_); simp only [xs, xl, argS, reduceIte, Nat.reduceEqDiff, Nat.reduceAdd, Nat.reduceLT, Nat.reduceLeDiff, A.okCells, A.cells, A.one, splice]
  refine c_fn (Hk l hs) rfl ?_
  simp only [xs, xl, argS, reduceIte, Nat.reduceEqDiff, Nat.reduceAdd, Nat.reduceLT, Nat.reduceLeDiff, A.okCells, A.cells, A.one, splice]
  refine W_cond rfl (fun hc => ?_) (fun hc => W_skip ?_)
  · have hck : checkR l ≠ 0 := by simpa using hc
    refine W_seq (W_reg ?_); simp only [xs, xl, argS, reduceIte, Nat.reduceEqDiff, Nat.reduceAdd, Nat.reduceLT, Nat.reduceLeDiff, A.okCells, A.cells, A.one, splice]
    refine W_ret ⟨.inr rfl, ?_⟩
    simp only [readRs, readR, single, x_upd, reduceIte, Nat.reduceEqDiff, x_look, argS, xs, xl, argS, reduceIte, Nat.reduceEqDiff, Nat.reduceAdd, Nat.reduceLT, Nat.reduceLeDiff, A.okCells, A.cells, A.one, splice, loadsTo, putR, if_pos hck]
    exact frz_ce (.d (.nil _))
  have hck0 : checkR l = 0 := by simpa using hc
  have hck : ¬ checkR l ≠ 0 := fun k => k hck0
  obtain ⟨hl1, hl2, hrk⟩ := ck_pos hck0
  simp only [xs, xl, argS, reduceIte, Nat.reduceEqDiff, Nat.reduceAdd, Nat.reduceLT, Nat.reduceLeDiff, A.okCells, A.cells, A.one, splice]
  let U : St := ⟨look [(0, .d (.sl eCe (ceRows l))), (1, .int col), (2, .str s), (7, .ptr 0 1 0 0), (22, .bool (decide (col < 0 ∨ (l.length : Int) - 1 < col)))], [atB a b c]⟩
  refine W_seq (W_cutX (· = U) rfl (fun K hK => ?_) ?_)
  · have hor : decide ((l.length : Int) ≤ col) = decide ((l.length : Int) - 1 < col) := by rw [Bool.eq_iff_iff]; simp only [decide_eq_true_eq]; omega
    cases e : decide (col < 0)
    · simp only [xs, xl, argS, reduceIte, Nat.reduceEqDiff, Nat.reduceAdd, Nat.reduceLT, Nat.reduceLeDiff, A.okCells, A.cells, A.one, splice, e, ceRows_length, hor]
      exact hK _ _ (Co.keep _ (by simp only [decide_eq_false_iff_not] at e; simp [x_upd, x_look, e])) rfl
    · simp only [xs, xl, argS, reduceIte, Nat.reduceEqDiff, Nat.reduceAdd, Nat.reduceLT, Nat.reduceLeDiff, A.okCells, A.cells, A.one, splice, e]
      exact hK _ _ (Co.keep _ (by simp only [decide_eq_true_eq] at e; simp [x_upd, x_look, e])) rfl
  rintro _ rfl
  refine W_cond rfl (fun hc => ?_) (fun hc => W_skip ?_)
  · have hcol := of_decide_eq_true hc
    refine W_seq (W_reg ?_); simp only [xs, xl, argS, reduceIte, Nat.reduceEqDiff, Nat.reduceAdd, Nat.reduceLT, Nat.reduceLeDiff, A.okCells, A.cells, A.one, splice, U]
    refine W_ret ⟨.inr rfl, ?_⟩
    simp only [readRs, readR, single, x_upd, reduceIte, Nat.reduceEqDiff, x_look, argS, xs, xl, argS, reduceIte, Nat.reduceEqDiff, Nat.reduceAdd, Nat.reduceLT, Nat.reduceLeDiff, A.okCells, A.cells, A.one, splice, loadsTo, putR, if_neg hck, if_pos hcol]
    exact frz_ce (.d (.nil _))
  have hcol := of_decide_eq_false hc
  obtain ⟨n, rfl⟩ : ∃ n : Nat, col = n := ⟨col.toNat, by omega⟩
  have hnl : n < l.length := by omega
  simp only [U, xs, xl, argS, reduceIte, Nat.reduceEqDiff, Nat.reduceAdd, Nat.reduceLT, Nat.reduceLeDiff, A.okCells, A.cells, A.one, splice]
  refine W_seq ?_
  refine W_seq (W_reg ?_); simp only [xs, xl, argS, reduceIte, Nat.reduceEqDiff, Nat.reduceAdd, Nat.reduceLT, Nat.reduceLeDiff, A.okCells, A.cells, A.one, splice]
  refine c_fn (Hck s hss) rfl ?_
  simp only [xs, xl, argS, reduceIte, Nat.reduceEqDiff, Nat.reduceAdd, Nat.reduceLT, Nat.reduceLeDiff, A.okCells, A.cells, A.one, splice]
  refine W_cond rfl (fun hc => ?_) (fun hc => W_skip ?_)
  · have hc : chkC s ≠ 0 := by simpa using hc
    refine W_seq (W_reg ?_); simp only [xs, xl, argS, reduceIte, Nat.reduceEqDiff, Nat.reduceAdd, Nat.reduceLT, Nat.reduceLeDiff, A.okCells, A.cells, A.one, splice]
    refine W_ret ⟨.inr rfl, ?_⟩
    simp only [readRs, readR, single, x_upd, reduceIte, Nat.reduceEqDiff, x_look, argS, xs, xl, argS, reduceIte, Nat.reduceEqDiff, Nat.reduceAdd, Nat.reduceLT, Nat.reduceLeDiff, A.okCells, A.cells, A.one, splice, loadsTo, putR, if_neg hck, if_neg hcol, if_pos hc]
    exact frz_ce (.d (.nil _))
  have hc0 : chkC s = 0 := by simpa using hc
  have hcn : ¬ chkC s ≠ 0 := fun k => k hc0
  obtain ⟨w, hw, hw12⟩ : ∃ w : Nat, widC s = w ∧ (w = 1 ∨ w = 2) := by
    rcases chk_wid hc0 with h | h
    · exact ⟨1, h, .inl rfl⟩
    · exact ⟨2, h, .inr rfl⟩
  have hW := Hw s hss
  rw [hw] at hW ⊢
  simp only [xs, xl, argS, reduceIte, Nat.reduceEqDiff, Nat.reduceAdd, Nat.reduceLT, Nat.reduceLeDiff, A.okCells, A.cells, A.one, splice]
  refine W_seq (W_reg ?_); simp only [xs, xl, argS, reduceIte, Nat.reduceEqDiff, Nat.reduceAdd, Nat.reduceLT, Nat.reduceLeDiff, A.okCells, A.cells, A.one, splice]
  refine c_fn hW rfl ?_
  simp only [xs, xl, argS, reduceIte, Nat.reduceEqDiff, Nat.reduceAdd, Nat.reduceLT, Nat.reduceLeDiff, A.okCells, A.cells, A.one, splice]
  refine W_seq ?_
  have w2 : IntKind.i64.wrap ((n : Int) + (w : Int)) = ((n + w : Nat) : Int) := by rw [i64_of (by omega)]; omega
  refine W_seq (W_reg ?_); simp only [xs, xl, argS, reduceIte, Nat.reduceEqDiff, Nat.reduceAdd, Nat.reduceLT, Nat.reduceLeDiff, A.okCells, A.cells, A.one, splice, ceRows_length, w2]
  refine W_cond rfl (fun hc => ?_) (fun hc => W_skip ?_)
  · have hc : (l.length : Int) - n < w := by simp only [decide_eq_true_eq] at hc; omega
    refine W_seq (W_reg ?_); simp only [xs, xl, argS, reduceIte, Nat.reduceEqDiff, Nat.reduceAdd, Nat.reduceLT, Nat.reduceLeDiff, A.okCells, A.cells, A.one, splice]
    refine W_ret ⟨.inr rfl, ?_⟩
    simp only [readRs, readR, single, x_upd, reduceIte, Nat.reduceEqDiff, x_look, argS, xs, xl, argS, reduceIte, Nat.reduceEqDiff, Nat.reduceAdd, Nat.reduceLT, Nat.reduceLeDiff, A.okCells, A.cells, A.one, splice, loadsTo, putR, if_neg hck, if_neg hcol, if_neg hcn, if_pos hc]
    exact frz_ce (.d (.nil _))
  have hwn : ¬ ((l.length : Int) - n < w) := by simp only [decide_eq_false_iff_not] at hc; omega
  have hres : putR l n ⟨s, (w : Int), a, b, c⟩ = (putL l n ⟨s, (w : Int), a, b, c⟩, 0) := by
    simp only [putR, if_neg hck, if_neg hcol, if_neg hcn, if_neg hwn, Int.toNat_natCast]
  rw [hres]
  simp only [xs, xl, argS, reduceIte, Nat.reduceEqDiff, Nat.reduceAdd, Nat.reduceLT, Nat.reduceLeDiff, A.okCells, A.cells, A.one, splice]
  refine W_seq (W_reg ?_); simp only [xs, xl, argS, reduceIte, Nat.reduceEqDiff, Nat.reduceAdd, Nat.reduceLT, Nat.reduceLeDiff, A.okCells, A.cells, A.one, splice]
  refine ce_fn (Hc l (by omega) [atB a b c]) ?_
  simp only [xs, xl, argS, reduceIte, Nat.reduceEqDiff, Nat.reduceAdd, Nat.reduceLT, Nat.reduceLeDiff, A.okCells, A.cells, A.one, splice]
  refine W_seq (W_reg ?_); simp only [xs, xl, argS, reduceIte, Nat.reduceEqDiff, Nat.reduceAdd, Nat.reduceLT, Nat.reduceLeDiff, A.okCells, A.cells, A.one, splice]
  refine ce_fn (Hh l (okR_ck hrk) n (by omega) (by omega) 1 [atB a b c, ceB' l] rfl) ?_
  simp only [xs, xl, argS, reduceIte, Nat.reduceEqDiff, Nat.reduceAdd, Nat.reduceLT, Nat.reduceLeDiff, A.okCells, A.cells, A.one, splice]
  refine W_seq (W_reg ?_); simp only [xs, xl, argS, reduceIte, Nat.reduceEqDiff, Nat.reduceAdd, Nat.reduceLT, Nat.reduceLeDiff, A.okCells, A.cells, A.one, splice, w2]
  have hH := Hh (hlv l n) (okR_ck (hlv_ck hrk)) (n + w) (by rw [hlv_len]; omega) (by omega) 1 [atB a b c, ceB' (hlv l n)] rfl
  rw [hlv_len] at hH
  refine ce_fn hH ?_
  simp only [xs, xl, argS, reduceIte, Nat.reduceEqDiff, Nat.reduceAdd, Nat.reduceLT, Nat.reduceLeDiff, A.okCells, A.cells, A.one, splice]
  have hl2 : (hlv (hlv l n) (n + w)).length = l.length := by rw [hlv_len, hlv_len]
  refine W_seq ?_
  refine W_seq ?_
  refine W_reg ?_; simp only [xs, xl, argS, reduceIte, Nat.reduceEqDiff, Nat.reduceAdd, Nat.reduceLT, Nat.reduceLeDiff, A.okCells, A.cells, A.one, splice]
  refine W_cond rfl (fun hc => ?_) (fun hc => W_skip ?_)
  · have h2 : w = 2 := by simp only [decide_eq_true_eq] at hc; omega
    subst h2
    have w6 : IntKind.i64.wrap ((n : Int) + 1) = ((n + 1 : Nat) : Int) := by rw [i64_of (by omega)]; omega
    refine W_seq (W_reg ?_); simp only [xs, xl, argS, reduceIte, Nat.reduceEqDiff, Nat.reduceAdd, Nat.reduceLT, Nat.reduceLeDiff, A.okCells, A.cells, A.one, splice, w6]
    have hH := Hh (hlv (hlv l n) (n + 2)) (okR_ck (hlv_ck (hlv_ck hrk))) (n + 1) (by omega) (by omega) 1 [atB a b c, ceB' (hlv (hlv l n) (n + 2))] rfl
    rw [hl2] at hH
    refine ce_fn hH ?_
    simp only [xs, xl, argS, reduceIte, Nat.reduceEqDiff, Nat.reduceAdd, Nat.reduceLT, Nat.reduceLeDiff, A.okCells, A.cells, A.one, splice]
    obtain ⟨y, hy⟩ : ∃ y, y = hlv (hlv (hlv l n) (n + 2)) (n + 1) := ⟨_, rfl⟩
    have hyl : y.length = l.length := by rw [hy, hlv_len, hl2]
    have hput : putL l n ⟨s, ((2 : Nat) : Int), a, b, c⟩ = (y.set (n + 1) ⟨⟨#[]⟩, 0, a, b, c⟩).set n ⟨s, ((2 : Nat) : Int), a, b, c⟩ := by
      rw [hy, List.set_comm _ _ (by omega)]
      have := hlvs_two (col := n) hrk
      unfold putL
      rw [← this]
      rfl
    rw [hput, ← hy]
    have g1 := ceB_get (l := y) (i := n + 1) (by omega)
    have s1 := ceB_set (l := y) (i := n + 1) (c := ⟨⟨#[]⟩, 0, a, b, c⟩)
    have hl3 : (y.set (n + 1) ⟨⟨#[]⟩, 0, a, b, c⟩).length = l.length := by rw [List.length_set, hyl]
    have g2 := ceB_get (l := y.set (n + 1) ⟨⟨#[]⟩, 0, a, b, c⟩) (i := n) (by omega)
    have s2 := ceB_set (l := y.set (n + 1) ⟨⟨#[]⟩, 0, a, b, c⟩) (i := n) (c := ⟨s, ((2 : Nat) : Int), a, b, c⟩)
    simp only [Ce.row, List.map_cons, List.map_nil] at s1 g1 s2 g2
    refine W_reg ?_; simp only [xs, xl, argS, reduceIte, Nat.reduceEqDiff, Nat.reduceAdd, Nat.reduceLT, Nat.reduceLeDiff, A.okCells, A.cells, A.one, splice, w6, hyl, ceRows_length, Int.toNat_natCast, g1, s1]
    repeat refine And.intro (by omega) ?_
    refine W_seq (W_reg ?_); simp only [xs, xl, argS, reduceIte, Nat.reduceEqDiff, Nat.reduceAdd, Nat.reduceLT, Nat.reduceLeDiff, A.okCells, A.cells, A.one, splice, hl3, ceRows_length, Int.toNat_natCast, g2, s2]
    repeat refine And.intro (by omega) ?_
    refine W_seq (W_reg ?_); simp only [xs, xl, argS, reduceIte, Nat.reduceEqDiff, Nat.reduceAdd, Nat.reduceLT, Nat.reduceLeDiff, A.okCells, A.cells, A.one, splice]
    refine W_ret ⟨.inr rfl, ?_⟩
    simp only [readRs, readR, single, x_upd, reduceIte, Nat.reduceEqDiff, x_look, argS, xs, xl, argS, reduceIte, Nat.reduceEqDiff, Nat.reduceAdd, Nat.reduceLT, Nat.reduceLeDiff, A.okCells, A.cells, A.one, splice, loadsTo]
    exact frz_ceB (id := 1) rfl (by rw [List.length_set, hl3])
  · have h1 : w = 1 := by simp only [decide_eq_false_iff_not] at hc; omega
    subst h1
    obtain ⟨y, hy⟩ : ∃ y, y = hlv (hlv l n) (n + 1) := ⟨_, rfl⟩
    have hyl : y.length = l.length := by rw [hy, hl2]
    have hput : putL l n ⟨s, ((1 : Nat) : Int), a, b, c⟩ = y.set n ⟨s, ((1 : Nat) : Int), a, b, c⟩ := by rw [hy]; rfl
    rw [hput, ← hy]
    have g1 := ceB_get (l := y) (i := n) (by omega)
    have s1 := ceB_set (l := y) (i := n) (c := ⟨s, ((1 : Nat) : Int), a, b, c⟩)
    simp only [Ce.row, List.map_cons, List.map_nil] at s1 g1
    simp only [xs, xl, argS, reduceIte, Nat.reduceEqDiff, Nat.reduceAdd, Nat.reduceLT, Nat.reduceLeDiff, A.okCells, A.cells, A.one, splice]
    refine W_seq (W_reg ?_); simp only [xs, xl, argS, reduceIte, Nat.reduceEqDiff, Nat.reduceAdd, Nat.reduceLT, Nat.reduceLeDiff, A.okCells, A.cells, A.one, splice, hyl, ceRows_length, Int.toNat_natCast, g1, s1]
    repeat refine And.intro (by omega) ?_
    refine W_seq (W_reg ?_); simp only [xs, xl, argS, reduceIte, Nat.reduceEqDiff, Nat.reduceAdd, Nat.reduceLT, Nat.reduceLeDiff, A.okCells, A.cells, A.one, splice]
    refine W_ret ⟨.inr rfl, ?_⟩
    simp only [readRs, readR, single, x_upd, reduceIte, Nat.reduceEqDiff, x_look, argS, xs, xl, argS, reduceIte, Nat.reduceEqDiff, Nat.reduceAdd, Nat.reduceLT, Nat.reduceLeDiff, A.okCells, A.cells, A.one, splice, loadsTo]
    exact frz_ceB (id := 1) rfl (by rw [List.length_set, hyl])

set_option maxHeartbeats 1000000 in
theorem rerase_fn {f fk fc fs fb : FuncId} (H : FnIs P f N [.t 8, .t 9] (x_ref07_Erase fk fc fs fb)) (hN : 4 ≤ N) (Hk : RowOk Γ P fk) (Hc : CopyOk Γ P fc) (Hh : HalveOk Γ P fs) (Hbl : ∀ b, FnP Γ P fb [.int b] (ceA (blankC b))) : ShiftOk eraR Γ P f := by
  intro l hs col m a b c
  refine .of_W H (by simpa using hN) ?_
  unfold x_ref07_Erase
  refine W_seq (W_reg ?_); simp only [xs, xl, argS, reduceIte, Nat.reduceEqDiff, Nat.reduceAdd, Nat.reduceLT, Nat.reduceLeDiff, A.okCells, A.cells, A.one, splice]
  refine W_seq ?_
  refine W_seq (W_reg ?_); simp only [xs, xl, argS, reduceIte, Nat.reduceEqDiff, Nat.reduceAdd, Nat.reduceLT, Nat.reduceLeDiff, A.okCells, A.cells, A.one, splice]
  refine c_fn (Hk l hs) rfl ?_
  simp only [xs, xl, argS, reduceIte, Nat.reduceEqDiff, Nat.reduceAdd, Nat.reduceLT, Nat.reduceLeDiff, A.okCells, A.cells, A.one, splice]
  refine W_cond rfl (fun hc => ?_) (fun hc => W_skip ?_)
  · have hck : checkR l ≠ 0 := by simpa using hc
    refine W_seq (W_reg ?_); simp only [xs, xl, argS, reduceIte, Nat.reduceEqDiff, Nat.reduceAdd, Nat.reduceLT, Nat.reduceLeDiff, A.okCells, A.cells, A.one, splice]
    refine W_ret ⟨.inr rfl, ?_⟩
    simp only [readRs, readR, single, x_upd, reduceIte, Nat.reduceEqDiff, x_look, argS, xs, xl, argS, reduceIte, Nat.reduceEqDiff, Nat.reduceAdd, Nat.reduceLT, Nat.reduceLeDiff, A.okCells, A.cells, A.one, splice, loadsTo, eraR, if_pos hck]
    exact frz_ce (.d (.nil _))
  have hck0 : checkR l = 0 := by simpa using hc
  have hck : ¬ checkR l ≠ 0 := fun k => k hck0
  obtain ⟨hl1, hl2, hrk⟩ := ck_pos hck0
  simp only [xs, xl, argS, reduceIte, Nat.reduceEqDiff, Nat.reduceAdd, Nat.reduceLT, Nat.reduceLeDiff, A.okCells, A.cells, A.one, splice]
  have hone : eraR l col m b = if (col < 0 ∨ m < col) ∨ (l.length : Int) < m then ([], 2) else if col = m then (l, 0) else (eraL l col.toNat m.toNat b, 0) := by
    simp only [eraR, if_neg hck]
    split
    · rename_i h; rw [if_pos]; omega
    · split
      · rename_i h; rw [if_pos]; omega
      · rw [if_neg (show ¬ ((col < 0 ∨ m < col) ∨ (l.length : Int) < m) by omega)]
  rw [hone]
  let U : St := ⟨look [(0, .d (.sl eCe (ceRows l))), (1, .int col), (2, .int m), (7, .ptr 0 1 0 0), (27, .bool (decide ((col < 0 ∨ m < col) ∨ (l.length : Int) < m)))], [atB a b c]⟩
  refine W_seq (W_cutX (· = U) rfl (fun K hK => ?_) ?_)
  · cases e : decide (col < 0)
    · simp only [decide_eq_false_iff_not] at e
      have e0 : decide (col < 0) = false := decide_eq_false e
      cases e2 : decide (m < col)
      · simp only [xs, xl, argS, reduceIte, Nat.reduceEqDiff, Nat.reduceAdd, Nat.reduceLT, Nat.reduceLeDiff, A.okCells, A.cells, A.one, splice, e0, e2, ceRows_length]
        exact hK _ _ (Co.keep _ (by simp only [decide_eq_false_iff_not] at e2; simp [x_upd, x_look, e, e2])) rfl
      · simp only [xs, xl, argS, reduceIte, Nat.reduceEqDiff, Nat.reduceAdd, Nat.reduceLT, Nat.reduceLeDiff, A.okCells, A.cells, A.one, splice, e0, e2]
        exact hK _ _ (Co.keep _ (by simp only [decide_eq_true_eq] at e2; simp [x_upd, x_look, e2])) rfl
    · simp only [xs, xl, argS, reduceIte, Nat.reduceEqDiff, Nat.reduceAdd, Nat.reduceLT, Nat.reduceLeDiff, A.okCells, A.cells, A.one, splice, e]
      exact hK _ _ (Co.keep _ (by simp only [decide_eq_true_eq] at e; simp [x_upd, x_look, e])) rfl
  rintro _ rfl
  refine W_cond rfl (fun hc => ?_) (fun hc => W_skip ?_)
  · have hcol := of_decide_eq_true hc
    refine W_seq (W_reg ?_); simp only [xs, xl, argS, reduceIte, Nat.reduceEqDiff, Nat.reduceAdd, Nat.reduceLT, Nat.reduceLeDiff, A.okCells, A.cells, A.one, splice, U]
    refine W_ret ⟨.inr rfl, ?_⟩
    simp only [readRs, readR, single, x_upd, reduceIte, Nat.reduceEqDiff, x_look, argS, xs, xl, argS, reduceIte, Nat.reduceEqDiff, Nat.reduceAdd, Nat.reduceLT, Nat.reduceLeDiff, A.okCells, A.cells, A.one, splice, loadsTo, if_pos hcol]
    exact frz_ce (.d (.nil _))
  have hcol := of_decide_eq_false hc
  rw [if_neg hcol]
  obtain ⟨n, rfl⟩ : ∃ n : Nat, col = n := ⟨col.toNat, by omega⟩
  obtain ⟨t, rfl⟩ : ∃ t : Nat, m = t := ⟨m.toNat, by omega⟩
  simp only [U, xs, xl, argS, reduceIte, Nat.reduceEqDiff, Nat.reduceAdd, Nat.reduceLT, Nat.reduceLeDiff, A.okCells, A.cells, A.one, splice]
  refine W_seq (W_reg ?_); simp only [xs, xl, argS, reduceIte, Nat.reduceEqDiff, Nat.reduceAdd, Nat.reduceLT, Nat.reduceLeDiff, A.okCells, A.cells, A.one, splice]
  refine ce_fn (Hc l (by omega) [atB a b c]) ?_
  simp only [xs, xl, argS, reduceIte, Nat.reduceEqDiff, Nat.reduceAdd, Nat.reduceLT, Nat.reduceLeDiff, A.okCells, A.cells, A.one, splice]
  refine W_seq ?_
  refine W_seq (W_reg ?_); simp only [xs, xl, argS, reduceIte, Nat.reduceEqDiff, Nat.reduceAdd, Nat.reduceLT, Nat.reduceLeDiff, A.okCells, A.cells, A.one, splice]
  refine W_cond rfl (fun he => ?_) (fun he => W_skip ?_)
  · have he : (n : Int) = t := of_decide_eq_true he
    refine W_seq (W_reg ?_); simp only [xs, xl, argS, reduceIte, Nat.reduceEqDiff, Nat.reduceAdd, Nat.reduceLT, Nat.reduceLeDiff, A.okCells, A.cells, A.one, splice]
    refine W_ret ⟨.inr rfl, ?_⟩
    simp only [readRs, readR, single, x_upd, reduceIte, Nat.reduceEqDiff, x_look, argS, xs, xl, argS, reduceIte, Nat.reduceEqDiff, Nat.reduceAdd, Nat.reduceLT, Nat.reduceLeDiff, A.okCells, A.cells, A.one, splice, loadsTo, if_pos he]
    exact frz_ceB (id := 1) rfl rfl
  have he : ¬ (n : Int) = t := of_decide_eq_false he
  rw [if_neg he]
  have hnt : n < t := by omega
  have htl : t ≤ l.length := by omega
  simp only [xs, xl, argS, reduceIte, Nat.reduceEqDiff, Nat.reduceAdd, Nat.reduceLT, Nat.reduceLeDiff, A.okCells, A.cells, A.one, splice]
  refine W_seq (W_reg ?_); simp only [xs, xl, argS, reduceIte, Nat.reduceEqDiff, Nat.reduceAdd, Nat.reduceLT, Nat.reduceLeDiff, A.okCells, A.cells, A.one, splice]
  refine ce_fn (Hh l (okR_ck hrk) n (by omega) (by omega) 1 [atB a b c, ceB' l] rfl) ?_
  simp only [xs, xl, argS, reduceIte, Nat.reduceEqDiff, Nat.reduceAdd, Nat.reduceLT, Nat.reduceLeDiff, A.okCells, A.cells, A.one, splice]
  refine W_seq (W_reg ?_); simp only [xs, xl, argS, reduceIte, Nat.reduceEqDiff, Nat.reduceAdd, Nat.reduceLT, Nat.reduceLeDiff, A.okCells, A.cells, A.one, splice]
  have hH := Hh (hlv l n) (okR_ck (hlv_ck hrk)) t (by rw [hlv_len]; omega) (by omega) 1 [atB a b c, ceB' (hlv l n)] rfl
  rw [hlv_len] at hH
  refine ce_fn hH ?_
  simp only [xs, xl, argS, reduceIte, Nat.reduceEqDiff, Nat.reduceAdd, Nat.reduceLT, Nat.reduceLeDiff, A.okCells, A.cells, A.one, splice]
  have hxl : (hlv (hlv l n) t).length = l.length := by rw [hlv_len, hlv_len]
  have hr : eraL l n t b = (hlv (hlv l n) t).take n ++ List.replicate (t - n) (blankC b) ++ (hlv (hlv l n) t).drop t := rfl
  rw [hr]
  generalize hlv (hlv l n) t = x at hxl
  let M : Nat → List Ce := fun i => x.take n ++ List.replicate (i - n) (blankC b) ++ x.drop i
  have hMl : ∀ i, n ≤ i → i ≤ l.length → (M i).length = l.length := fun i h1 h2 => by simp [M]; omega
  have hM0 : M n = x := by simp [M]
  have hMs : ∀ i, n ≤ i → i < l.length → (M i).set i (blankC b) = M (i + 1) := fun i h1 h2 => by
    simp only [M]
    have k1 : (x.take n ++ List.replicate (i - n) (blankC b)).length = i := by simp; omega
    rw [List.set_append_right _ _ (by omega), k1, Nat.sub_self, List.drop_eq_getElem_cons (by omega), List.set_cons_zero, show i + 1 - n = (i - n) + 1 by omega, List.replicate_succ']
    simp
  let S : Nat → St := fun i => ⟨look [(2, .int t), (7, .ptr 0 1 0 0), (10, .ref 1 l.length 0 l.length true), (11, .int i)], [atB a b c, ceB' (M i)]⟩
  refine W_cut (· = S t) ?_ ?_
  · refine W_seq (W_reg ?_); simp only [xs, xl, argS, reduceIte, Nat.reduceEqDiff, Nat.reduceAdd, Nat.reduceLT, Nat.reduceLeDiff, A.okCells, A.cells, A.one, splice]
    refine W_block ?_
    refine W_co (s' := S n) (by simp only [S, hM0]; exact Co.keep _ (by simp [x_upd, x_look])) ?_
    refine W_loop (fun q s => ∃ i, n ≤ i ∧ i ≤ t ∧ q = t - i ∧ s = S i) ⟨n, Nat.le_refl _, by omega, rfl, rfl⟩ ?_
    rintro q s' ⟨i, hni, hi, rfl, rfl⟩
    simp only [S]
    refine W_seq ?_
    refine W_seq (W_reg ?_); simp only [xs, xl, argS, reduceIte, Nat.reduceEqDiff, Nat.reduceAdd, Nat.reduceLT, Nat.reduceLeDiff, A.okCells, A.cells, A.one, splice]
    refine W_cond rfl (fun hc => W_skip ?_) (fun hc => W_exit ?_)
    · have hlt : i < t := by simp only [decide_eq_true_eq] at hc; omega
      have w5 : IntKind.i64.wrap ((i : Int) + 1) = ((i + 1 : Nat) : Int) := by rw [i64_of (by omega)]; omega
      have hml := hMl i hni (by omega)
      have g1 := ceB_get (l := M i) (i := i) (by omega)
      have s1 := ceB_set (l := M i) (i := i) (c := blankC b)
      rw [hMs i hni (by omega)] at s1
      simp only [xs, xl, argS, reduceIte, Nat.reduceEqDiff, Nat.reduceAdd, Nat.reduceLT, Nat.reduceLeDiff, A.okCells, A.cells, A.one, splice]
      refine W_seq (W_block ?_)
      refine W_reg ?_; simp only [xs, xl, argS, reduceIte, Nat.reduceEqDiff, Nat.reduceAdd, Nat.reduceLT, Nat.reduceLeDiff, A.okCells, A.cells, A.one, splice]
      refine c_fn (Hbl b) rfl ?_
      simp only [ceA, blankC, Ce.row, List.map_cons, List.map_nil] at s1 g1 ⊢
      simp only [xs, xl, argS, reduceIte, Nat.reduceEqDiff, Nat.reduceAdd, Nat.reduceLT, Nat.reduceLeDiff, A.okCells, A.cells, A.one, splice, ceRows_length, hml, Int.toNat_natCast, g1, s1]
      repeat refine And.intro (by omega) ?_
      refine W_reg ?_; simp only [xs, xl, argS, reduceIte, Nat.reduceEqDiff, Nat.reduceAdd, Nat.reduceLT, Nat.reduceLeDiff, A.okCells, A.cells, A.one, splice, w5]
      refine ⟨t - (i + 1), S (i + 1), by omega, Co.keep _ ?_, i + 1, by omega, hlt, rfl, rfl⟩
      simp [x_upd, x_look]
    · have hle : i = t := by simp only [decide_eq_false_iff_not] at hc; omega
      subst hle
      simp only [xs, xl, argS, reduceIte, Nat.reduceEqDiff, Nat.reduceAdd, Nat.reduceLT, Nat.reduceLeDiff, A.okCells, A.cells, A.one, splice]
      exact ⟨S i, Co.keep _ (by simp [x_upd, x_look]), rfl⟩
  rintro _ rfl
  simp only [S]
  refine W_seq (W_reg ?_); simp only [xs, xl, argS, reduceIte, Nat.reduceEqDiff, Nat.reduceAdd, Nat.reduceLT, Nat.reduceLeDiff, A.okCells, A.cells, A.one, splice]
  refine W_ret ⟨.inr rfl, ?_⟩
  simp only [readRs, readR, single, x_upd, reduceIte, Nat.reduceEqDiff, x_look, argS, xs, xl, argS, reduceIte, Nat.reduceEqDiff, Nat.reduceAdd, Nat.reduceLT, Nat.reduceLeDiff, A.okCells, A.cells, A.one, splice, loadsTo]
  exact frz_ceB (id := 1) rfl (hMl t (by omega) htl).symm

end Go.Proofs.YtckglkbbdbmdkaaDoor.Nx

namespace Go.Proofs.YtckglkbbdbmdkaaDoor.Nx
set_option linter.unusedSimpArgs false
set_option linter.unusedVariables false
set_option linter.unnecessarySimpa false
open Go

variable {P : Program} {N : Nat} {Γ : Tabs}

theorem blkT {l : List Ce} {n : Nat} : ((ceRows l).map fun r => r.map A.d).take n = (ceRows (l.take n)).map fun r => r.map A.d := by simp [ceRows, List.map_take]
theorem blkD {l : List Ce} {n : Nat} : ((ceRows l).map fun r => r.map A.d).drop n = (ceRows (l.drop n)).map fun r => r.map A.d := by simp [ceRows, List.map_drop]
theorem blkA {l m : List Ce} : ((ceRows l).map fun r => r.map A.d) ++ ((ceRows m).map fun r => r.map A.d) = (ceRows (l ++ m)).map fun r => r.map A.d := by simp [ceRows]
theorem repT {b : Int} {i : Nat} {m : List Ce} : ((ceRows (m ++ List.replicate i (blankC b))).map fun r => r.map A.d) ++ [(blankC b).row.map .d] = (ceRows (m ++ List.replicate (i + 1) (blankC b))).map fun r => r.map A.d := by simp [ceRows, List.replicate_succ']
theorem under3 {a b c : Int} {x y : List Ce} {k : Nat} {h : Heap} : ∀ B ∈ List.take 3 (atB a b c :: ceB' x :: ceB' y :: h), HB.under k B := by
  intro B hB
  simp only [List.take_succ_cons, List.take_zero, List.mem_cons, List.not_mem_nil, or_false] at hB
  rcases hB with rfl | rfl | rfl
  · exact under_at
  · exact under_d
  · exact under_d

set_option maxHeartbeats 2000000 in
theorem rdelete_fn {f fk fc fs fb : FuncId} (H : FnIs P f N [.t 8, .t 9] (x_ref07_Delete fk fc fs fb)) (hN : 4 ≤ N) (Hk : RowOk Γ P fk) (Hc : CopyOk Γ P fc) (Hh : HalveOk Γ P fs) (Hbl : ∀ b, FnP Γ P fb [.int b] (ceA (blankC b))) : ShiftOk delR Γ P f := by
  intro l hs col m a b c
  refine .of_W H (by simpa using hN) ?_
  unfold x_ref07_Delete
  refine W_seq (W_reg ?_); simp only [xs, xl, argS, reduceIte, Nat.reduceEqDiff, Nat.reduceAdd, Nat.reduceLT, Nat.reduceLeDiff, A.okCells, A.cells, A.one, splice]
  refine W_seq ?_
  refine W_seq (W_reg ?_); simp only [xs, xl, argS, reduceIte, Nat.reduceEqDiff, Nat.reduceAdd, Nat.reduceLT, Nat.reduceLeDiff, A.okCells, A.cells, A.one, splice]
  refine c_fn (Hk l hs) rfl ?_
  simp only [xs, xl, argS, reduceIte, Nat.reduceEqDiff, Nat.reduceAdd, Nat.reduceLT, Nat.reduceLeDiff, A.okCells, A.cells, A.one, splice]
  refine W_cond rfl (fun hc => ?_) (fun hc => W_skip ?_)
  · have hck : checkR l ≠ 0 := by simpa using hc
    refine W_seq (W_reg ?_); simp only [xs, xl, argS, reduceIte, Nat.reduceEqDiff, Nat.reduceAdd, Nat.reduceLT, Nat.reduceLeDiff, A.okCells, A.cells, A.one, splice]
    refine W_ret ⟨.inr rfl, ?_⟩
    simp only [readRs, readR, single, x_upd, reduceIte, Nat.reduceEqDiff, x_look, argS, xs, xl, argS, reduceIte, Nat.reduceEqDiff, Nat.reduceAdd, Nat.reduceLT, Nat.reduceLeDiff, A.okCells, A.cells, A.one, splice, loadsTo, delR, if_pos hck]
    exact frz_ce (.d (.nil _))
  have hck0 : checkR l = 0 := by simpa using hc
  have hck : ¬ checkR l ≠ 0 := fun k => k hck0
  obtain ⟨hl1, hl2, hrk⟩ := ck_pos hck0
  simp only [xs, xl, argS, reduceIte, Nat.reduceEqDiff, Nat.reduceAdd, Nat.reduceLT, Nat.reduceLeDiff, A.okCells, A.cells, A.one, splice]
  let U : St := ⟨look [(0, .d (.sl eCe (ceRows l))), (1, .int col), (2, .int m), (7, .ptr 0 1 0 0), (24, .bool (decide (col < 0 ∨ (l.length : Int) - 1 < col)))], [atB a b c]⟩
  refine W_seq (W_cutX (· = U) rfl (fun K hK => ?_) ?_)
  · have hor : decide ((l.length : Int) ≤ col) = decide ((l.length : Int) - 1 < col) := by rw [Bool.eq_iff_iff]; simp only [decide_eq_true_eq]; omega
    cases e : decide (col < 0)
    · simp only [xs, xl, argS, reduceIte, Nat.reduceEqDiff, Nat.reduceAdd, Nat.reduceLT, Nat.reduceLeDiff, A.okCells, A.cells, A.one, splice, e, ceRows_length, hor]
      exact hK _ _ (Co.keep _ (by simp only [decide_eq_false_iff_not] at e; simp [x_upd, x_look, e])) rfl
    · simp only [xs, xl, argS, reduceIte, Nat.reduceEqDiff, Nat.reduceAdd, Nat.reduceLT, Nat.reduceLeDiff, A.okCells, A.cells, A.one, splice, e]
      exact hK _ _ (Co.keep _ (by simp only [decide_eq_true_eq] at e; simp [x_upd, x_look, e])) rfl
  rintro _ rfl
  refine W_cond rfl (fun hc => ?_) (fun hc => W_skip ?_)
  · have hcol := of_decide_eq_true hc
    refine W_seq (W_reg ?_); simp only [xs, xl, argS, reduceIte, Nat.reduceEqDiff, Nat.reduceAdd, Nat.reduceLT, Nat.reduceLeDiff, A.okCells, A.cells, A.one, splice, U]
    refine W_ret ⟨.inr rfl, ?_⟩
    simp only [readRs, readR, single, x_upd, reduceIte, Nat.reduceEqDiff, x_look, argS, xs, xl, argS, reduceIte, Nat.reduceEqDiff, Nat.reduceAdd, Nat.reduceLT, Nat.reduceLeDiff, A.okCells, A.cells, A.one, splice, loadsTo, delR, if_neg hck, if_pos hcol]
    exact frz_ce (.d (.nil _))
  have hcol := of_decide_eq_false hc
  obtain ⟨n, rfl⟩ : ∃ n : Nat, col = n := ⟨col.toNat, by omega⟩
  have hnl : n < l.length := by omega
  simp only [U, xs, xl, argS, reduceIte, Nat.reduceEqDiff, Nat.reduceAdd, Nat.reduceLT, Nat.reduceLeDiff, A.okCells, A.cells, A.one, splice]
  refine W_seq (W_reg ?_); simp only [xs, xl, argS, reduceIte, Nat.reduceEqDiff, Nat.reduceAdd, Nat.reduceLT, Nat.reduceLeDiff, A.okCells, A.cells, A.one, splice]
  refine ce_fn (Hc l (by omega) [atB a b c]) ?_
  simp only [xs, xl, argS, reduceIte, Nat.reduceEqDiff, Nat.reduceAdd, Nat.reduceLT, Nat.reduceLeDiff, A.okCells, A.cells, A.one, splice]
  refine W_seq ?_
  refine W_seq (W_reg ?_); simp only [xs, xl, argS, reduceIte, Nat.reduceEqDiff, Nat.reduceAdd, Nat.reduceLT, Nat.reduceLeDiff, A.okCells, A.cells, A.one, splice]
  refine W_cond rfl (fun hm => ?_) (fun hm => W_skip ?_)
  · have hm1 : m < 1 := of_decide_eq_true hm
    refine W_seq (W_reg ?_); simp only [xs, xl, argS, reduceIte, Nat.reduceEqDiff, Nat.reduceAdd, Nat.reduceLT, Nat.reduceLeDiff, A.okCells, A.cells, A.one, splice]
    refine W_ret ⟨.inr rfl, ?_⟩
    simp only [readRs, readR, single, x_upd, reduceIte, Nat.reduceEqDiff, x_look, argS, xs, xl, argS, reduceIte, Nat.reduceEqDiff, Nat.reduceAdd, Nat.reduceLT, Nat.reduceLeDiff, A.okCells, A.cells, A.one, splice, loadsTo, delR, if_neg hck, if_neg hcol, if_pos hm1]
    exact frz_ceB (id := 1) rfl rfl
  have hm1 : ¬ m < 1 := of_decide_eq_false hm
  obtain ⟨q, hq⟩ : ∃ q, q = minI l n m := ⟨_, rfl⟩
  have hq1 : 1 ≤ q := by rw [hq]; unfold minI; omega
  have hq2 : n + q ≤ l.length := by rw [hq]; unfold minI; omega
  have w2 : IntKind.i64.wrap ((l.length : Int) - (n : Int)) = (l.length : Int) - (n : Int) := i64_of (by omega)
  simp only [xs, xl, argS, reduceIte, Nat.reduceEqDiff, Nat.reduceAdd, Nat.reduceLT, Nat.reduceLeDiff, A.okCells, A.cells, A.one, splice]
  refine W_seq (W_reg ?_); simp only [xs, xl, argS, reduceIte, Nat.reduceEqDiff, Nat.reduceAdd, Nat.reduceLT, Nat.reduceLeDiff, A.okCells, A.cells, A.one, splice, ceRows_length, w2, min_of (Int.not_lt.1 hm1) hnl, ← hq]
  refine W_seq (W_reg ?_); simp only [xs, xl, argS, reduceIte, Nat.reduceEqDiff, Nat.reduceAdd, Nat.reduceLT, Nat.reduceLeDiff, A.okCells, A.cells, A.one, splice]
  refine ce_fn (Hh l (okR_ck hrk) n (by omega) (by omega) 1 [atB a b c, ceB' l] rfl) ?_
  simp only [xs, xl, argS, reduceIte, Nat.reduceEqDiff, Nat.reduceAdd, Nat.reduceLT, Nat.reduceLeDiff, A.okCells, A.cells, A.one, splice]
  have w3 : IntKind.i64.wrap ((n : Int) + (q : Int)) = ((n + q : Nat) : Int) := by rw [i64_of (by omega)]; omega
  have hres : delR l n m b = (delL l n q b, 0) := by simp only [delR, if_neg hck, if_neg hcol, if_neg hm1, Int.toNat_natCast, hq]
  rw [hres]
  refine W_seq (W_reg ?_); simp only [xs, xl, argS, reduceIte, Nat.reduceEqDiff, Nat.reduceAdd, Nat.reduceLT, Nat.reduceLeDiff, A.okCells, A.cells, A.one, splice, w3]
  have hH := Hh (hlv l n) (okR_ck (hlv_ck hrk)) (n + q) (by rw [hlv_len]; omega) (by omega) 1 [atB a b c, ceB' (hlv l n)] rfl
  rw [hlv_len] at hH
  refine ce_fn hH ?_
  simp only [xs, xl, argS, reduceIte, Nat.reduceEqDiff, Nat.reduceAdd, Nat.reduceLT, Nat.reduceLeDiff, A.okCells, A.cells, A.one, splice]
  have hr : delL l n q b = (hlv (hlv l n) (n + q)).take n ++ (hlv (hlv l n) (n + q)).drop (n + q) ++ List.replicate q (blankC b) := rfl
  have hxl : (hlv (hlv l n) (n + q)).length = l.length := by rw [hlv_len, hlv_len]
  rw [hr]
  generalize hlv (hlv l n) (n + q) = x at hxl
  refine W_seq (W_reg ?_); simp only [xs, xl, argS, reduceIte, Nat.reduceEqDiff, Nat.reduceAdd, Nat.reduceLT, Nat.reduceLeDiff, A.okCells, A.cells, A.one, splice]
  refine W_co (Co.nil 12 eCe (by decide) rfl) ?_
  have hco : ∀ s : St, s = ⟨look [(1, .int n), (7, .ptr 0 1 0 0), (10, .ref 1 l.length 0 l.length true), (11, .int q), (12, .ref 2 0 0 0 true)], [atB a b c, ceB' x, ceB' []]⟩ → s = s := fun _ _ => rfl
  refine W_co (s' := ⟨look [(1, .int n), (7, .ptr 0 1 0 0), (10, .ref 1 l.length 0 l.length true), (11, .int q), (12, .ref 2 0 0 0 true)], [atB a b c, ceB' x, ceB' []]⟩) (Co.keep _ (by simp [x_upd, x_look])) ?_
  clear hco
  have r1 : ((ceRows x).map fun r => r.map A.d).length = l.length := by simp [ceRows, hxl]
  have t1 : ((n : Int) - ((0 : Nat) : Int)).toNat = n := by omega
  have t0 : (x.take n).length = n := by rw [List.length_take]; omega
  refine W_seq (W_reg ?_); simp only [xs, xl, argS, reduceIte, Nat.reduceEqDiff, Nat.reduceAdd, Nat.reduceLT, Nat.reduceLeDiff, A.okCells, A.cells, A.one, splice, ceRows_length, hxl, Int.toNat_natCast, blkT, t0]
  repeat refine And.intro (by omega) ?_
  try simp only [xs, xl, argS, reduceIte, Nat.reduceEqDiff, Nat.reduceAdd, Nat.reduceLT, Nat.reduceLeDiff, A.okCells, A.cells, A.one, splice, t1, blkT, ceRows_length, t0]
  repeat refine And.intro (by omega) ?_
  refine ⟨by simp only [room]; omega, by simp only [maxLen]; omega, ?_⟩
  have t2 : ((l.length : Int) - ((n + q : Nat) : Int)).toNat = l.length - (n + q) := by omega
  have t3 : (x.drop (n + q)).take (l.length - (n + q)) = x.drop (n + q) := List.take_of_length_le (by rw [List.length_drop]; omega)
  have t4 : (x.drop (n + q)).length = l.length - (n + q) := by rw [List.length_drop, hxl]
  refine W_seq (W_reg ?_); simp only [xs, xl, argS, reduceIte, Nat.reduceEqDiff, Nat.reduceAdd, Nat.reduceLT, Nat.reduceLeDiff, A.okCells, A.cells, A.one, splice, ceRows_length, hxl, Int.toNat_natCast, w3, t0, blkD, blkT, blkA, t2, t3, t4]
  repeat refine And.intro (by omega) ?_
  try simp only [xs, xl, argS, reduceIte, Nat.reduceEqDiff, Nat.reduceAdd, Nat.reduceLT, Nat.reduceLeDiff, A.okCells, A.cells, A.one, splice, ceRows_length, hxl, Int.toNat_natCast, w3, t0, blkD, blkT, blkA, t2, t3, t4]
  repeat refine And.intro (by omega) ?_
  refine ⟨by simp only [room]; omega, by simp only [maxLen]; omega, ?_⟩
  obtain ⟨m0, hm0'⟩ : ∃ m0, m0 = n + (l.length - (n + q)) := ⟨_, rfl⟩
  rw [← hm0']
  have hm0 : (x.take n ++ x.drop (n + q)).length = m0 := by rw [List.length_append, t0, t4, hm0']
  generalize x.take n ++ x.drop (n + q) = M0 at hm0
  let S : Nat → St := fun i => ⟨look [(1, .int n), (7, .ptr 0 1 0 0), (10, .ref 1 l.length 0 l.length true), (11, .int q), (12, .ref 2 (m0 + i) 0 (m0 + i) true), (13, .int i)], [atB a b c, ceB' x, ceB' (M0 ++ List.replicate i (blankC b))]⟩
  have hSl : ∀ i, (M0 ++ List.replicate i (blankC b)).length = m0 + i := fun i => by rw [List.length_append, List.length_replicate, hm0]
  refine W_cut (· = S q) ?_ ?_
  · refine W_seq (W_reg ?_); simp only [xs, xl, argS, reduceIte, Nat.reduceEqDiff, Nat.reduceAdd, Nat.reduceLT, Nat.reduceLeDiff, A.okCells, A.cells, A.one, splice]
    refine W_block ?_
    refine W_co (s' := S 0) (by simp only [S, List.replicate_zero, List.append_nil, Nat.add_zero]; exact Co.keep _ (by simp [x_upd, x_look])) ?_
    refine W_loop (fun p s => ∃ i, i ≤ q ∧ p = q - i ∧ s = S i) ⟨0, Nat.zero_le _, rfl, rfl⟩ ?_
    rintro p s' ⟨i, hi, rfl, rfl⟩
    simp only [S]
    refine W_seq ?_
    refine W_seq (W_reg ?_); simp only [xs, xl, argS, reduceIte, Nat.reduceEqDiff, Nat.reduceAdd, Nat.reduceLT, Nat.reduceLeDiff, A.okCells, A.cells, A.one, splice]
    refine W_cond rfl (fun hc => W_skip ?_) (fun hc => W_exit ?_)
    · have hlt : i < q := by simp only [decide_eq_true_eq] at hc; omega
      have w5 : IntKind.i64.wrap ((i : Int) + 1) = ((i + 1 : Nat) : Int) := by rw [i64_of (by omega)]; omega
      have s1 := repT (b := b) (i := i) (m := M0)
      have hsl := hSl i
      simp only [xs, xl, argS, reduceIte, Nat.reduceEqDiff, Nat.reduceAdd, Nat.reduceLT, Nat.reduceLeDiff, A.okCells, A.cells, A.one, splice]
      refine W_seq (W_block ?_)
      refine W_reg ?_; simp only [xs, xl, argS, reduceIte, Nat.reduceEqDiff, Nat.reduceAdd, Nat.reduceLT, Nat.reduceLeDiff, A.okCells, A.cells, A.one, splice]
      refine c_fn (Hbl b) rfl ?_
      generalize M0 ++ List.replicate i (blankC b) = y at hsl s1
      simp only [ceA, blankC, Ce.row, List.map_cons, List.map_nil] at s1 ⊢
      simp only [xs, xl, argS, reduceIte, Nat.reduceEqDiff, Nat.reduceAdd, Nat.reduceLT, Nat.reduceLeDiff, A.okCells, A.cells, A.one, splice, ceRows_length, hsl, s1, Nat.reduceMul]
      refine ⟨by simp only [room]; omega, by simp only [maxLen]; omega, ?_⟩
      refine W_reg ?_; simp only [xs, xl, argS, reduceIte, Nat.reduceEqDiff, Nat.reduceAdd, Nat.reduceLT, Nat.reduceLeDiff, A.okCells, A.cells, A.one, splice, w5]
      refine ⟨q - (i + 1), S (i + 1), by omega, Co.to _ 3 ?_ (Nat.zero_le _) (by simp) under3, i + 1, by omega, rfl, rfl⟩
      simp [x_upd, x_look, A.under, Nat.add_assoc]
    · have hle : i = q := by simp only [decide_eq_false_iff_not] at hc; omega
      subst hle
      simp only [xs, xl, argS, reduceIte, Nat.reduceEqDiff, Nat.reduceAdd, Nat.reduceLT, Nat.reduceLeDiff, A.okCells, A.cells, A.one, splice]
      exact ⟨S i, Co.keep _ (by simp [x_upd, x_look]), rfl⟩
  rintro _ rfl
  have hsl := hSl q
  simp only [S]
  refine W_seq (W_reg ?_); simp only [xs, xl, argS, reduceIte, Nat.reduceEqDiff, Nat.reduceAdd, Nat.reduceLT, Nat.reduceLeDiff, A.okCells, A.cells, A.one, splice]
  refine W_ret ⟨.inr rfl, ?_⟩
  simp only [readRs, readR, single, x_upd, reduceIte, Nat.reduceEqDiff, x_look, argS, xs, xl, argS, reduceIte, Nat.reduceEqDiff, Nat.reduceAdd, Nat.reduceLT, Nat.reduceLeDiff, A.okCells, A.cells, A.one, splice, loadsTo]
  exact frz_ceB (id := 2) rfl hsl.symm

set_option maxHeartbeats 2000000 in
theorem rinsert_fn {f fk fc fs fb : FuncId} (H : FnIs P f N [.t 8, .t 9] (x_ref07_Insert fk fc fs fb)) (hN : 4 ≤ N) (Hk : RowOk Γ P fk) (Hc : CopyOk Γ P fc) (Hh : HalveOk Γ P fs) (Hbl : ∀ b, FnP Γ P fb [.int b] (ceA (blankC b))) : ShiftOk insR Γ P f := by
  intro l hs col m a b c
  refine .of_W H (by simpa using hN) ?_
  unfold x_ref07_Insert
  refine W_seq (W_reg ?_); simp only [xs, xl, argS, reduceIte, Nat.reduceEqDiff, Nat.reduceAdd, Nat.reduceLT, Nat.reduceLeDiff, A.okCells, A.cells, A.one, splice]
  refine W_seq ?_
  refine W_seq (W_reg ?_); simp only [xs, xl, argS, reduceIte, Nat.reduceEqDiff, Nat.reduceAdd, Nat.reduceLT, Nat.reduceLeDiff, A.okCells, A.cells, A.one, splice]
  refine c_fn (Hk l hs) rfl ?_
  simp only [xs, xl, argS, reduceIte, Nat.reduceEqDiff, Nat.reduceAdd, Nat.reduceLT, Nat.reduceLeDiff, A.okCells, A.cells, A.one, splice]
  refine W_cond rfl (fun hc => ?_) (fun hc => W_skip ?_)
  · have hck : checkR l ≠ 0 := by simpa using hc
    refine W_seq (W_reg ?_); simp only [xs, xl, argS, reduceIte, Nat.reduceEqDiff, Nat.reduceAdd, Nat.reduceLT, Nat.reduceLeDiff, A.okCells, A.cells, A.one, splice]
    refine W_ret ⟨.inr rfl, ?_⟩
    simp only [readRs, readR, single, x_upd, reduceIte, Nat.reduceEqDiff, x_look, argS, xs, xl, argS, reduceIte, Nat.reduceEqDiff, Nat.reduceAdd, Nat.reduceLT, Nat.reduceLeDiff, A.okCells, A.cells, A.one, splice, loadsTo, insR, if_pos hck]
    exact frz_ce (.d (.nil _))
  have hck0 : checkR l = 0 := by simpa using hc
  have hck : ¬ checkR l ≠ 0 := fun k => k hck0
  obtain ⟨hl1, hl2, hrk⟩ := ck_pos hck0
  simp only [xs, xl, argS, reduceIte, Nat.reduceEqDiff, Nat.reduceAdd, Nat.reduceLT, Nat.reduceLeDiff, A.okCells, A.cells, A.one, splice]
  let U : St := ⟨look [(0, .d (.sl eCe (ceRows l))), (1, .int col), (2, .int m), (7, .ptr 0 1 0 0), (25, .bool (decide (col < 0 ∨ (l.length : Int) - 1 < col)))], [atB a b c]⟩
  refine W_seq (W_cutX (· = U) rfl (fun K hK => ?_) ?_)
  · have hor : decide ((l.length : Int) ≤ col) = decide ((l.length : Int) - 1 < col) := by rw [Bool.eq_iff_iff]; simp only [decide_eq_true_eq]; omega
    cases e : decide (col < 0)
    · simp only [xs, xl, argS, reduceIte, Nat.reduceEqDiff, Nat.reduceAdd, Nat.reduceLT, Nat.reduceLeDiff, A.okCells, A.cells, A.one, splice, e, ceRows_length, hor]
      exact hK _ _ (Co.keep _ (by simp only [decide_eq_false_iff_not] at e; simp [x_upd, x_look, e])) rfl
    · simp only [xs, xl, argS, reduceIte, Nat.reduceEqDiff, Nat.reduceAdd, Nat.reduceLT, Nat.reduceLeDiff, A.okCells, A.cells, A.one, splice, e]
      exact hK _ _ (Co.keep _ (by simp only [decide_eq_true_eq] at e; simp [x_upd, x_look, e])) rfl
  rintro _ rfl
  refine W_cond rfl (fun hc => ?_) (fun hc => W_skip ?_)
  · have hcol := of_decide_eq_true hc
    refine W_seq (W_reg ?_); simp only [xs, xl, argS, reduceIte, Nat.reduceEqDiff, Nat.reduceAdd, Nat.reduceLT, Nat.reduceLeDiff, A.okCells, A.cells, A.one, splice, U]
    refine W_ret ⟨.inr rfl, ?_⟩
    simp only [readRs, readR, single, x_upd, reduceIte, Nat.reduceEqDiff, x_look, argS, xs, xl, argS, reduceIte, Nat.reduceEqDiff, Nat.reduceAdd, Nat.reduceLT, Nat.reduceLeDiff, A.okCells, A.cells, A.one, splice, loadsTo, insR, if_neg hck, if_pos hcol]
    exact frz_ce (.d (.nil _))
  have hcol := of_decide_eq_false hc
  obtain ⟨n, rfl⟩ : ∃ n : Nat, col = n := ⟨col.toNat, by omega⟩
  have hnl : n < l.length := by omega
  simp only [U, xs, xl, argS, reduceIte, Nat.reduceEqDiff, Nat.reduceAdd, Nat.reduceLT, Nat.reduceLeDiff, A.okCells, A.cells, A.one, splice]
  refine W_seq (W_reg ?_); simp only [xs, xl, argS, reduceIte, Nat.reduceEqDiff, Nat.reduceAdd, Nat.reduceLT, Nat.reduceLeDiff, A.okCells, A.cells, A.one, splice]
  refine ce_fn (Hc l (by omega) [atB a b c]) ?_
  simp only [xs, xl, argS, reduceIte, Nat.reduceEqDiff, Nat.reduceAdd, Nat.reduceLT, Nat.reduceLeDiff, A.okCells, A.cells, A.one, splice]
  refine W_seq ?_
  refine W_seq (W_reg ?_); simp only [xs, xl, argS, reduceIte, Nat.reduceEqDiff, Nat.reduceAdd, Nat.reduceLT, Nat.reduceLeDiff, A.okCells, A.cells, A.one, splice]
  refine W_cond rfl (fun hm => ?_) (fun hm => W_skip ?_)
  · have hm1 : m < 1 := of_decide_eq_true hm
    refine W_seq (W_reg ?_); simp only [xs, xl, argS, reduceIte, Nat.reduceEqDiff, Nat.reduceAdd, Nat.reduceLT, Nat.reduceLeDiff, A.okCells, A.cells, A.one, splice]
    refine W_ret ⟨.inr rfl, ?_⟩
    simp only [readRs, readR, single, x_upd, reduceIte, Nat.reduceEqDiff, x_look, argS, xs, xl, argS, reduceIte, Nat.reduceEqDiff, Nat.reduceAdd, Nat.reduceLT, Nat.reduceLeDiff, A.okCells, A.cells, A.one, splice, loadsTo, insR, if_neg hck, if_neg hcol, if_pos hm1]
    exact frz_ceB (id := 1) rfl rfl
  have hm1 : ¬ m < 1 := of_decide_eq_false hm
  obtain ⟨q, hq⟩ : ∃ q, q = minI l n m := ⟨_, rfl⟩
  have hq1 : 1 ≤ q := by rw [hq]; unfold minI; omega
  have hq2 : n + q ≤ l.length := by rw [hq]; unfold minI; omega
  have w2 : IntKind.i64.wrap ((l.length : Int) - (n : Int)) = (l.length : Int) - (n : Int) := i64_of (by omega)
  simp only [xs, xl, argS, reduceIte, Nat.reduceEqDiff, Nat.reduceAdd, Nat.reduceLT, Nat.reduceLeDiff, A.okCells, A.cells, A.one, splice]
  refine W_seq (W_reg ?_); simp only [xs, xl, argS, reduceIte, Nat.reduceEqDiff, Nat.reduceAdd, Nat.reduceLT, Nat.reduceLeDiff, A.okCells, A.cells, A.one, splice, ceRows_length, w2, min_of (Int.not_lt.1 hm1) hnl, ← hq]
  refine W_seq (W_reg ?_); simp only [xs, xl, argS, reduceIte, Nat.reduceEqDiff, Nat.reduceAdd, Nat.reduceLT, Nat.reduceLeDiff, A.okCells, A.cells, A.one, splice]
  refine ce_fn (Hh l (okR_ck hrk) n (by omega) (by omega) 1 [atB a b c, ceB' l] rfl) ?_
  simp only [xs, xl, argS, reduceIte, Nat.reduceEqDiff, Nat.reduceAdd, Nat.reduceLT, Nat.reduceLeDiff, A.okCells, A.cells, A.one, splice]
  have w3 : IntKind.i64.wrap ((l.length : Int) - (q : Int)) = ((l.length - q : Nat) : Int) := by rw [i64_of (by omega)]; omega
  have hres : insR l n m b = (insL l n q b, 0) := by simp only [insR, if_neg hck, if_neg hcol, if_neg hm1, Int.toNat_natCast, hq]
  rw [hres]
  have hr : insL l n q b = lastF ((hlv l n).take n ++ List.replicate q (blankC b) ++ ((hlv l n).drop n).take (l.length - q - n)) := rfl
  have hlen := insL_len (b := b) hq2
  have hxl : (hlv l n).length = l.length := hlv_len
  rw [hr] at hlen ⊢
  rw [lastF_len] at hlen
  generalize hlv l n = x at hlen hxl
  refine W_seq (W_reg ?_); simp only [xs, xl, argS, reduceIte, Nat.reduceEqDiff, Nat.reduceAdd, Nat.reduceLT, Nat.reduceLeDiff, A.okCells, A.cells, A.one, splice]
  refine W_co (Co.nil 12 eCe (by decide) rfl) ?_
  have hco : ∀ s : St, s = ⟨look [(1, .int n), (7, .ptr 0 1 0 0), (10, .ref 1 l.length 0 l.length true), (11, .int q), (12, .ref 2 0 0 0 true)], [atB a b c, ceB' x, ceB' []]⟩ → s = s := fun _ _ => rfl
  refine W_co (s' := ⟨look [(1, .int n), (7, .ptr 0 1 0 0), (10, .ref 1 l.length 0 l.length true), (11, .int q), (12, .ref 2 0 0 0 true)], [atB a b c, ceB' x, ceB' []]⟩) (Co.keep _ (by simp [x_upd, x_look])) ?_
  clear hco
  have r1 : ((ceRows x).map fun r => r.map A.d).length = l.length := by simp [ceRows, hxl]
  have t1 : ((n : Int) - ((0 : Nat) : Int)).toNat = n := by omega
  have t0 : (x.take n).length = n := by rw [List.length_take]; omega
  refine W_seq (W_reg ?_); simp only [xs, xl, argS, reduceIte, Nat.reduceEqDiff, Nat.reduceAdd, Nat.reduceLT, Nat.reduceLeDiff, A.okCells, A.cells, A.one, splice, ceRows_length, hxl, Int.toNat_natCast, blkT, t0]
  repeat refine And.intro (by omega) ?_
  try simp only [xs, xl, argS, reduceIte, Nat.reduceEqDiff, Nat.reduceAdd, Nat.reduceLT, Nat.reduceLeDiff, A.okCells, A.cells, A.one, splice, t1, blkT, ceRows_length, t0]
  repeat refine And.intro (by omega) ?_
  refine ⟨by simp only [room]; omega, by simp only [maxLen]; omega, ?_⟩
  have hm0 : (x.take n).length = n := t0
  let S : Nat → St := fun i => ⟨look [(1, .int n), (7, .ptr 0 1 0 0), (10, .ref 1 l.length 0 l.length true), (11, .int q), (12, .ref 2 (n + i) 0 (n + i) true), (13, .int i)], [atB a b c, ceB' x, ceB' (x.take n ++ List.replicate i (blankC b))]⟩
  have hSl : ∀ i, (x.take n ++ List.replicate i (blankC b)).length = n + i := fun i => by rw [List.length_append, List.length_replicate, hm0]
  refine W_cut (· = S q) ?_ ?_
  · refine W_seq (W_reg ?_); simp only [xs, xl, argS, reduceIte, Nat.reduceEqDiff, Nat.reduceAdd, Nat.reduceLT, Nat.reduceLeDiff, A.okCells, A.cells, A.one, splice]
    refine W_block ?_
    refine W_co (s' := S 0) (by simp only [S, List.replicate_zero, List.append_nil, Nat.add_zero]; exact Co.keep _ (by simp [x_upd, x_look])) ?_
    refine W_loop (fun p s => ∃ i, i ≤ q ∧ p = q - i ∧ s = S i) ⟨0, Nat.zero_le _, rfl, rfl⟩ ?_
    rintro p s' ⟨i, hi, rfl, rfl⟩
    simp only [S]
    refine W_seq ?_
    refine W_seq (W_reg ?_); simp only [xs, xl, argS, reduceIte, Nat.reduceEqDiff, Nat.reduceAdd, Nat.reduceLT, Nat.reduceLeDiff, A.okCells, A.cells, A.one, splice]
    refine W_cond rfl (fun hc => W_skip ?_) (fun hc => W_exit ?_)
    · have hlt : i < q := by simp only [decide_eq_true_eq] at hc; omega
      have w5 : IntKind.i64.wrap ((i : Int) + 1) = ((i + 1 : Nat) : Int) := by rw [i64_of (by omega)]; omega
      have s1 := repT (b := b) (i := i) (m := x.take n)
      have hsl := hSl i
      simp only [xs, xl, argS, reduceIte, Nat.reduceEqDiff, Nat.reduceAdd, Nat.reduceLT, Nat.reduceLeDiff, A.okCells, A.cells, A.one, splice]
      refine W_seq (W_block ?_)
      refine W_reg ?_; simp only [xs, xl, argS, reduceIte, Nat.reduceEqDiff, Nat.reduceAdd, Nat.reduceLT, Nat.reduceLeDiff, A.okCells, A.cells, A.one, splice]
      refine c_fn (Hbl b) rfl ?_
      generalize x.take n ++ List.replicate i (blankC b) = y at hsl s1
      simp only [ceA, blankC, Ce.row, List.map_cons, List.map_nil] at s1 ⊢
      simp only [xs, xl, argS, reduceIte, Nat.reduceEqDiff, Nat.reduceAdd, Nat.reduceLT, Nat.reduceLeDiff, A.okCells, A.cells, A.one, splice, ceRows_length, hsl, s1, Nat.reduceMul]
      refine ⟨by simp only [room]; omega, by simp only [maxLen]; omega, ?_⟩
      refine W_reg ?_; simp only [xs, xl, argS, reduceIte, Nat.reduceEqDiff, Nat.reduceAdd, Nat.reduceLT, Nat.reduceLeDiff, A.okCells, A.cells, A.one, splice, w5]
      refine ⟨q - (i + 1), S (i + 1), by omega, Co.to _ 3 ?_ (Nat.zero_le _) (by simp) under3, i + 1, by omega, rfl, rfl⟩
      simp [x_upd, x_look, A.under, Nat.add_assoc]
    · have hle : i = q := by simp only [decide_eq_false_iff_not] at hc; omega
      subst hle
      simp only [xs, xl, argS, reduceIte, Nat.reduceEqDiff, Nat.reduceAdd, Nat.reduceLT, Nat.reduceLeDiff, A.okCells, A.cells, A.one, splice]
      exact ⟨S i, Co.keep _ (by simp [x_upd, x_look]), rfl⟩
  rintro _ rfl
  have hsl := hSl q
  simp only [S]
  have t2 : (((l.length - q : Nat) : Int) - (n : Int)).toNat = l.length - q - n := by omega
  have t4 : ((x.drop n).take (l.length - q - n)).length = l.length - q - n := by rw [List.length_take, List.length_drop, hxl]; omega
  generalize x.take n ++ List.replicate q (blankC b) = y at hsl hlen
  refine W_seq (W_reg ?_); simp only [xs, xl, argS, reduceIte, Nat.reduceEqDiff, Nat.reduceAdd, Nat.reduceLT, Nat.reduceLeDiff, A.okCells, A.cells, A.one, splice, ceRows_length, hxl, Int.toNat_natCast, w3, hsl, blkD, blkT, blkA, t2, t4]
  repeat refine And.intro (by omega) ?_
  try simp only [xs, xl, argS, reduceIte, Nat.reduceEqDiff, Nat.reduceAdd, Nat.reduceLT, Nat.reduceLeDiff, A.okCells, A.cells, A.one, splice, ceRows_length, hxl, Int.toNat_natCast, w3, hsl, blkD, blkT, blkA, t2, t4]
  repeat refine And.intro (by omega) ?_
  refine ⟨by simp only [room]; omega, by simp only [maxLen]; omega, ?_⟩
  rw [show n + q + (l.length - q - n) = l.length by omega]
  generalize y ++ (x.drop n).take (l.length - q - n) = u at hlen
  have hyl : l.length - 1 < u.length := by omega
  have hlast : u.getLast? = some u[l.length - 1] := by
    rw [List.getLast?_eq_getElem?, hlen]; exact List.getElem?_eq_getElem hyl
  have hlf : lastF u = if u[l.length - 1].width = 2 then u.set (l.length - 1) (blankC u[l.length - 1].back) else u := by
    unfold lastF; rw [hlast, hlen]
  rw [hlf]
  have w4 : IntKind.i64.wrap ((l.length : Int) - 1) = ((l.length - 1 : Nat) : Int) := by rw [i64_of (by omega)]; omega
  have g1 := ceB_get (l := u) (i := l.length - 1) hyl
  have s1 := ceB_set (l := u) (i := l.length - 1) (c := blankC u[l.length - 1].back)
  simp only [Ce.row, List.map_cons, List.map_nil] at g1
  refine W_seq (W_reg ?_); simp only [xs, xl, argS, reduceIte, Nat.reduceEqDiff, Nat.reduceAdd, Nat.reduceLT, Nat.reduceLeDiff, A.okCells, A.cells, A.one, splice, ceRows_length, hlen, w4]
  refine W_seq ?_
  refine W_seq (W_reg ?_); simp only [xs, xl, argS, reduceIte, Nat.reduceEqDiff, Nat.reduceAdd, Nat.reduceLT, Nat.reduceLeDiff, A.okCells, A.cells, A.one, splice, ceRows_length, hlen, Int.toNat_natCast, g1]
  repeat refine And.intro (by omega) ?_
  refine W_cond rfl (fun hc => ?_) (fun hc => W_skip ?_)
  · have hc : u[l.length - 1].width = 2 := by simpa using hc
    rw [if_pos hc]
    refine W_reg ?_; simp only [xs, xl, argS, reduceIte, Nat.reduceEqDiff, Nat.reduceAdd, Nat.reduceLT, Nat.reduceLeDiff, A.okCells, A.cells, A.one, splice, ceRows_length, hlen, Int.toNat_natCast, g1]
    repeat refine And.intro (by omega) ?_
    refine c_fn (Hbl _) rfl ?_
    generalize u[l.length - 1].back = bk at g1 s1
    simp only [ceA, blankC, Ce.row, List.map_cons, List.map_nil] at s1 ⊢
    simp only [xs, xl, argS, reduceIte, Nat.reduceEqDiff, Nat.reduceAdd, Nat.reduceLT, Nat.reduceLeDiff, A.okCells, A.cells, A.one, splice, ceRows_length, hlen, Int.toNat_natCast, g1, s1]
    repeat refine And.intro (by omega) ?_
    refine W_seq (W_reg ?_); simp only [xs, xl, argS, reduceIte, Nat.reduceEqDiff, Nat.reduceAdd, Nat.reduceLT, Nat.reduceLeDiff, A.okCells, A.cells, A.one, splice]
    refine W_ret ⟨.inr rfl, ?_⟩
    simp only [readRs, readR, single, x_upd, reduceIte, Nat.reduceEqDiff, x_look, argS, xs, xl, argS, reduceIte, Nat.reduceEqDiff, Nat.reduceAdd, Nat.reduceLT, Nat.reduceLeDiff, A.okCells, A.cells, A.one, splice, loadsTo]
    exact frz_ceB (id := 2) rfl (by simp [hlen])
  · have hc : ¬ u[l.length - 1].width = 2 := by simpa using hc
    rw [if_neg hc]
    simp only [xs, xl, argS, reduceIte, Nat.reduceEqDiff, Nat.reduceAdd, Nat.reduceLT, Nat.reduceLeDiff, A.okCells, A.cells, A.one, splice]
    refine W_seq (W_reg ?_); simp only [xs, xl, argS, reduceIte, Nat.reduceEqDiff, Nat.reduceAdd, Nat.reduceLT, Nat.reduceLeDiff, A.okCells, A.cells, A.one, splice]
    refine W_ret ⟨.inr rfl, ?_⟩
    simp only [readRs, readR, single, x_upd, reduceIte, Nat.reduceEqDiff, x_look, argS, xs, xl, argS, reduceIte, Nat.reduceEqDiff, Nat.reduceAdd, Nat.reduceLT, Nat.reduceLeDiff, A.okCells, A.cells, A.one, splice, loadsTo]
    exact frz_ceB (id := 2) rfl hlen.symm

end Go.Proofs.YtckglkbbdbmdkaaDoor.Nx


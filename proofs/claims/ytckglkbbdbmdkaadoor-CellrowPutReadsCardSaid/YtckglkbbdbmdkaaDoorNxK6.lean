/- Rows of cells: Delete, Erase. -/
/- Rows of cells: Erase, Insert. -/
import Derived.Test.YtckglkbbdbmdkaaDoorNxK3
namespace Go.Proofs.YtckglkbbdbmdkaaDoor.Nx
set_option linter.unusedSimpArgs false
set_option linter.unusedVariables false
set_option linter.unnecessarySimpa false
open Go

variable {P : Program} {N : Nat} {Γ : Tabs}


abbrev BlanksOk (Γ : Tabs) (P : Program) (f : FuncId) : Prop := ∀ (b : Int) (n : Nat), n ≤ 132 → FnP Γ P f [.int n, .int b] (.d (.sl eCe (ceRows (List.replicate n (blankC b)))))
abbrev ConcatOk (Γ : Tabs) (P : Program) (f : FuncId) : Prop := ∀ ls : List (List Ce), ls.length ≤ 1000 → ls.flatten.length ≤ 100000 → FnP Γ P f [.d (.sl eRw (crRows ls))] (.d (.sl eCe (ceRows ls.flatten)))
abbrev ShiftOk (R : List Ce → Int → Int → Int → List Ce × Int) (Γ : Tabs) (P : Program) (f : FuncId) : Prop := ∀ l : List Ce, smallR l → ∀ col n a b c : Int, FnP Γ P f [.d (.sl eCe (ceRows l)), .int col, .int n, atA a b c] (ceE (R l col n b))

theorem min_of {l : List Ce} {n : Nat} {m : Int} (h1 : 1 ≤ m) (h2 : n < l.length) : minmaxInt false m ((l.length : Int) - n) = ((minI l n m : Nat) : Int) := by
  unfold minmaxInt minI
  simp only [Bool.false_eq_true, if_false]
  split <;> omega
theorem frz_blk {k id n off len : Nat} {h : Heap} {l : List Ce} {full : Bool} (hk : k ≤ id) (hh : h[id]? = some (ceB' l)) (hn : n = l.length) (hb : off + len ≤ l.length) :
    FrzA k h (.ref id n off len full) (.d (.sl eCe (ceRows ((l.drop off).take len)))) := by
  subst hn
  have := frz_rows (full := full) (k := k) (id := id) (off := off) (len := len) (rows := ceRows l) hk hh (by rw [ceRows_length]; exact hb)
  rw [ceRows_length, ceRows_drop, ceRows_take] at this
  exact this
theorem frz_blk0 {k id n : Nat} {h : Heap} {l : List Ce} {full : Bool} (hk : k ≤ id) (hh : h[id]? = some (ceB' l)) (hn : n = l.length) : FrzA k h (.ref id n 0 n full) (.d (.sl eCe (ceRows l))) := by
  have := frz_blk (off := 0) (len := n) (full := full) hk hh hn (by omega)
  rw [List.drop_zero, List.take_of_length_le (by omega)] at this
  exact this
theorem under_at {k : Nat} {a b c : Int} : HB.under k (atB a b c) := under_ints fun x hx => by
  simp only [List.mem_cons, List.not_mem_nil, or_false] at hx
  rcases hx with rfl | rfl | rfl <;> rfl

set_option maxHeartbeats 1000000 in
theorem delete_fn {f fo fh fbs fc : FuncId} (H : FnIs P f N [.t 8, .t 9] (x_cellrow_Delete fo fh fbs fc)) (hN : 4 ≤ N) (Ho : OpenOk Γ P fo) (Hh : HalveOk Γ P fh) (Hb : BlanksOk Γ P fbs) (Hc : ConcatOk Γ P fc) : ShiftOk delR Γ P f := by
  intro l hs col m a b c
  refine .of_W H (by simpa using hN) (W_sl 0 rfl fun ⟨hm, _, _⟩ => ?_)
  rw [ceRows_length] at hm
  have w1 : IntKind.i64.wrap ((l.length : Int) - 1) = (l.length : Int) - 1 := i64_ofB (by simp only [maxLen] at hm; omega)
  unfold x_cellrow_Delete
  refine W_seq (W_reg ?_); simp only [xs, xl, argS, reduceIte, Nat.reduceEqDiff, Nat.reduceAdd, Nat.reduceLT, Nat.reduceLeDiff, A.okCells, A.cells, A.one, splice]
  have hO := Ho l hs col ((l.length : Int) - 1) [atB a b c]
  by_cases hck : ¬ checkR l = 0
  · simp only [openA, openH, if_pos hck] at hO
    refine W_seq (W_reg ?_); simp only [xs, xl, argS, reduceIte, Nat.reduceEqDiff, Nat.reduceAdd, Nat.reduceLT, Nat.reduceLeDiff, A.okCells, A.cells, A.one, splice, ceRows_length, w1]
    refine ce_fn hO ?_
    simp only [xs, xl, argS, reduceIte, Nat.reduceEqDiff, Nat.reduceAdd, Nat.reduceLT, Nat.reduceLeDiff, A.okCells, A.cells, A.one, splice]
    refine W_seq ?_
    refine W_seq (W_reg ?_); simp only [xs, xl, argS, reduceIte, Nat.reduceEqDiff, Nat.reduceAdd, Nat.reduceLT, Nat.reduceLeDiff, A.okCells, A.cells, A.one, splice]
    refine W_cond rfl (fun _ => ?_) (fun hc => by simp at hc)
    refine W_seq (W_reg ?_); simp only [xs, xl, argS, reduceIte, Nat.reduceEqDiff, Nat.reduceAdd, Nat.reduceLT, Nat.reduceLeDiff, A.okCells, A.cells, A.one, splice]
    refine W_ret ⟨.inr rfl, ?_⟩
    simp only [readRs, readR, single, x_upd, reduceIte, Nat.reduceEqDiff, x_look, argS, xs, xl, argS, reduceIte, Nat.reduceEqDiff, Nat.reduceAdd, Nat.reduceLT, Nat.reduceLeDiff, A.okCells, A.cells, A.one, splice, loadsTo, delR, if_pos hck]
    exact frz_ce (.d (.nil _))
  by_cases hcol : col < 0 ∨ (l.length : Int) - 1 < col
  · simp only [openA, openH, if_neg hck, if_pos hcol] at hO
    refine W_seq (W_reg ?_); simp only [xs, xl, argS, reduceIte, Nat.reduceEqDiff, Nat.reduceAdd, Nat.reduceLT, Nat.reduceLeDiff, A.okCells, A.cells, A.one, splice, ceRows_length, w1]
    refine ce_fn hO ?_
    simp only [xs, xl, argS, reduceIte, Nat.reduceEqDiff, Nat.reduceAdd, Nat.reduceLT, Nat.reduceLeDiff, A.okCells, A.cells, A.one, splice]
    refine W_seq ?_
    refine W_seq (W_reg ?_); simp only [xs, xl, argS, reduceIte, Nat.reduceEqDiff, Nat.reduceAdd, Nat.reduceLT, Nat.reduceLeDiff, A.okCells, A.cells, A.one, splice]
    refine W_cond rfl (fun _ => ?_) (fun hc => by simp at hc)
    refine W_seq (W_reg ?_); simp only [xs, xl, argS, reduceIte, Nat.reduceEqDiff, Nat.reduceAdd, Nat.reduceLT, Nat.reduceLeDiff, A.okCells, A.cells, A.one, splice]
    refine W_ret ⟨.inr rfl, ?_⟩
    simp only [readRs, readR, single, x_upd, reduceIte, Nat.reduceEqDiff, x_look, argS, xs, xl, argS, reduceIte, Nat.reduceEqDiff, Nat.reduceAdd, Nat.reduceLT, Nat.reduceLeDiff, A.okCells, A.cells, A.one, splice, loadsTo, delR, if_neg hck, if_pos hcol]
    exact frz_ce (.d (.nil _))
  simp only [openA, openH, if_neg hck, if_neg hcol, List.length_cons, List.length_nil, List.cons_append, List.nil_append] at hO
  have hck0 : checkR l = 0 := Decidable.not_not.1 hck
  obtain ⟨hl1, hl2, hrk⟩ := ck_pos hck0
  obtain ⟨n, rfl⟩ : ∃ n : Nat, col = n := ⟨col.toNat, by omega⟩
  have hnl : n < l.length := by omega
  refine W_seq (W_reg ?_); simp only [xs, xl, argS, reduceIte, Nat.reduceEqDiff, Nat.reduceAdd, Nat.reduceLT, Nat.reduceLeDiff, A.okCells, A.cells, A.one, splice, ceRows_length, w1]
  refine ce_fn hO ?_
  simp only [xs, xl, argS, reduceIte, Nat.reduceEqDiff, Nat.reduceAdd, Nat.reduceLT, Nat.reduceLeDiff, A.okCells, A.cells, A.one, splice]
  refine W_seq ?_
  by_cases hm1 : m < 1
  · have e1 : decide (m < 1) = true := decide_eq_true hm1
    refine W_seq (W_reg ?_); simp only [xs, xl, argS, reduceIte, Nat.reduceEqDiff, Nat.reduceAdd, Nat.reduceLT, Nat.reduceLeDiff, A.okCells, A.cells, A.one, splice, e1]
    refine W_cond rfl (fun _ => ?_) (fun hc => by simp at hc)
    refine W_seq (W_reg ?_); simp only [xs, xl, argS, reduceIte, Nat.reduceEqDiff, Nat.reduceAdd, Nat.reduceLT, Nat.reduceLeDiff, A.okCells, A.cells, A.one, splice]
    refine W_ret ⟨.inr rfl, ?_⟩
    simp only [readRs, readR, single, x_upd, reduceIte, Nat.reduceEqDiff, x_look, argS, xs, xl, argS, reduceIte, Nat.reduceEqDiff, Nat.reduceAdd, Nat.reduceLT, Nat.reduceLeDiff, A.okCells, A.cells, A.one, splice, loadsTo, delR, if_neg hck, if_neg hcol, if_pos hm1]
    exact frz_ceB (id := 1) rfl rfl
  have e1 : decide (m < 1) = false := decide_eq_false hm1
  refine W_seq (W_reg ?_); simp only [xs, xl, argS, reduceIte, Nat.reduceEqDiff, Nat.reduceAdd, Nat.reduceLT, Nat.reduceLeDiff, A.okCells, A.cells, A.one, splice, e1]
  refine W_cond rfl (fun hc => by simp at hc) (fun _ => W_skip ?_)
  simp only [xs, xl, argS, reduceIte, Nat.reduceEqDiff, Nat.reduceAdd, Nat.reduceLT, Nat.reduceLeDiff, A.okCells, A.cells, A.one, splice]
  obtain ⟨q, hq⟩ : ∃ q, q = minI l n m := ⟨_, rfl⟩
  have hq1 : 1 ≤ q := by rw [hq]; unfold minI; omega
  have hq2 : n + q ≤ l.length := by rw [hq]; unfold minI; omega
  have w2 : IntKind.i64.wrap ((l.length : Int) - (n : Int)) = (l.length : Int) - (n : Int) := i64_of (by omega)
  have w3 : IntKind.i64.wrap ((n : Int) + (q : Int)) = ((n + q : Nat) : Int) := by rw [i64_of (by omega)]; omega
  have hres : delR l n m b = (delL l n q b, 0) := by simp only [delR, if_neg hck, if_neg hcol, if_neg hm1, Int.toNat_natCast, hq]
  rw [hres]
  refine W_seq (W_reg ?_); simp only [xs, xl, argS, reduceIte, Nat.reduceEqDiff, Nat.reduceAdd, Nat.reduceLT, Nat.reduceLeDiff, A.okCells, A.cells, A.one, splice, ceRows_length, w2, min_of (Int.not_lt.1 hm1) hnl, ← hq]
  refine W_seq (W_reg ?_); simp only [xs, xl, argS, reduceIte, Nat.reduceEqDiff, Nat.reduceAdd, Nat.reduceLT, Nat.reduceLeDiff, A.okCells, A.cells, A.one, splice]
  have hH := Hh l (okR_ck hrk) n (by omega) (by omega) 1 [atB a b c, ceB' l] rfl
  refine ce_fn hH ?_
  simp only [xs, xl, argS, reduceIte, Nat.reduceEqDiff, Nat.reduceAdd, Nat.reduceLT, Nat.reduceLeDiff, A.okCells, A.cells, A.one, splice]
  refine W_seq (W_reg ?_); simp only [xs, xl, argS, reduceIte, Nat.reduceEqDiff, Nat.reduceAdd, Nat.reduceLT, Nat.reduceLeDiff, A.okCells, A.cells, A.one, splice, w3]
  have hH := Hh (hlv l n) (okR_ck (hlv_ck hrk)) (n + q) (by rw [hlv_len]; omega) (by omega) 1 [atB a b c, ceB' (hlv l n)] rfl
  rw [hlv_len] at hH
  refine ce_fn hH ?_
  simp only [xs, xl, argS, reduceIte, Nat.reduceEqDiff, Nat.reduceAdd, Nat.reduceLT, Nat.reduceLeDiff, A.okCells, A.cells, A.one, splice]
  have hr : delL l n q b = [((hlv (hlv l n) (n + q)).take n), ((hlv (hlv l n) (n + q)).drop (n + q)), List.replicate q (blankC b)].flatten := by simp [delL]
  have hlen := delL_len (b := b) hq2
  have hxl : (hlv (hlv l n) (n + q)).length = l.length := by rw [hlv_len, hlv_len]
  rw [hr] at hlen ⊢
  generalize hlv (hlv l n) (n + q) = x at hlen hxl
  refine W_co (s' := ⟨look [(1, .int n), (2, .int q), (7, .ptr 0 1 0 0), (10, .d (.sl eCe (ceRows x)))], [atB a b c]⟩) (Co.frz _ 1 ?_ (Nat.zero_le _) (by simp) ?_) ?_
  · intro p hp
    simp only [List.mem_cons, List.not_mem_nil, or_false] at hp
    rcases hp with rfl | rfl | rfl | rfl
    · exact .same rfl
    · exact .same rfl
    · exact .same rfl
    · exact frz_blk0 (id := 1) (Nat.le_refl _) rfl hxl.symm
  · intro B hB
    simp at hB; subst hB; exact under_at
  refine W_seq (W_drw (by simp) ?_); simp only [xs, xl, argS, reduceIte, Nat.reduceEqDiff, Nat.reduceAdd, Nat.reduceLT, Nat.reduceLeDiff, A.okCells, A.cells, A.one, splice, ceRows_length, hxl, w3, Int.toNat_natCast, List.drop_zero, ceRows_drop, ceRows_take]
  repeat refine And.intro (by omega) ?_
  have t1 : ((n : Int) - ((0 : Nat) : Int)).toNat = n := by omega
  have t2 : List.take (((l.length : Int) - ((n + q : Nat) : Int)).toNat) (x.drop (n + q)) = x.drop (n + q) := List.take_of_length_le (by rw [List.length_drop, hxl]; omega)
  try rw [t1]
  try rw [t2]
  repeat refine And.intro (by omega) ?_
  refine W_sregC fun K hK => ?_
  refine runC_cut 7 (· = ⟨look [(60, .d (.sl eRw (crRows [x.take n, x.drop (n + q), List.replicate q (blankC b)])))], []⟩) rfl (by intro h; cases h) (fun K1 hK1 => ?_) ?_
  · simp only [xs, xl, argS, reduceIte, Nat.reduceEqDiff, Nat.reduceAdd, Nat.reduceLT, Nat.reduceLeDiff, A.okCells, A.cells, A.one, splice]
    refine c_fn (Hb b q (by omega)) rfl ?_
    simp only [xs, xl, argS, reduceIte, Nat.reduceEqDiff, Nat.reduceAdd, Nat.reduceLT, Nat.reduceLeDiff, A.okCells, A.cells, A.one, splice]
    refine hK1 _ _ (Co.frz _ 0 ?_ (Nat.le_refl _) (Nat.zero_le _) (by simp)) rfl
    intro p hp
    simp only [List.mem_cons, List.not_mem_nil, or_false] at hp
    subst hp
    exact frz_all (id := 1) (full := true) (e := eRw) (rows := crRows [x.take n, x.drop (n + q), List.replicate q (blankC b)]) rfl
  rintro _ rfl
  refine runC_end rfl ?_
  simp only [xs, xl, argS, reduceIte, Nat.reduceEqDiff, Nat.reduceAdd, Nat.reduceLT, Nat.reduceLeDiff, A.okCells, A.cells, A.one, splice]
  refine c_fn (Hc _ (by simp) (by rw [hlen]; omega)) rfl ?_
  simp only [xs, xl, argS, reduceIte, Nat.reduceEqDiff, Nat.reduceAdd, Nat.reduceLT, Nat.reduceLeDiff, A.okCells, A.cells, A.one, splice]
  refine hK _ ?_
  refine W_ret ⟨.inr rfl, ?_⟩
  simp only [readRs, readR, single, x_upd, reduceIte, Nat.reduceEqDiff, x_look, argS, xs, xl, argS, reduceIte, Nat.reduceEqDiff, Nat.reduceAdd, Nat.reduceLT, Nat.reduceLeDiff, A.okCells, A.cells, A.one, splice, loadsTo]
  exact frz_ce (.same rfl)

end Go.Proofs.YtckglkbbdbmdkaaDoor.Nx

namespace Go.Proofs.YtckglkbbdbmdkaaDoor.Nx
set_option linter.unusedSimpArgs false
set_option linter.unusedVariables false
set_option linter.unnecessarySimpa false
open Go

variable {P : Program} {N : Nat} {Γ : Tabs}

set_option maxHeartbeats 1000000 in
theorem erase_fn {f fo fh fbs fc : FuncId} (H : FnIs P f N [.t 8, .t 9] (x_cellrow_Erase fo fh fbs fc)) (hN : 4 ≤ N) (Ho : OpenOk Γ P fo) (Hh : HalveOk Γ P fh) (Hb : BlanksOk Γ P fbs) (Hc : ConcatOk Γ P fc) : ShiftOk eraR Γ P f := by
  intro l hs col m a b c
  refine .of_W H (by simpa using hN) (W_sl 0 rfl fun ⟨hm, _, _⟩ => ?_)
  rw [ceRows_length] at hm
  unfold x_cellrow_Erase
  refine W_seq (W_reg ?_); simp only [xs, xl, argS, reduceIte, Nat.reduceEqDiff, Nat.reduceAdd, Nat.reduceLT, Nat.reduceLeDiff, A.okCells, A.cells, A.one, splice]
  have hO := Ho l hs col (l.length : Int) [atB a b c]
  by_cases hck : ¬ checkR l = 0
  · simp only [openA, openH, if_pos hck] at hO
    refine W_seq (W_reg ?_); simp only [xs, xl, argS, reduceIte, Nat.reduceEqDiff, Nat.reduceAdd, Nat.reduceLT, Nat.reduceLeDiff, A.okCells, A.cells, A.one, splice, ceRows_length]
    refine ce_fn hO ?_
    simp only [xs, xl, argS, reduceIte, Nat.reduceEqDiff, Nat.reduceAdd, Nat.reduceLT, Nat.reduceLeDiff, A.okCells, A.cells, A.one, splice]
    refine W_seq ?_
    refine W_seq (W_reg ?_); simp only [xs, xl, argS, reduceIte, Nat.reduceEqDiff, Nat.reduceAdd, Nat.reduceLT, Nat.reduceLeDiff, A.okCells, A.cells, A.one, splice]
    refine W_cond rfl (fun _ => ?_) (fun hc => by simp at hc)
    refine W_seq (W_reg ?_); simp only [xs, xl, argS, reduceIte, Nat.reduceEqDiff, Nat.reduceAdd, Nat.reduceLT, Nat.reduceLeDiff, A.okCells, A.cells, A.one, splice]
    refine W_ret ⟨.inr rfl, ?_⟩
    simp only [readRs, readR, single, x_upd, reduceIte, Nat.reduceEqDiff, x_look, argS, xs, xl, argS, reduceIte, Nat.reduceEqDiff, Nat.reduceAdd, Nat.reduceLT, Nat.reduceLeDiff, A.okCells, A.cells, A.one, splice, loadsTo, eraR, if_pos hck]
    exact frz_ce (.d (.nil _))
  by_cases hcol : col < 0 ∨ (l.length : Int) < col
  · simp only [openA, openH, if_neg hck, if_pos hcol] at hO
    refine W_seq (W_reg ?_); simp only [xs, xl, argS, reduceIte, Nat.reduceEqDiff, Nat.reduceAdd, Nat.reduceLT, Nat.reduceLeDiff, A.okCells, A.cells, A.one, splice, ceRows_length]
    refine ce_fn hO ?_
    simp only [xs, xl, argS, reduceIte, Nat.reduceEqDiff, Nat.reduceAdd, Nat.reduceLT, Nat.reduceLeDiff, A.okCells, A.cells, A.one, splice]
    refine W_seq ?_
    refine W_seq (W_reg ?_); simp only [xs, xl, argS, reduceIte, Nat.reduceEqDiff, Nat.reduceAdd, Nat.reduceLT, Nat.reduceLeDiff, A.okCells, A.cells, A.one, splice]
    refine W_cond rfl (fun _ => ?_) (fun hc => by simp at hc)
    refine W_seq (W_reg ?_); simp only [xs, xl, argS, reduceIte, Nat.reduceEqDiff, Nat.reduceAdd, Nat.reduceLT, Nat.reduceLeDiff, A.okCells, A.cells, A.one, splice]
    refine W_ret ⟨.inr rfl, ?_⟩
    simp only [readRs, readR, single, x_upd, reduceIte, Nat.reduceEqDiff, x_look, argS, xs, xl, argS, reduceIte, Nat.reduceEqDiff, Nat.reduceAdd, Nat.reduceLT, Nat.reduceLeDiff, A.okCells, A.cells, A.one, splice, loadsTo, eraR, if_neg hck, if_pos hcol]
    exact frz_ce (.d (.nil _))
  simp only [openA, openH, if_neg hck, if_neg hcol, List.length_cons, List.length_nil, List.cons_append, List.nil_append] at hO
  have hck0 : checkR l = 0 := Decidable.not_not.1 hck
  obtain ⟨hl1, hl2, hrk⟩ := ck_pos hck0
  obtain ⟨n, rfl⟩ : ∃ n : Nat, col = n := ⟨col.toNat, by omega⟩
  have hnl : n ≤ l.length := by omega
  refine W_seq (W_reg ?_); simp only [xs, xl, argS, reduceIte, Nat.reduceEqDiff, Nat.reduceAdd, Nat.reduceLT, Nat.reduceLeDiff, A.okCells, A.cells, A.one, splice, ceRows_length]
  refine ce_fn hO ?_
  simp only [xs, xl, argS, reduceIte, Nat.reduceEqDiff, Nat.reduceAdd, Nat.reduceLT, Nat.reduceLeDiff, A.okCells, A.cells, A.one, splice]
  refine W_seq ?_
  refine W_seq (W_reg ?_); simp only [xs, xl, argS, reduceIte, Nat.reduceEqDiff, Nat.reduceAdd, Nat.reduceLT, Nat.reduceLeDiff, A.okCells, A.cells, A.one, splice]
  refine W_cond rfl (fun hc => by simp at hc) (fun _ => W_skip ?_)
  simp only [xs, xl, argS, reduceIte, Nat.reduceEqDiff, Nat.reduceAdd, Nat.reduceLT, Nat.reduceLeDiff, A.okCells, A.cells, A.one, splice]
  let U : St := ⟨look [(0, .d (.sl eCe (ceRows l))), (1, .int n), (2, .int m), (7, .ptr 0 1 0 0), (10, .ref 1 l.length 0 l.length true), (33, .bool (decide (m < n ∨ (l.length : Int) < m)))], [atB a b c, ceB' l]⟩
  refine W_seq (W_cutX (· = U) rfl (fun K hK => ?_) ?_)
  · cases e : decide (m < (n : Int))
    · simp only [xs, xl, argS, reduceIte, Nat.reduceEqDiff, Nat.reduceAdd, Nat.reduceLT, Nat.reduceLeDiff, A.okCells, A.cells, A.one, splice, e, ceRows_length]
      exact hK _ _ (Co.keep _ (by simp only [decide_eq_false_iff_not] at e; simp [x_upd, x_look, e])) rfl
    · simp only [xs, xl, argS, reduceIte, Nat.reduceEqDiff, Nat.reduceAdd, Nat.reduceLT, Nat.reduceLeDiff, A.okCells, A.cells, A.one, splice, e]
      exact hK _ _ (Co.keep _ (by simp only [decide_eq_true_eq] at e; simp [x_upd, x_look, e])) rfl
  rintro _ rfl
  refine W_cond rfl (fun hd => ?_) (fun hd => W_skip ?_)
  · have hd : m < (n : Int) ∨ (l.length : Int) < m := of_decide_eq_true hd
    refine W_seq (W_reg ?_); simp only [xs, xl, argS, reduceIte, Nat.reduceEqDiff, Nat.reduceAdd, Nat.reduceLT, Nat.reduceLeDiff, A.okCells, A.cells, A.one, splice, U]
    refine W_ret ⟨.inr rfl, ?_⟩
    simp only [readRs, readR, single, x_upd, reduceIte, Nat.reduceEqDiff, x_look, argS, xs, xl, argS, reduceIte, Nat.reduceEqDiff, Nat.reduceAdd, Nat.reduceLT, Nat.reduceLeDiff, A.okCells, A.cells, A.one, splice, loadsTo, eraR, if_neg hck, if_neg hcol, if_pos hd]
    exact frz_ce (.d (.nil _))
  have hd : ¬ (m < (n : Int) ∨ (l.length : Int) < m) := of_decide_eq_false hd
  obtain ⟨t, rfl⟩ : ∃ t : Nat, m = t := ⟨m.toNat, by omega⟩
  simp only [U, xs, xl, argS, reduceIte, Nat.reduceEqDiff, Nat.reduceAdd, Nat.reduceLT, Nat.reduceLeDiff, A.okCells, A.cells, A.one, splice]
  refine W_seq ?_
  refine W_seq (W_reg ?_); simp only [xs, xl, argS, reduceIte, Nat.reduceEqDiff, Nat.reduceAdd, Nat.reduceLT, Nat.reduceLeDiff, A.okCells, A.cells, A.one, splice]
  refine W_cond rfl (fun he => ?_) (fun he => W_skip ?_)
  · have he : (n : Int) = t := of_decide_eq_true he
    refine W_seq (W_reg ?_); simp only [xs, xl, argS, reduceIte, Nat.reduceEqDiff, Nat.reduceAdd, Nat.reduceLT, Nat.reduceLeDiff, A.okCells, A.cells, A.one, splice]
    refine W_ret ⟨.inr rfl, ?_⟩
    simp only [readRs, readR, single, x_upd, reduceIte, Nat.reduceEqDiff, x_look, argS, xs, xl, argS, reduceIte, Nat.reduceEqDiff, Nat.reduceAdd, Nat.reduceLT, Nat.reduceLeDiff, A.okCells, A.cells, A.one, splice, loadsTo, eraR, if_neg hck, if_neg hcol, if_neg hd, if_pos he]
    exact frz_ceB (id := 1) rfl rfl
  have he : ¬ (n : Int) = t := of_decide_eq_false he
  have hnt : n < t := by omega
  have htl : t ≤ l.length := by omega
  simp only [xs, xl, argS, reduceIte, Nat.reduceEqDiff, Nat.reduceAdd, Nat.reduceLT, Nat.reduceLeDiff, A.okCells, A.cells, A.one, splice]
  have w3 : IntKind.i64.wrap ((t : Int) - (n : Int)) = ((t - n : Nat) : Int) := by rw [i64_of (by omega)]; omega
  have hres : eraR l n t b = (eraL l n t b, 0) := by simp only [eraR, if_neg hck, if_neg hcol, if_neg hd, if_neg he, Int.toNat_natCast]
  rw [hres]
  refine W_seq (W_reg ?_); simp only [xs, xl, argS, reduceIte, Nat.reduceEqDiff, Nat.reduceAdd, Nat.reduceLT, Nat.reduceLeDiff, A.okCells, A.cells, A.one, splice]
  have hH := Hh l (okR_ck hrk) n (by omega) (by omega) 1 [atB a b c, ceB' l] rfl
  refine ce_fn hH ?_
  simp only [xs, xl, argS, reduceIte, Nat.reduceEqDiff, Nat.reduceAdd, Nat.reduceLT, Nat.reduceLeDiff, A.okCells, A.cells, A.one, splice]
  refine W_seq (W_reg ?_); simp only [xs, xl, argS, reduceIte, Nat.reduceEqDiff, Nat.reduceAdd, Nat.reduceLT, Nat.reduceLeDiff, A.okCells, A.cells, A.one, splice]
  have hH := Hh (hlv l n) (okR_ck (hlv_ck hrk)) t (by rw [hlv_len]; omega) (by omega) 1 [atB a b c, ceB' (hlv l n)] rfl
  rw [hlv_len] at hH
  refine ce_fn hH ?_
  simp only [xs, xl, argS, reduceIte, Nat.reduceEqDiff, Nat.reduceAdd, Nat.reduceLT, Nat.reduceLeDiff, A.okCells, A.cells, A.one, splice]
  have hr : eraL l n t b = [((hlv (hlv l n) t).take n), List.replicate (t - n) (blankC b), ((hlv (hlv l n) t).drop t)].flatten := by simp [eraL]
  have hlen := eraL_len (b := b) (show n ≤ t by omega) htl
  have hxl : (hlv (hlv l n) t).length = l.length := by rw [hlv_len, hlv_len]
  rw [hr] at hlen ⊢
  generalize hlv (hlv l n) t = x at hlen hxl
  refine W_co (s' := ⟨look [(1, .int n), (2, .int t), (7, .ptr 0 1 0 0), (10, .d (.sl eCe (ceRows x)))], [atB a b c]⟩) (Co.frz _ 1 ?_ (Nat.zero_le _) (by simp) ?_) ?_
  · intro p hp
    simp only [List.mem_cons, List.not_mem_nil, or_false] at hp
    rcases hp with rfl | rfl | rfl | rfl
    · exact .same rfl
    · exact .same rfl
    · exact .same rfl
    · exact frz_blk0 (id := 1) (Nat.le_refl _) rfl hxl.symm
  · intro B hB
    simp at hB; subst hB; exact under_at
  refine W_seq (W_drw (by simp) ?_); simp only [xs, xl, argS, reduceIte, Nat.reduceEqDiff, Nat.reduceAdd, Nat.reduceLT, Nat.reduceLeDiff, A.okCells, A.cells, A.one, splice, ceRows_length, hxl, w3, Int.toNat_natCast, List.drop_zero, ceRows_drop, ceRows_take]
  repeat refine And.intro (by omega) ?_
  have t1 : ((n : Int) - ((0 : Nat) : Int)).toNat = n := by omega
  have t2 : List.take (((l.length : Int) - (t : Int)).toNat) (x.drop t) = x.drop t := List.take_of_length_le (by rw [List.length_drop, hxl]; omega)
  try rw [t1]
  try rw [t2]
  repeat refine And.intro (by omega) ?_
  refine W_sregC fun K hK => ?_
  refine runC_cut 9 (· = ⟨look [(59, .d (.sl eRw (crRows [x.take n, List.replicate (t - n) (blankC b), x.drop t])))], []⟩) rfl (by intro h; cases h) (fun K1 hK1 => ?_) ?_
  · simp only [xs, xl, argS, reduceIte, Nat.reduceEqDiff, Nat.reduceAdd, Nat.reduceLT, Nat.reduceLeDiff, A.okCells, A.cells, A.one, splice, w3]
    refine c_fn (Hb b (t - n) (by omega)) rfl ?_
    simp only [xs, xl, argS, reduceIte, Nat.reduceEqDiff, Nat.reduceAdd, Nat.reduceLT, Nat.reduceLeDiff, A.okCells, A.cells, A.one, splice]
    refine hK1 _ _ (Co.frz _ 0 ?_ (Nat.le_refl _) (Nat.zero_le _) (by simp)) rfl
    intro p hp
    simp only [List.mem_cons, List.not_mem_nil, or_false] at hp
    subst hp
    exact frz_all (id := 1) (full := true) (e := eRw) (rows := crRows [x.take n, List.replicate (t - n) (blankC b), x.drop t]) rfl
  rintro _ rfl
  refine runC_end rfl ?_
  simp only [xs, xl, argS, reduceIte, Nat.reduceEqDiff, Nat.reduceAdd, Nat.reduceLT, Nat.reduceLeDiff, A.okCells, A.cells, A.one, splice]
  refine c_fn (Hc _ (by simp) (by rw [hlen]; omega)) rfl ?_
  simp only [xs, xl, argS, reduceIte, Nat.reduceEqDiff, Nat.reduceAdd, Nat.reduceLT, Nat.reduceLeDiff, A.okCells, A.cells, A.one, splice]
  refine hK _ ?_
  refine W_ret ⟨.inr rfl, ?_⟩
  simp only [readRs, readR, single, x_upd, reduceIte, Nat.reduceEqDiff, x_look, argS, xs, xl, argS, reduceIte, Nat.reduceEqDiff, Nat.reduceAdd, Nat.reduceLT, Nat.reduceLeDiff, A.okCells, A.cells, A.one, splice, loadsTo]
  exact frz_ce (.same rfl)

abbrev ConcatDOk (Γ : Tabs) (P : Program) (f : FuncId) : Prop := ∀ ls : List (List Ce), ls.length ≤ 1000 → ls.flatten.length ≤ 100000 → 0 < ls.flatten.length → ∀ h : Heap, FnD Γ.ctx P f [.d (.sl eRw (crRows ls))] h (.ref h.length ls.flatten.length 0 ls.flatten.length true) (h ++ [ceB' ls.flatten])

set_option maxHeartbeats 1000000 in
theorem insert_fn {f fo fh fbs fc fb : FuncId} (H : FnIs P f N [.t 8, .t 9] (x_cellrow_Insert fo fh fbs fc fb)) (hN : 4 ≤ N) (Ho : OpenOk Γ P fo) (Hh : HalveOk Γ P fh) (Hb : BlanksOk Γ P fbs) (Hc : ConcatDOk Γ P fc) (Hbl : ∀ b, FnP Γ P fb [.int b] (ceA (blankC b))) : ShiftOk insR Γ P f := by
  intro l hs col m a b c
  refine .of_W H (by simpa using hN) (W_sl 0 rfl fun ⟨hm, _, _⟩ => ?_)
  rw [ceRows_length] at hm
  have w1 : IntKind.i64.wrap ((l.length : Int) - 1) = (l.length : Int) - 1 := i64_ofB (by simp only [maxLen] at hm; omega)
  unfold x_cellrow_Insert
  refine W_seq (W_reg ?_); simp only [xs, xl, argS, reduceIte, Nat.reduceEqDiff, Nat.reduceAdd, Nat.reduceLT, Nat.reduceLeDiff, A.okCells, A.cells, A.one, splice]
  have hO := Ho l hs col ((l.length : Int) - 1) [atB a b c]
  by_cases hck : ¬ checkR l = 0
  · simp only [openA, openH, if_pos hck] at hO
    refine W_seq (W_reg ?_); simp only [xs, xl, argS, reduceIte, Nat.reduceEqDiff, Nat.reduceAdd, Nat.reduceLT, Nat.reduceLeDiff, A.okCells, A.cells, A.one, splice, ceRows_length, w1]
    refine ce_fn hO ?_
    simp only [xs, xl, argS, reduceIte, Nat.reduceEqDiff, Nat.reduceAdd, Nat.reduceLT, Nat.reduceLeDiff, A.okCells, A.cells, A.one, splice]
    refine W_seq ?_
    refine W_seq (W_reg ?_); simp only [xs, xl, argS, reduceIte, Nat.reduceEqDiff, Nat.reduceAdd, Nat.reduceLT, Nat.reduceLeDiff, A.okCells, A.cells, A.one, splice]
    refine W_cond rfl (fun _ => ?_) (fun hc => by simp at hc)
    refine W_seq (W_reg ?_); simp only [xs, xl, argS, reduceIte, Nat.reduceEqDiff, Nat.reduceAdd, Nat.reduceLT, Nat.reduceLeDiff, A.okCells, A.cells, A.one, splice]
    refine W_ret ⟨.inr rfl, ?_⟩
    simp only [readRs, readR, single, x_upd, reduceIte, Nat.reduceEqDiff, x_look, argS, xs, xl, argS, reduceIte, Nat.reduceEqDiff, Nat.reduceAdd, Nat.reduceLT, Nat.reduceLeDiff, A.okCells, A.cells, A.one, splice, loadsTo, insR, if_pos hck]
    exact frz_ce (.d (.nil _))
  by_cases hcol : col < 0 ∨ (l.length : Int) - 1 < col
  · simp only [openA, openH, if_neg hck, if_pos hcol] at hO
    refine W_seq (W_reg ?_); simp only [xs, xl, argS, reduceIte, Nat.reduceEqDiff, Nat.reduceAdd, Nat.reduceLT, Nat.reduceLeDiff, A.okCells, A.cells, A.one, splice, ceRows_length, w1]
    refine ce_fn hO ?_
    simp only [xs, xl, argS, reduceIte, Nat.reduceEqDiff, Nat.reduceAdd, Nat.reduceLT, Nat.reduceLeDiff, A.okCells, A.cells, A.one, splice]
    refine W_seq ?_
    refine W_seq (W_reg ?_); simp only [xs, xl, argS, reduceIte, Nat.reduceEqDiff, Nat.reduceAdd, Nat.reduceLT, Nat.reduceLeDiff, A.okCells, A.cells, A.one, splice]
    refine W_cond rfl (fun _ => ?_) (fun hc => by simp at hc)
    refine W_seq (W_reg ?_); simp only [xs, xl, argS, reduceIte, Nat.reduceEqDiff, Nat.reduceAdd, Nat.reduceLT, Nat.reduceLeDiff, A.okCells, A.cells, A.one, splice]
    refine W_ret ⟨.inr rfl, ?_⟩
    simp only [readRs, readR, single, x_upd, reduceIte, Nat.reduceEqDiff, x_look, argS, xs, xl, argS, reduceIte, Nat.reduceEqDiff, Nat.reduceAdd, Nat.reduceLT, Nat.reduceLeDiff, A.okCells, A.cells, A.one, splice, loadsTo, insR, if_neg hck, if_pos hcol]
    exact frz_ce (.d (.nil _))
  simp only [openA, openH, if_neg hck, if_neg hcol, List.length_cons, List.length_nil, List.cons_append, List.nil_append] at hO
  have hck0 : checkR l = 0 := Decidable.not_not.1 hck
  obtain ⟨hl1, hl2, hrk⟩ := ck_pos hck0
  obtain ⟨n, rfl⟩ : ∃ n : Nat, col = n := ⟨col.toNat, by omega⟩
  have hnl : n < l.length := by omega
  refine W_seq (W_reg ?_); simp only [xs, xl, argS, reduceIte, Nat.reduceEqDiff, Nat.reduceAdd, Nat.reduceLT, Nat.reduceLeDiff, A.okCells, A.cells, A.one, splice, ceRows_length, w1]
  refine ce_fn hO ?_
  simp only [xs, xl, argS, reduceIte, Nat.reduceEqDiff, Nat.reduceAdd, Nat.reduceLT, Nat.reduceLeDiff, A.okCells, A.cells, A.one, splice]
  refine W_seq ?_
  by_cases hm1 : m < 1
  · have e1 : decide (m < 1) = true := decide_eq_true hm1
    refine W_seq (W_reg ?_); simp only [xs, xl, argS, reduceIte, Nat.reduceEqDiff, Nat.reduceAdd, Nat.reduceLT, Nat.reduceLeDiff, A.okCells, A.cells, A.one, splice, e1]
    refine W_cond rfl (fun _ => ?_) (fun hc => by simp at hc)
    refine W_seq (W_reg ?_); simp only [xs, xl, argS, reduceIte, Nat.reduceEqDiff, Nat.reduceAdd, Nat.reduceLT, Nat.reduceLeDiff, A.okCells, A.cells, A.one, splice]
    refine W_ret ⟨.inr rfl, ?_⟩
    simp only [readRs, readR, single, x_upd, reduceIte, Nat.reduceEqDiff, x_look, argS, xs, xl, argS, reduceIte, Nat.reduceEqDiff, Nat.reduceAdd, Nat.reduceLT, Nat.reduceLeDiff, A.okCells, A.cells, A.one, splice, loadsTo, insR, if_neg hck, if_neg hcol, if_pos hm1]
    exact frz_ceB (id := 1) rfl rfl
  have e1 : decide (m < 1) = false := decide_eq_false hm1
  refine W_seq (W_reg ?_); simp only [xs, xl, argS, reduceIte, Nat.reduceEqDiff, Nat.reduceAdd, Nat.reduceLT, Nat.reduceLeDiff, A.okCells, A.cells, A.one, splice, e1]
  refine W_cond rfl (fun hc => by simp at hc) (fun _ => W_skip ?_)
  simp only [xs, xl, argS, reduceIte, Nat.reduceEqDiff, Nat.reduceAdd, Nat.reduceLT, Nat.reduceLeDiff, A.okCells, A.cells, A.one, splice]
  obtain ⟨q, hq⟩ : ∃ q, q = minI l n m := ⟨_, rfl⟩
  have hq1 : 1 ≤ q := by rw [hq]; unfold minI; omega
  have hq2 : n + q ≤ l.length := by rw [hq]; unfold minI; omega
  have w2 : IntKind.i64.wrap ((l.length : Int) - (n : Int)) = (l.length : Int) - (n : Int) := i64_of (by omega)
  have w3 : IntKind.i64.wrap ((l.length : Int) - (q : Int)) = ((l.length - q : Nat) : Int) := by rw [i64_of (by omega)]; omega
  have hres : insR l n m b = (insL l n q b, 0) := by simp only [insR, if_neg hck, if_neg hcol, if_neg hm1, Int.toNat_natCast, hq]
  rw [hres]
  refine W_seq (W_reg ?_); simp only [xs, xl, argS, reduceIte, Nat.reduceEqDiff, Nat.reduceAdd, Nat.reduceLT, Nat.reduceLeDiff, A.okCells, A.cells, A.one, splice, ceRows_length, w2, min_of (Int.not_lt.1 hm1) hnl, ← hq]
  refine W_seq (W_reg ?_); simp only [xs, xl, argS, reduceIte, Nat.reduceEqDiff, Nat.reduceAdd, Nat.reduceLT, Nat.reduceLeDiff, A.okCells, A.cells, A.one, splice]
  have hH := Hh l (okR_ck hrk) n (by omega) (by omega) 1 [atB a b c, ceB' l] rfl
  refine ce_fn hH ?_
  simp only [xs, xl, argS, reduceIte, Nat.reduceEqDiff, Nat.reduceAdd, Nat.reduceLT, Nat.reduceLeDiff, A.okCells, A.cells, A.one, splice]
  have hr : insL l n q b = lastF [((hlv l n).take n), List.replicate q (blankC b), ((hlv l n).drop n).take (l.length - q - n)].flatten := by simp [insL]
  have hlen := insL_len (b := b) hq2
  have hxl : (hlv l n).length = l.length := hlv_len
  rw [hr] at hlen ⊢
  rw [lastF_len] at hlen
  generalize hlv l n = x at hlen hxl
  refine W_co (s' := ⟨look [(1, .int n), (2, .int q), (7, .ptr 0 1 0 0), (10, .d (.sl eCe (ceRows x)))], [atB a b c]⟩) (Co.frz _ 1 ?_ (Nat.zero_le _) (by simp) ?_) ?_
  · intro p hp
    simp only [List.mem_cons, List.not_mem_nil, or_false] at hp
    rcases hp with rfl | rfl | rfl | rfl
    · exact .same rfl
    · exact .same rfl
    · exact .same rfl
    · exact frz_blk0 (id := 1) (Nat.le_refl _) rfl hxl.symm
  · intro B hB
    simp at hB; subst hB; exact under_at
  refine W_seq (W_drw (by simp) ?_); simp only [xs, xl, argS, reduceIte, Nat.reduceEqDiff, Nat.reduceAdd, Nat.reduceLT, Nat.reduceLeDiff, A.okCells, A.cells, A.one, splice, ceRows_length, hxl, w3, Int.toNat_natCast, List.drop_zero, ceRows_drop, ceRows_take]
  repeat refine And.intro (by omega) ?_
  have t1 : ((n : Int) - ((0 : Nat) : Int)).toNat = n := by omega
  have t2 : (((l.length - q : Nat) : Int) - (n : Int)).toNat = l.length - q - n := by omega
  try rw [t1]
  try rw [t2]
  repeat refine And.intro (by omega) ?_
  obtain ⟨ls, hls⟩ : ∃ ls, ls = [x.take n, List.replicate q (blankC b), (x.drop n).take (l.length - q - n)] := ⟨_, rfl⟩
  rw [← hls] at hlen ⊢
  have hll : ls.length ≤ 1000 := by rw [hls]; simp
  refine W_cut (· = ⟨look [(10, .ref 1 l.length 0 l.length true)], [atB a b c, ceB' ls.flatten]⟩) (W_regC ?_) ?_
  · refine runC_cut 7 (· = ⟨look [(7, .ptr 0 1 0 0), (58, .d (.sl eRw (crRows ls)))], [atB a b c]⟩) rfl (by intro h; cases h) (fun K1 hK1 => ?_) ?_
    · simp only [xs, xl, argS, reduceIte, Nat.reduceEqDiff, Nat.reduceAdd, Nat.reduceLT, Nat.reduceLeDiff, A.okCells, A.cells, A.one, splice]
      refine c_fn (Hb b q (by omega)) rfl ?_
      simp only [xs, xl, argS, reduceIte, Nat.reduceEqDiff, Nat.reduceAdd, Nat.reduceLT, Nat.reduceLeDiff, A.okCells, A.cells, A.one, splice]
      refine hK1 _ _ (Co.frz _ 1 ?_ (Nat.zero_le _) (by simp) ?_) rfl
      · intro p hp
        simp only [List.mem_cons, List.not_mem_nil, or_false] at hp
        rcases hp with rfl | rfl
        · exact .same rfl
        · have := frz_rows (k := 1) (id := 1) (off := 0) (len := 3) (full := true) (e := eRw) (rows := crRows ls) (h := [atB a b c, .cells eRw ((crRows ls).map fun r => r.map A.d)]) (Nat.le_refl _) rfl (by rw [hls]; exact Nat.le_refl _)
          subst hls
          exact this
      · intro B hB
        simp at hB; subst hB; exact under_at
    rintro _ rfl
    refine runC_end rfl ?_
    simp only [xs, xl, argS, reduceIte, Nat.reduceEqDiff, Nat.reduceAdd, Nat.reduceLT, Nat.reduceLeDiff, A.okCells, A.cells, A.one, splice]
    have hC := Hc ls hll (by rw [hlen]; omega) (by rw [hlen]; omega) [atB a b c]
    rw [hlen] at hC
    refine ce_fn hC ?_
    simp only [xs, xl, argS, reduceIte, Nat.reduceEqDiff, Nat.reduceAdd, Nat.reduceLT, Nat.reduceLeDiff, A.okCells, A.cells, A.one, splice]
    exact ⟨_, Co.keep _ (by simp [x_upd, x_look]), rfl⟩
  rintro _ rfl
  generalize ls.flatten = y at hlen
  have hyl : l.length - 1 < y.length := by omega
  have hlast : y.getLast? = some y[l.length - 1] := by
    rw [List.getLast?_eq_getElem?, hlen]; exact List.getElem?_eq_getElem hyl
  have hlf : lastF y = if y[l.length - 1].width = 2 then y.set (l.length - 1) (blankC y[l.length - 1].back) else y := by
    unfold lastF; rw [hlast, hlen]
  rw [hlf]
  have w4 : IntKind.i64.wrap ((l.length : Int) - 1) = ((l.length - 1 : Nat) : Int) := by rw [i64_of (by omega)]; omega
  have g1 := ceB_get (l := y) (i := l.length - 1) hyl
  have s1 := ceB_set (l := y) (i := l.length - 1) (c := blankC y[l.length - 1].back)
  simp only [Ce.row, List.map_cons, List.map_nil] at g1
  refine W_seq ?_
  refine W_seq (W_reg ?_); simp only [xs, xl, argS, reduceIte, Nat.reduceEqDiff, Nat.reduceAdd, Nat.reduceLT, Nat.reduceLeDiff, A.okCells, A.cells, A.one, splice, ceRows_length, hlen, w4]
  refine W_seq (W_reg ?_); simp only [xs, xl, argS, reduceIte, Nat.reduceEqDiff, Nat.reduceAdd, Nat.reduceLT, Nat.reduceLeDiff, A.okCells, A.cells, A.one, splice, ceRows_length, hlen, Int.toNat_natCast, g1]
  repeat refine And.intro (by omega) ?_
  refine W_cond rfl (fun hc => ?_) (fun hc => W_skip ?_)
  · have hc : y[l.length - 1].width = 2 := by simpa using hc
    rw [if_pos hc]
    refine W_reg ?_; simp only [xs, xl, argS, reduceIte, Nat.reduceEqDiff, Nat.reduceAdd, Nat.reduceLT, Nat.reduceLeDiff, A.okCells, A.cells, A.one, splice, ceRows_length, hlen, Int.toNat_natCast, g1]
    repeat refine And.intro (by omega) ?_
    refine c_fn (Hbl _) rfl ?_
    generalize y[l.length - 1].back = bk at g1 s1
    simp only [ceA, blankC, Ce.row, List.map_cons, List.map_nil] at s1 ⊢
    simp only [xs, xl, argS, reduceIte, Nat.reduceEqDiff, Nat.reduceAdd, Nat.reduceLT, Nat.reduceLeDiff, A.okCells, A.cells, A.one, splice, ceRows_length, hlen, Int.toNat_natCast, g1, s1]
    repeat refine And.intro (by omega) ?_
    refine W_seq (W_reg ?_); simp only [xs, xl, argS, reduceIte, Nat.reduceEqDiff, Nat.reduceAdd, Nat.reduceLT, Nat.reduceLeDiff, A.okCells, A.cells, A.one, splice]
    refine W_ret ⟨.inr rfl, ?_⟩
    simp only [readRs, readR, single, x_upd, reduceIte, Nat.reduceEqDiff, x_look, argS, xs, xl, argS, reduceIte, Nat.reduceEqDiff, Nat.reduceAdd, Nat.reduceLT, Nat.reduceLeDiff, A.okCells, A.cells, A.one, splice, loadsTo]
    exact frz_ceB (id := 1) rfl (by simp [hlen])
  · have hc : ¬ y[l.length - 1].width = 2 := by simpa using hc
    rw [if_neg hc]
    simp only [xs, xl, argS, reduceIte, Nat.reduceEqDiff, Nat.reduceAdd, Nat.reduceLT, Nat.reduceLeDiff, A.okCells, A.cells, A.one, splice]
    refine W_seq (W_reg ?_); simp only [xs, xl, argS, reduceIte, Nat.reduceEqDiff, Nat.reduceAdd, Nat.reduceLT, Nat.reduceLeDiff, A.okCells, A.cells, A.one, splice]
    refine W_ret ⟨.inr rfl, ?_⟩
    simp only [readRs, readR, single, x_upd, reduceIte, Nat.reduceEqDiff, x_look, argS, xs, xl, argS, reduceIte, Nat.reduceEqDiff, Nat.reduceAdd, Nat.reduceLT, Nat.reduceLeDiff, A.okCells, A.cells, A.one, splice, loadsTo]
    exact frz_ceB (id := 1) rfl hlen.symm

end Go.Proofs.YtckglkbbdbmdkaaDoor.Nx


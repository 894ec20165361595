/- Layer 15: Width, Index. -/
import Derived.Test.YtmagahmklndcgaaDoorNxP15b
namespace Go.Proofs.YtmagahmklndcgaaDoor.Nx
set_option linter.unusedSimpArgs false
set_option linter.unusedVariables false
set_option linter.unnecessarySimpa false
open Go

variable {P : Program} {N : Nat} {Γ : Tabs}

def gw (g : Gl) : Nat := if g.wide then 2 else 1
def widthN : List Gl → Nat
  | [] => 0
  | g :: l => gw g + widthN l
theorem widthN_app : ∀ (a b : List Gl), widthN (a ++ b) = widthN a + widthN b
  | [], b => by simp [widthN]
  | g :: a, b => by simp only [List.cons_append, widthN, widthN_app a b]; omega
theorem widthN_le : ∀ l : List Gl, l.length ≤ widthN l ∧ widthN l ≤ 2 * l.length
  | [] => by simp [widthN]
  | g :: l => by
    have := widthN_le l
    simp only [widthN, gw, List.length_cons]
    split <;> omega
theorem widthN_succ {l : List Gl} {i : Nat} (hi : i < l.length) : widthN (l.take (i + 1)) = widthN (l.take i) + gw l[i] := by
  rw [List.take_add_one, List.getElem?_eq_getElem hi, Option.toList_some, widthN_app]
  simp [widthN]

/-- The number that view.Width counts: glyphs first, then the wide ones seen. -/
def wideN (l : List Gl) : Nat := (l.filter (·.wide)).length
theorem wideN_succ {l : List Gl} {i : Nat} (hi : i < l.length) : wideN (l.take (i + 1)) = wideN (l.take i) + (if l[i].wide then 1 else 0) := by
  simp only [wideN]
  rw [List.take_add_one, List.getElem?_eq_getElem hi]
  simp only [Option.toList_some, List.filter_append, List.length_append]
  cases h : l[i].wide <;> simp [h]
theorem wideN_width : ∀ l : List Gl, l.length + wideN l = widthN l
  | [] => rfl
  | g :: l => by
    have := wideN_width l
    simp only [wideN] at this ⊢
    simp only [widthN, gw, List.filter_cons, List.length_cons]
    cases g.wide <;> simp <;> omega

theorem width_fn {f : FuncId} (H : FnIs P f N [.t 2] x_view_Width) (hN : 1 ≤ N) (l : List Gl) : FnP Γ P f [.d (.sl eGl (glRows l))] (.int (widthN l)) := by
  refine .of_W H (by simpa using hN) (W_sl 0 rfl fun ⟨_, hroom, _⟩ => ?_)
  have hlr : l.length ≤ room := le_of_mul (by rw [glRows_len] at hroom; exact hroom)
  have hlr' := hlr
  simp only [room] at hlr'
  unfold x_view_Width
  refine W_seq (W_reg ?_)
  simp only [xs, xl, argS, reduceIte, Nat.reduceEqDiff, Nat.reduceAdd, Nat.reduceLT, Nat.reduceLeDiff, A.okCells, A.cells, A.one, splice]
  refine W_seq (W_reg ?_)
  simp only [xs, xl, argS, reduceIte, Nat.reduceEqDiff, Nat.reduceAdd, Nat.reduceLT, Nat.reduceLeDiff, A.okCells, A.cells, A.one, splice, glRows_len]
  refine W_seq (W_seq (W_reg ?_))
  simp only [xs, xl, argS, reduceIte, Nat.reduceEqDiff, Nat.reduceAdd, Nat.reduceLT, Nat.reduceLeDiff, A.okCells, A.cells, A.one, splice, glRows_len]
  refine W_block ?_
  let S : Nat → St := fun i => ⟨look [(3, .int ((l.length + wideN (l.take i) : Nat) : Int)), (8, .d (.sl eGl (glRows l))), (9, .int l.length), (10, .int i)], []⟩
  refine W_co (s' := S 0) (Co.keep _ (by simp [x_upd, x_look, wideN])) ?_
  refine W_loop (fun m s => ∃ i, i ≤ l.length ∧ m = l.length - i ∧ s = S i) ⟨0, Nat.zero_le _, rfl, rfl⟩ ?_
  rintro m s ⟨i, hi, rfl, rfl⟩
  have hwl : wideN (l.take i) ≤ l.length := Nat.le_trans (List.length_filter_le ..) (by simp; omega)
  refine W_seq (W_reg ?_)
  simp only [xs, xl, argS, reduceIte, Nat.reduceEqDiff, Nat.reduceAdd, Nat.reduceLT, Nat.reduceLeDiff, A.okCells, A.cells, A.one, splice, S]
  refine W_seq (W_cond rfl (fun hc => W_skip ?_) (fun hc => W_exit ?_))
  · have hlt : i < l.length := by simpa using hc
    simp only [xs, xl, argS, reduceIte, Nat.reduceEqDiff, Nat.reduceAdd, Nat.reduceLT, Nat.reduceLeDiff, A.okCells, A.cells, A.one, splice]
    refine W_seq (W_block (W_seq (W_reg ?_)))
    simp only [xs, xl, argS, reduceIte, Nat.reduceEqDiff, Nat.reduceAdd, Nat.reduceLT, Nat.reduceLeDiff, A.okCells, A.cells, A.one, splice, glRows_get hlt, Gl.row, glRows_len]
    refine ⟨by omega, by omega, ?_⟩
    refine W_seq (W_reg ?_)
    simp only [xs, xl, argS, reduceIte, Nat.reduceEqDiff, Nat.reduceAdd, Nat.reduceLT, Nat.reduceLeDiff, A.okCells, A.cells, A.one, splice]
    have hsucc := wideN_succ hlt
    have hw1 : IntKind.i64.wrap (((l.length + wideN (l.take i) : Nat) : Int) + 1) = ((l.length + wideN (l.take i) : Nat) : Int) + 1 := i64_of (by omega)
    refine W_cond rfl (fun hw => W_reg ?_) (fun hw => W_skip ?_)
    · simp only [xs, xl, argS, reduceIte, Nat.reduceEqDiff, Nat.reduceAdd, Nat.reduceLT, Nat.reduceLeDiff, A.okCells, A.cells, A.one, splice]
      refine W_reg ?_
      simp only [xs, xl, argS, reduceIte, Nat.reduceEqDiff, Nat.reduceAdd, Nat.reduceLT, Nat.reduceLeDiff, A.okCells, A.cells, A.one, splice]
      refine ⟨l.length - (i + 1), S (i + 1), by omega, ?_, i + 1, hlt, rfl, rfl⟩
      refine Co.to _ 0 ?_ (Nat.le_refl _) (Nat.zero_le _) (by simp)
      rw [hw, if_pos rfl] at hsucc
      simp only [List.forall_mem_cons, x_upd, reduceIte, Nat.reduceEqDiff, x_look, A.under, and_true, hsucc, List.not_mem_nil, false_imp_iff, implies_true, i64_succ hlt hlr, hw1]
      simp [Nat.add_assoc, Int.add_assoc]
    · simp only [xs, xl, argS, reduceIte, Nat.reduceEqDiff, Nat.reduceAdd, Nat.reduceLT, Nat.reduceLeDiff, A.okCells, A.cells, A.one, splice]
      refine W_reg ?_
      simp only [xs, xl, argS, reduceIte, Nat.reduceEqDiff, Nat.reduceAdd, Nat.reduceLT, Nat.reduceLeDiff, A.okCells, A.cells, A.one, splice]
      refine ⟨l.length - (i + 1), S (i + 1), by omega, ?_, i + 1, hlt, rfl, rfl⟩
      refine Co.to _ 0 ?_ (Nat.le_refl _) (Nat.zero_le _) (by simp)
      rw [hw] at hsucc
      simp only [List.forall_mem_cons, x_upd, reduceIte, Nat.reduceEqDiff, x_look, A.under, and_true, hsucc, List.not_mem_nil, false_imp_iff, implies_true, i64_succ hlt hlr]
      simp
  · have hle : i = l.length := by simp at hc; omega
    subst hle
    simp only [xs, xl, argS, reduceIte, Nat.reduceEqDiff, Nat.reduceAdd, Nat.reduceLT, Nat.reduceLeDiff, A.okCells, A.cells, A.one, splice]
    refine W_seq (W_reg ?_)
    simp only [xs, xl, argS, reduceIte, Nat.reduceEqDiff, Nat.reduceAdd, Nat.reduceLT, Nat.reduceLeDiff, A.okCells, A.cells, A.one, splice]
    refine W_ret (.tmp ?_ rfl)
    simp only [x_upd, reduceIte, List.take_length, wideN_width]

/-! ### Index -/
def idxGo (col : Int) : List Gl → Nat → Nat → Int
  | [], at', i => (i : Int) + col - at'
  | g :: r, at', i => if col < ((at' + gw g : Nat) : Int) then i else idxGo col r (at' + gw g) (i + 1)
def indexOf (l : List Gl) (col : Int) : Int := if col < 0 then -1 else idxGo col l 0 0

theorem idxGo_skip (col : Int) : ∀ (p r : List Gl) (at' i : Nat), ((at' + widthN p : Nat) : Int) ≤ col → idxGo col (p ++ r) at' i = idxGo col r (at' + widthN p) (i + p.length)
  | [], r, at', i, _ => by simp [widthN]
  | g :: p, r, at', i, h => by
    simp only [widthN] at h
    simp only [List.cons_append, idxGo]
    rw [if_neg (by omega), idxGo_skip col p r _ _ (by omega)]
    simp only [widthN, List.length_cons]
    congr 1 <;> omega

theorem index_at {l : List Gl} {i : Nat} (hi : i < l.length) {d : Nat} (hd : d < gw l[i]) : indexOf l ((widthN (l.take i) + d : Nat) : Int) = i := by
  unfold indexOf
  rw [if_neg (by omega)]
  have h := idxGo_skip ((widthN (l.take i) + d : Nat) : Int) (l.take i) (l.drop i) 0 0 (by omega)
  rw [List.take_append_drop] at h
  rw [h, List.drop_eq_getElem_cons hi]
  simp only [idxGo]
  rw [if_pos (by omega)]
  simp; omega

theorem index_behind (l : List Gl) (d : Nat) : indexOf l ((widthN l + d : Nat) : Int) = ((l.length + d : Nat) : Int) := by
  unfold indexOf
  rw [if_neg (by omega)]
  have := idxGo_skip ((widthN l + d : Nat) : Int) l [] 0 0 (by omega)
  rw [List.append_nil] at this
  rw [this]
  simp only [idxGo]
  omega

theorem index_fn {f : FuncId} (H : FnIs P f N [.t 4] x_view_Index) (hN : 2 ≤ N) (l : List Gl) (col : Int) (hc1 : -1000000000000000000 ≤ col) (hc2 : col ≤ 1000000000000000000) :
    FnP Γ P f [.d (.sl eGl (glRows l)), .int col] (.int (indexOf l col)) := by
  refine .of_W H (by simpa using hN) (W_sl 0 rfl fun ⟨_, hroom, _⟩ => ?_)
  have hlr : l.length ≤ room := le_of_mul (by rw [glRows_len] at hroom; exact hroom)
  have hlr' := hlr
  simp only [room] at hlr'
  unfold x_view_Index
  refine W_seq (W_reg ?_)
  simp only [xs, xl, argS, reduceIte, Nat.reduceEqDiff, Nat.reduceAdd, Nat.reduceLT, Nat.reduceLeDiff, A.okCells, A.cells, A.one, splice]
  refine W_seq (W_seq (W_reg ?_))
  simp only [xs, xl, argS, reduceIte, Nat.reduceEqDiff, Nat.reduceAdd, Nat.reduceLT, Nat.reduceLeDiff, A.okCells, A.cells, A.one, splice]
  refine W_cond rfl (fun hc => ?_) (fun hc => W_skip ?_)
  · have hneg : col < 0 := by simpa using hc
    refine W_seq (W_reg ?_)
    simp only [xs, xl, argS, reduceIte, Nat.reduceEqDiff, Nat.reduceAdd, Nat.reduceLT, Nat.reduceLeDiff, A.okCells, A.cells, A.one, splice]
    refine W_ret (.tmp ?_ rfl)
    simp only [x_upd, reduceIte, indexOf, hneg]
  · have hpos : ¬ col < 0 := by simpa using hc
    simp only [xs, xl, argS, reduceIte, Nat.reduceEqDiff, Nat.reduceAdd, Nat.reduceLT, Nat.reduceLeDiff, A.okCells, A.cells, A.one, splice]
    refine W_seq (W_reg ?_)
    simp only [xs, xl, argS, reduceIte, Nat.reduceEqDiff, Nat.reduceAdd, Nat.reduceLT, Nat.reduceLeDiff, A.okCells, A.cells, A.one, splice]
    refine W_seq (W_seq (W_reg ?_))
    simp only [xs, xl, argS, reduceIte, Nat.reduceEqDiff, Nat.reduceAdd, Nat.reduceLT, Nat.reduceLeDiff, A.okCells, A.cells, A.one, splice, glRows_len]
    refine W_block ?_
    let S : Nat → St := fun i => ⟨look [(0, .d (.sl eGl (glRows l))), (1, .int col), (5, .int (widthN (l.take i))), (10, .d (.sl eGl (glRows l))), (11, .int l.length), (12, .int i)], []⟩
    refine W_co (s' := S 0) (Co.keep _ (by simp [x_upd, x_look, widthN])) ?_
    refine W_loop (fun m s => ∃ i, i ≤ l.length ∧ m = l.length - i ∧ s = S i ∧ idxGo col l 0 0 = idxGo col (l.drop i) (widthN (l.take i)) i) ⟨0, Nat.zero_le _, rfl, rfl, by simp [widthN]⟩ ?_
    rintro m s ⟨i, hi, rfl, rfl, hidx⟩
    have hwle := widthN_le (l.take i)
    simp only [List.length_take] at hwle
    refine W_seq (W_reg ?_)
    simp only [xs, xl, argS, reduceIte, Nat.reduceEqDiff, Nat.reduceAdd, Nat.reduceLT, Nat.reduceLeDiff, A.okCells, A.cells, A.one, splice, S]
    refine W_seq (W_cond rfl (fun hc => W_skip ?_) (fun hc => W_exit ?_))
    · have hlt : i < l.length := by simpa using hc
      have hsucc := widthN_succ hlt
      rw [List.drop_eq_getElem_cons hlt, idxGo, ← hsucc] at hidx
      simp only [xs, xl, argS, reduceIte, Nat.reduceEqDiff, Nat.reduceAdd, Nat.reduceLT, Nat.reduceLeDiff, A.okCells, A.cells, A.one, splice]
      refine W_seq (W_block (W_seq (W_reg ?_)))
      simp only [xs, xl, argS, reduceIte, Nat.reduceEqDiff, Nat.reduceAdd, Nat.reduceLT, Nat.reduceLeDiff, A.okCells, A.cells, A.one, splice, glRows_get hlt, Gl.row, glRows_len]
      refine ⟨by omega, by omega, ?_⟩
      refine W_seq (W_reg ?_)
      simp only [xs, xl, argS, reduceIte, Nat.reduceEqDiff, Nat.reduceAdd, Nat.reduceLT, Nat.reduceLeDiff, A.okCells, A.cells, A.one, splice]
      have hw1 : IntKind.i64.wrap ((widthN (l.take i) : Int) + 1) = (widthN (l.take i) : Int) + 1 := i64_of (by omega)
      have hw2 : IntKind.i64.wrap ((widthN (l.take i) : Int) + 1 + 1) = (widthN (l.take i) : Int) + 1 + 1 := i64_of (by omega)
      -- behind the glyph's columns
      have tail : ∀ (sl : Nat → A) (Q : Exit → St → Prop) (hp : Heap), sl 1 = .int col → sl 5 = .int (widthN (l.take (i + 1))) → sl 6 = .int i →
          (col < (widthN (l.take (i + 1)) : Int) → ∀ sl', sl' 4 = .int i → Q .ret ⟨sl', hp⟩) → (¬ col < (widthN (l.take (i + 1)) : Int) → ∀ a b c, Q .normal ⟨upd (upd (upd sl 23 a) 24 b) 25 c, hp⟩) →
          W (Tabs.ctx Γ) P N none 0 (.seq (.reg [
            { dst := some 23, op := .mov (.t 1) },
            { dst := some 24, op := .mov (.t 5) },
            { dst := some 25, op := .bin .lss (.t 23) (.t 24) }])
          (.cond (.t 25)
            (.seq (.reg [
              { dst := some 26, op := .mov (.t 6) },
              { dst := some 4, op := .mov (.t 26) }])
            .ret)
            .skip)) Q ⟨sl, hp⟩ := by
        intro sl Q hp h1 h5 h6 hT hF
        refine W_seq (W_reg ?_)
        simp only [xs, xl, argS, reduceIte, Nat.reduceEqDiff, Nat.reduceAdd, Nat.reduceLT, Nat.reduceLeDiff, A.okCells, A.cells, A.one, splice, h1, h5]
        refine W_cond rfl (fun hd => ?_) (fun hd => W_skip ?_)
        · refine W_seq (W_reg ?_)
          simp only [xs, xl, argS, reduceIte, Nat.reduceEqDiff, Nat.reduceAdd, Nat.reduceLT, Nat.reduceLeDiff, A.okCells, A.cells, A.one, splice, h6]
          refine W_ret ?_
          exact hT (by simpa using hd) _ (by simp [x_upd])
        · exact hF (by simpa using hd) _ _ _
      refine W_seq (W_seq (W_reg ?_))
      simp only [xs, xl, argS, reduceIte, Nat.reduceEqDiff, Nat.reduceAdd, Nat.reduceLT, Nat.reduceLeDiff, A.okCells, A.cells, A.one, splice]
      refine W_cond rfl (fun hw => W_reg ?_) (fun hw => W_skip ?_)
      · have hgw : widthN (l.take (i + 1)) = widthN (l.take i) + 2 := by rw [hsucc, gw, if_pos hw]
        simp only [xs, xl, argS, reduceIte, Nat.reduceEqDiff, Nat.reduceAdd, Nat.reduceLT, Nat.reduceLeDiff, A.okCells, A.cells, A.one, splice, hw1, hw2]
        refine tail _ _ _ rfl ?_ rfl (fun hlt2 sl' h4 => ?_) (fun hge a b c => ?_)
        · simp only [x_upd, reduceIte, Nat.reduceEqDiff, hgw]; congr 2
        · simp only [xs, xl, argS, reduceIte, Nat.reduceEqDiff, Nat.reduceAdd, Nat.reduceLT, Nat.reduceLeDiff, A.okCells, A.cells, A.one, splice]
          rw [if_pos hlt2] at hidx
          refine .tmp ?_ rfl
          show sl' 4 = _
          rw [h4, indexOf, if_neg hpos, hidx]
        · simp only [xs, xl, argS, reduceIte, Nat.reduceEqDiff, Nat.reduceAdd, Nat.reduceLT, Nat.reduceLeDiff, A.okCells, A.cells, A.one, splice]
          rw [if_neg hge] at hidx
          refine W_reg ?_
          simp only [xs, xl, argS, reduceIte, Nat.reduceEqDiff, Nat.reduceAdd, Nat.reduceLT, Nat.reduceLeDiff, A.okCells, A.cells, A.one, splice]
          refine ⟨l.length - (i + 1), S (i + 1), by omega, ?_, i + 1, hlt, rfl, rfl, hidx⟩
          refine Co.to _ 0 ?_ (Nat.le_refl _) (Nat.zero_le _) (by simp)
          simp [x_upd, x_look, A.under, hgw, i64_succ hlt hlr, Int.add_assoc]
      · have hgw : widthN (l.take (i + 1)) = widthN (l.take i) + 1 := by rw [hsucc, gw, if_neg (by rw [hw]; simp)]
        simp only [xs, xl, argS, reduceIte, Nat.reduceEqDiff, Nat.reduceAdd, Nat.reduceLT, Nat.reduceLeDiff, A.okCells, A.cells, A.one, splice, hw1]
        refine tail _ _ _ rfl ?_ rfl (fun hlt2 sl' h4 => ?_) (fun hge a b c => ?_)
        · simp only [x_upd, reduceIte, Nat.reduceEqDiff, hgw]; congr 2
        · simp only [xs, xl, argS, reduceIte, Nat.reduceEqDiff, Nat.reduceAdd, Nat.reduceLT, Nat.reduceLeDiff, A.okCells, A.cells, A.one, splice]
          rw [if_pos hlt2] at hidx
          refine .tmp ?_ rfl
          show sl' 4 = _
          rw [h4, indexOf, if_neg hpos, hidx]
        · simp only [xs, xl, argS, reduceIte, Nat.reduceEqDiff, Nat.reduceAdd, Nat.reduceLT, Nat.reduceLeDiff, A.okCells, A.cells, A.one, splice]
          rw [if_neg hge] at hidx
          refine W_reg ?_
          simp only [xs, xl, argS, reduceIte, Nat.reduceEqDiff, Nat.reduceAdd, Nat.reduceLT, Nat.reduceLeDiff, A.okCells, A.cells, A.one, splice]
          refine ⟨l.length - (i + 1), S (i + 1), by omega, ?_, i + 1, hlt, rfl, rfl, hidx⟩
          refine Co.to _ 0 ?_ (Nat.le_refl _) (Nat.zero_le _) (by simp)
          simp [x_upd, x_look, A.under, hgw, i64_succ hlt hlr]
    · have hle : i = l.length := by simp at hc; omega
      subst hle
      rw [List.drop_length, List.take_length] at hidx
      simp only [xs, xl, argS, reduceIte, Nat.reduceEqDiff, Nat.reduceAdd, Nat.reduceLT, Nat.reduceLeDiff, A.okCells, A.cells, A.one, splice]
      refine W_seq (W_reg ?_)
      have hwl := widthN_le l
      have e1 : IntKind.i64.wrap ((l.length : Int) + col) = (l.length : Int) + col := i64_of (by omega)
      have e2 : IntKind.i64.wrap ((l.length : Int) + col - (widthN l : Int)) = (l.length : Int) + col - (widthN l : Int) := i64_of (by omega)
      simp only [xs, xl, argS, reduceIte, Nat.reduceEqDiff, Nat.reduceAdd, Nat.reduceLT, Nat.reduceLeDiff, A.okCells, A.cells, A.one, splice, glRows_len, List.take_length, e1, e2]
      refine W_ret (.tmp ?_ rfl)
      simp only [x_upd, reduceIte, indexOf, hpos, hidx, idxGo]

end Go.Proofs.YtmagahmklndcgaaDoor.Nx

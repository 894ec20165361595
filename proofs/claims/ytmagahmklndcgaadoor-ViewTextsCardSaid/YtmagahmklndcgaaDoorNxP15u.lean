/- Layer 15: the reference's Text and Index; Index for any column; the law ViewRows. -/
import Derived.Test.YtmagahmklndcgaaDoorNxP15k
import Derived.Test.YtmagahmklndcgaaDoorNxP15p
import Derived.Test.YtmagahmklndcgaaDoorNxT3
namespace Go.Proofs.YtmagahmklndcgaaDoor.Nx
set_option linter.unusedSimpArgs false
set_option linter.unusedVariables false
set_option linter.unnecessarySimpa false
open Go

variable {P : Program} {N : Nat} {Γ : Tabs}

/-! ### Index, for any column -/
def idxW (col : Int) : List Gl → Nat → Nat → Int
  | [], at', i => IntKind.i64.wrap (IntKind.i64.wrap ((i : Int) + col) - at')
  | g :: r, at', i => if col < ((at' + gw g : Nat) : Int) then i else idxW col r (at' + gw g) (i + 1)
def indexW (l : List Gl) (col : Int) : Int := if col < 0 then -1 else idxW col l 0 0

theorem indexW_fn {f : FuncId} (H : FnIs P f N [.t 4] x_view_Index) (hN : 2 ≤ N) (l : List Gl) (col : Int) :
    FnP Γ P f [.d (.sl eGl (glRows l)), .int col] (.int (indexW l col)) := by
  refine .of_W H (by simpa using hN) (W_sl 0 rfl fun ⟨_, hroom, _⟩ => ?_)
  have hlr : l.length ≤ room := le_of_mul (by rw [glRows_len] at hroom; exact hroom)
  have hlr' := hlr
  simp only [room] at hlr'
  unfold x_view_Index
  refine W_seq (W_reg ?_)
  simp only [xs, xl, argS, reduceIte, Nat.reduceEqDiff, Nat.reduceAdd, Nat.reduceLT, Nat.reduceLeDiff, A.okCells, A.cells, A.one, splice]
  refine W_seq (W_seq (W_reg ?_))
  simp only [xs, xl, argS, reduceIte, Nat.reduceEqDiff, Nat.reduceAdd, Nat.reduceLT, Nat.reduceLeDiff, A.okCells, A.cells, A.one, splice]
  refine W_cond rfl (fun hc => ?_) (fun hc => W_skip ?_)
  · have hneg : col < 0 := by simpa using hc
    refine W_seq (W_reg ?_)
    simp only [xs, xl, argS, reduceIte, Nat.reduceEqDiff, Nat.reduceAdd, Nat.reduceLT, Nat.reduceLeDiff, A.okCells, A.cells, A.one, splice]
    refine W_ret (.tmp ?_ rfl)
    simp only [x_upd, reduceIte, indexW, hneg]
  · have hpos : ¬ col < 0 := by simpa using hc
    simp only [xs, xl, argS, reduceIte, Nat.reduceEqDiff, Nat.reduceAdd, Nat.reduceLT, Nat.reduceLeDiff, A.okCells, A.cells, A.one, splice]
    refine W_seq (W_reg ?_)
    simp only [xs, xl, argS, reduceIte, Nat.reduceEqDiff, Nat.reduceAdd, Nat.reduceLT, Nat.reduceLeDiff, A.okCells, A.cells, A.one, splice]
    refine W_seq (W_seq (W_reg ?_))
    simp only [xs, xl, argS, reduceIte, Nat.reduceEqDiff, Nat.reduceAdd, Nat.reduceLT, Nat.reduceLeDiff, A.okCells, A.cells, A.one, splice, glRows_len]
    refine W_block ?_
    let S : Nat → St := fun i => ⟨look [(0, .d (.sl eGl (glRows l))), (1, .int col), (5, .int (widthN (l.take i))), (10, .d (.sl eGl (glRows l))), (11, .int l.length), (12, .int i)], []⟩
    refine W_co (s' := S 0) (Co.keep _ (by simp [x_upd, x_look, widthN])) ?_
    refine W_loop (fun m s => ∃ i, i ≤ l.length ∧ m = l.length - i ∧ s = S i ∧ idxW col l 0 0 = idxW col (l.drop i) (widthN (l.take i)) i) ⟨0, Nat.zero_le _, rfl, rfl, by simp [widthN]⟩ ?_
    rintro m s ⟨i, hi, rfl, rfl, hidx⟩
    have hwle := widthN_le (l.take i)
    simp only [List.length_take] at hwle
    refine W_seq (W_reg ?_)
    simp only [xs, xl, argS, reduceIte, Nat.reduceEqDiff, Nat.reduceAdd, Nat.reduceLT, Nat.reduceLeDiff, A.okCells, A.cells, A.one, splice, S]
    refine W_seq (W_cond rfl (fun hc => W_skip ?_) (fun hc => W_exit ?_))
    · have hlt : i < l.length := by simpa using hc
      have hsucc := widthN_succ hlt
      rw [List.drop_eq_getElem_cons hlt, idxW, ← hsucc] at hidx
      simp only [xs, xl, argS, reduceIte, Nat.reduceEqDiff, Nat.reduceAdd, Nat.reduceLT, Nat.reduceLeDiff, A.okCells, A.cells, A.one, splice]
      refine W_seq (W_block (W_seq (W_reg ?_)))
      simp only [xs, xl, argS, reduceIte, Nat.reduceEqDiff, Nat.reduceAdd, Nat.reduceLT, Nat.reduceLeDiff, A.okCells, A.cells, A.one, splice, glRows_get hlt, Gl.row, glRows_len]
      refine ⟨by omega, by omega, ?_⟩
      refine W_seq (W_reg ?_)
      simp only [xs, xl, argS, reduceIte, Nat.reduceEqDiff, Nat.reduceAdd, Nat.reduceLT, Nat.reduceLeDiff, A.okCells, A.cells, A.one, splice]
      have hw1 : IntKind.i64.wrap ((widthN (l.take i) : Int) + 1) = (widthN (l.take i) : Int) + 1 := i64_of (by omega)
      have hw2 : IntKind.i64.wrap ((widthN (l.take i) : Int) + 1 + 1) = (widthN (l.take i) : Int) + 1 + 1 := i64_of (by omega)
      -- behind the glyph's columns
      have tail : ∀ (sl : Nat → A) (Q : Exit → St → Prop) (hp : Heap), sl 1 = .int col → sl 5 = .int (widthN (l.take (i + 1))) → sl 6 = .int i →
          (col < (widthN (l.take (i + 1)) : Int) → ∀ sl', sl' 4 = .int i → Q .ret ⟨sl', hp⟩) → (¬ col < (widthN (l.take (i + 1)) : Int) → ∀ a b c, Q .normal ⟨upd (upd (upd sl 23 a) 24 b) 25 c, hp⟩) →
          W (Tabs.ctx Γ) P N none 0 (.seq (.reg [
            { dst := some 23, op := .mov (.t 1) },
            { dst := some 24, op := .mov (.t 5) },
            { dst := some 25, op := .bin .lss (.t 23) (.t 24) }])
          (.cond (.t 25)
            (.seq (.reg [
              { dst := some 26, op := .mov (.t 6) },
              { dst := some 4, op := .mov (.t 26) }])
            .ret)
            .skip)) Q ⟨sl, hp⟩ := by
        intro sl Q hp h1 h5 h6 hT hF
        refine W_seq (W_reg ?_)
        simp only [xs, xl, argS, reduceIte, Nat.reduceEqDiff, Nat.reduceAdd, Nat.reduceLT, Nat.reduceLeDiff, A.okCells, A.cells, A.one, splice, h1, h5]
        refine W_cond rfl (fun hd => ?_) (fun hd => W_skip ?_)
        · refine W_seq (W_reg ?_)
          simp only [xs, xl, argS, reduceIte, Nat.reduceEqDiff, Nat.reduceAdd, Nat.reduceLT, Nat.reduceLeDiff, A.okCells, A.cells, A.one, splice, h6]
          refine W_ret ?_
          exact hT (by simpa using hd) _ (by simp [x_upd])
        · exact hF (by simpa using hd) _ _ _
      refine W_seq (W_seq (W_reg ?_))
      simp only [xs, xl, argS, reduceIte, Nat.reduceEqDiff, Nat.reduceAdd, Nat.reduceLT, Nat.reduceLeDiff, A.okCells, A.cells, A.one, splice]
      refine W_cond rfl (fun hw => W_reg ?_) (fun hw => W_skip ?_)
      · have hgw : widthN (l.take (i + 1)) = widthN (l.take i) + 2 := by rw [hsucc, gw, if_pos hw]
        simp only [xs, xl, argS, reduceIte, Nat.reduceEqDiff, Nat.reduceAdd, Nat.reduceLT, Nat.reduceLeDiff, A.okCells, A.cells, A.one, splice, hw1, hw2]
        refine tail _ _ _ rfl ?_ rfl (fun hlt2 sl' h4 => ?_) (fun hge a b c => ?_)
        · simp only [x_upd, reduceIte, Nat.reduceEqDiff, hgw]; congr 2
        · simp only [xs, xl, argS, reduceIte, Nat.reduceEqDiff, Nat.reduceAdd, Nat.reduceLT, Nat.reduceLeDiff, A.okCells, A.cells, A.one, splice]
          rw [if_pos hlt2] at hidx
          refine .tmp ?_ rfl
          show sl' 4 = _
          rw [h4, indexW, if_neg hpos, hidx]
        · simp only [xs, xl, argS, reduceIte, Nat.reduceEqDiff, Nat.reduceAdd, Nat.reduceLT, Nat.reduceLeDiff, A.okCells, A.cells, A.one, splice]
          rw [if_neg hge] at hidx
          refine W_reg ?_
          simp only [xs, xl, argS, reduceIte, Nat.reduceEqDiff, Nat.reduceAdd, Nat.reduceLT, Nat.reduceLeDiff, A.okCells, A.cells, A.one, splice]
          refine ⟨l.length - (i + 1), S (i + 1), by omega, ?_, i + 1, hlt, rfl, rfl, hidx⟩
          refine Co.to _ 0 ?_ (Nat.le_refl _) (Nat.zero_le _) (by simp)
          simp [x_upd, x_look, A.under, hgw, i64_succ hlt hlr, Int.add_assoc]
      · have hgw : widthN (l.take (i + 1)) = widthN (l.take i) + 1 := by rw [hsucc, gw, if_neg (by rw [hw]; simp)]
        simp only [xs, xl, argS, reduceIte, Nat.reduceEqDiff, Nat.reduceAdd, Nat.reduceLT, Nat.reduceLeDiff, A.okCells, A.cells, A.one, splice, hw1]
        refine tail _ _ _ rfl ?_ rfl (fun hlt2 sl' h4 => ?_) (fun hge a b c => ?_)
        · simp only [x_upd, reduceIte, Nat.reduceEqDiff, hgw]; congr 2
        · simp only [xs, xl, argS, reduceIte, Nat.reduceEqDiff, Nat.reduceAdd, Nat.reduceLT, Nat.reduceLeDiff, A.okCells, A.cells, A.one, splice]
          rw [if_pos hlt2] at hidx
          refine .tmp ?_ rfl
          show sl' 4 = _
          rw [h4, indexW, if_neg hpos, hidx]
        · simp only [xs, xl, argS, reduceIte, Nat.reduceEqDiff, Nat.reduceAdd, Nat.reduceLT, Nat.reduceLeDiff, A.okCells, A.cells, A.one, splice]
          rw [if_neg hge] at hidx
          refine W_reg ?_
          simp only [xs, xl, argS, reduceIte, Nat.reduceEqDiff, Nat.reduceAdd, Nat.reduceLT, Nat.reduceLeDiff, A.okCells, A.cells, A.one, splice]
          refine ⟨l.length - (i + 1), S (i + 1), by omega, ?_, i + 1, hlt, rfl, rfl, hidx⟩
          refine Co.to _ 0 ?_ (Nat.le_refl _) (Nat.zero_le _) (by simp)
          simp [x_upd, x_look, A.under, hgw, i64_succ hlt hlr]
    · have hle : i = l.length := by simp at hc; omega
      subst hle
      rw [List.drop_length, List.take_length] at hidx
      simp only [xs, xl, argS, reduceIte, Nat.reduceEqDiff, Nat.reduceAdd, Nat.reduceLT, Nat.reduceLeDiff, A.okCells, A.cells, A.one, splice]
      refine W_seq (W_reg ?_)
      have hwl := widthN_le l
      simp only [xs, xl, argS, reduceIte, Nat.reduceEqDiff, Nat.reduceAdd, Nat.reduceLT, Nat.reduceLeDiff, A.okCells, A.cells, A.one, splice, glRows_len, List.take_length]
      refine W_ret (.tmp ?_ rfl)
      simp only [x_upd, reduceIte, indexW, hpos, hidx, idxW]

theorem glRows_one {l : List Gl} {i : Nat} (hi : i < l.length) : ((glRows l).drop i).take 1 = glRows [l[i]] := by
  rw [glRows, ← List.map_drop, ← List.map_take, List.drop_eq_getElem_cons hi]; rfl

set_option maxHeartbeats 1000000 in
theorem rindexW_fn {f fw : FuncId} (H : FnIs P f N [.t 4] (x_ref15_Index fw)) (hN : 2 ≤ N) (Hw : ∀ l : List Gl, FnP Γ P fw [.d (.sl eGl (glRows l))] (.int (widthN l))) (l : List Gl) (col : Int) :
    FnP Γ P f [.d (.sl eGl (glRows l)), .int col] (.int (indexW l col)) := by
  refine .of_W H (by simpa using hN) (W_sl 0 rfl fun ⟨_, hroom, _⟩ => ?_)
  have hlr : l.length ≤ room := le_of_mul (by rw [glRows_len] at hroom; exact hroom)
  have hlr' := hlr
  simp only [room] at hlr'
  unfold x_ref15_Index
  refine W_seq (W_reg ?_); simp only [xs, xl, argS, reduceIte, Nat.reduceEqDiff, Nat.reduceAdd, Nat.reduceLT, Nat.reduceLeDiff, A.okCells, A.cells, A.one, splice]
  refine W_seq ?_
  refine W_seq (W_reg ?_); simp only [xs, xl, argS, reduceIte, Nat.reduceEqDiff, Nat.reduceAdd, Nat.reduceLT, Nat.reduceLeDiff, A.okCells, A.cells, A.one, splice]
  refine W_cond rfl (fun hc => ?_) (fun hc => W_skip ?_)
  · have hneg : col < 0 := by simpa using hc
    refine W_seq (W_reg ?_); simp only [xs, xl, argS, reduceIte, Nat.reduceEqDiff, Nat.reduceAdd, Nat.reduceLT, Nat.reduceLeDiff, A.okCells, A.cells, A.one, splice]
    refine W_ret (.tmp ?_ rfl)
    simp only [x_upd, reduceIte, indexW, hneg]
  have hpos : ¬ col < 0 := by simpa using hc
  simp only [xs, xl, argS, reduceIte, Nat.reduceEqDiff, Nat.reduceAdd, Nat.reduceLT, Nat.reduceLeDiff, A.okCells, A.cells, A.one, splice]
  refine W_seq (W_reg ?_); simp only [xs, xl, argS, reduceIte, Nat.reduceEqDiff, Nat.reduceAdd, Nat.reduceLT, Nat.reduceLeDiff, A.okCells, A.cells, A.one, splice]
  refine W_seq ?_
  refine W_seq (W_reg ?_); simp only [xs, xl, argS, reduceIte, Nat.reduceEqDiff, Nat.reduceAdd, Nat.reduceLT, Nat.reduceLeDiff, A.okCells, A.cells, A.one, splice]
  refine W_block ?_
  let S : Nat → St := fun i => ⟨look [(0, .d (.sl eGl (glRows l))), (1, .int col), (5, .int (widthN (l.take i))), (6, .int i)], []⟩
  refine W_co (s' := S 0) (Co.keep _ (by simp [x_upd, x_look, widthN])) ?_
  refine W_loop (fun m s => ∃ i, i ≤ l.length ∧ m = l.length - i ∧ s = S i ∧ idxW col l 0 0 = idxW col (l.drop i) (widthN (l.take i)) i) ⟨0, Nat.zero_le _, rfl, rfl, by simp [widthN]⟩ ?_
  rintro m s ⟨i, hi, rfl, rfl, hidx⟩
  have hwle := widthN_le (l.take i)
  simp only [List.length_take] at hwle
  simp only [S]
  refine W_seq ?_
  refine W_seq (W_reg ?_); simp only [xs, xl, argS, reduceIte, Nat.reduceEqDiff, Nat.reduceAdd, Nat.reduceLT, Nat.reduceLeDiff, A.okCells, A.cells, A.one, splice, glRows_len]
  refine W_cond rfl (fun hc => W_skip ?_) (fun hc => W_exit ?_)
  · have hlt : i < l.length := by simp only [decide_eq_true_eq] at hc; omega
    have hsucc := widthN_succ hlt
    rw [List.drop_eq_getElem_cons hlt, idxW, ← hsucc] at hidx
    have w1 : IntKind.i64.wrap ((i : Int) + 1) = ((i + 1 : Nat) : Int) := by rw [i64_of (by omega)]; rfl
    have t1 : (((i + 1 : Nat) : Int) - (i : Int)).toNat = 1 := by omega
    have hg : gw l[i] ≤ 2 := by unfold gw; split <;> omega
    have w2 : IntKind.i64.wrap ((widthN (l.take i) : Int) + (widthN [l[i]] : Int)) = ((widthN (l.take (i + 1)) : Nat) : Int) := by
      have : widthN [l[i]] = gw l[i] := by simp [widthN]
      rw [this, i64_of (by omega), hsucc]; omega
    simp only [xs, xl, argS, reduceIte, Nat.reduceEqDiff, Nat.reduceAdd, Nat.reduceLT, Nat.reduceLeDiff, A.okCells, A.cells, A.one, splice]
    refine W_seq (W_block ?_)
    refine W_seq (W_reg ?_); simp only [xs, xl, argS, reduceIte, Nat.reduceEqDiff, Nat.reduceAdd, Nat.reduceLT, Nat.reduceLeDiff, A.okCells, A.cells, A.one, splice, glRows_len, w1, Int.toNat_natCast, t1, glRows_one hlt]
    repeat refine And.intro (by omega) ?_
    refine c_fn (Hw [l[i]]) rfl ?_; simp only [xs, xl, argS, reduceIte, Nat.reduceEqDiff, Nat.reduceAdd, Nat.reduceLT, Nat.reduceLeDiff, A.okCells, A.cells, A.one, splice, w2]
    refine W_seq (W_reg ?_); simp only [xs, xl, argS, reduceIte, Nat.reduceEqDiff, Nat.reduceAdd, Nat.reduceLT, Nat.reduceLeDiff, A.okCells, A.cells, A.one, splice]
    refine W_cond rfl (fun hd => ?_) (fun hd => W_skip ?_)
    · have hd : col < ((widthN (l.take (i + 1)) : Nat) : Int) := of_decide_eq_true hd
      rw [if_pos hd] at hidx
      refine W_seq (W_reg ?_); simp only [xs, xl, argS, reduceIte, Nat.reduceEqDiff, Nat.reduceAdd, Nat.reduceLT, Nat.reduceLeDiff, A.okCells, A.cells, A.one, splice]
      refine W_ret ?_
      simp only [xs, xl, argS, reduceIte, Nat.reduceEqDiff, Nat.reduceAdd, Nat.reduceLT, Nat.reduceLeDiff, A.okCells, A.cells, A.one, splice]
      refine .tmp ?_ rfl
      simp only [x_upd, reduceIte, indexW, hpos, hidx]
    · have hd : ¬ col < ((widthN (l.take (i + 1)) : Nat) : Int) := of_decide_eq_false hd
      rw [if_neg hd] at hidx
      simp only [xs, xl, argS, reduceIte, Nat.reduceEqDiff, Nat.reduceAdd, Nat.reduceLT, Nat.reduceLeDiff, A.okCells, A.cells, A.one, splice]
      refine W_reg ?_; simp only [xs, xl, argS, reduceIte, Nat.reduceEqDiff, Nat.reduceAdd, Nat.reduceLT, Nat.reduceLeDiff, A.okCells, A.cells, A.one, splice, w1]
      refine ⟨l.length - (i + 1), S (i + 1), by omega, Co.keep _ ?_, i + 1, hlt, rfl, rfl, hidx⟩
      simp [x_upd, x_look]
  · have hle : i = l.length := by simp only [decide_eq_false_iff_not] at hc; omega
    subst hle
    rw [List.drop_length, List.take_length] at hidx
    simp only [xs, xl, argS, reduceIte, Nat.reduceEqDiff, Nat.reduceAdd, Nat.reduceLT, Nat.reduceLeDiff, A.okCells, A.cells, A.one, splice]
    refine W_seq (W_reg ?_); simp only [xs, xl, argS, reduceIte, Nat.reduceEqDiff, Nat.reduceAdd, Nat.reduceLT, Nat.reduceLeDiff, A.okCells, A.cells, A.one, splice, glRows_len, List.take_length]
    refine W_ret (.tmp ?_ rfl)
    simp only [x_upd, reduceIte, indexW, hpos, hidx, idxW]

/-! ### Text -/
def bytesG (l : List UInt8) : ByteArray := ⟨l.toArray⟩
theorem bytesG_app {l : List UInt8} {s : ByteArray} : bytesG l ++ s = bytesG (l ++ s.data.toList) := by
  apply ByteArray.ext
  rw [ByteArray.data_append]
  simp [bytesG]
theorem bytesG_size {l : List UInt8} : (bytesG l).size = l.length := by simp [bytesG, ByteArray.size]

set_option maxHeartbeats 1000000 in
theorem rtextG_fn {f : FuncId} (H : FnIs P f N [.t 2] x_ref15_Text) (hN : 1 ≤ N) : TextGOk Γ P f := by
  intro l hl hs
  refine .of_W H (by simpa using hN) ?_
  unfold x_ref15_Text
  refine W_seq (W_reg ?_); simp only [xs, xl, argS, reduceIte, Nat.reduceEqDiff, Nat.reduceAdd, Nat.reduceLT, Nat.reduceLeDiff, A.okCells, A.cells, A.one, splice]
  refine W_seq (W_reg ?_); simp only [xs, xl, argS, reduceIte, Nat.reduceEqDiff, Nat.reduceAdd, Nat.reduceLT, Nat.reduceLeDiff, A.okCells, A.cells, A.one, splice]
  let T : Nat → ByteArray := fun i => bytesG (txt ((l.map Gl.text).take i))
  let S : Nat → St := fun i => ⟨look [(0, .d (.sl eGl (glRows l))), (3, .str (T i)), (4, .int i)], []⟩
  refine W_cut (· = S l.length) ?_ ?_
  · refine W_seq (W_reg ?_); simp only [xs, xl, argS, reduceIte, Nat.reduceEqDiff, Nat.reduceAdd, Nat.reduceLT, Nat.reduceLeDiff, A.okCells, A.cells, A.one, splice]
    refine W_block ?_
    refine W_co (s' := S 0) (Co.keep _ (by simp [x_upd, x_look]; rfl)) ?_
    refine W_loop (fun q s => ∃ i, i ≤ l.length ∧ q = l.length - i ∧ s = S i) ⟨0, Nat.zero_le _, rfl, rfl⟩ ?_
    rintro q s' ⟨i, hi, rfl, rfl⟩
    simp only [S]
    refine W_seq ?_
    refine W_seq (W_reg ?_); simp only [xs, xl, argS, reduceIte, Nat.reduceEqDiff, Nat.reduceAdd, Nat.reduceLT, Nat.reduceLeDiff, A.okCells, A.cells, A.one, splice, glRows_len]
    refine W_cond rfl (fun hc => W_skip ?_) (fun hc => W_exit ?_)
    · have hlt : i < l.length := by simp only [decide_eq_true_eq] at hc; omega
      have w5 : IntKind.i64.wrap ((i : Int) + 1) = ((i + 1 : Nat) : Int) := by rw [i64_of (by omega)]; omega
      have hsz : (T i).size ≤ 1000 * i := by
        have := txt_len ((l.map Gl.text).take i) (fun s hs' => by
          obtain ⟨c, hc, rfl⟩ := List.mem_map.1 (List.mem_of_mem_take hs')
          exact hs c hc)
        simp only [T, bytesG_size]
        rw [List.length_take, List.length_map, Nat.min_eq_left hi] at this
        exact this
      have hti : l[i].text.size ≤ 1000 := hs _ (List.getElem_mem hlt)
      have hT : T i ++ l[i].text = T (i + 1) := by
        simp only [T, bytesG_app]
        rw [txt_succ (by simpa using hlt), List.getElem_map]
      simp only [xs, xl, argS, reduceIte, Nat.reduceEqDiff, Nat.reduceAdd, Nat.reduceLT, Nat.reduceLeDiff, A.okCells, A.cells, A.one, splice]
      refine W_seq (W_block ?_)
      refine W_reg ?_; simp only [xs, xl, argS, reduceIte, Nat.reduceEqDiff, Nat.reduceAdd, Nat.reduceLT, Nat.reduceLeDiff, A.okCells, A.cells, A.one, splice, glRows_len, glRows_get hlt, Gl.row, Int.toNat_natCast]
      repeat refine And.intro (by omega) ?_
      rw [b_sadd (by unfold maxLen; omega)]
      simp only [xs, xl, argS, reduceIte, Nat.reduceEqDiff, Nat.reduceAdd, Nat.reduceLT, Nat.reduceLeDiff, A.okCells, A.cells, A.one, splice, hT]
      refine W_reg ?_; simp only [xs, xl, argS, reduceIte, Nat.reduceEqDiff, Nat.reduceAdd, Nat.reduceLT, Nat.reduceLeDiff, A.okCells, A.cells, A.one, splice, w5]
      refine ⟨l.length - (i + 1), S (i + 1), by omega, Co.keep _ ?_, i + 1, hlt, rfl, rfl⟩
      simp [x_upd, x_look]
    · have hle : i = l.length := by simp only [decide_eq_false_iff_not] at hc; omega
      subst hle
      simp only [xs, xl, argS, reduceIte, Nat.reduceEqDiff, Nat.reduceAdd, Nat.reduceLT, Nat.reduceLeDiff, A.okCells, A.cells, A.one, splice]
      exact ⟨S l.length, Co.keep _ (by simp [x_upd, x_look]), rfl⟩
  rintro _ rfl
  simp only [S]
  refine W_seq (W_reg ?_); simp only [xs, xl, argS, reduceIte, Nat.reduceEqDiff, Nat.reduceAdd, Nat.reduceLT, Nat.reduceLeDiff, A.okCells, A.cells, A.one, splice]
  refine W_ret (.tmp ?_ rfl)
  simp only [x_upd, reduceIte, T]
  rw [List.take_of_length_le (by rw [List.length_map]; exact Nat.le_refl _)]
  rfl


theorem greatRow_small {l : List Gl} (h : greatRow l = false) : l.length ≤ 140 ∧ ∀ g ∈ l, g.text.size ≤ 1000 := by
  simp only [greatRow, Bool.or_eq_false_iff, decide_eq_false_iff_not] at h
  refine ⟨by omega, fun g hg => ?_⟩
  have := List.any_eq_false.1 h.2 g hg
  simp only [decide_eq_true_eq] at this; omega

set_option maxHeartbeats 1000000 in
theorem viewRowsLaw_fn {f fg fa ft fr fs fw fv fx fy fi fj : FuncId} (H : FnIs P f N [.t 4] (x_law15_ViewRows fg fa ft fr fs fw fv fx fy fi fj)) (hN : 2 ≤ N) (Hg : ∀ l, FnP Γ P fg [.d (.sl eGl (glRows l))] (.bool (greatRow l))) (Ha : FnP Γ P fa [] (.bool true))
    (Ht : ∀ l : List Gl, FnP Γ P ft [.d (.sl eGl (glRows l))] (.d (.sl eGl (glRows (trimGl l))))) (Hr : ∀ l : List Gl, l.length ≤ 1000 → FnP Γ P fr [.d (.sl eGl (glRows l))] (.d (.sl eGl (glRows (trimGl l))))) (Hs : ∀ a b : List Gl, FnP Γ P fs [.d (.sl eGl (glRows a)), .d (.sl eGl (glRows b))] (.bool (decide (a = b))))
    (Hw : ∀ l : List Gl, FnP Γ P fw [.d (.sl eGl (glRows l))] (.int (widthN l))) (Hv : ∀ l : List Gl, FnP Γ P fv [.d (.sl eGl (glRows l))] (.int (widthN l))) (Hx : TextGOk Γ P fx) (Hy : TextGOk Γ P fy)
    (Hi : ∀ (l : List Gl) (col : Int), FnP Γ P fi [.d (.sl eGl (glRows l)), .int col] (.int (indexW l col))) (Hj : ∀ (l : List Gl) (col : Int), FnP Γ P fj [.d (.sl eGl (glRows l)), .int col] (.int (indexW l col))) (l : List Gl) (col : Int) :
    FnP Γ P f [.d (.sl eGl (glRows l)), .int col] (.bool true) := by
  refine .of_W H (by simpa using hN) ?_
  have hG := Hg l
  unfold x_law15_ViewRows
  refine W_seq (W_reg ?_); simp only [xs, xl, argS, reduceIte, Nat.reduceEqDiff, Nat.reduceAdd, Nat.reduceLT, Nat.reduceLeDiff, A.okCells, A.cells, A.one, splice]
  refine W_seq ?_
  refine W_seq (W_reg ?_); simp only [xs, xl, argS, reduceIte, Nat.reduceEqDiff, Nat.reduceAdd, Nat.reduceLT, Nat.reduceLeDiff, A.okCells, A.cells, A.one, splice]
  refine c_fn (hG) rfl ?_; simp only [xs, xl, argS, reduceIte, Nat.reduceEqDiff, Nat.reduceAdd, Nat.reduceLT, Nat.reduceLeDiff, A.okCells, A.cells, A.one, splice]
  refine W_cond rfl (fun hc => ?_) (fun hc => W_skip ?_)
  · refine W_seq (W_reg ?_); simp only [xs, xl, argS, reduceIte, Nat.reduceEqDiff, Nat.reduceAdd, Nat.reduceLT, Nat.reduceLeDiff, A.okCells, A.cells, A.one, splice]
    refine c_fn (Ha) rfl ?_; simp only [xs, xl, argS, reduceIte, Nat.reduceEqDiff, Nat.reduceAdd, Nat.reduceLT, Nat.reduceLeDiff, A.okCells, A.cells, A.one, splice]
    refine W_ret (.tmp ?_ rfl)
    simp only [x_upd, reduceIte]
  obtain ⟨h1, h2⟩ := greatRow_small hc
  have hS := Hs (trimGl l) (trimGl l)
  rw [decide_eq_true rfl] at hS
  simp only [xs, xl, argS, reduceIte, Nat.reduceEqDiff, Nat.reduceAdd, Nat.reduceLT, Nat.reduceLeDiff, A.okCells, A.cells, A.one, splice]
  refine W_seq (W_reg ?_); simp only [xs, xl, argS, reduceIte, Nat.reduceEqDiff, Nat.reduceAdd, Nat.reduceLT, Nat.reduceLeDiff, A.okCells, A.cells, A.one, splice]
  refine c_fn (Ht l) rfl ?_; simp only [xs, xl, argS, reduceIte, Nat.reduceEqDiff, Nat.reduceAdd, Nat.reduceLT, Nat.reduceLeDiff, A.okCells, A.cells, A.one, splice]
  refine c_fn (Hr l (by omega)) rfl ?_; simp only [xs, xl, argS, reduceIte, Nat.reduceEqDiff, Nat.reduceAdd, Nat.reduceLT, Nat.reduceLeDiff, A.okCells, A.cells, A.one, splice]
  refine c_fn (hS) rfl ?_; simp only [xs, xl, argS, reduceIte, Nat.reduceEqDiff, Nat.reduceAdd, Nat.reduceLT, Nat.reduceLeDiff, A.okCells, A.cells, A.one, splice]
  refine c_fn (Hw l) rfl ?_; simp only [xs, xl, argS, reduceIte, Nat.reduceEqDiff, Nat.reduceAdd, Nat.reduceLT, Nat.reduceLeDiff, A.okCells, A.cells, A.one, splice]
  refine c_fn (Hv l) rfl ?_; simp only [xs, xl, argS, reduceIte, Nat.reduceEqDiff, Nat.reduceAdd, Nat.reduceLT, Nat.reduceLeDiff, A.okCells, A.cells, A.one, splice, decide_true]
  refine c_fn (Hx l (by omega) h2) rfl ?_; simp only [xs, xl, argS, reduceIte, Nat.reduceEqDiff, Nat.reduceAdd, Nat.reduceLT, Nat.reduceLeDiff, A.okCells, A.cells, A.one, splice]
  refine c_fn (Hy l (by omega) h2) rfl ?_; simp only [xs, xl, argS, reduceIte, Nat.reduceEqDiff, Nat.reduceAdd, Nat.reduceLT, Nat.reduceLeDiff, A.okCells, A.cells, A.one, splice, decide_true]
  refine c_fn (Hi l col) rfl ?_; simp only [xs, xl, argS, reduceIte, Nat.reduceEqDiff, Nat.reduceAdd, Nat.reduceLT, Nat.reduceLeDiff, A.okCells, A.cells, A.one, splice]
  refine c_fn (Hj l col) rfl ?_; simp only [xs, xl, argS, reduceIte, Nat.reduceEqDiff, Nat.reduceAdd, Nat.reduceLT, Nat.reduceLeDiff, A.okCells, A.cells, A.one, splice, decide_true]
  refine c_fn (Ha) rfl ?_; simp only [xs, xl, argS, reduceIte, Nat.reduceEqDiff, Nat.reduceAdd, Nat.reduceLT, Nat.reduceLeDiff, A.okCells, A.cells, A.one, splice]
  refine W_ret (.tmp ?_ rfl)
  simp only [x_upd, reduceIte]

end Go.Proofs.YtmagahmklndcgaaDoor.Nx

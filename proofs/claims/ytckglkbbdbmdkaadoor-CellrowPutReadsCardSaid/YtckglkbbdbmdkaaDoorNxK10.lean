/- Layer 7: the reference's Text; the laws Check, Put, Shift, Erase. -/
import Derived.Test.YtckglkbbdbmdkaaDoorNxK8
import Derived.Test.YtckglkbbdbmdkaaDoorNxT1
namespace Go.Proofs.YtckglkbbdbmdkaaDoor.Nx
set_option linter.unusedSimpArgs false
set_option linter.unusedVariables false
set_option linter.unnecessarySimpa false
open Go

variable {P : Program} {N : Nat} {Γ : Tabs}

def bytesOf (l : List UInt8) : ByteArray := ⟨l.toArray⟩
theorem bytesOf_app {l : List UInt8} {s : ByteArray} : bytesOf l ++ s = bytesOf (l ++ s.data.toList) := by
  apply ByteArray.ext
  rw [ByteArray.data_append]
  simp [bytesOf]
theorem bytesOf_size {l : List UInt8} : (bytesOf l).size = l.length := by simp [bytesOf, ByteArray.size]

set_option maxHeartbeats 1000000 in
theorem rtext_fn {f : FuncId} (H : FnIs P f N [.t 2] x_ref07_Text) (hN : 1 ≤ N) : TextOk Γ P f := by
  intro l hl hs
  refine .of_W H (by simpa using hN) ?_
  unfold x_ref07_Text
  refine W_seq (W_reg ?_); simp only [xs, xl, argS, reduceIte, Nat.reduceEqDiff, Nat.reduceAdd, Nat.reduceLT, Nat.reduceLeDiff, A.okCells, A.cells, A.one, splice]
  refine W_seq (W_reg ?_); simp only [xs, xl, argS, reduceIte, Nat.reduceEqDiff, Nat.reduceAdd, Nat.reduceLT, Nat.reduceLeDiff, A.okCells, A.cells, A.one, splice]
  let T : Nat → ByteArray := fun i => bytesOf (txt ((l.map Ce.text).take i))
  let S : Nat → St := fun i => ⟨look [(0, .d (.sl eCe (ceRows l))), (3, .str (T i)), (4, .int i)], []⟩
  refine W_cut (· = S l.length) ?_ ?_
  · refine W_seq (W_reg ?_); simp only [xs, xl, argS, reduceIte, Nat.reduceEqDiff, Nat.reduceAdd, Nat.reduceLT, Nat.reduceLeDiff, A.okCells, A.cells, A.one, splice]
    refine W_block ?_
    refine W_co (s' := S 0) (Co.keep _ (by simp [x_upd, x_look]; rfl)) ?_
    refine W_loop (fun q s => ∃ i, i ≤ l.length ∧ q = l.length - i ∧ s = S i) ⟨0, Nat.zero_le _, rfl, rfl⟩ ?_
    rintro q s' ⟨i, hi, rfl, rfl⟩
    simp only [S]
    refine W_seq ?_
    refine W_seq (W_reg ?_); simp only [xs, xl, argS, reduceIte, Nat.reduceEqDiff, Nat.reduceAdd, Nat.reduceLT, Nat.reduceLeDiff, A.okCells, A.cells, A.one, splice, ceRows_length]
    refine W_cond rfl (fun hc => W_skip ?_) (fun hc => W_exit ?_)
    · have hlt : i < l.length := by simp only [decide_eq_true_eq] at hc; omega
      have w5 : IntKind.i64.wrap ((i : Int) + 1) = ((i + 1 : Nat) : Int) := by rw [i64_of (by omega)]; omega
      have hsz : (T i).size ≤ 1000 * i := by
        have := txt_len ((l.map Ce.text).take i) (fun s hs' => by
          obtain ⟨c, hc, rfl⟩ := List.mem_map.1 (List.mem_of_mem_take hs')
          exact hs c hc)
        simp only [T, bytesOf_size]
        rw [List.length_take, List.length_map, Nat.min_eq_left hi] at this
        exact this
      have hti : l[i].text.size ≤ 1000 := hs _ (List.getElem_mem hlt)
      have hT : T i ++ l[i].text = T (i + 1) := by
        simp only [T, bytesOf_app]
        rw [txt_succ (by simpa using hlt), List.getElem_map]
      simp only [xs, xl, argS, reduceIte, Nat.reduceEqDiff, Nat.reduceAdd, Nat.reduceLT, Nat.reduceLeDiff, A.okCells, A.cells, A.one, splice]
      refine W_seq (W_block ?_)
      refine W_reg ?_; simp only [xs, xl, argS, reduceIte, Nat.reduceEqDiff, Nat.reduceAdd, Nat.reduceLT, Nat.reduceLeDiff, A.okCells, A.cells, A.one, splice, ceRows_length, ceRows_get hlt, Ce.row, Int.toNat_natCast]
      repeat refine And.intro (by omega) ?_
      rw [b_sadd (by unfold maxLen; omega)]
      simp only [xs, xl, argS, reduceIte, Nat.reduceEqDiff, Nat.reduceAdd, Nat.reduceLT, Nat.reduceLeDiff, A.okCells, A.cells, A.one, splice, hT]
      refine W_reg ?_; simp only [xs, xl, argS, reduceIte, Nat.reduceEqDiff, Nat.reduceAdd, Nat.reduceLT, Nat.reduceLeDiff, A.okCells, A.cells, A.one, splice, w5]
      refine ⟨l.length - (i + 1), S (i + 1), by omega, Co.keep _ ?_, i + 1, hlt, rfl, rfl⟩
      simp [x_upd, x_look]
    · have hle : i = l.length := by simp only [decide_eq_false_iff_not] at hc; omega
      subst hle
      simp only [xs, xl, argS, reduceIte, Nat.reduceEqDiff, Nat.reduceAdd, Nat.reduceLT, Nat.reduceLeDiff, A.okCells, A.cells, A.one, splice]
      exact ⟨S l.length, Co.keep _ (by simp [x_upd, x_look]), rfl⟩
  rintro _ rfl
  simp only [S]
  refine W_seq (W_reg ?_); simp only [xs, xl, argS, reduceIte, Nat.reduceEqDiff, Nat.reduceAdd, Nat.reduceLT, Nat.reduceLeDiff, A.okCells, A.cells, A.one, splice]
  refine W_ret (.tmp ?_ rfl)
  simp only [x_upd, reduceIte, T]
  rw [List.take_of_length_le (by rw [List.length_map]; exact Nat.le_refl _)]
  rfl

abbrev GreatCOk (Γ : Tabs) (P : Program) (f : FuncId) : Prop := ∀ l : List Ce, FnP Γ P f [.d (.sl eCe (ceRows l))] (.bool (greatC l))
abbrev SameCOk (Γ : Tabs) (P : Program) (f : FuncId) : Prop := ∀ a b : List Ce, FnP Γ P f [.d (.sl eCe (ceRows a)), .d (.sl eCe (ceRows b))] (.bool (decide (a = b)))
abbrev BlankOk (Γ : Tabs) (P : Program) (f : FuncId) : Prop := ∀ w a b c : Int, FnP Γ P f [.int w, atA a b c] (.d (.sl eCe (ceRows (blankRow w b))))
abbrev FitOk (Γ : Tabs) (P : Program) (f : FuncId) : Prop := ∀ l : List Ce, smallR l → ∀ w : Int, FnP Γ P f [.d (.sl eCe (ceRows l)), .int w] (.d (.sl eCe (ceRows (fitR (checkR l) l w))))
theorem greatC_s {l : List Ce} (h : greatC l = false) : l.length ≤ 140 ∧ smallR l := ⟨(greatC_small h).1, fun c hc => Nat.le_trans ((greatC_small h).2 c hc) (by omega)⟩

theorem cellCheckLaw_fn {f fg fa fk fr ft fu fb fd fs : FuncId} (H : FnIs P f N [.t 6] (x_law07_CellrowCheck fg fa fk fr ft fu fb fd fs)) (hN : 3 ≤ N) (Hg : GreatCOk Γ P fg) (Ha : FnP Γ P fa [] (.bool true)) (Hk : RowOk Γ P fk) (Hr : RowOk Γ P fr) (Ht : TextOk Γ P ft) (Hu : TextOk Γ P fu) (Hb : BlankOk Γ P fb) (Hd : BlankOk Γ P fd) (Hs : SameCOk Γ P fs)
    (l : List Ce) (w a b c : Int) : FnP Γ P f [.d (.sl eCe (ceRows l)), .int w, atA a b c] (.bool true) := by
  refine .of_W H (by simpa using hN) ?_
  have hG := Hg l
  unfold x_law07_CellrowCheck
  refine W_seq (W_reg ?_); simp only [xs, xl, argS, reduceIte, Nat.reduceEqDiff, Nat.reduceAdd, Nat.reduceLT, Nat.reduceLeDiff, A.okCells, A.cells, A.one, splice]
  refine W_seq ?_
  refine W_seq (W_reg ?_); simp only [xs, xl, argS, reduceIte, Nat.reduceEqDiff, Nat.reduceAdd, Nat.reduceLT, Nat.reduceLeDiff, A.okCells, A.cells, A.one, splice]
  refine c_fn (hG) rfl ?_; simp only [xs, xl, argS, reduceIte, Nat.reduceEqDiff, Nat.reduceAdd, Nat.reduceLT, Nat.reduceLeDiff, A.okCells, A.cells, A.one, splice]
  refine W_cond rfl (fun hc => ?_) (fun hc => W_skip ?_)
  · refine W_seq (W_reg ?_); simp only [xs, xl, argS, reduceIte, Nat.reduceEqDiff, Nat.reduceAdd, Nat.reduceLT, Nat.reduceLeDiff, A.okCells, A.cells, A.one, splice]
    refine c_fn (Ha) rfl ?_; simp only [xs, xl, argS, reduceIte, Nat.reduceEqDiff, Nat.reduceAdd, Nat.reduceLT, Nat.reduceLeDiff, A.okCells, A.cells, A.one, splice]
    refine W_ret (.tmp ?_ rfl)
    simp only [x_upd, reduceIte]
  obtain ⟨h1, h2⟩ := greatC_s hc
  have hS := Hs (blankRow w b) (blankRow w b)
  rw [decide_eq_true rfl] at hS
  simp only [xs, xl, argS, reduceIte, Nat.reduceEqDiff, Nat.reduceAdd, Nat.reduceLT, Nat.reduceLeDiff, A.okCells, A.cells, A.one, splice]
  refine W_seq (W_drw (by simp) ?_); simp only [xs, xl, argS, reduceIte, Nat.reduceEqDiff, Nat.reduceAdd, Nat.reduceLT, Nat.reduceLeDiff, A.okCells, A.cells, A.one, splice]
  refine c_fn (Hk l h2) rfl ?_; simp only [xs, xl, argS, reduceIte, Nat.reduceEqDiff, Nat.reduceAdd, Nat.reduceLT, Nat.reduceLeDiff, A.okCells, A.cells, A.one, splice]
  refine c_fn (Hr l h2) rfl ?_; simp only [xs, xl, argS, reduceIte, Nat.reduceEqDiff, Nat.reduceAdd, Nat.reduceLT, Nat.reduceLeDiff, A.okCells, A.cells, A.one, splice]
  simp only [decide_true, xs, xl, argS, reduceIte, Nat.reduceEqDiff, Nat.reduceAdd, Nat.reduceLT, Nat.reduceLeDiff, A.okCells, A.cells, A.one, splice]
  refine c_fn (Ht l (by omega) h2) rfl ?_; simp only [xs, xl, argS, reduceIte, Nat.reduceEqDiff, Nat.reduceAdd, Nat.reduceLT, Nat.reduceLeDiff, A.okCells, A.cells, A.one, splice]
  refine c_fn (Hu l (by omega) h2) rfl ?_; simp only [xs, xl, argS, reduceIte, Nat.reduceEqDiff, Nat.reduceAdd, Nat.reduceLT, Nat.reduceLeDiff, A.okCells, A.cells, A.one, splice]
  simp only [decide_true, xs, xl, argS, reduceIte, Nat.reduceEqDiff, Nat.reduceAdd, Nat.reduceLT, Nat.reduceLeDiff, A.okCells, A.cells, A.one, splice]
  refine c_fn (Hb w a b c) rfl ?_; simp only [xs, xl, argS, reduceIte, Nat.reduceEqDiff, Nat.reduceAdd, Nat.reduceLT, Nat.reduceLeDiff, A.okCells, A.cells, A.one, splice]
  refine c_fn (Hd w a b c) rfl ?_; simp only [xs, xl, argS, reduceIte, Nat.reduceEqDiff, Nat.reduceAdd, Nat.reduceLT, Nat.reduceLeDiff, A.okCells, A.cells, A.one, splice]
  refine c_fn (hS) rfl ?_; simp only [xs, xl, argS, reduceIte, Nat.reduceEqDiff, Nat.reduceAdd, Nat.reduceLT, Nat.reduceLeDiff, A.okCells, A.cells, A.one, splice]
  refine c_fn (Ha) rfl ?_; simp only [xs, xl, argS, reduceIte, Nat.reduceEqDiff, Nat.reduceAdd, Nat.reduceLT, Nat.reduceLeDiff, A.okCells, A.cells, A.one, splice]
  refine W_ret (.tmp ?_ rfl)
  simp only [x_upd, reduceIte]

theorem cellPutLaw_fn {f fg fa fp fr fs : FuncId} (H : FnIs P f N [.t 8] (x_law07_CellrowPut fg fa fp fr fs)) (hN : 4 ≤ N) (Hg : GreatCOk Γ P fg) (Ha : FnP Γ P fa [] (.bool true)) (Hp : PutOk Γ P fp) (Hr : PutOk Γ P fr) (Hs : SameCOk Γ P fs)
    (l : List Ce) (col : Int) (s : ByteArray) (a b c : Int) : FnP Γ P f [.d (.sl eCe (ceRows l)), .int col, .str s, atA a b c] (.bool true) := by
  refine .of_W H (by simpa using hN) ?_
  have hG := Hg l
  unfold x_law07_CellrowPut
  refine W_seq (W_reg ?_); simp only [xs, xl, argS, reduceIte, Nat.reduceEqDiff, Nat.reduceAdd, Nat.reduceLT, Nat.reduceLeDiff, A.okCells, A.cells, A.one, splice]
  by_cases hgr : greatC l = true ∨ 40 < s.size
  · let U : St := ⟨look [(19, .bool true)], [atB a b c]⟩
    refine W_seq (W_cutX (· = U) rfl (fun K hK => ?_) ?_)
    · simp only [xs, xl, argS, reduceIte, Nat.reduceEqDiff, Nat.reduceAdd, Nat.reduceLT, Nat.reduceLeDiff, A.okCells, A.cells, A.one, splice]
      refine c_fn (hG) rfl ?_; simp only [xs, xl, argS, reduceIte, Nat.reduceEqDiff, Nat.reduceAdd, Nat.reduceLT, Nat.reduceLeDiff, A.okCells, A.cells, A.one, splice]
      cases e : greatC l
      · have e2 : decide ((40 : Int) < (s.size : Int)) = true := by rw [e] at hgr; simp at hgr; simp; omega
        simp only [xs, xl, argS, reduceIte, Nat.reduceEqDiff, Nat.reduceAdd, Nat.reduceLT, Nat.reduceLeDiff, A.okCells, A.cells, A.one, splice, e, e2]
        exact hK _ _ (Co.keep _ (by simp [x_upd, x_look])) rfl
      · simp only [xs, xl, argS, reduceIte, Nat.reduceEqDiff, Nat.reduceAdd, Nat.reduceLT, Nat.reduceLeDiff, A.okCells, A.cells, A.one, splice, e]
        exact hK _ _ (Co.keep _ (by simp [x_upd, x_look])) rfl
    rintro _ rfl
    refine W_cond rfl (fun hc => ?_) (fun hc => by simp at hc)
    refine W_seq (W_reg ?_); simp only [xs, xl, argS, reduceIte, Nat.reduceEqDiff, Nat.reduceAdd, Nat.reduceLT, Nat.reduceLeDiff, A.okCells, A.cells, A.one, splice, U]
    refine c_fn (Ha) rfl ?_; simp only [xs, xl, argS, reduceIte, Nat.reduceEqDiff, Nat.reduceAdd, Nat.reduceLT, Nat.reduceLeDiff, A.okCells, A.cells, A.one, splice]
    refine W_ret (.tmp ?_ rfl)
    simp only [x_upd, reduceIte]
  have hg : greatC l = false := by cases e : greatC l <;> simp_all
  have hs : s.size ≤ 40 := by omega
  have e2 : decide ((40 : Int) < (s.size : Int)) = false := by simp; omega
  rw [hg] at hG
  obtain ⟨h1, h2⟩ := greatC_s hg
  have S1 := Hp l h2 col s (by omega) a b c
  have S2 := Hr l h2 col s (by omega) a b c
  generalize putR l col ⟨s, widC s, a, b, c⟩ = q at S1 S2
  obtain ⟨x, e⟩ := q
  have hS := Hs x x
  rw [decide_eq_true rfl] at hS
  simp only [ceE] at S1 S2
  refine W_seq ?_
  refine W_seq (W_reg ?_); simp only [xs, xl, argS, reduceIte, Nat.reduceEqDiff, Nat.reduceAdd, Nat.reduceLT, Nat.reduceLeDiff, A.okCells, A.cells, A.one, splice]
  refine c_fn (hG) rfl ?_; simp only [xs, xl, argS, reduceIte, Nat.reduceEqDiff, Nat.reduceAdd, Nat.reduceLT, Nat.reduceLeDiff, A.okCells, A.cells, A.one, splice]
  simp only [xs, xl, argS, reduceIte, Nat.reduceEqDiff, Nat.reduceAdd, Nat.reduceLT, Nat.reduceLeDiff, A.okCells, A.cells, A.one, splice, e2]
  refine W_cond rfl (fun hc => by simp at hc) (fun hc => W_skip ?_)
  simp only [xs, xl, argS, reduceIte, Nat.reduceEqDiff, Nat.reduceAdd, Nat.reduceLT, Nat.reduceLeDiff, A.okCells, A.cells, A.one, splice]
  refine W_seq (W_reg ?_); simp only [xs, xl, argS, reduceIte, Nat.reduceEqDiff, Nat.reduceAdd, Nat.reduceLT, Nat.reduceLeDiff, A.okCells, A.cells, A.one, splice]
  refine c_fn (S1) rfl ?_; simp only [xs, xl, argS, reduceIte, Nat.reduceEqDiff, Nat.reduceAdd, Nat.reduceLT, Nat.reduceLeDiff, A.okCells, A.cells, A.one, splice]
  refine W_seq (W_reg ?_); simp only [xs, xl, argS, reduceIte, Nat.reduceEqDiff, Nat.reduceAdd, Nat.reduceLT, Nat.reduceLeDiff, A.okCells, A.cells, A.one, splice]
  refine c_fn (S2) rfl ?_; simp only [xs, xl, argS, reduceIte, Nat.reduceEqDiff, Nat.reduceAdd, Nat.reduceLT, Nat.reduceLeDiff, A.okCells, A.cells, A.one, splice]
  refine W_seq (W_reg ?_); simp only [xs, xl, argS, reduceIte, Nat.reduceEqDiff, Nat.reduceAdd, Nat.reduceLT, Nat.reduceLeDiff, A.okCells, A.cells, A.one, splice]
  refine c_fn (hS) rfl ?_; simp only [xs, xl, argS, reduceIte, Nat.reduceEqDiff, Nat.reduceAdd, Nat.reduceLT, Nat.reduceLeDiff, A.okCells, A.cells, A.one, splice]
  simp only [decide_true, xs, xl, argS, reduceIte, Nat.reduceEqDiff, Nat.reduceAdd, Nat.reduceLT, Nat.reduceLeDiff, A.okCells, A.cells, A.one, splice]
  refine c_fn (Ha) rfl ?_; simp only [xs, xl, argS, reduceIte, Nat.reduceEqDiff, Nat.reduceAdd, Nat.reduceLT, Nat.reduceLeDiff, A.okCells, A.cells, A.one, splice]
  refine W_ret (.tmp ?_ rfl)
  simp only [x_upd, reduceIte]

theorem cellShiftLaw_fn {f fg fa fi fr fs fd fe : FuncId} (H : FnIs P f N [.t 8] (x_law07_CellrowShift fg fa fi fr fs fd fe)) (hN : 4 ≤ N) (Hg : GreatCOk Γ P fg) (Ha : FnP Γ P fa [] (.bool true)) (Hi : ShiftOk insR Γ P fi) (Hr : ShiftOk insR Γ P fr) (Hs : SameCOk Γ P fs) (Hd : ShiftOk delR Γ P fd) (He : ShiftOk delR Γ P fe)
    (l : List Ce) (col n a b c : Int) : FnP Γ P f [.d (.sl eCe (ceRows l)), .int col, .int n, atA a b c] (.bool true) := by
  refine .of_W H (by simpa using hN) ?_
  have hG := Hg l
  unfold x_law07_CellrowShift
  refine W_seq (W_reg ?_); simp only [xs, xl, argS, reduceIte, Nat.reduceEqDiff, Nat.reduceAdd, Nat.reduceLT, Nat.reduceLeDiff, A.okCells, A.cells, A.one, splice]
  refine W_seq ?_
  refine W_seq (W_reg ?_); simp only [xs, xl, argS, reduceIte, Nat.reduceEqDiff, Nat.reduceAdd, Nat.reduceLT, Nat.reduceLeDiff, A.okCells, A.cells, A.one, splice]
  refine c_fn (hG) rfl ?_; simp only [xs, xl, argS, reduceIte, Nat.reduceEqDiff, Nat.reduceAdd, Nat.reduceLT, Nat.reduceLeDiff, A.okCells, A.cells, A.one, splice]
  refine W_cond rfl (fun hc => ?_) (fun hc => W_skip ?_)
  · refine W_seq (W_reg ?_); simp only [xs, xl, argS, reduceIte, Nat.reduceEqDiff, Nat.reduceAdd, Nat.reduceLT, Nat.reduceLeDiff, A.okCells, A.cells, A.one, splice]
    refine c_fn (Ha) rfl ?_; simp only [xs, xl, argS, reduceIte, Nat.reduceEqDiff, Nat.reduceAdd, Nat.reduceLT, Nat.reduceLeDiff, A.okCells, A.cells, A.one, splice]
    refine W_ret (.tmp ?_ rfl)
    simp only [x_upd, reduceIte]
  obtain ⟨h1, h2⟩ := greatC_s hc
  have S1 := Hi l h2 col n a b c
  have S2 := Hr l h2 col n a b c
  have S3 := Hd l h2 col n a b c
  have S4 := He l h2 col n a b c
  generalize insR l col n b = q at S1 S2
  generalize delR l col n b = r at S3 S4
  obtain ⟨x, e⟩ := q
  obtain ⟨y, e'⟩ := r
  have hS := Hs x x
  have hS2 := Hs y y
  rw [decide_eq_true rfl] at hS hS2
  simp only [ceE] at S1 S2 S3 S4
  simp only [xs, xl, argS, reduceIte, Nat.reduceEqDiff, Nat.reduceAdd, Nat.reduceLT, Nat.reduceLeDiff, A.okCells, A.cells, A.one, splice]
  refine W_seq (W_reg ?_); simp only [xs, xl, argS, reduceIte, Nat.reduceEqDiff, Nat.reduceAdd, Nat.reduceLT, Nat.reduceLeDiff, A.okCells, A.cells, A.one, splice]
  refine c_fn (S1) rfl ?_; simp only [xs, xl, argS, reduceIte, Nat.reduceEqDiff, Nat.reduceAdd, Nat.reduceLT, Nat.reduceLeDiff, A.okCells, A.cells, A.one, splice]
  refine W_seq (W_reg ?_); simp only [xs, xl, argS, reduceIte, Nat.reduceEqDiff, Nat.reduceAdd, Nat.reduceLT, Nat.reduceLeDiff, A.okCells, A.cells, A.one, splice]
  refine c_fn (S2) rfl ?_; simp only [xs, xl, argS, reduceIte, Nat.reduceEqDiff, Nat.reduceAdd, Nat.reduceLT, Nat.reduceLeDiff, A.okCells, A.cells, A.one, splice]
  refine W_seq ?_
  refine W_seq (W_reg ?_); simp only [xs, xl, argS, reduceIte, Nat.reduceEqDiff, Nat.reduceAdd, Nat.reduceLT, Nat.reduceLeDiff, A.okCells, A.cells, A.one, splice]
  refine c_fn (hS) rfl ?_; simp only [xs, xl, argS, reduceIte, Nat.reduceEqDiff, Nat.reduceAdd, Nat.reduceLT, Nat.reduceLeDiff, A.okCells, A.cells, A.one, splice]
  simp only [decide_true, xs, xl, argS, reduceIte, Nat.reduceEqDiff, Nat.reduceAdd, Nat.reduceLT, Nat.reduceLeDiff, A.okCells, A.cells, A.one, splice]
  refine W_cond rfl (fun hc => by simp at hc) (fun hc => W_skip ?_)
  simp only [xs, xl, argS, reduceIte, Nat.reduceEqDiff, Nat.reduceAdd, Nat.reduceLT, Nat.reduceLeDiff, A.okCells, A.cells, A.one, splice]
  refine W_seq (W_reg ?_); simp only [xs, xl, argS, reduceIte, Nat.reduceEqDiff, Nat.reduceAdd, Nat.reduceLT, Nat.reduceLeDiff, A.okCells, A.cells, A.one, splice]
  refine c_fn (S3) rfl ?_; simp only [xs, xl, argS, reduceIte, Nat.reduceEqDiff, Nat.reduceAdd, Nat.reduceLT, Nat.reduceLeDiff, A.okCells, A.cells, A.one, splice]
  refine W_seq (W_reg ?_); simp only [xs, xl, argS, reduceIte, Nat.reduceEqDiff, Nat.reduceAdd, Nat.reduceLT, Nat.reduceLeDiff, A.okCells, A.cells, A.one, splice]
  refine c_fn (S4) rfl ?_; simp only [xs, xl, argS, reduceIte, Nat.reduceEqDiff, Nat.reduceAdd, Nat.reduceLT, Nat.reduceLeDiff, A.okCells, A.cells, A.one, splice]
  refine W_seq (W_reg ?_); simp only [xs, xl, argS, reduceIte, Nat.reduceEqDiff, Nat.reduceAdd, Nat.reduceLT, Nat.reduceLeDiff, A.okCells, A.cells, A.one, splice]
  refine c_fn (hS2) rfl ?_; simp only [xs, xl, argS, reduceIte, Nat.reduceEqDiff, Nat.reduceAdd, Nat.reduceLT, Nat.reduceLeDiff, A.okCells, A.cells, A.one, splice]
  simp only [decide_true, xs, xl, argS, reduceIte, Nat.reduceEqDiff, Nat.reduceAdd, Nat.reduceLT, Nat.reduceLeDiff, A.okCells, A.cells, A.one, splice]
  refine c_fn (Ha) rfl ?_; simp only [xs, xl, argS, reduceIte, Nat.reduceEqDiff, Nat.reduceAdd, Nat.reduceLT, Nat.reduceLeDiff, A.okCells, A.cells, A.one, splice]
  refine W_ret (.tmp ?_ rfl)
  simp only [x_upd, reduceIte]

theorem cellEraseLaw_fn {f fg fa fi fr fs fd fe : FuncId} (H : FnIs P f N [.t 10] (x_law07_CellrowErase fg fa fi fr fs fd fe)) (hN : 5 ≤ N) (Hg : GreatCOk Γ P fg) (Ha : FnP Γ P fa [] (.bool true)) (Hi : ShiftOk eraR Γ P fi) (Hr : ShiftOk eraR Γ P fr) (Hs : SameCOk Γ P fs) (Hd : FitOk Γ P fd) (He : FitOk Γ P fe)
    (l : List Ce) (u t w a b c : Int) : FnP Γ P f [.d (.sl eCe (ceRows l)), .int u, .int t, .int w, atA a b c] (.bool true) := by
  refine .of_W H (by simpa using hN) ?_
  have hG := Hg l
  unfold x_law07_CellrowErase
  refine W_seq (W_reg ?_); simp only [xs, xl, argS, reduceIte, Nat.reduceEqDiff, Nat.reduceAdd, Nat.reduceLT, Nat.reduceLeDiff, A.okCells, A.cells, A.one, splice]
  refine W_seq ?_
  refine W_seq (W_reg ?_); simp only [xs, xl, argS, reduceIte, Nat.reduceEqDiff, Nat.reduceAdd, Nat.reduceLT, Nat.reduceLeDiff, A.okCells, A.cells, A.one, splice]
  refine c_fn (hG) rfl ?_; simp only [xs, xl, argS, reduceIte, Nat.reduceEqDiff, Nat.reduceAdd, Nat.reduceLT, Nat.reduceLeDiff, A.okCells, A.cells, A.one, splice]
  refine W_cond rfl (fun hc => ?_) (fun hc => W_skip ?_)
  · refine W_seq (W_reg ?_); simp only [xs, xl, argS, reduceIte, Nat.reduceEqDiff, Nat.reduceAdd, Nat.reduceLT, Nat.reduceLeDiff, A.okCells, A.cells, A.one, splice]
    refine c_fn (Ha) rfl ?_; simp only [xs, xl, argS, reduceIte, Nat.reduceEqDiff, Nat.reduceAdd, Nat.reduceLT, Nat.reduceLeDiff, A.okCells, A.cells, A.one, splice]
    refine W_ret (.tmp ?_ rfl)
    simp only [x_upd, reduceIte]
  obtain ⟨h1, h2⟩ := greatC_s hc
  have S1 := Hi l h2 u t a b c
  have S2 := Hr l h2 u t a b c
  have S3 := Hd l h2 w
  have S4 := He l h2 w
  generalize eraR l u t b = q at S1 S2
  generalize fitR (checkR l) l w = y at S3 S4
  obtain ⟨x, e⟩ := q
  have hS := Hs x x
  have hS2 := Hs y y
  rw [decide_eq_true rfl] at hS hS2
  simp only [ceE] at S1 S2
  simp only [xs, xl, argS, reduceIte, Nat.reduceEqDiff, Nat.reduceAdd, Nat.reduceLT, Nat.reduceLeDiff, A.okCells, A.cells, A.one, splice]
  refine W_seq (W_reg ?_); simp only [xs, xl, argS, reduceIte, Nat.reduceEqDiff, Nat.reduceAdd, Nat.reduceLT, Nat.reduceLeDiff, A.okCells, A.cells, A.one, splice]
  refine c_fn (S1) rfl ?_; simp only [xs, xl, argS, reduceIte, Nat.reduceEqDiff, Nat.reduceAdd, Nat.reduceLT, Nat.reduceLeDiff, A.okCells, A.cells, A.one, splice]
  refine W_seq (W_reg ?_); simp only [xs, xl, argS, reduceIte, Nat.reduceEqDiff, Nat.reduceAdd, Nat.reduceLT, Nat.reduceLeDiff, A.okCells, A.cells, A.one, splice]
  refine c_fn (S2) rfl ?_; simp only [xs, xl, argS, reduceIte, Nat.reduceEqDiff, Nat.reduceAdd, Nat.reduceLT, Nat.reduceLeDiff, A.okCells, A.cells, A.one, splice]
  refine W_seq (W_reg ?_); simp only [xs, xl, argS, reduceIte, Nat.reduceEqDiff, Nat.reduceAdd, Nat.reduceLT, Nat.reduceLeDiff, A.okCells, A.cells, A.one, splice]
  refine c_fn (hS) rfl ?_; simp only [xs, xl, argS, reduceIte, Nat.reduceEqDiff, Nat.reduceAdd, Nat.reduceLT, Nat.reduceLeDiff, A.okCells, A.cells, A.one, splice]
  simp only [decide_true, xs, xl, argS, reduceIte, Nat.reduceEqDiff, Nat.reduceAdd, Nat.reduceLT, Nat.reduceLeDiff, A.okCells, A.cells, A.one, splice]
  refine c_fn (S3) rfl ?_; simp only [xs, xl, argS, reduceIte, Nat.reduceEqDiff, Nat.reduceAdd, Nat.reduceLT, Nat.reduceLeDiff, A.okCells, A.cells, A.one, splice]
  refine c_fn (S4) rfl ?_; simp only [xs, xl, argS, reduceIte, Nat.reduceEqDiff, Nat.reduceAdd, Nat.reduceLT, Nat.reduceLeDiff, A.okCells, A.cells, A.one, splice]
  refine c_fn (hS2) rfl ?_; simp only [xs, xl, argS, reduceIte, Nat.reduceEqDiff, Nat.reduceAdd, Nat.reduceLT, Nat.reduceLeDiff, A.okCells, A.cells, A.one, splice]
  refine c_fn (Ha) rfl ?_; simp only [xs, xl, argS, reduceIte, Nat.reduceEqDiff, Nat.reduceAdd, Nat.reduceLT, Nat.reduceLeDiff, A.okCells, A.cells, A.one, splice]
  refine W_ret (.tmp ?_ rfl)
  simp only [x_upd, reduceIte]

end Go.Proofs.YtckglkbbdbmdkaaDoor.Nx

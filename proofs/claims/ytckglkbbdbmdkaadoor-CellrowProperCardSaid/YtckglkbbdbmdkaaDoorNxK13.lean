/- Layer 7: the law Proper. -/
import Derived.Test.YtckglkbbdbmdkaaDoorNxK11
namespace Go.Proofs.YtckglkbbdbmdkaaDoor.Nx
set_option linter.unusedSimpArgs false
set_option linter.unusedVariables false
set_option linter.unnecessarySimpa false
open Go

variable {P : Program} {N : Nat} {Γ : Tabs}

/-- What a function that changes a row may answer. -/
def GoodR (l : List Ce) (x : List Ce × Int) : Prop := (x.2 ≠ 0 ∧ x.1 = []) ∨ (x.2 = 0 ∧ x.1.length = l.length ∧ checkR x.1 = 0 ∧ smallR x.1)
theorem putR_good {l : List Ce} (h : checkR l = 0) (hs : smallR l) (col : Int) (s : ByteArray) (hz : s.size ≤ 1000) (a b c : Int) : GoodR l (putR l col ⟨s, widC s, a, b, c⟩) := by
  obtain ⟨k1, k2, k3⟩ := ck_pos h
  unfold putR
  rw [if_neg (fun k => k h)]
  split
  · exact .inl ⟨by decide, rfl⟩
  split
  · exact .inl ⟨by decide, rfl⟩
  split
  · exact .inl ⟨by decide, rfl⟩
  · rename_i g1 g2 g3
    have hc : chkC s = 0 := Decidable.not_not.1 g2
    have hl : (putL l col.toNat ⟨s, widC s, a, b, c⟩).length = l.length := putL_len
    have hw := chk_wid hc
    refine .inr ⟨rfl, hl, ck_of (putL_ck k3 hc rfl ?_) (by dsimp only; omega) (by dsimp only; omega), putL_small hs hz⟩
    dsimp only at g3 ⊢
    rcases hw with hw | hw <;> rw [hw] at g3 ⊢ <;> omega
theorem insR_good {l : List Ce} (h : checkR l = 0) (hs : smallR l) (col n b : Int) : GoodR l (insR l col n b) := by
  obtain ⟨k1, k2, k3⟩ := ck_pos h
  unfold insR
  rw [if_neg (fun k => k h)]
  split
  · exact .inl ⟨by decide, rfl⟩
  split
  · exact .inr ⟨rfl, rfl, h, hs⟩
  · have hm : col.toNat + minI l col.toNat n ≤ l.length := by unfold minI; omega
    have hl := insL_len (b := b) hm
    exact .inr ⟨rfl, hl, ck_of (insL_ck k3 hm (by unfold minI; omega)) (by dsimp only; omega) (by dsimp only; omega), insL_small hs⟩
theorem delR_good {l : List Ce} (h : checkR l = 0) (hs : smallR l) (col n b : Int) : GoodR l (delR l col n b) := by
  obtain ⟨k1, k2, k3⟩ := ck_pos h
  unfold delR
  rw [if_neg (fun k => k h)]
  split
  · exact .inl ⟨by decide, rfl⟩
  split
  · exact .inr ⟨rfl, rfl, h, hs⟩
  · have hm : col.toNat + minI l col.toNat n ≤ l.length := by unfold minI; omega
    have hl := delL_len (b := b) hm
    exact .inr ⟨rfl, hl, ck_of (delL_ck k3) (by dsimp only; omega) (by dsimp only; omega), delL_small hs⟩
theorem eraR_good {l : List Ce} (h : checkR l = 0) (hs : smallR l) (u t b : Int) : GoodR l (eraR l u t b) := by
  obtain ⟨k1, k2, k3⟩ := ck_pos h
  unfold eraR
  rw [if_neg (fun k => k h)]
  split
  · exact .inl ⟨by decide, rfl⟩
  split
  · exact .inl ⟨by decide, rfl⟩
  split
  · exact .inr ⟨rfl, rfl, h, hs⟩
  · have hl := eraL_len (l := l) (b := b) (show u.toNat ≤ t.toNat by omega) (by omega)
    exact .inr ⟨rfl, hl, ck_of (eraL_ck k3) (by dsimp only; omega) (by dsimp only; omega), eraL_small hs⟩

theorem cproper1_fn {f fc : FuncId} (H : FnIs P f N [.t 5] (x_law07_CellrowProper_1 fc)) (hN : 3 ≤ N) (Hc : RowOk Γ P fc) (l : List Ce) (x : List Ce × Int) (hx : GoodR l x) : FnP Γ P f [.d (.sl eCe (ceRows x.1)), .int x.2, .iptr [.sl eCe (ceRows l)]] (.bool true) := by
  refine .of_W H (by simpa using hN) ?_
  obtain ⟨x, e⟩ := x
  unfold x_law07_CellrowProper_1
  refine W_seq (W_reg ?_); simp only [xs, xl, argS, reduceIte, Nat.reduceEqDiff, Nat.reduceAdd, Nat.reduceLT, Nat.reduceLeDiff, A.okCells, A.cells, A.one, splice]
  rcases hx with ⟨he, hx⟩ | ⟨he, h1, h2, h3⟩
  · dsimp only at he hx
    subst hx
    have e1 : decide (e = 0) = false := decide_eq_false he
    have e2 : ceRows [] = [] := rfl
    refine W_sreg fun K hK => ?_
    refine run_take 8 fun K1 hK1 => ?_
    simp only [xs, xl, argS, reduceIte, Nat.reduceEqDiff, Nat.reduceAdd, Nat.reduceLT, Nat.reduceLeDiff, A.okCells, A.cells, A.one, splice, undefA, Bool.true_eq_false, e1, e2, Int.natCast_zero, decide_true]
    refine hK1 _ ?_
    simp only [xs, xl, argS, reduceIte, Nat.reduceEqDiff, Nat.reduceAdd, Nat.reduceLT, Nat.reduceLeDiff, A.okCells, A.cells, A.one, splice, undefA, Bool.true_eq_false]
    refine hK _ ?_
    refine W_ret (.tmp ?_ rfl)
    simp only [x_upd, reduceIte]
  · dsimp only at he h1 h2 h3
    subst he
    have hC := Hc x h3
    rw [h2] at hC
    refine W_sreg fun K hK => ?_
    refine run_take 8 fun K1 hK1 => ?_
    simp only [xs, xl, argS, reduceIte, Nat.reduceEqDiff, Nat.reduceAdd, Nat.reduceLT, Nat.reduceLeDiff, A.okCells, A.cells, A.one, splice, undefA, Bool.true_eq_false, decide_true]
    refine hK1 _ ?_
    simp only [xs, xl, argS, reduceIte, Nat.reduceEqDiff, Nat.reduceAdd, Nat.reduceLT, Nat.reduceLeDiff, A.okCells, A.cells, A.one, splice, decide_true, ceRows_length, h1]
    refine c_fn (hC) rfl ?_; simp only [xs, xl, argS, reduceIte, Nat.reduceEqDiff, Nat.reduceAdd, Nat.reduceLT, Nat.reduceLeDiff, A.okCells, A.cells, A.one, splice, decide_true]
    refine hK _ ?_
    refine W_ret (.tmp ?_ rfl)
    simp only [x_upd, reduceIte]

set_option maxHeartbeats 2000000 in
theorem cellProperLaw_fn {f fg fk fa fp fi fd fe f1 ff : FuncId} (H : FnIs P f N [.t 10] (x_law07_CellrowProper fg fk fa fp fi fd fe f1 ff)) (hN : 5 ≤ N) (Hg : GreatCOk Γ P fg) (Hk : RowOk Γ P fk) (Ha : FnP Γ P fa [] (.bool true)) (Hp : PutOk Γ P fp) (Hi : ShiftOk insR Γ P fi) (Hd : ShiftOk delR Γ P fd) (He : ShiftOk eraR Γ P fe)
    (H1 : ∀ l x, GoodR l x → FnP Γ P f1 [.d (.sl eCe (ceRows x.1)), .int x.2, .iptr [.sl eCe (ceRows l)]] (.bool true)) (Hf : FitOk Γ P ff)
    (l : List Ce) (col n : Int) (s : ByteArray) (a b c : Int) : FnP Γ P f [.d (.sl eCe (ceRows l)), .int col, .int n, .str s, atA a b c] (.bool true) := by
  refine .of_W H (by simpa using hN) ?_
  have hG := Hg l
  unfold x_law07_CellrowProper
  refine W_seq (W_reg ?_); simp only [xs, xl, argS, reduceIte, Nat.reduceEqDiff, Nat.reduceAdd, Nat.reduceLT, Nat.reduceLeDiff, A.okCells, A.cells, A.one, splice]
  refine W_co (s' := ⟨look [(1, .int col), (2, .int n), (3, .str s), (5, .iptr [.sl eCe (ceRows l)]), (9, .iptr (atD a b c))], []⟩) (Co.frz _ 0 ?_ (Nat.le_refl _) (Nat.zero_le _) (by simp)) ?_
  · intro p hp
    simp only [List.mem_cons, List.not_mem_nil, or_false] at hp
    rcases hp with rfl | rfl | rfl | rfl | rfl
    · exact .same rfl
    · exact .same rfl
    · exact .same rfl
    · refine .iptr (id := 0) (i := 0) (off := 0) (rows := [[.d (.sl eCe (ceRows l))]]) (Nat.zero_le _) rfl rfl fun j d hj => ?_
      match j, hj with
      | 0, hj => simp at hj; subst hj; exact ⟨by simp, .d _⟩
      | j + 1, hj => simp at hj
    · refine .iptr (id := 1) (i := 0) (off := 0) (rows := [[.int a, .int b, .int c]]) (Nat.zero_le _) rfl rfl fun j d hj => ?_
      match j, hj with
      | 0, hj => simp [atD] at hj; subst hj; exact ⟨by simp, .d _⟩
      | 1, hj => simp [atD] at hj; subst hj; exact ⟨by simp, .d _⟩
      | 2, hj => simp [atD] at hj; subst hj; exact ⟨by simp, .d _⟩
      | j + 3, hj => simp [atD] at hj
  have hat : (atD a b c).map A.d = [.int a, .int b, .int c] := rfl
  refine W_seq ?_
  obtain ⟨B1, hB1⟩ : ∃ B, B = (greatC l) := ⟨_, rfl⟩
  obtain ⟨B2, hB2⟩ : ∃ B, B = (B1 || decide ((40 : Int) < (s.size : Int))) := ⟨_, rfl⟩
  obtain ⟨B3, hB3⟩ : ∃ B, B = (B2 || !decide (checkR l = 0)) := ⟨_, rfl⟩
  refine W_cutC (· = ⟨look [(1, .int col), (2, .int n), (3, .str s), (5, .iptr [.sl eCe (ceRows l)]), (9, .iptr (atD a b c)), (32, .bool B3)], []⟩) (fun K hK => ?_) ?_
  · refine runC_cut 3 (· = ⟨look [(1, .int col), (2, .int n), (3, .str s), (5, .iptr [.sl eCe (ceRows l)]), (9, .iptr (atD a b c)), (23, .bool B1)], []⟩) rfl (by intro h; cases h) (fun K1 hK1 => ?_) ?_
    · simp only [xs, xl, argS, reduceIte, Nat.reduceEqDiff, Nat.reduceAdd, Nat.reduceLT, Nat.reduceLeDiff, A.okCells, A.cells, A.one, splice]
      refine c_fn (hG) rfl ?_; simp only [xs, xl, argS, reduceIte, Nat.reduceEqDiff, Nat.reduceAdd, Nat.reduceLT, Nat.reduceLeDiff, A.okCells, A.cells, A.one, splice, xs, xl, argS, reduceIte, Nat.reduceEqDiff, Nat.reduceAdd, Nat.reduceLT, Nat.reduceLeDiff, A.okCells, A.cells, A.one, splice]
      exact hK1 _ _ (Co.keep _ (by simp [x_upd, x_look, hB1])) rfl
    rintro _ rfl
    refine runC_cut 5 (· = ⟨look [(1, .int col), (2, .int n), (3, .str s), (5, .iptr [.sl eCe (ceRows l)]), (9, .iptr (atD a b c)), (28, .bool B2)], []⟩) rfl (by intro h; cases h) (fun K1 hK1 => ?_) ?_
    · cases B1
      · have hF : (greatC l) = false := hB1.symm
        have e1 := hF
        simp only [xs, xl, argS, reduceIte, Nat.reduceEqDiff, Nat.reduceAdd, Nat.reduceLT, Nat.reduceLeDiff, A.okCells, A.cells, A.one, splice]
        exact hK1 _ _ (Co.keep _ (by simp [x_upd, x_look, hB2])) rfl
      · simp only [xs, xl, argS, reduceIte, Nat.reduceEqDiff, Nat.reduceAdd, Nat.reduceLT, Nat.reduceLeDiff, A.okCells, A.cells, A.one, splice]
        exact hK1 _ _ (Co.keep _ (by simp [x_upd, x_look, hB2])) rfl
    rintro _ rfl
    refine runC_end rfl ?_
    cases B2
    · have hF : (B1 || decide ((40 : Int) < (s.size : Int))) = false := hB2.symm
      simp only [hB1, Bool.or_eq_false_iff] at hF
      obtain ⟨e1, e2⟩ := hF
      simp only [xs, xl, argS, reduceIte, Nat.reduceEqDiff, Nat.reduceAdd, Nat.reduceLT, Nat.reduceLeDiff, A.okCells, A.cells, A.one, splice]
      refine c_fn (Hk l (greatC_s e1).2) rfl ?_; simp only [xs, xl, argS, reduceIte, Nat.reduceEqDiff, Nat.reduceAdd, Nat.reduceLT, Nat.reduceLeDiff, A.okCells, A.cells, A.one, splice, xs, xl, argS, reduceIte, Nat.reduceEqDiff, Nat.reduceAdd, Nat.reduceLT, Nat.reduceLeDiff, A.okCells, A.cells, A.one, splice]
      exact hK _ _ (Co.keep _ (by simp [x_upd, x_look, hB3])) rfl
    · simp only [xs, xl, argS, reduceIte, Nat.reduceEqDiff, Nat.reduceAdd, Nat.reduceLT, Nat.reduceLeDiff, A.okCells, A.cells, A.one, splice]
      exact hK _ _ (Co.keep _ (by simp [x_upd, x_look, hB3])) rfl
  rintro _ rfl
  refine W_cond rfl (fun hc => ?_) (fun hc => W_skip ?_)
  · refine W_seq (W_reg ?_); simp only [xs, xl, argS, reduceIte, Nat.reduceEqDiff, Nat.reduceAdd, Nat.reduceLT, Nat.reduceLeDiff, A.okCells, A.cells, A.one, splice]
    refine c_fn (Ha) rfl ?_; simp only [xs, xl, argS, reduceIte, Nat.reduceEqDiff, Nat.reduceAdd, Nat.reduceLT, Nat.reduceLeDiff, A.okCells, A.cells, A.one, splice]
    refine W_ret (.tmp ?_ rfl)
    simp only [x_upd, reduceIte]
  simp only [hB3, hB2, hB1, Bool.or_eq_false_iff] at hc
  clear hB1 hB2 hB3
  obtain ⟨⟨e1, e2⟩, e3⟩ := hc
  simp only [xs, xl, argS, reduceIte, Nat.reduceEqDiff, Nat.reduceAdd, Nat.reduceLT, Nat.reduceLeDiff, A.okCells, A.cells, A.one, splice]
  have hg := e1
  have hz : ¬ 40 < s.size := by simp only [decide_eq_false_iff_not] at e2; omega
  have hk : checkR l = 0 := by simpa using e3
  obtain ⟨hl, hs⟩ := greatC_s hg
  obtain ⟨hl1, hl2, hrk⟩ := ck_pos hk
  have P1 := Hp l hs col s (by omega) a b c
  have P2 := Hi l hs col n a b c
  have P3 := Hd l hs col n a b c
  have P4 := He l hs col n a b c
  have G1 := H1 l _ (putR_good hk hs col s (by omega) a b c)
  have G2 := H1 l _ (insR_good hk hs col n b)
  have G3 := H1 l _ (delR_good hk hs col n b)
  have G4 := H1 l _ (eraR_good hk hs col n b)
  generalize putR l col ⟨s, widC s, a, b, c⟩ = x1 at P1 G1
  generalize insR l col n b = x2 at P2 G2
  generalize delR l col n b = x3 at P3 G3
  generalize eraR l col n b = x4 at P4 G4
  simp only [ceE] at P1 P2 P3 P4
  have F := Hf l hs n
  refine W_seq (W_reg ?_); simp only [xs, xl, argS, reduceIte, Nat.reduceEqDiff, Nat.reduceAdd, Nat.reduceLT, Nat.reduceLeDiff, A.okCells, A.cells, A.one, splice, hat]
  refine c_fn (P1) rfl ?_; simp only [xs, xl, argS, reduceIte, Nat.reduceEqDiff, Nat.reduceAdd, Nat.reduceLT, Nat.reduceLeDiff, A.okCells, A.cells, A.one, splice]
  refine W_seq (W_reg ?_); simp only [xs, xl, argS, reduceIte, Nat.reduceEqDiff, Nat.reduceAdd, Nat.reduceLT, Nat.reduceLeDiff, A.okCells, A.cells, A.one, splice, hat]
  refine c_fn (P2) rfl ?_; simp only [xs, xl, argS, reduceIte, Nat.reduceEqDiff, Nat.reduceAdd, Nat.reduceLT, Nat.reduceLeDiff, A.okCells, A.cells, A.one, splice]
  refine W_seq (W_reg ?_); simp only [xs, xl, argS, reduceIte, Nat.reduceEqDiff, Nat.reduceAdd, Nat.reduceLT, Nat.reduceLeDiff, A.okCells, A.cells, A.one, splice, hat]
  refine c_fn (P3) rfl ?_; simp only [xs, xl, argS, reduceIte, Nat.reduceEqDiff, Nat.reduceAdd, Nat.reduceLT, Nat.reduceLeDiff, A.okCells, A.cells, A.one, splice]
  refine W_seq (W_reg ?_); simp only [xs, xl, argS, reduceIte, Nat.reduceEqDiff, Nat.reduceAdd, Nat.reduceLT, Nat.reduceLeDiff, A.okCells, A.cells, A.one, splice, hat]
  refine c_fn (P4) rfl ?_; simp only [xs, xl, argS, reduceIte, Nat.reduceEqDiff, Nat.reduceAdd, Nat.reduceLT, Nat.reduceLeDiff, A.okCells, A.cells, A.one, splice]
  refine W_seq (W_reg ?_); simp only [xs, xl, argS, reduceIte, Nat.reduceEqDiff, Nat.reduceAdd, Nat.reduceLT, Nat.reduceLeDiff, A.okCells, A.cells, A.one, splice]
  refine W_seq ?_
  refine W_seq (W_reg ?_); simp only [xs, xl, argS, reduceIte, Nat.reduceEqDiff, Nat.reduceAdd, Nat.reduceLT, Nat.reduceLeDiff, A.okCells, A.cells, A.one, splice]
  refine c_clo (caps := [.iptr [.sl eCe (ceRows l)]]) G1 rfl ?_
  simp only [xs, xl, argS, reduceIte, Nat.reduceEqDiff, Nat.reduceAdd, Nat.reduceLT, Nat.reduceLeDiff, A.okCells, A.cells, A.one, splice]
  refine c_clo (caps := [.iptr [.sl eCe (ceRows l)]]) G2 rfl ?_
  simp only [xs, xl, argS, reduceIte, Nat.reduceEqDiff, Nat.reduceAdd, Nat.reduceLT, Nat.reduceLeDiff, A.okCells, A.cells, A.one, splice]
  refine c_clo (caps := [.iptr [.sl eCe (ceRows l)]]) G3 rfl ?_
  simp only [xs, xl, argS, reduceIte, Nat.reduceEqDiff, Nat.reduceAdd, Nat.reduceLT, Nat.reduceLeDiff, A.okCells, A.cells, A.one, splice]
  refine c_clo (caps := [.iptr [.sl eCe (ceRows l)]]) G4 rfl ?_
  simp only [xs, xl, argS, reduceIte, Nat.reduceEqDiff, Nat.reduceAdd, Nat.reduceLT, Nat.reduceLeDiff, A.okCells, A.cells, A.one, splice]
  refine W_cond rfl (fun hc => by simp at hc) (fun _ => W_skip ?_)
  simp only [xs, xl, argS, reduceIte, Nat.reduceEqDiff, Nat.reduceAdd, Nat.reduceLT, Nat.reduceLeDiff, A.okCells, A.cells, A.one, splice]
  refine W_seq (W_reg ?_); simp only [xs, xl, argS, reduceIte, Nat.reduceEqDiff, Nat.reduceAdd, Nat.reduceLT, Nat.reduceLeDiff, A.okCells, A.cells, A.one, splice]
  refine c_fn (F) rfl ?_; simp only [xs, xl, argS, reduceIte, Nat.reduceEqDiff, Nat.reduceAdd, Nat.reduceLT, Nat.reduceLeDiff, A.okCells, A.cells, A.one, splice]
  obtain ⟨y, hy⟩ : ∃ y, y = fitR (checkR l) l n := ⟨_, rfl⟩
  rw [← hy] at F ⊢
  let V : St := ⟨look [(2, .int n), (20, .d (.sl eCe (ceRows y))), (101, .bool (decide (n < 1 ∨ 132 < n)))], []⟩
  refine W_seq (W_cutX (· = V) rfl (fun K hK => ?_) ?_)
  · cases e : decide (n < 1)
    · simp only [xs, xl, argS, reduceIte, Nat.reduceEqDiff, Nat.reduceAdd, Nat.reduceLT, Nat.reduceLeDiff, A.okCells, A.cells, A.one, splice, e]
      exact hK _ _ (Co.keep _ (by simp only [decide_eq_false_iff_not] at e; simp [x_upd, x_look, e])) rfl
    · simp only [xs, xl, argS, reduceIte, Nat.reduceEqDiff, Nat.reduceAdd, Nat.reduceLT, Nat.reduceLeDiff, A.okCells, A.cells, A.one, splice, e]
      exact hK _ _ (Co.keep _ (by simp only [decide_eq_true_eq] at e; simp [x_upd, x_look, e])) rfl
  rintro _ rfl
  refine W_cond rfl (fun hd => ?_) (fun hd => W_skip ?_)
  · have hd : n < 1 ∨ 132 < n := of_decide_eq_true hd
    have hyn : y = [] := by rw [hy]; unfold fitR; rw [if_pos (.inr hd)]
    have e2 : ceRows y = [] := by rw [hyn]; rfl
    refine W_seq (W_reg ?_); simp only [xs, xl, argS, reduceIte, Nat.reduceEqDiff, Nat.reduceAdd, Nat.reduceLT, Nat.reduceLeDiff, A.okCells, A.cells, A.one, splice, V, e2, Int.natCast_zero, decide_true]
    refine c_fn (Ha) rfl ?_; simp only [xs, xl, argS, reduceIte, Nat.reduceEqDiff, Nat.reduceAdd, Nat.reduceLT, Nat.reduceLeDiff, A.okCells, A.cells, A.one, splice]
    refine W_ret (.tmp ?_ rfl)
    simp only [x_upd, reduceIte]
  · have hd : ¬ (n < 1 ∨ 132 < n) := of_decide_eq_false hd
    have hyn : y = fitC l n.toNat := by rw [hy]; exact fitR_ok hk (by omega) (by omega)
    obtain ⟨c1, c2⟩ := fitC_ck hk (show 1 ≤ n.toNat by omega) (by omega)
    rw [← hyn] at c1 c2
    have hC := Hk y (by rw [hyn]; exact fitC_small hs)
    rw [c1] at hC
    have e3 : decide ((y.length : Int) = n) = true := decide_eq_true (by omega)
    simp only [V, xs, xl, argS, reduceIte, Nat.reduceEqDiff, Nat.reduceAdd, Nat.reduceLT, Nat.reduceLeDiff, A.okCells, A.cells, A.one, splice]
    refine W_seq (W_reg ?_); simp only [xs, xl, argS, reduceIte, Nat.reduceEqDiff, Nat.reduceAdd, Nat.reduceLT, Nat.reduceLeDiff, A.okCells, A.cells, A.one, splice, ceRows_length, e3]
    refine c_fn (hC) rfl ?_; simp only [xs, xl, argS, reduceIte, Nat.reduceEqDiff, Nat.reduceAdd, Nat.reduceLT, Nat.reduceLeDiff, A.okCells, A.cells, A.one, splice]
    simp only [decide_true, xs, xl, argS, reduceIte, Nat.reduceEqDiff, Nat.reduceAdd, Nat.reduceLT, Nat.reduceLeDiff, A.okCells, A.cells, A.one, splice]
    refine c_fn (Ha) rfl ?_; simp only [xs, xl, argS, reduceIte, Nat.reduceEqDiff, Nat.reduceAdd, Nat.reduceLT, Nat.reduceLeDiff, A.okCells, A.cells, A.one, splice]
    refine W_ret (.tmp ?_ rfl)
    simp only [x_upd, reduceIte]

end Go.Proofs.YtckglkbbdbmdkaaDoor.Nx

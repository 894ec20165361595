/- Layer 7: the law PutReads. -/
import Derived.Test.YtckglkbbdbmdkaaDoorNxK10
namespace Go.Proofs.YtckglkbbdbmdkaaDoor.Nx
set_option linter.unusedSimpArgs false
set_option linter.unusedVariables false
set_option linter.unnecessarySimpa false
open Go

variable {P : Program} {N : Nat} {Γ : Tabs}

set_option maxHeartbeats 4000000 in
theorem cellReadsLaw_fn {f fg fa fp fw : FuncId} (H : FnIs P f N [.t 8] (x_law07_CellrowPutReads fg fa fp fw)) (hN : 4 ≤ N) (Hg : GreatCOk Γ P fg) (Ha : FnP Γ P fa [] (.bool true)) (Hp : PutOk Γ P fp) (Hw : ∀ s : ByteArray, s.size ≤ 1000 → FnP Γ P fw [.str s] (.int (widC s)))
    (l : List Ce) (col : Int) (s : ByteArray) (a b c : Int) : FnP Γ P f [.d (.sl eCe (ceRows l)), .int col, .str s, atA a b c] (.bool true) := by
  refine .of_W H (by simpa using hN) ?_
  have hG := Hg l
  unfold x_law07_CellrowPutReads
  refine W_seq (W_reg ?_); simp only [xs, xl, argS, reduceIte, Nat.reduceEqDiff, Nat.reduceAdd, Nat.reduceLT, Nat.reduceLeDiff, A.okCells, A.cells, A.one, splice]
  refine W_seq ?_
  obtain ⟨B1, hB1⟩ : ∃ B, B = (greatC l) := ⟨_, rfl⟩
  obtain ⟨B2, hB2⟩ : ∃ B, B = (B1 || decide ((40 : Int) < (s.size : Int))) := ⟨_, rfl⟩
  refine W_cutC (· = ⟨look [(0, .d (.sl eCe (ceRows l))), (1, .int col), (2, .str s), (7, .ptr 0 1 0 0), (20, .bool B2)], [atB a b c]⟩) (fun K hK => ?_) ?_
  · refine runC_cut 3 (· = ⟨look [(0, .d (.sl eCe (ceRows l))), (1, .int col), (2, .str s), (7, .ptr 0 1 0 0), (16, .bool B1)], [atB a b c]⟩) rfl (by intro h; cases h) (fun K1 hK1 => ?_) ?_
    · simp only [xs, xl, argS, reduceIte, Nat.reduceEqDiff, Nat.reduceAdd, Nat.reduceLT, Nat.reduceLeDiff, A.okCells, A.cells, A.one, splice]
      refine c_fn (hG) rfl ?_; simp only [xs, xl, argS, reduceIte, Nat.reduceEqDiff, Nat.reduceAdd, Nat.reduceLT, Nat.reduceLeDiff, A.okCells, A.cells, A.one, splice, xs, xl, argS, reduceIte, Nat.reduceEqDiff, Nat.reduceAdd, Nat.reduceLT, Nat.reduceLeDiff, A.okCells, A.cells, A.one, splice]
      exact hK1 _ _ (Co.keep _ (by simp [x_upd, x_look, hB1])) rfl
    rintro _ rfl
    refine runC_end rfl ?_
    cases B1
    · have hF : (greatC l) = false := hB1.symm
      have e1 := hF
      simp only [xs, xl, argS, reduceIte, Nat.reduceEqDiff, Nat.reduceAdd, Nat.reduceLT, Nat.reduceLeDiff, A.okCells, A.cells, A.one, splice]
      exact hK _ _ (Co.keep _ (by simp [x_upd, x_look, hB2])) rfl
    · simp only [xs, xl, argS, reduceIte, Nat.reduceEqDiff, Nat.reduceAdd, Nat.reduceLT, Nat.reduceLeDiff, A.okCells, A.cells, A.one, splice]
      exact hK _ _ (Co.keep _ (by simp [x_upd, x_look, hB2])) rfl
  rintro _ rfl
  refine W_cond rfl (fun hc => ?_) (fun hc => W_skip ?_)
  · refine W_seq (W_reg ?_); simp only [xs, xl, argS, reduceIte, Nat.reduceEqDiff, Nat.reduceAdd, Nat.reduceLT, Nat.reduceLeDiff, A.okCells, A.cells, A.one, splice]
    refine c_fn (Ha) rfl ?_; simp only [xs, xl, argS, reduceIte, Nat.reduceEqDiff, Nat.reduceAdd, Nat.reduceLT, Nat.reduceLeDiff, A.okCells, A.cells, A.one, splice]
    refine W_ret (.tmp ?_ rfl)
    simp only [x_upd, reduceIte]
  simp only [hB2, hB1, Bool.or_eq_false_iff] at hc
  clear hB1 hB2
  obtain ⟨e1, e2⟩ := hc
  simp only [xs, xl, argS, reduceIte, Nat.reduceEqDiff, Nat.reduceAdd, Nat.reduceLT, Nat.reduceLeDiff, A.okCells, A.cells, A.one, splice]
  have hg := e1
  have hz : ¬ 40 < s.size := by simp only [decide_eq_false_iff_not] at e2; omega
  obtain ⟨hl, hs⟩ := greatC_s hg
  have P1 := Hp l hs col s (by omega) a b c
  obtain ⟨r, hr⟩ : ∃ r, r = putR l col ⟨s, widC s, a, b, c⟩ := ⟨_, rfl⟩
  rw [← hr] at P1
  obtain ⟨x, e⟩ := r
  simp only [ceE] at P1
  refine W_seq (W_reg ?_); simp only [xs, xl, argS, reduceIte, Nat.reduceEqDiff, Nat.reduceAdd, Nat.reduceLT, Nat.reduceLeDiff, A.okCells, A.cells, A.one, splice]
  refine c_fn (P1) rfl ?_; simp only [xs, xl, argS, reduceIte, Nat.reduceEqDiff, Nat.reduceAdd, Nat.reduceLT, Nat.reduceLeDiff, A.okCells, A.cells, A.one, splice]
  refine W_seq ?_
  refine W_seq (W_reg ?_); simp only [xs, xl, argS, reduceIte, Nat.reduceEqDiff, Nat.reduceAdd, Nat.reduceLT, Nat.reduceLeDiff, A.okCells, A.cells, A.one, splice]
  refine W_cond rfl (fun hc => ?_) (fun hc => W_skip ?_)
  · refine W_seq (W_reg ?_); simp only [xs, xl, argS, reduceIte, Nat.reduceEqDiff, Nat.reduceAdd, Nat.reduceLT, Nat.reduceLeDiff, A.okCells, A.cells, A.one, splice]
    refine c_fn (Ha) rfl ?_; simp only [xs, xl, argS, reduceIte, Nat.reduceEqDiff, Nat.reduceAdd, Nat.reduceLT, Nat.reduceLeDiff, A.okCells, A.cells, A.one, splice]
    refine W_ret (.tmp ?_ rfl)
    simp only [x_upd, reduceIte]
  have he : e = 0 := by simpa using hc
  subst he
  -- what is known
  have known : checkR l = 0 ∧ chkC s = 0 ∧ 0 ≤ col ∧ col < l.length ∧ col + widC s ≤ l.length ∧ x = putL l col.toNat ⟨s, widC s, a, b, c⟩ := by
    unfold putR at hr
    split at hr
    · cases hr
    split at hr
    · cases hr
    split at hr
    · cases hr
    split at hr
    · cases hr
    · rename_i k1 k2 k3 k4
      dsimp only at k3 k4
      cases hr
      exact ⟨Decidable.not_not.1 k1, Decidable.not_not.1 k3, by omega, by omega, by omega, rfl⟩
  obtain ⟨hk, hck, hc0, hcl, hcw, hx⟩ := known
  obtain ⟨n, rfl⟩ : ∃ n : Nat, col = n := ⟨col.toNat, by omega⟩
  rw [Int.toNat_natCast] at hx
  obtain ⟨w, hw, hw12⟩ : ∃ w : Nat, widC s = w ∧ (w = 1 ∨ w = 2) := by
    rcases chk_wid hck with h | h
    · exact ⟨1, h, .inl rfl⟩
    · exact ⟨2, h, .inr rfl⟩
  obtain ⟨hl1, hl2, hrk⟩ := ck_pos hk
  have hnl : n < l.length := by omega
  have hnw : n + w ≤ l.length := by omega
  have hW := Hw s (by omega)
  rw [hw] at hW hx
  have hxl : x.length = l.length := by rw [hx]; exact putL_len
  have hxn : x[n]'(by omega) = ⟨s, (w : Int), a, b, c⟩ := by
    have := putL_at (l := l) (col := n) (c := ⟨s, (w : Int), a, b, c⟩) hnl
    rw [← hx, List.getElem?_eq_getElem (by omega)] at this
    exact Option.some.inj this
  have hx2 : w = 2 → ∀ h : n + 1 < x.length, x[n + 1] = ⟨⟨#[]⟩, 0, a, b, c⟩ := fun h2 h => by
    have := putL_at2 (l := l) (col := n) (c := ⟨s, (w : Int), a, b, c⟩) (by show (w : Int) = 2; omega) (by omega)
    rw [← hx, List.getElem?_eq_getElem h] at this
    exact Option.some.inj this
  have hwn : (⟨s, (w : Int), a, b, c⟩ : Ce).width.toNat = w := Int.toNat_natCast w
  have hxi : ∀ i (hi : i < l.length), ¬ (n ≤ i ∧ i < n + w) → x[i]'(by omega) = if (i + 1 = n ∧ l[i].width = 2) ∨ (i = n + w ∧ l[i].width = 0) then blankC l[i].back else l[i] := fun i hi ho => by
    have hg : l[i]? = some l[i] := List.getElem?_eq_getElem hi
    have key : (putL l n ⟨s, (w : Int), a, b, c⟩)[i]? = some (if (i + 1 = n ∧ l[i].width = 2) ∨ (i = n + w ∧ l[i].width = 0) then blankC l[i].back else l[i]) := by
      by_cases h1 : i < n
      · rw [putL_lt (okR_ck hrk) h1 hnl _ hg]
        by_cases h2 : i + 1 = n ∧ l[i].width = 2
        · rw [if_pos h2, if_pos (.inl h2)]
        · rw [if_neg h2, if_neg (by rintro (k | ⟨k, _⟩); exact h2 k; omega)]
      · rw [putL_ge (c := ⟨s, (w : Int), a, b, c⟩) (by rcases hw12 with rfl | rfl; exact .inl rfl; exact .inr rfl) (by rw [hwn]; omega) _ hg]
        by_cases h2 : i = n + w ∧ l[i].width = 0
        · rw [hwn, if_pos h2, if_pos (.inr h2)]
        · rw [hwn, if_neg h2, if_neg (by rintro (⟨k, _⟩ | k); omega; exact h2 k)]
    rw [← hx, List.getElem?_eq_getElem (by omega)] at key
    exact Option.some.inj key
  clear hx P1 hr
  have w1 : IntKind.i64.wrap ((n : Int) + 1) = ((n + 1 : Nat) : Int) := by rw [i64_of (by omega)]; omega
  have w2 : IntKind.i64.wrap ((n : Int) + (w : Int)) = ((n + w : Nat) : Int) := by rw [i64_of (by omega)]; omega
  have w3 : IntKind.i64.wrap ((n : Int) - 1) = (n : Int) - 1 := i64_of (by omega)
  simp only [xs, xl, argS, reduceIte, Nat.reduceEqDiff, Nat.reduceAdd, Nat.reduceLT, Nat.reduceLeDiff, A.okCells, A.cells, A.one, splice]
  refine W_seq (W_reg ?_); simp only [xs, xl, argS, reduceIte, Nat.reduceEqDiff, Nat.reduceAdd, Nat.reduceLT, Nat.reduceLeDiff, A.okCells, A.cells, A.one, splice]
  refine c_fn (hW) rfl ?_; simp only [xs, xl, argS, reduceIte, Nat.reduceEqDiff, Nat.reduceAdd, Nat.reduceLT, Nat.reduceLeDiff, A.okCells, A.cells, A.one, splice]
  let V : St := ⟨look [(0, .d (.sl eCe (ceRows l))), (1, .int n), (2, .str s), (7, .ptr 0 1 0 0), (9, .d (.sl eCe (ceRows x))), (11, .int w)], [atB a b c]⟩
  have d1 : decide ((n : Int) < 0) = false := by simp
  have d2 : decide ((l.length : Int) ≤ (n : Int)) = false := by simp; omega
  refine W_cut (· = V) ?_ ?_
  · refine W_seq (W_reg ?_)
    rcases hw12 with h | h
    · have d3 : decide ((w : Int) = 2) = false := by simp; omega
      simp only [xs, xl, argS, reduceIte, Nat.reduceEqDiff, Nat.reduceAdd, Nat.reduceLT, Nat.reduceLeDiff, A.okCells, A.cells, A.one, splice, undefA, Bool.true_eq_false, ceRows_length, hxl, decide_true, d1, d2, d3]
      refine W_cond rfl (fun hc => by simp at hc) (fun _ => W_skip ?_)
      exact ⟨rfl, _, Co.keep _ (by simp [x_upd, x_look]), rfl⟩
    · have d3 : decide ((w : Int) = 2) = true := by simp; omega
      have d4 : decide ((l.length : Int) ≤ ((n + 1 : Nat) : Int)) = false := by simp; omega
      simp only [xs, xl, argS, reduceIte, Nat.reduceEqDiff, Nat.reduceAdd, Nat.reduceLT, Nat.reduceLeDiff, A.okCells, A.cells, A.one, splice, undefA, Bool.true_eq_false, ceRows_length, hxl, decide_true, d1, d2, d3, w1, d4]
      refine W_cond rfl (fun hc => by simp at hc) (fun _ => W_skip ?_)
      exact ⟨rfl, _, Co.keep _ (by simp [x_upd, x_look]), rfl⟩
  rintro _ rfl
  refine W_cut (· = V) ?_ ?_
  · have r1 := ceRows_get (l := x) (i := n) (by omega)
    rw [hxn] at r1
    refine W_seq (W_drw (by simp) ?_)
    rcases hw12 with h | h
    · have d3 : decide ((w : Int) = 2) = false := by simp; omega
      simp only [V, xs, xl, argS, reduceIte, Nat.reduceEqDiff, Nat.reduceAdd, Nat.reduceLT, Nat.reduceLeDiff, A.okCells, A.cells, A.one, splice, undefA, Bool.true_eq_false, ceRows_length, hxl, Int.toNat_natCast, r1, Ce.row, decide_true, beq_self_eq_true, d3]
      repeat refine And.intro (by omega) ?_
      refine W_cond rfl (fun hc => by simp at hc) (fun _ => W_skip ?_)
      exact ⟨rfl, _, Co.keep _ (by simp [x_upd, x_look]), rfl⟩
    · have d3 : decide ((w : Int) = 2) = true := by simp; omega
      have r2 := ceRows_get (l := x) (i := n + 1) (by omega)
      rw [hx2 h (by omega)] at r2
      simp only [V, xs, xl, argS, reduceIte, Nat.reduceEqDiff, Nat.reduceAdd, Nat.reduceLT, Nat.reduceLeDiff, A.okCells, A.cells, A.one, splice, undefA, Bool.true_eq_false, ceRows_length, hxl, Int.toNat_natCast, r1, Ce.row, decide_true, beq_self_eq_true, d3, w1]
      repeat refine And.intro (by omega) ?_
      try simp only [xs, xl, argS, reduceIte, Nat.reduceEqDiff, Nat.reduceAdd, Nat.reduceLT, Nat.reduceLeDiff, A.okCells, A.cells, A.one, splice, undefA, Bool.true_eq_false, ceRows_length, hxl, Int.toNat_natCast, r2, Ce.row, decide_true, beq_self_eq_true, w1]
      repeat refine And.intro (by omega) ?_
      refine W_cond rfl (fun hc => by simp at hc) (fun _ => W_skip ?_)
      exact ⟨rfl, _, Co.keep _ (by simp [x_upd, x_look]), rfl⟩
  rintro _ rfl
  let S : Nat → St := fun i => ⟨look [(0, .d (.sl eCe (ceRows l))), (1, .int n), (9, .d (.sl eCe (ceRows x))), (11, .int w), (12, .int i)], [atB a b c]⟩
  refine W_cut (· = S l.length) ?_ ?_
  · refine W_seq (W_reg ?_); simp only [xs, xl, argS, reduceIte, Nat.reduceEqDiff, Nat.reduceAdd, Nat.reduceLT, Nat.reduceLeDiff, A.okCells, A.cells, A.one, splice, V]
    refine W_block ?_
    refine W_co (s' := S 0) (Co.keep _ (by simp [x_upd, x_look])) ?_
    refine W_loop (fun q s => ∃ i, i ≤ l.length ∧ q = l.length - i ∧ s = S i) ⟨0, Nat.zero_le _, rfl, rfl⟩ ?_
    rintro q s' ⟨i, hi, rfl, rfl⟩
    simp only [S]
    refine W_seq ?_
    refine W_seq (W_reg ?_); simp only [xs, xl, argS, reduceIte, Nat.reduceEqDiff, Nat.reduceAdd, Nat.reduceLT, Nat.reduceLeDiff, A.okCells, A.cells, A.one, splice, ceRows_length]
    refine W_cond rfl (fun hc => W_skip ?_) (fun hc => W_exit ?_)
    · have hlt : i < l.length := by simp only [decide_eq_true_eq] at hc; omega
      have hltx : i < x.length := by omega
      have w5 : IntKind.i64.wrap ((i : Int) + 1) = ((i + 1 : Nat) : Int) := by rw [i64_of (by omega)]; omega
      simp only [xs, xl, argS, reduceIte, Nat.reduceEqDiff, Nat.reduceAdd, Nat.reduceLT, Nat.reduceLeDiff, A.okCells, A.cells, A.one, splice]
      refine W_cut (· = S i) (W_block ?_) ?_
      · refine W_seq ?_
        let V1 : St := ⟨look [(0, .d (.sl eCe (ceRows l))), (1, .int n), (9, .d (.sl eCe (ceRows x))), (11, .int w), (12, .int i), (99, .bool (decide (n ≤ i ∧ i < n + w)))], [atB a b c]⟩
        refine W_cutX (· = V1) rfl (fun K hK => ?_) ?_
        · cases d1 : decide ((n : Int) ≤ (i : Int))
          · have d1' : ¬ n ≤ i := by simp only [decide_eq_false_iff_not] at d1; omega
            simp only [xs, xl, argS, reduceIte, Nat.reduceEqDiff, Nat.reduceAdd, Nat.reduceLT, Nat.reduceLeDiff, A.okCells, A.cells, A.one, splice, d1]
            exact hK _ _ (Co.keep _ (by simp [x_upd, x_look, d1'])) rfl
          · have d1' : n ≤ i := by simp only [decide_eq_true_eq] at d1; omega
            have d2 : decide ((i : Int) < ((n + w : Nat) : Int)) = decide (n ≤ i ∧ i < n + w) := by
              rw [Bool.eq_iff_iff]; simp only [decide_eq_true_eq]; omega
            simp only [xs, xl, argS, reduceIte, Nat.reduceEqDiff, Nat.reduceAdd, Nat.reduceLT, Nat.reduceLeDiff, A.okCells, A.cells, A.one, splice, d1, w2, d2]
            exact hK _ _ (Co.keep _ (by simp [x_upd, x_look])) rfl
        rintro _ rfl
        refine W_cond rfl (fun hin => W_exit ?_) (fun hin => W_skip ?_)
        · simp only [V1, xs, xl, argS, reduceIte, Nat.reduceEqDiff, Nat.reduceAdd, Nat.reduceLT, Nat.reduceLeDiff, A.okCells, A.cells, A.one, splice]
          first | exact ⟨rfl, _, Co.keep _ (by simp [x_upd, x_look]), rfl⟩ | exact ⟨_, Co.keep _ (by simp [x_upd, x_look]), rfl⟩
        have hin : ¬ (n ≤ i ∧ i < n + w) := of_decide_eq_false hin
        have hxv := hxi i hlt hin
        obtain ⟨hf, hfe⟩ : ∃ hf : Bool, hf = decide ((i + 1 = n ∧ l[i].width = 2) ∨ (i = n + w ∧ l[i].width = 0)) := ⟨_, rfl⟩
        let V2 : St := ⟨look [(0, .d (.sl eCe (ceRows l))), (1, .int n), (9, .d (.sl eCe (ceRows x))), (11, .int w), (12, .int i), (13, .bool hf)], [atB a b c]⟩
        simp only [V1, xs, xl, argS, reduceIte, Nat.reduceEqDiff, Nat.reduceAdd, Nat.reduceLT, Nat.reduceLeDiff, A.okCells, A.cells, A.one, splice]
        refine W_cutX (· = V2) rfl (fun K hK => ?_) ?_
        · cases d1 : decide ((i : Int) = (n : Int) - 1)
          · have d1' : ¬ i + 1 = n := by simp only [decide_eq_false_iff_not] at d1; omega
            cases d3 : decide ((i : Int) = ((n + w : Nat) : Int))
            · have d3' : ¬ i = n + w := by simp only [decide_eq_false_iff_not] at d3; omega
              simp only [xs, xl, argS, reduceIte, Nat.reduceEqDiff, Nat.reduceAdd, Nat.reduceLT, Nat.reduceLeDiff, A.okCells, A.cells, A.one, splice, undefA, Bool.true_eq_false, w3, w2, d1, d3]
              exact hK _ _ (Co.keep _ (by simp [x_upd, x_look, hfe, d1', d3'])) rfl
            · have d3' : i = n + w := by simp only [decide_eq_true_eq] at d3; omega
              simp only [xs, xl, argS, reduceIte, Nat.reduceEqDiff, Nat.reduceAdd, Nat.reduceLT, Nat.reduceLeDiff, A.okCells, A.cells, A.one, splice, undefA, Bool.true_eq_false, w3, w2, d1, d3, ceRows_length, ceRows_get hlt, Ce.row, Int.toNat_natCast]
              repeat refine And.intro (by omega) ?_
              have d1'' : ¬ n + w + 1 = n := by omega
              exact hK _ _ (Co.keep _ (by simp [x_upd, x_look, hfe, d1'', d3'])) rfl
          · have d1' : i + 1 = n := by simp only [decide_eq_true_eq] at d1; omega
            have d3 : decide ((i : Int) = ((n + w : Nat) : Int)) = false := by simp only [decide_eq_false_iff_not]; omega
            have d3' : ¬ i = n + w := by omega
            cases d2 : decide (l[i].width = 2)
            · have d2' : ¬ l[i].width = 2 := of_decide_eq_false d2
              simp only [xs, xl, argS, reduceIte, Nat.reduceEqDiff, Nat.reduceAdd, Nat.reduceLT, Nat.reduceLeDiff, A.okCells, A.cells, A.one, splice, undefA, Bool.true_eq_false, w3, w2, d1, d2, d3, ceRows_length, ceRows_get hlt, Ce.row, Int.toNat_natCast]
              repeat refine And.intro (by omega) ?_
              exact hK _ _ (Co.keep _ (by simp [x_upd, x_look, hfe, d2', d3'])) rfl
            · have d2' : l[i].width = 2 := of_decide_eq_true d2
              simp only [xs, xl, argS, reduceIte, Nat.reduceEqDiff, Nat.reduceAdd, Nat.reduceLT, Nat.reduceLeDiff, A.okCells, A.cells, A.one, splice, undefA, Bool.true_eq_false, w3, w2, d1, d2, ceRows_length, ceRows_get hlt, Ce.row, Int.toNat_natCast]
              repeat refine And.intro (by omega) ?_
              exact hK _ _ (Co.keep _ (by simp [x_upd, x_look, hfe, d1', d2'])) rfl
        rintro _ rfl
        refine W_sdrw (by simp) fun K hK => ?_
        cases hf
        · rw [if_neg (of_decide_eq_false hfe.symm)] at hxv
          have he := ce_eq x[i] l[i]
          rw [decide_eq_true hxv] at he
          refine run_take 20 fun K1 hK1 => ?_
          simp only [V2, xs, xl, argS, reduceIte, Nat.reduceEqDiff, Nat.reduceAdd, Nat.reduceLT, Nat.reduceLeDiff, A.okCells, A.cells, A.one, splice, undefA, Bool.true_eq_false]
          refine hK1 _ ?_
          simp only [xs, xl, argS, reduceIte, Nat.reduceEqDiff, Nat.reduceAdd, Nat.reduceLT, Nat.reduceLeDiff, A.okCells, A.cells, A.one, splice, undefA, Bool.true_eq_false, ceRows_length, ceRows_get hlt, ceRows_get hltx, Ce.row, Int.toNat_natCast, he]
          repeat refine And.intro (by omega) ?_
          refine hK _ ?_
          refine W_cond rfl (fun hc => by simp at hc) (fun _ => W_skip ?_)
          simp only [xs, xl, argS, reduceIte, Nat.reduceEqDiff, Nat.reduceAdd, Nat.reduceLT, Nat.reduceLeDiff, A.okCells, A.cells, A.one, splice]
          first | exact ⟨rfl, _, Co.keep _ (by simp [x_upd, x_look]), rfl⟩ | exact ⟨_, Co.keep _ (by simp [x_upd, x_look]), rfl⟩
        · rw [if_pos (of_decide_eq_true hfe.symm)] at hxv
          have he : (decide (x[i].text = ⟨#[32]⟩) && ((x[i].width == 1) && ((x[i].fore == -1) && ((x[i].back == l[i].back) && (x[i].flags == 0))))) = true := by
            have := ce_eq x[i] (blankC l[i].back)
            rw [decide_eq_true hxv] at this
            exact this
          refine run_take 16 fun K1 hK1 => ?_
          simp only [V2, xs, xl, argS, reduceIte, Nat.reduceEqDiff, Nat.reduceAdd, Nat.reduceLT, Nat.reduceLeDiff, A.okCells, A.cells, A.one, splice, undefA, Bool.true_eq_false, ceRows_length, ceRows_get hlt, ceRows_get hltx, Ce.row, Int.toNat_natCast, he]
          repeat refine And.intro (by omega) ?_
          refine hK1 _ ?_
          simp only [xs, xl, argS, reduceIte, Nat.reduceEqDiff, Nat.reduceAdd, Nat.reduceLT, Nat.reduceLeDiff, A.okCells, A.cells, A.one, splice, undefA, Bool.true_eq_false, he]
          refine hK _ ?_
          refine W_cond rfl (fun hc => by simp at hc) (fun _ => W_skip ?_)
          simp only [xs, xl, argS, reduceIte, Nat.reduceEqDiff, Nat.reduceAdd, Nat.reduceLT, Nat.reduceLeDiff, A.okCells, A.cells, A.one, splice]
          first | exact ⟨rfl, _, Co.keep _ (by simp [x_upd, x_look]), rfl⟩ | exact ⟨_, Co.keep _ (by simp [x_upd, x_look]), rfl⟩
      rintro _ rfl
      simp only [S]
      refine W_reg ?_; simp only [xs, xl, argS, reduceIte, Nat.reduceEqDiff, Nat.reduceAdd, Nat.reduceLT, Nat.reduceLeDiff, A.okCells, A.cells, A.one, splice, w5]
      refine ⟨l.length - (i + 1), S (i + 1), by omega, Co.keep _ ?_, i + 1, hlt, rfl, rfl⟩
      simp [x_upd, x_look]
    · have hle : i = l.length := by simp only [decide_eq_false_iff_not] at hc; omega
      subst hle
      simp only [xs, xl, argS, reduceIte, Nat.reduceEqDiff, Nat.reduceAdd, Nat.reduceLT, Nat.reduceLeDiff, A.okCells, A.cells, A.one, splice]
      exact ⟨S l.length, Co.keep _ (by simp [x_upd, x_look]), rfl⟩
  rintro _ rfl
  simp only [S]
  refine W_seq (W_reg ?_); simp only [xs, xl, argS, reduceIte, Nat.reduceEqDiff, Nat.reduceAdd, Nat.reduceLT, Nat.reduceLeDiff, A.okCells, A.cells, A.one, splice]
  refine c_fn (Ha) rfl ?_; simp only [xs, xl, argS, reduceIte, Nat.reduceEqDiff, Nat.reduceAdd, Nat.reduceLT, Nat.reduceLeDiff, A.okCells, A.cells, A.one, splice]
  refine W_ret (.tmp ?_ rfl)
  simp only [x_upd, reduceIte]

end Go.Proofs.YtckglkbbdbmdkaaDoor.Nx

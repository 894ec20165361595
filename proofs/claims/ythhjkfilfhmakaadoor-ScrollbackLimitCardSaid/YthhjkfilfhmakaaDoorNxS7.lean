/- Layer 12: the laws Newest and Limit. -/
import Derived.Test.YthhjkfilfhmakaaDoorNxS6
namespace Go.Proofs.YthhjkfilfhmakaaDoor.Nx
set_option linter.unusedSimpArgs false
set_option linter.unusedVariables false
set_option linter.unnecessarySimpa false
open Go

variable {P : Program} {N : Nat} {Γ : Tabs}

theorem lineA_in {b : List (List Ce)} {i : Nat} (hi : i < b.length) : lineA b i = .tup [.d (.sl eCe (ceRows (b[b.length - 1 - i]'(by omega)))), .int 0] := by
  have h : (0 : Int) ≤ (i : Int) ∧ (i : Int) < b.length := by omega
  simp only [lineA, lineR, lineE, if_pos h, Int.toNat_natCast]
  rw [List.getD_eq_getElem?_getD, List.getElem?_eq_getElem (show b.length - 1 - i < b.length by omega)]; rfl
theorem lineA_out {b : List (List Ce)} {i : Int} (h : ¬ (0 ≤ i ∧ i < b.length)) : lineA b i = .tup [.d (.sl eCe (ceRows [])), .int 2] := by
  simp only [lineA, lineR, lineE, if_neg h]

theorem newestLaw_fn {f fg fa fp fl fsc : FuncId} (H : FnIs P f N [.t 4] (x_law12_ScrollbackNewest fg fa fp fl fsc)) (hN : 2 ≤ N) (Hg : GreatOk Γ P fg) (Ha : FnP Γ P fa [] (.bool true)) (Hp : PushOk Γ P fp) (Hl : LineOk Γ P fl) (Hc : SCellsOk Γ P fsc)
    (b l : List (List Ce)) : FnP Γ P f [.d (.sl eRw (crRows b)), .d (.sl eRw (crRows l))] (.bool true) := by
  refine .of_W H (by simpa using hN) ?_
  unfold x_law12_ScrollbackNewest
  refine W_seq (W_reg ?_)
  simp only [xs, xl, argS, reduceIte, Nat.reduceEqDiff, Nat.reduceAdd, Nat.reduceLT, Nat.reduceLeDiff, A.okCells, A.cells, A.one, splice]
  have hG := Hg b
  have hG2 := Hg l
  let U : Bool → St := fun c => ⟨look [(0, .d (.sl eRw (crRows b))), (1, .d (.sl eRw (crRows l))), (21, .bool c)], []⟩
  refine W_seq (W_cutX (· = U (great12 b || great12 l)) rfl (fun K hK => ?_) ?_)
  · cases hg : great12 b <;> simp only [hg, Bool.false_eq_true, if_true, if_false] at hG
    · simp only [xs, xl, argS, reduceIte, Nat.reduceEqDiff, Nat.reduceAdd, Nat.reduceLT, Nat.reduceLeDiff, A.okCells, A.cells, A.one, splice]
      refine c_fn hG rfl ?_
      simp only [xs, xl, argS, reduceIte, Nat.reduceEqDiff, Nat.reduceAdd, Nat.reduceLT, Nat.reduceLeDiff, A.okCells, A.cells, A.one, splice, Int.lt_irrefl, decide_false]
      cases hg2 : great12 l <;> simp only [hg2, Bool.false_eq_true, if_true, if_false] at hG2
      · refine c_fn hG2 rfl ?_
        simp only [xs, xl, argS, reduceIte, Nat.reduceEqDiff, Nat.reduceAdd, Nat.reduceLT, Nat.reduceLeDiff, A.okCells, A.cells, A.one, splice, Int.lt_irrefl, decide_false]
        exact hK _ _ (Co.keep _ (by simp [x_upd, x_look, hg, hg2])) rfl
      · refine c_fn hG2 rfl ?_
        simp only [xs, xl, argS, reduceIte, Nat.reduceEqDiff, Nat.reduceAdd, Nat.reduceLT, Nat.reduceLeDiff, A.okCells, A.cells, A.one, splice, show decide ((0 : Int) < 1) = true from rfl]
        exact hK _ _ (Co.keep _ (by simp [x_upd, x_look, hg, hg2])) rfl
    · simp only [xs, xl, argS, reduceIte, Nat.reduceEqDiff, Nat.reduceAdd, Nat.reduceLT, Nat.reduceLeDiff, A.okCells, A.cells, A.one, splice]
      refine c_fn hG rfl ?_
      simp only [xs, xl, argS, reduceIte, Nat.reduceEqDiff, Nat.reduceAdd, Nat.reduceLT, Nat.reduceLeDiff, A.okCells, A.cells, A.one, splice, show decide ((0 : Int) < 1) = true from rfl]
      exact hK _ _ (Co.keep _ (by simp [x_upd, x_look, hg])) rfl
  rintro _ rfl
  refine W_cond rfl (fun hc => ?_) (fun hc => W_skip ?_)
  · refine W_seq (W_reg ?_)
    simp only [U, xs, xl, argS, reduceIte, Nat.reduceEqDiff, Nat.reduceAdd, Nat.reduceLT, Nat.reduceLeDiff, A.okCells, A.cells, A.one, splice]
    refine c_fn Ha rfl ?_
    simp only [xs, xl, argS, reduceIte, Nat.reduceEqDiff, Nat.reduceAdd, Nat.reduceLT, Nat.reduceLeDiff, A.okCells, A.cells, A.one, splice]
    refine W_ret (.tmp ?_ rfl)
    simp only [x_upd, reduceIte]
  have hc := hc
  rw [Bool.or_eq_false_iff] at hc
  obtain ⟨hbl, hbr⟩ := great12_small hc.1
  obtain ⟨hll, hlr⟩ := great12_small hc.2
  simp only [U, xs, xl, argS, reduceIte, Nat.reduceEqDiff, Nat.reduceAdd, Nat.reduceLT, Nat.reduceLeDiff, A.okCells, A.cells, A.one, splice]
  have P1 := Hp b l (by omega) (by omega)
  rw [lastN_all (show ((b ++ l).length : Int) ≤ 500 by simp; omega)] at P1
  refine W_seq (W_reg ?_)
  simp only [xs, xl, argS, reduceIte, Nat.reduceEqDiff, Nat.reduceAdd, Nat.reduceLT, Nat.reduceLeDiff, A.okCells, A.cells, A.one, splice]
  refine c_fn P1 rfl ?_
  simp only [xs, xl, argS, reduceIte, Nat.reduceEqDiff, Nat.reduceAdd, Nat.reduceLT, Nat.reduceLeDiff, A.okCells, A.cells, A.one, splice]
  have hcs : ((crRows b).map fun r => r.map A.d) ++ ((crRows l).map fun r => r.map A.d) = (crRows (b ++ l)).map fun r => r.map A.d := by simp [crRows]
  have hal : (b ++ l).length ≤ 24 := by simp; omega
  have hfz := frz_all (id := 0) (full := true) (e := eRw) (rows := crRows (b ++ l)) (h := [.cells eRw ((crRows (b ++ l)).map fun r => r.map A.d)]) rfl
  rw [crRows_len, List.length_append] at hfz
  generalize b ++ l = a at hcs hal hfz
  let V : St := ⟨look [(5, .d (.sl eRw (crRows a))), (6, .d (.sl eRw (crRows a)))], []⟩
  refine W_cutX (· = V) rfl (fun K hK => ?_) ?_
  · simp only [xs, xl, argS, reduceIte, Nat.reduceEqDiff, Nat.reduceAdd, Nat.reduceLT, Nat.reduceLeDiff, A.okCells, A.cells, A.one, splice, crRows_len, hcs]
    refine ⟨by simp only [room]; omega, by simp only [maxLen]; omega, by simp only [room]; omega, by simp only [maxLen]; omega, ?_⟩
    refine hK _ _ (Co.frz _ 0 ?_ (Nat.le_refl _) (Nat.zero_le _) (by simp)) rfl
    intro p hp
    simp only [List.mem_cons, List.not_mem_nil, or_false] at hp
    rcases hp with rfl | rfl
    · exact .same rfl
    · exact hfz
  rintro _ rfl
  simp only [V]
  refine W_cut (· = V) ?_ ?_
  · refine W_seq (W_reg ?_)
    simp only [xs, xl, argS, reduceIte, Nat.reduceEqDiff, Nat.reduceAdd, Nat.reduceLT, Nat.reduceLeDiff, A.okCells, A.cells, A.one, splice, crRows_len]
    refine W_block ?_
    let S : Nat → St := fun i => ⟨look [(5, .d (.sl eRw (crRows a))), (6, .d (.sl eRw (crRows a))), (32, .int a.length), (33, .int i)], []⟩
    refine W_co (s' := S 0) (Co.keep _ (by simp [x_upd, x_look])) ?_
    refine W_loop (fun m s => ∃ i, i ≤ a.length ∧ m = a.length - i ∧ s = S i) ⟨0, Nat.zero_le _, rfl, rfl⟩ ?_
    rintro m s ⟨i, hi, rfl, rfl⟩
    refine W_seq (W_reg ?_)
    simp only [S, xs, xl, argS, reduceIte, Nat.reduceEqDiff, Nat.reduceAdd, Nat.reduceLT, Nat.reduceLeDiff, A.okCells, A.cells, A.one, splice]
    refine W_seq (W_cond rfl (fun hc => W_skip ?_) (fun hc => W_exit ?_))
    · have hlt : i < a.length := by simpa using hc
      have hL := Hl a (by omega) i
      rw [lineA_in hlt] at hL
      have hgk : (crRows a).getD (a.length - 1 - i) [] = [.sl eCe (ceRows (a[a.length - 1 - i]'(by omega)))] := crRows_get (by omega)
      generalize a[a.length - 1 - i]'(by omega) = R at hL hgk
      have hS := Hc R R
      rw [decide_eq_true rfl] at hS
      have e1 : IntKind.i64.wrap ((a.length : Int) - 1) = ((a.length - 1 : Nat) : Int) := by rw [i64_of (by omega)]; omega
      have e2 : IntKind.i64.wrap (((a.length - 1 : Nat) : Int) - (i : Int)) = ((a.length - 1 - i : Nat) : Int) := by rw [i64_of (by omega)]; omega
      simp only [xs, xl, argS, reduceIte, Nat.reduceEqDiff, Nat.reduceAdd, Nat.reduceLT, Nat.reduceLeDiff, A.okCells, A.cells, A.one, splice]
      refine W_seq (W_block (W_seq (W_reg ?_)))
      simp only [xs, xl, argS, reduceIte, Nat.reduceEqDiff, Nat.reduceAdd, Nat.reduceLT, Nat.reduceLeDiff, A.okCells, A.cells, A.one, splice]
      refine W_seq (W_reg ?_)
      simp only [xs, xl, argS, reduceIte, Nat.reduceEqDiff, Nat.reduceAdd, Nat.reduceLT, Nat.reduceLeDiff, A.okCells, A.cells, A.one, splice]
      refine c_fn hL rfl ?_
      simp only [xs, xl, argS, reduceIte, Nat.reduceEqDiff, Nat.reduceAdd, Nat.reduceLT, Nat.reduceLeDiff, A.okCells, A.cells, A.one, splice]
      refine W_seq (W_reg ?_)
      simp only [xs, xl, argS, reduceIte, Nat.reduceEqDiff, Nat.reduceAdd, Nat.reduceLT, Nat.reduceLeDiff, A.okCells, A.cells, A.one, splice, decide_true, crRows_len, e1, e2, hgk]
      refine ⟨by omega, by omega, ?_⟩
      refine c_fn hS rfl ?_
      simp only [xs, xl, argS, reduceIte, Nat.reduceEqDiff, Nat.reduceAdd, Nat.reduceLT, Nat.reduceLeDiff, A.okCells, A.cells, A.one, splice]
      refine W_cond rfl (fun hd => by cases hd) (fun _ => W_skip ?_)
      simp only [xs, xl, argS, reduceIte, Nat.reduceEqDiff, Nat.reduceAdd, Nat.reduceLT, Nat.reduceLeDiff, A.okCells, A.cells, A.one, splice]
      refine W_reg ?_
      simp only [xs, xl, argS, reduceIte, Nat.reduceEqDiff, Nat.reduceAdd, Nat.reduceLT, Nat.reduceLeDiff, A.okCells, A.cells, A.one, splice]
      refine ⟨a.length - (i + 1), S (i + 1), by omega, Co.keep _ ?_, i + 1, hlt, rfl, rfl⟩
      simp [x_upd, x_look, i64_succ hlt (show a.length ≤ room by simp only [room]; omega)]
    · simp only [xs, xl, argS, reduceIte, Nat.reduceEqDiff, Nat.reduceAdd, Nat.reduceLT, Nat.reduceLeDiff, A.okCells, A.cells, A.one, splice]
      exact ⟨V, Co.keep _ (by simp [x_upd, x_look]), rfl⟩
  rintro _ rfl
  simp only [V]
  have o1 := Hl a (by omega) a.length
  rw [lineA_out (by omega)] at o1
  have o2 := Hl a (by omega) (-1)
  rw [lineA_out (by omega)] at o2
  refine W_seq (W_reg ?_)
  simp only [xs, xl, argS, reduceIte, Nat.reduceEqDiff, Nat.reduceAdd, Nat.reduceLT, Nat.reduceLeDiff, A.okCells, A.cells, A.one, splice, crRows_len]
  refine c_fn o1 rfl ?_
  simp only [xs, xl, argS, reduceIte, Nat.reduceEqDiff, Nat.reduceAdd, Nat.reduceLT, Nat.reduceLeDiff, A.okCells, A.cells, A.one, splice]
  refine W_seq (W_reg ?_)
  simp only [xs, xl, argS, reduceIte, Nat.reduceEqDiff, Nat.reduceAdd, Nat.reduceLT, Nat.reduceLeDiff, A.okCells, A.cells, A.one, splice]
  refine c_fn o2 rfl ?_
  simp only [xs, xl, argS, reduceIte, Nat.reduceEqDiff, Nat.reduceAdd, Nat.reduceLT, Nat.reduceLeDiff, A.okCells, A.cells, A.one, splice]
  refine W_seq (W_reg ?_)
  simp only [xs, xl, argS, reduceIte, Nat.reduceEqDiff, Nat.reduceAdd, Nat.reduceLT, Nat.reduceLeDiff, A.okCells, A.cells, A.one, splice, decide_true]
  refine c_fn Ha rfl ?_
  simp only [xs, xl, argS, reduceIte, Nat.reduceEqDiff, Nat.reduceAdd, Nat.reduceLT, Nat.reduceLeDiff, A.okCells, A.cells, A.one, splice]
  refine W_ret (.tmp ?_ rfl)
  simp only [x_upd, reduceIte]

/-! ### the law ScrollbackLimit -/
def numC (k : Nat) : Ce := ⟨⟨#[]⟩, k, 0, 0, 0⟩
def numR (n : Nat) : List (List Ce) := (List.range n).map fun k => [numC k]
theorem numR_len {n : Nat} : (numR n).length = n := by simp [numR]
theorem numR_succ {n : Nat} : numR (n + 1) = numR n ++ [[numC n]] := by simp [numR, List.range_succ]
theorem numR_get {n k : Nat} (hk : k < n) : (numR n)[k]? = some [numC k] := by simp [numR, hk]

set_option maxHeartbeats 2000000 in
theorem limitLaw_fn {f fg fa fp fsc : FuncId} (H : FnIs P f N [.t 4] (x_law12_ScrollbackLimit fg fa fp fsc)) (hN : 2 ≤ N) (Hg : GreatOk Γ P fg) (Ha : FnP Γ P fa [] (.bool true)) (Hp : PushOk Γ P fp) (Hc : SCellsOk Γ P fsc)
    (l : List (List Ce)) (t : Int) (ht : 0 ≤ t ∧ t ≤ 65535) : FnP Γ P f [.d (.sl eRw (crRows l)), .d (.sc (.int .u16 t))] (.bool true) := by
  refine .of_W H (by simpa using hN) ?_
  unfold x_law12_ScrollbackLimit
  refine W_seq (W_reg ?_)
  simp only [xs, xl, argS, reduceIte, Nat.reduceEqDiff, Nat.reduceAdd, Nat.reduceLT, Nat.reduceLeDiff, A.okCells, A.cells, A.one, splice]
  have hG := Hg l
  cases hg : great12 l
  all_goals simp only [hg, Bool.false_eq_true, if_true, if_false] at hG
  · obtain ⟨hl, hr⟩ := great12_small hg
    refine W_seq (W_seq (W_reg ?_))
    simp only [xs, xl, argS, reduceIte, Nat.reduceEqDiff, Nat.reduceAdd, Nat.reduceLT, Nat.reduceLeDiff, A.okCells, A.cells, A.one, splice]
    refine c_fn hG rfl ?_
    simp only [xs, xl, argS, reduceIte, Nat.reduceEqDiff, Nat.reduceAdd, Nat.reduceLT, Nat.reduceLeDiff, A.okCells, A.cells, A.one, splice]
    refine W_cond rfl (fun hc => by simp at hc) (fun _ => W_skip ?_)
    simp only [xs, xl, argS, reduceIte, Nat.reduceEqDiff, Nat.reduceAdd, Nat.reduceLT, Nat.reduceLeDiff, A.okCells, A.cells, A.one, splice]
    obtain ⟨n, hn⟩ : ∃ n : Nat, t.tmod 520 = n := ⟨(t.tmod 520).toNat, by have := Int.tmod_nonneg 520 ht.1; omega⟩
    have hn520 : n < 520 := by have := Int.tmod_lt_of_pos t (show (0 : Int) < 520 by decide); omega
    have w1 : IntKind.i64.wrap t = t := i64_of (by omega)
    refine W_seq (W_reg ?_)
    simp only [xs, xl, argS, reduceIte, Nat.reduceEqDiff, Nat.reduceAdd, Nat.reduceLT, Nat.reduceLeDiff, A.okCells, A.cells, A.one, splice, b_rem (k := .i64) (show (520 : Int) ≠ 0 by decide), w1, hn]
    refine W_seq (W_reg ?_)
    simp only [xs, xl, argS, reduceIte, Nat.reduceEqDiff, Nat.reduceAdd, Nat.reduceLT, Nat.reduceLeDiff, A.okCells, A.cells, A.one, splice]
    let cB : List (List Ce) → List (List A) := fun o => (crRows o).map fun r => r.map A.d
    have hcl : ∀ o, (cB o).length = o.length := fun o => by simp [cB, crRows]
    let V : St := ⟨look [(0, .d (.sl eRw (crRows l))), (5, .int n), (6, .d (.sl eRw (crRows (numR n))))], []⟩
    refine W_cut (· = V) ?_ ?_
    · refine W_seq (W_reg ?_)
      simp only [xs, xl, argS, reduceIte, Nat.reduceEqDiff, Nat.reduceAdd, Nat.reduceLT, Nat.reduceLeDiff, A.okCells, A.cells, A.one, splice]
      refine W_block ?_
      let S : Nat → St := fun i => ⟨look [(0, .d (.sl eRw (crRows l))), (5, .int n), (6, .ref 0 i 0 i true), (21, .int n), (22, .int i)], [.cells eRw (cB (numR i))]⟩
      refine W_co (s' := S 0) (by
        have : cB (numR 0) = [] := rfl
        simp only [S, this]; exact Co.keep _ (by simp [x_upd, x_look])) ?_
      refine W_loop (fun m s => ∃ i, i ≤ n ∧ m = n - i ∧ s = S i) ⟨0, Nat.zero_le _, rfl, rfl⟩ ?_
      rintro m s ⟨i, hi, rfl, rfl⟩
      refine W_seq (W_reg ?_)
      simp only [S, xs, xl, argS, reduceIte, Nat.reduceEqDiff, Nat.reduceAdd, Nat.reduceLT, Nat.reduceLeDiff, A.okCells, A.cells, A.one, splice]
      refine W_seq (W_cond rfl (fun hc => W_skip ?_) (fun hc => W_exit ?_))
      · have hlt : i < n := by simpa using hc
        simp only [xs, xl, argS, reduceIte, Nat.reduceEqDiff, Nat.reduceAdd, Nat.reduceLT, Nat.reduceLeDiff, A.okCells, A.cells, A.one, splice]
        let Z : St := ⟨look [(0, .d (.sl eRw (crRows l))), (5, .int n), (6, .ref 0 (i + 1) 0 (i + 1) true), (21, .int n), (22, .int i)], [.cells eRw (cB (numR (i + 1)))]⟩
        refine W_cut (· = Z) (W_block (W_seq (W_reg ?_))) ?_
        · simp only [xs, xl, argS, reduceIte, Nat.reduceEqDiff, Nat.reduceAdd, Nat.reduceLT, Nat.reduceLeDiff, A.okCells, A.cells, A.one, splice]
          refine W_reg ?_
          have hli : (cB (numR i)).length = i := by rw [hcl, numR_len]
          simp only [xs, xl, argS, reduceIte, Nat.reduceEqDiff, Nat.reduceAdd, Nat.reduceLT, Nat.reduceLeDiff, A.okCells, A.cells, A.one, splice, hli, Nat.reduceMul]
          refine ⟨by simp only [room]; omega, by simp only [maxLen]; omega, ?_⟩
          refine ⟨Z, ?_, rfl⟩
          refine Co.frzH _ 1 _ ?_ (Nat.zero_le _) (by simp) rfl ?_
          · intro p hp
            simp only [List.mem_cons, List.not_mem_nil, or_false] at hp
            rcases hp with rfl | rfl | rfl | rfl | rfl
            · exact ⟨.same rfl, rfl⟩
            · exact ⟨.same rfl, rfl⟩
            · exact ⟨.same rfl, rfl⟩
            · exact ⟨.same rfl, rfl⟩
            · exact ⟨.same rfl, rfl⟩
          · intro id hid
            have : id = 0 := by omega
            subst this
            refine ⟨eRw, _, _, rfl, rfl, ?_, fun q r r2 hq hq2 => ?_⟩
            · rw [hcl, numR_len]; simp [hcl, numR_len]
            · have hcs : cB (numR (i + 1)) = cB (numR i) ++ [[.d (.sl eCe (ceRows [numC i]))]] := by rw [numR_succ]; simp [cB, crRows]
              rw [hcs] at hq2
              rcases Nat.lt_or_ge q (cB (numR i)).length with h1 | h1
              · rw [List.getElem?_append_left h1] at hq hq2
                rw [hq] at hq2
                cases hq2
                refine ⟨rfl, fun j y hj => ?_⟩
                have hy : y.under 1 = true := (under_d (rows := crRows (numR i)) (e := eRw) (k := 1)) r (List.mem_of_getElem? hq) y (List.mem_of_getElem? hj)
                rw [List.getD_eq_getElem?_getD, hj]
                exact ⟨.same hy, hy⟩
              · rw [List.getElem?_append_right h1] at hq hq2
                cases hqq : q - (cB (numR i)).length with
                | succ q' => rw [hqq] at hq; simp at hq
                | zero =>
                  rw [hqq] at hq hq2
                  cases hq; cases hq2
                  refine ⟨rfl, fun j y hj => ?_⟩
                  cases j with
                  | succ j => simp at hj
                  | zero =>
                    cases hj
                    refine ⟨?_, rfl⟩
                    exact frz_rows (k := 1) (id := 1) (off := 0) (len := 1) (full := true) (e := eCe) (rows := ceRows [numC i]) (h := [.cells eRw (cB (numR i) ++ [[.ref 1 1 0 1 true]]), .cells eCe ((ceRows [numC i]).map fun r => r.map A.d), .cells eRw [[.ref 1 1 0 1 true]]]) (Nat.le_refl _) rfl (by simp [ceRows])
        rintro _ rfl
        refine W_reg ?_
        simp only [Z, xs, xl, argS, reduceIte, Nat.reduceEqDiff, Nat.reduceAdd, Nat.reduceLT, Nat.reduceLeDiff, A.okCells, A.cells, A.one, splice]
        refine ⟨n - (i + 1), S (i + 1), by omega, Co.keep _ ?_, i + 1, hlt, rfl, rfl⟩
        simp [x_upd, x_look, i64_succ hlt (show n ≤ room by simp only [room]; omega)]
      · have hle : i = n := by simp at hc; omega
        subst hle
        simp only [xs, xl, argS, reduceIte, Nat.reduceEqDiff, Nat.reduceAdd, Nat.reduceLT, Nat.reduceLeDiff, A.okCells, A.cells, A.one, splice]
        refine ⟨V, Co.frz _ 0 ?_ (Nat.le_refl _) (Nat.zero_le _) (by simp), rfl⟩
        intro p hp
        simp only [List.mem_cons, List.not_mem_nil, or_false] at hp
        rcases hp with rfl | rfl | rfl
        · exact .same rfl
        · exact .same rfl
        · have := frz_all (id := 0) (full := true) (e := eRw) (rows := crRows (numR i)) (h := [.cells eRw (cB (numR i))]) rfl
          rw [crRows_len, numR_len] at this
          exact this
    rintro _ rfl
    simp only [V]
    have P1 := Hp (numR n) l (by rw [numR_len]; omega) (by omega)
    obtain ⟨fr, hfr⟩ : ∃ fr, fr = n + l.length - 500 := ⟨_, rfl⟩
    have hxl : (lastN (numR n ++ l) 500).length = min (n + l.length) 500 := by
      simp only [lastN, List.length_drop, List.length_append, numR_len]; omega
    have hxi : ∀ i, (lastN (numR n ++ l) 500)[i]? = (numR n ++ l)[fr + i]? := fun i => by
      rw [lastN, List.getElem?_drop]
      have : (numR n ++ l).length - Int.toNat 500 = fr := by rw [List.length_append, numR_len, hfr]; rfl
      rw [this]
    generalize lastN (numR n ++ l) 500 = x at P1 hxl hxi
    have e1 : IntKind.i64.wrap ((n : Int) + (l.length : Int)) = ((n + l.length : Nat) : Int) := by rw [i64_of (by omega)]; omega
    have e2 : (!decide ((x.length : Int) = minmaxInt false ((n + l.length : Nat) : Int) 500)) = false := by
      have : (x.length : Int) = minmaxInt false ((n + l.length : Nat) : Int) 500 := by
        simp only [minmaxInt, Bool.false_eq_true, if_false, hxl]; split <;> omega
      simp [this]
    have e3 : IntKind.i64.wrap (((n + l.length : Nat) : Int) - (x.length : Int)) = (fr : Int) := by rw [i64_of (by omega)]; omega
    refine W_seq (W_reg ?_)
    simp only [xs, xl, argS, reduceIte, Nat.reduceEqDiff, Nat.reduceAdd, Nat.reduceLT, Nat.reduceLeDiff, A.okCells, A.cells, A.one, splice]
    refine c_fn P1 rfl ?_
    simp only [xs, xl, argS, reduceIte, Nat.reduceEqDiff, Nat.reduceAdd, Nat.reduceLT, Nat.reduceLeDiff, A.okCells, A.cells, A.one, splice]
    refine W_seq (W_seq (W_reg ?_))
    simp only [xs, xl, argS, reduceIte, Nat.reduceEqDiff, Nat.reduceAdd, Nat.reduceLT, Nat.reduceLeDiff, A.okCells, A.cells, A.one, splice, crRows_len, e1]
    refine W_cond rfl (fun hd => ?_) (fun hd => W_skip ?_)
    · rw [e2] at hd; cases hd
    simp only [xs, xl, argS, reduceIte, Nat.reduceEqDiff, Nat.reduceAdd, Nat.reduceLT, Nat.reduceLeDiff, A.okCells, A.cells, A.one, splice]
    refine W_seq (W_reg ?_)
    simp only [xs, xl, argS, reduceIte, Nat.reduceEqDiff, Nat.reduceAdd, Nat.reduceLT, Nat.reduceLeDiff, A.okCells, A.cells, A.one, splice, crRows_len, e1, e3]
    let V2 : St := ⟨look [(0, .d (.sl eRw (crRows l))), (5, .int n), (8, .d (.sl eRw (crRows x))), (9, .int fr)], []⟩
    refine W_co (s' := V2) (Co.keep _ (by simp [x_upd, x_look])) ?_
    refine W_cut (· = V2) ?_ ?_
    · refine W_seq (W_reg ?_)
      simp only [V2, xs, xl, argS, reduceIte, Nat.reduceEqDiff, Nat.reduceAdd, Nat.reduceLT, Nat.reduceLeDiff, A.okCells, A.cells, A.one, splice, crRows_len]
      refine W_block ?_
      let S : Nat → St := fun i => ⟨look [(0, .d (.sl eRw (crRows l))), (5, .int n), (8, .d (.sl eRw (crRows x))), (9, .int fr), (50, .d (.sl eRw (crRows x))), (51, .int x.length), (52, .int i)], []⟩
      refine W_co (s' := S 0) (Co.keep _ (by simp [x_upd, x_look])) ?_
      refine W_loop (fun m s => ∃ i, i ≤ x.length ∧ m = x.length - i ∧ s = S i) ⟨0, Nat.zero_le _, rfl, rfl⟩ ?_
      rintro m s ⟨i, hi, rfl, rfl⟩
      refine W_seq (W_reg ?_)
      simp only [S, xs, xl, argS, reduceIte, Nat.reduceEqDiff, Nat.reduceAdd, Nat.reduceLT, Nat.reduceLeDiff, A.okCells, A.cells, A.one, splice]
      refine W_seq (W_cond rfl (fun hc => W_skip ?_) (fun hc => W_exit ?_))
      · have hlt : i < x.length := by simpa using hc
        have hgk : (crRows x).getD i [] = [.sl eCe (ceRows x[i])] := crRows_get hlt
        have hat := hxi i
        rw [List.getElem?_eq_getElem hlt] at hat
        generalize x[i] = R at hgk hat
        have e4 : IntKind.i64.wrap ((fr : Int) + (i : Int)) = ((fr + i : Nat) : Int) := by rw [i64_of (by omega)]; omega
        simp only [xs, xl, argS, reduceIte, Nat.reduceEqDiff, Nat.reduceAdd, Nat.reduceLT, Nat.reduceLeDiff, A.okCells, A.cells, A.one, splice]
        let Z : St := ⟨look [(0, .d (.sl eRw (crRows l))), (5, .int n), (8, .d (.sl eRw (crRows x))), (9, .int fr), (50, .d (.sl eRw (crRows x))), (51, .int x.length), (52, .int i), (91, .bool false)], []⟩
        refine W_seq (W_block (W_seq (W_reg ?_)))
        simp only [xs, xl, argS, reduceIte, Nat.reduceEqDiff, Nat.reduceAdd, Nat.reduceLT, Nat.reduceLeDiff, A.okCells, A.cells, A.one, splice, hgk, crRows_len]
        refine ⟨by omega, by omega, ?_⟩
        refine W_seq (W_reg ?_)
        simp only [xs, xl, argS, reduceIte, Nat.reduceEqDiff, Nat.reduceAdd, Nat.reduceLT, Nat.reduceLeDiff, A.okCells, A.cells, A.one, splice, e4]
        let Y : St := ⟨look [(0, .d (.sl eRw (crRows l))), (5, .int n), (8, .d (.sl eRw (crRows x))), (9, .int fr), (50, .d (.sl eRw (crRows x))), (51, .int x.length), (52, .int i), (11, .d (.sl eCe (ceRows R))), (12, .int ((fr + i : Nat) : Int))], []⟩
        refine W_co (s' := Y) (Co.keep _ (by simp [x_upd, x_look])) ?_
        simp only [Y]
        refine W_cutX (· = Z) rfl (fun K hK => ?_) ?_
        · by_cases hk : fr + i < n
          · have hR : R = [numC (fr + i)] := by
              rw [List.getElem?_append_left (by rw [numR_len]; exact hk), numR_get hk] at hat
              exact Option.some.inj hat
            have d1 : decide (((fr + i : Nat) : Int) < (n : Int)) = true := decide_eq_true (by omega)
            have d2 : decide ((n : Int) ≤ ((fr + i : Nat) : Int)) = false := decide_eq_false (by omega)
            have hRl : (ceRows R).length = 1 := by rw [hR]; rfl
            have hRg : (ceRows R).getD 0 [] = [.sc (.string ⟨#[]⟩), .sc (.int .i64 ((fr + i : Nat) : Int)), .sc (.int .i64 0), .sc (.int .i64 0), .sc (.int .i64 0)] := by rw [hR]; rfl
            generalize fr + i = k at d1 d2 hRg
            refine run_take 13 fun K1 hK1 => ?_
            simp only [xs, xl, argS, reduceIte, Nat.reduceEqDiff, Nat.reduceAdd, Nat.reduceLT, Nat.reduceLeDiff, A.okCells, A.cells, A.one, splice, d1, hRl, hRg, Int.natCast_one, decide_true]
            refine ⟨by decide, by decide, ?_⟩
            refine hK1 _ ?_
            simp only [xs, xl, argS, reduceIte, Nat.reduceEqDiff, Nat.reduceAdd, Nat.reduceLT, Nat.reduceLeDiff, A.okCells, A.cells, A.one, splice, d2, decide_true]
            refine hK _ _ (Co.keep _ ?_) rfl
            simp [x_upd, x_look]
          · have hl2 : fr + i - n < l.length := by omega
            have hR : R = l[fr + i - n] := by
              rw [List.getElem?_append_right (by rw [numR_len]; omega), numR_len, List.getElem?_eq_getElem hl2] at hat
              exact Option.some.inj hat
            have d1 : decide (((fr + i : Nat) : Int) < (n : Int)) = false := decide_eq_false (by omega)
            have d2 : decide ((n : Int) ≤ ((fr + i : Nat) : Int)) = true := decide_eq_true (by omega)
            have e5 : IntKind.i64.wrap (((fr + i : Nat) : Int) - (n : Int)) = ((fr + i - n : Nat) : Int) := by rw [i64_of (by omega)]; omega
            have hgl : (crRows l).getD (fr + i - n) [] = [.sl eCe (ceRows R)] := by rw [hR]; exact crRows_get hl2
            have hS := Hc R R
            rw [decide_eq_true rfl] at hS
            generalize fr + i = k at d1 d2 e5 hgl hl2
            refine run_take 7 fun K1 hK1 => ?_
            simp only [xs, xl, argS, reduceIte, Nat.reduceEqDiff, Nat.reduceAdd, Nat.reduceLT, Nat.reduceLeDiff, A.okCells, A.cells, A.one, splice, d1]
            refine hK1 _ ?_
            refine run_take 13 fun K2 hK2 => ?_
            simp only [xs, xl, argS, reduceIte, Nat.reduceEqDiff, Nat.reduceAdd, Nat.reduceLT, Nat.reduceLeDiff, A.okCells, A.cells, A.one, splice]
            refine hK2 _ ?_
            simp only [xs, xl, argS, reduceIte, Nat.reduceEqDiff, Nat.reduceAdd, Nat.reduceLT, Nat.reduceLeDiff, A.okCells, A.cells, A.one, splice, d2, e5, hgl, crRows_len]
            refine ⟨by omega, by omega, ?_⟩
            refine c_fn hS rfl ?_
            simp only [xs, xl, argS, reduceIte, Nat.reduceEqDiff, Nat.reduceAdd, Nat.reduceLT, Nat.reduceLeDiff, A.okCells, A.cells, A.one, splice]
            refine hK _ _ (Co.keep _ ?_) rfl
            simp [x_upd, x_look]
        rintro _ rfl
        refine W_cond rfl (fun hd => by cases hd) (fun _ => W_skip ?_)
        simp only [Z, xs, xl, argS, reduceIte, Nat.reduceEqDiff, Nat.reduceAdd, Nat.reduceLT, Nat.reduceLeDiff, A.okCells, A.cells, A.one, splice]
        refine W_reg ?_
        simp only [xs, xl, argS, reduceIte, Nat.reduceEqDiff, Nat.reduceAdd, Nat.reduceLT, Nat.reduceLeDiff, A.okCells, A.cells, A.one, splice]
        refine ⟨x.length - (i + 1), S (i + 1), by omega, Co.keep _ ?_, i + 1, hlt, rfl, rfl⟩
        simp [x_upd, x_look, i64_succ hlt (show x.length ≤ room by simp only [room]; omega)]
      · simp only [xs, xl, argS, reduceIte, Nat.reduceEqDiff, Nat.reduceAdd, Nat.reduceLT, Nat.reduceLeDiff, A.okCells, A.cells, A.one, splice]
        exact ⟨V2, Co.keep _ (by simp [x_upd, x_look]), rfl⟩
    rintro _ rfl
    refine W_seq (W_reg ?_)
    simp only [V2, xs, xl, argS, reduceIte, Nat.reduceEqDiff, Nat.reduceAdd, Nat.reduceLT, Nat.reduceLeDiff, A.okCells, A.cells, A.one, splice]
    refine c_fn Ha rfl ?_
    simp only [xs, xl, argS, reduceIte, Nat.reduceEqDiff, Nat.reduceAdd, Nat.reduceLT, Nat.reduceLeDiff, A.okCells, A.cells, A.one, splice]
    refine W_ret (.tmp ?_ rfl)
    simp only [x_upd, reduceIte]
  · refine W_seq (W_seq (W_reg ?_))
    simp only [xs, xl, argS, reduceIte, Nat.reduceEqDiff, Nat.reduceAdd, Nat.reduceLT, Nat.reduceLeDiff, A.okCells, A.cells, A.one, splice]
    refine c_fn hG rfl ?_
    simp only [xs, xl, argS, reduceIte, Nat.reduceEqDiff, Nat.reduceAdd, Nat.reduceLT, Nat.reduceLeDiff, A.okCells, A.cells, A.one, splice]
    refine W_cond rfl (fun _ => ?_) (fun hc => by simp at hc)
    refine W_seq (W_reg ?_)
    simp only [xs, xl, argS, reduceIte, Nat.reduceEqDiff, Nat.reduceAdd, Nat.reduceLT, Nat.reduceLeDiff, A.okCells, A.cells, A.one, splice]
    refine c_fn Ha rfl ?_
    simp only [xs, xl, argS, reduceIte, Nat.reduceEqDiff, Nat.reduceAdd, Nat.reduceLT, Nat.reduceLeDiff, A.okCells, A.cells, A.one, splice]
    refine W_ret (.tmp ?_ rfl)
    simp only [x_upd, reduceIte]

end Go.Proofs.YthhjkfilfhmakaaDoor.Nx

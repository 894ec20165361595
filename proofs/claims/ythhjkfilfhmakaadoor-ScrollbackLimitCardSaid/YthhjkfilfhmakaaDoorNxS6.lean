/- Layer 12: the laws Rows, Trims and Pushes. -/
import Derived.Test.YthhjkfilfhmakaaDoorNxS1
namespace Go.Proofs.YthhjkfilfhmakaaDoor.Nx
set_option linter.unusedSimpArgs false
set_option linter.unusedVariables false
set_option linter.unnecessarySimpa false
open Go

variable {P : Program} {N : Nat} {Γ : Tabs}

theorem great12_small {l : List (List Ce)} (h : great12 l = false) : l.length ≤ 12 ∧ ∀ r ∈ l, r.length ≤ 140 ∧ ∀ c ∈ r, c.text.size ≤ 40 := by
  simp only [great12, Bool.or_eq_false_iff, decide_eq_false_iff_not] at h
  refine ⟨by omega, fun r hr => ?_⟩
  have := List.any_eq_false.1 h.2 r hr
  simp only [greatC, Bool.or_eq_true, decide_eq_true_eq, not_or, Bool.not_eq_true, List.any_eq_false] at this
  refine ⟨by omega, fun c hc => ?_⟩
  have := this.2 c hc
  omega

theorem lastN_all {l : List (List Ce)} {n : Int} (h : (l.length : Int) ≤ n) : lastN l n = l := by
  simp only [lastN]
  rw [show l.length - n.toNat = 0 by omega, List.drop_zero]
theorem lastN_len {l : List (List Ce)} {n : Nat} : (lastN l n).length = min n l.length := by simp [lastN]; omega
theorem lastN_lastN {l : List (List Ce)} {m n : Nat} : lastN (lastN l m) n = lastN l (min m n : Nat) := by
  simp only [lastN, List.drop_drop, List.length_drop, Int.toNat_natCast]
  congr 1; omega
theorem lastN_neg {l : List (List Ce)} {n : Int} (h : n ≤ 0) : lastN l n = [] := by
  simp only [lastN]
  rw [show n.toNat = 0 by omega, Nat.sub_zero, List.drop_length]
theorem lastN_app {a b : List (List Ce)} : lastN (a ++ b) (b.length : Nat) = b := by
  simp [lastN]

abbrev PushOk (Γ : Tabs) (P : Program) (f : FuncId) : Prop := ∀ b l : List (List Ce), b.length ≤ 10000 → l.length ≤ 10000 → FnP Γ P f [.d (.sl eRw (crRows b)), .d (.sl eRw (crRows l))] (.d (.sl eRw (crRows (lastN (b ++ l) 500))))
abbrev RPushOk (Γ : Tabs) (P : Program) (f : FuncId) : Prop := ∀ b l : List (List Ce), b.length ≤ 10000 → l.length ≤ 10000 → (∀ r ∈ b ++ l, r.length ≤ 100000) → FnP Γ P f [.d (.sl eRw (crRows b)), .d (.sl eRw (crRows l))] (.d (.sl eRw (crRows (lastN (b ++ l) 500))))
abbrev TrimOk (Γ : Tabs) (P : Program) (f : FuncId) : Prop := ∀ l : List (List Ce), l.length ≤ 100000 → ∀ n : Int, (-9223372036854775808 ≤ n ∧ n ≤ 9223372036854775807) → FnP Γ P f [.d (.sl eRw (crRows l)), .int n] (.d (.sl eRw (crRows (lastN l n))))
abbrev RTrimOk (Γ : Tabs) (P : Program) (f : FuncId) : Prop := ∀ l : List (List Ce), l.length ≤ 100000 → (∀ r ∈ l, r.length ≤ 100000) → ∀ n : Int, (-9223372036854775808 ≤ n ∧ n ≤ 9223372036854775807) → FnP Γ P f [.d (.sl eRw (crRows l)), .int n] (.d (.sl eRw (crRows (lastN l n))))
abbrev SRowsOk (Γ : Tabs) (P : Program) (f : FuncId) : Prop := ∀ a b : List (List Ce), FnP Γ P f [.d (.sl eRw (crRows a)), .d (.sl eRw (crRows b))] (.bool (decide (a = b)))
abbrev SCellsOk (Γ : Tabs) (P : Program) (f : FuncId) : Prop := ∀ a b : List Ce, FnP Γ P f [.d (.sl eCe (ceRows a)), .d (.sl eCe (ceRows b))] (.bool (decide (a = b)))
abbrev LineOk (Γ : Tabs) (P : Program) (f : FuncId) : Prop := ∀ b : List (List Ce), b.length ≤ 100000 → ∀ back : Int, FnP Γ P f [.d (.sl eRw (crRows b)), .int back] (lineA b back)
abbrev RLineOk (Γ : Tabs) (P : Program) (f : FuncId) : Prop := ∀ b : List (List Ce), b.length ≤ 100000 → (∀ l ∈ b, l.length ≤ 100000) → ∀ back : Int, FnP Γ P f [.d (.sl eRw (crRows b)), .int back] (lineA b back)
abbrev GreatOk (Γ : Tabs) (P : Program) (f : FuncId) : Prop := ∀ l : List (List Ce), FnP Γ P f [.d (.sl eRw (crRows l))] (.int (if great12 l then 1 else 0))

/-! ### the law ScrollbackTrims -/
theorem trimsLaw_fn {f fg fa ft fs : FuncId} (H : FnIs P f N [.t 6] (x_law12_ScrollbackTrims fg fa ft fs)) (hN : 3 ≤ N) (Hg : GreatOk Γ P fg) (Ha : FnP Γ P fa [] (.bool true)) (Ht : TrimOk Γ P ft) (Hs : SRowsOk Γ P fs)
    (b : List (List Ce)) (n1 n2 : Int) (h1 : 0 ≤ n1 ∧ n1 ≤ 255) (h2 : 0 ≤ n2 ∧ n2 ≤ 255) : FnP Γ P f [.d (.sl eRw (crRows b)), .d (.sc (.int .u8 n1)), .d (.sc (.int .u8 n2))] (.bool true) := by
  refine .of_W H (by simpa using hN) ?_
  unfold x_law12_ScrollbackTrims
  refine W_seq (W_reg ?_)
  simp only [xs, xl, argS, reduceIte, Nat.reduceEqDiff, Nat.reduceAdd, Nat.reduceLT, Nat.reduceLeDiff, A.okCells, A.cells, A.one, splice]
  have hG := Hg b
  cases hg : great12 b
  all_goals simp only [hg, Bool.false_eq_true, if_true, if_false] at hG
  · obtain ⟨hl, hr⟩ := great12_small hg
    refine W_seq (W_seq (W_reg ?_))
    simp only [xs, xl, argS, reduceIte, Nat.reduceEqDiff, Nat.reduceAdd, Nat.reduceLT, Nat.reduceLeDiff, A.okCells, A.cells, A.one, splice]
    refine c_fn hG rfl ?_
    simp only [xs, xl, argS, reduceIte, Nat.reduceEqDiff, Nat.reduceAdd, Nat.reduceLT, Nat.reduceLeDiff, A.okCells, A.cells, A.one, splice]
    refine W_cond rfl (fun hc => by simp at hc) (fun _ => W_skip ?_)
    simp only [xs, xl, argS, reduceIte, Nat.reduceEqDiff, Nat.reduceAdd, Nat.reduceLT, Nat.reduceLeDiff, A.okCells, A.cells, A.one, splice]
    obtain ⟨m, hm⟩ : ∃ m : Nat, n1.tmod 14 = m := ⟨(n1.tmod 14).toNat, by have := Int.tmod_nonneg 14 h1.1; omega⟩
    obtain ⟨n, hn⟩ : ∃ n : Nat, n2.tmod 14 = n := ⟨(n2.tmod 14).toNat, by have := Int.tmod_nonneg 14 h2.1; omega⟩
    have hm14 : m < 14 := by have := Int.tmod_lt_of_pos n1 (show (0 : Int) < 14 by decide); omega
    have hn14 : n < 14 := by have := Int.tmod_lt_of_pos n2 (show (0 : Int) < 14 by decide); omega
    have w1 : IntKind.i64.wrap n1 = n1 := i64_of (by omega)
    have w2 : IntKind.i64.wrap n2 = n2 := i64_of (by omega)
    refine W_seq (W_reg ?_)
    simp only [xs, xl, argS, reduceIte, Nat.reduceEqDiff, Nat.reduceAdd, Nat.reduceLT, Nat.reduceLeDiff, A.okCells, A.cells, A.one, splice, b_rem (k := .i64) (show (14 : Int) ≠ 0 by decide), w1, w2, hm, hn]
    refine W_seq (W_reg ?_)
    simp only [xs, xl, argS, reduceIte, Nat.reduceEqDiff, Nat.reduceAdd, Nat.reduceLT, Nat.reduceLeDiff, A.okCells, A.cells, A.one, splice]
    refine c_fn (Ht b (by omega) m (by omega)) rfl ?_
    simp only [xs, xl, argS, reduceIte, Nat.reduceEqDiff, Nat.reduceAdd, Nat.reduceLT, Nat.reduceLeDiff, A.okCells, A.cells, A.one, splice]
    have k1 : decide ((((lastN b m).length : Nat) : Int) = minmaxInt false (m : Int) (b.length : Int)) = true := by
      rw [lastN_len]; simp only [minmaxInt]; apply decide_eq_true; simp only [Bool.false_eq_true, if_false]; split <;> omega
    have k2 : IntKind.i64.wrap ((b.length : Int) - ((lastN b m).length : Int)) = ((b.length - (lastN b m).length : Nat) : Int) := by
      rw [lastN_len, i64_of (by omega)]; omega
    have k3 : b.drop (b.length - (lastN b m).length) = lastN b m := by
      rw [lastN_len]; simp only [lastN, Int.toNat_natCast]
      congr 1; omega
    have k4 : minmaxInt false (m : Int) (n : Int) = ((min m n : Nat) : Int) := by
      simp only [minmaxInt, Bool.false_eq_true, if_false]; split <;> omega
    have k5 : IntKind.i64.wrap (0 - (m : Int)) = -(m : Int) := by rw [i64_of (by omega)]; omega
    have k6 : (lastN b m).length ≤ b.length := by rw [lastN_len]; omega
    refine W_sreg fun K hK => ?_
    refine run_take 7 fun K1 hK1 => ?_
    simp only [xs, xl, argS, reduceIte, Nat.reduceEqDiff, Nat.reduceAdd, Nat.reduceLT, Nat.reduceLeDiff, A.okCells, A.cells, A.one, splice, crRows_len, k1]
    refine hK1 _ ?_
    refine run_take 10 fun K2 hK2 => ?_
    simp only [xs, xl, argS, reduceIte, Nat.reduceEqDiff, Nat.reduceAdd, Nat.reduceLT, Nat.reduceLeDiff, A.okCells, A.cells, A.one, splice, crRows_len, k2, crRows_drop, k3]
    refine ⟨by omega, by omega, by omega, by omega, ?_⟩
    rw [List.take_of_length_le (by rw [crRows_len]; omega)]
    have hS := Hs (lastN b m) (lastN b m)
    rw [decide_eq_true rfl] at hS
    refine c_fn hS rfl ?_
    simp only [xs, xl, argS, reduceIte, Nat.reduceEqDiff, Nat.reduceAdd, Nat.reduceLT, Nat.reduceLeDiff, A.okCells, A.cells, A.one, splice]
    refine hK2 _ ?_
    refine run_take 12 fun K3 hK3 => ?_
    simp only [xs, xl, argS, reduceIte, Nat.reduceEqDiff, Nat.reduceAdd, Nat.reduceLT, Nat.reduceLeDiff, A.okCells, A.cells, A.one, splice]
    refine c_fn (Ht (lastN b m) (by omega) n (by omega)) rfl ?_
    simp only [xs, xl, argS, reduceIte, Nat.reduceEqDiff, Nat.reduceAdd, Nat.reduceLT, Nat.reduceLeDiff, A.okCells, A.cells, A.one, splice, k4]
    refine c_fn (Ht b (by omega) ((min m n : Nat) : Int) (by omega)) rfl ?_
    simp only [xs, xl, argS, reduceIte, Nat.reduceEqDiff, Nat.reduceAdd, Nat.reduceLT, Nat.reduceLeDiff, A.okCells, A.cells, A.one, splice, lastN_lastN]
    have hS2 := Hs (lastN b (min m n : Nat)) (lastN b (min m n : Nat))
    rw [decide_eq_true rfl] at hS2
    refine c_fn hS2 rfl ?_
    simp only [xs, xl, argS, reduceIte, Nat.reduceEqDiff, Nat.reduceAdd, Nat.reduceLT, Nat.reduceLeDiff, A.okCells, A.cells, A.one, splice]
    refine hK3 _ ?_
    simp only [xs, xl, argS, reduceIte, Nat.reduceEqDiff, Nat.reduceAdd, Nat.reduceLT, Nat.reduceLeDiff, A.okCells, A.cells, A.one, splice, k5]
    refine c_fn (Ht b (by omega) (-(m : Int)) (by omega)) rfl ?_
    rw [lastN_neg (show -(m : Int) ≤ 0 by omega)]
    simp only [xs, xl, argS, reduceIte, Nat.reduceEqDiff, Nat.reduceAdd, Nat.reduceLT, Nat.reduceLeDiff, A.okCells, A.cells, A.one, splice, crRows_len, Int.natCast_zero, decide_true]
    refine c_fn Ha rfl ?_
    simp only [xs, xl, argS, reduceIte, Nat.reduceEqDiff, Nat.reduceAdd, Nat.reduceLT, Nat.reduceLeDiff, A.okCells, A.cells, A.one, splice]
    refine hK _ ?_
    refine W_ret (.tmp ?_ rfl)
    simp only [x_upd, reduceIte]
  · refine W_seq (W_seq (W_reg ?_))
    simp only [xs, xl, argS, reduceIte, Nat.reduceEqDiff, Nat.reduceAdd, Nat.reduceLT, Nat.reduceLeDiff, A.okCells, A.cells, A.one, splice]
    refine c_fn hG rfl ?_
    simp only [xs, xl, argS, reduceIte, Nat.reduceEqDiff, Nat.reduceAdd, Nat.reduceLT, Nat.reduceLeDiff, A.okCells, A.cells, A.one, splice]
    refine W_cond rfl (fun _ => ?_) (fun hc => by simp at hc)
    refine W_seq (W_reg ?_)
    simp only [xs, xl, argS, reduceIte, Nat.reduceEqDiff, Nat.reduceAdd, Nat.reduceLT, Nat.reduceLeDiff, A.okCells, A.cells, A.one, splice]
    refine c_fn Ha rfl ?_
    simp only [xs, xl, argS, reduceIte, Nat.reduceEqDiff, Nat.reduceAdd, Nat.reduceLT, Nat.reduceLeDiff, A.okCells, A.cells, A.one, splice]
    refine W_ret (.tmp ?_ rfl)
    simp only [x_upd, reduceIte]

/-! ### the law ScrollbackRows -/
theorem rowsLaw_fn {f fg fa fl frl fp frp fsr fsc ft frt : FuncId} (H : FnIs P f N [.t 8] (x_law12_ScrollbackRows fg fa fl frl fp frp fsr fsc ft frt)) (hN : 4 ≤ N) (Hg : GreatOk Γ P fg) (Ha : FnP Γ P fa [] (.bool true)) (Hl : LineOk Γ P fl) (Hrl : RLineOk Γ P frl)
    (Hp : PushOk Γ P fp) (Hrp : RPushOk Γ P frp) (Hs : SRowsOk Γ P fsr) (Hc : SCellsOk Γ P fsc) (Ht : TrimOk Γ P ft) (Hrt : RTrimOk Γ P frt)
    (b l : List (List Ce)) (back most : Int) (hm : -9223372036854775808 ≤ most ∧ most ≤ 9223372036854775807) : FnP Γ P f [.d (.sl eRw (crRows b)), .d (.sl eRw (crRows l)), .int back, .int most] (.bool true) := by
  refine .of_W H (by simpa using hN) ?_
  unfold x_law12_ScrollbackRows
  refine W_seq (W_reg ?_)
  simp only [xs, xl, argS, reduceIte, Nat.reduceEqDiff, Nat.reduceAdd, Nat.reduceLT, Nat.reduceLeDiff, A.okCells, A.cells, A.one, splice]
  have hG := Hg b
  have hG2 := Hg l
  let U : Bool → St := fun c => ⟨look [(0, .d (.sl eRw (crRows b))), (1, .d (.sl eRw (crRows l))), (2, .int back), (3, .int most), (20, .bool c)], []⟩
  refine W_seq (W_cutX (· = U (great12 b || great12 l)) rfl (fun K hK => ?_) ?_)
  · cases hg : great12 b <;> cases hg2 : great12 l <;> simp only [hg, hg2, Bool.false_eq_true, if_true, if_false] at hG hG2
    all_goals simp only [xs, xl, argS, reduceIte, Nat.reduceEqDiff, Nat.reduceAdd, Nat.reduceLT, Nat.reduceLeDiff, A.okCells, A.cells, A.one, splice]
    all_goals refine c_fn hG rfl ?_
    all_goals simp only [xs, xl, argS, reduceIte, Nat.reduceEqDiff, Nat.reduceAdd, Nat.reduceLT, Nat.reduceLeDiff, A.okCells, A.cells, A.one, splice, Int.lt_irrefl, decide_false, show decide ((0 : Int) < 1) = true from rfl]
    · refine c_fn hG2 rfl ?_
      simp only [xs, xl, argS, reduceIte, Nat.reduceEqDiff, Nat.reduceAdd, Nat.reduceLT, Nat.reduceLeDiff, A.okCells, A.cells, A.one, splice, Int.lt_irrefl, decide_false]
      exact hK _ _ (Co.keep _ (by simp [x_upd, x_look, hg, hg2])) rfl
    · refine c_fn hG2 rfl ?_
      simp only [xs, xl, argS, reduceIte, Nat.reduceEqDiff, Nat.reduceAdd, Nat.reduceLT, Nat.reduceLeDiff, A.okCells, A.cells, A.one, splice, show decide ((0 : Int) < 1) = true from rfl]
      exact hK _ _ (Co.keep _ (by simp [x_upd, x_look, hg, hg2])) rfl
    · exact hK _ _ (Co.keep _ (by simp [x_upd, x_look, hg, hg2])) rfl
    · exact hK _ _ (Co.keep _ (by simp [x_upd, x_look, hg, hg2])) rfl
  rintro _ rfl
  refine W_cond rfl (fun hc => ?_) (fun hc => W_skip ?_)
  · refine W_seq (W_reg ?_)
    simp only [U, xs, xl, argS, reduceIte, Nat.reduceEqDiff, Nat.reduceAdd, Nat.reduceLT, Nat.reduceLeDiff, A.okCells, A.cells, A.one, splice]
    refine c_fn Ha rfl ?_
    simp only [xs, xl, argS, reduceIte, Nat.reduceEqDiff, Nat.reduceAdd, Nat.reduceLT, Nat.reduceLeDiff, A.okCells, A.cells, A.one, splice]
    refine W_ret (.tmp ?_ rfl)
    simp only [x_upd, reduceIte]
  have hc := hc
  rw [Bool.or_eq_false_iff] at hc
  obtain ⟨hbl, hbr⟩ := great12_small hc.1
  obtain ⟨hll, hlr⟩ := great12_small hc.2
  simp only [U, xs, xl, argS, reduceIte, Nat.reduceEqDiff, Nat.reduceAdd, Nat.reduceLT, Nat.reduceLeDiff, A.okCells, A.cells, A.one, splice]
  refine W_seq (W_reg ?_)
  simp only [xs, xl, argS, reduceIte, Nat.reduceEqDiff, Nat.reduceAdd, Nat.reduceLT, Nat.reduceLeDiff, A.okCells, A.cells, A.one, splice]
  refine c_fn (Hl b (by omega) back) rfl ?_
  simp only [lineA, xs, xl, argS, reduceIte, Nat.reduceEqDiff, Nat.reduceAdd, Nat.reduceLT, Nat.reduceLeDiff, A.okCells, A.cells, A.one, splice]
  refine W_seq (W_reg ?_)
  simp only [xs, xl, argS, reduceIte, Nat.reduceEqDiff, Nat.reduceAdd, Nat.reduceLT, Nat.reduceLeDiff, A.okCells, A.cells, A.one, splice]
  refine c_fn (Hrl b (by omega) (fun r hr => by have := (hbr r hr).1; omega) back) rfl ?_
  simp only [lineA, xs, xl, argS, reduceIte, Nat.reduceEqDiff, Nat.reduceAdd, Nat.reduceLT, Nat.reduceLeDiff, A.okCells, A.cells, A.one, splice]
  refine W_sreg fun K hK => ?_
  have hS := Hs (lastN (b ++ l) 500) (lastN (b ++ l) 500)
  rw [decide_eq_true rfl] at hS
  have hC := Hc (lineR b back) (lineR b back)
  rw [decide_eq_true rfl] at hC
  have hS2 := Hs (lastN b most) (lastN b most)
  rw [decide_eq_true rfl] at hS2
  refine run_take 7 fun K1 hK1 => ?_
  simp only [xs, xl, argS, reduceIte, Nat.reduceEqDiff, Nat.reduceAdd, Nat.reduceLT, Nat.reduceLeDiff, A.okCells, A.cells, A.one, splice]
  refine c_fn (Hp b l (by omega) (by omega)) rfl ?_
  simp only [xs, xl, argS, reduceIte, Nat.reduceEqDiff, Nat.reduceAdd, Nat.reduceLT, Nat.reduceLeDiff, A.okCells, A.cells, A.one, splice]
  refine c_fn (Hrp b l (by omega) (by omega) (fun r hr => by
    rcases List.mem_append.1 hr with h | h
    · have := (hbr r h).1; omega
    · have := (hlr r h).1; omega)) rfl ?_
  simp only [xs, xl, argS, reduceIte, Nat.reduceEqDiff, Nat.reduceAdd, Nat.reduceLT, Nat.reduceLeDiff, A.okCells, A.cells, A.one, splice]
  refine c_fn hS rfl ?_
  simp only [xs, xl, argS, reduceIte, Nat.reduceEqDiff, Nat.reduceAdd, Nat.reduceLT, Nat.reduceLeDiff, A.okCells, A.cells, A.one, splice]
  refine hK1 _ ?_
  refine run_take 10 fun K2 hK2 => ?_
  simp only [xs, xl, argS, reduceIte, Nat.reduceEqDiff, Nat.reduceAdd, Nat.reduceLT, Nat.reduceLeDiff, A.okCells, A.cells, A.one, splice]
  refine c_fn hC rfl ?_
  simp only [xs, xl, argS, reduceIte, Nat.reduceEqDiff, Nat.reduceAdd, Nat.reduceLT, Nat.reduceLeDiff, A.okCells, A.cells, A.one, splice, decide_true]
  refine hK2 _ ?_
  simp only [xs, xl, argS, reduceIte, Nat.reduceEqDiff, Nat.reduceAdd, Nat.reduceLT, Nat.reduceLeDiff, A.okCells, A.cells, A.one, splice]
  refine c_fn (Ht b (by omega) most hm) rfl ?_
  simp only [xs, xl, argS, reduceIte, Nat.reduceEqDiff, Nat.reduceAdd, Nat.reduceLT, Nat.reduceLeDiff, A.okCells, A.cells, A.one, splice]
  refine c_fn (Hrt b (by omega) (fun r hr => by have := (hbr r hr).1; omega) most hm) rfl ?_
  simp only [xs, xl, argS, reduceIte, Nat.reduceEqDiff, Nat.reduceAdd, Nat.reduceLT, Nat.reduceLeDiff, A.okCells, A.cells, A.one, splice]
  refine c_fn hS2 rfl ?_
  simp only [xs, xl, argS, reduceIte, Nat.reduceEqDiff, Nat.reduceAdd, Nat.reduceLT, Nat.reduceLeDiff, A.okCells, A.cells, A.one, splice]
  refine c_fn Ha rfl ?_
  simp only [xs, xl, argS, reduceIte, Nat.reduceEqDiff, Nat.reduceAdd, Nat.reduceLT, Nat.reduceLeDiff, A.okCells, A.cells, A.one, splice]
  refine hK _ ?_
  refine W_ret (.tmp ?_ rfl)
  simp only [x_upd, reduceIte]

/-! ### the law ScrollbackPushes -/
theorem pushesLaw_fn {f fg fa fp fs ft : FuncId} (H : FnIs P f N [.t 6] (x_law12_ScrollbackPushes fg fa fp fs ft)) (hN : 3 ≤ N) (Hg : GreatOk Γ P fg) (Ha : FnP Γ P fa [] (.bool true)) (Hp : PushOk Γ P fp) (Hs : SRowsOk Γ P fs) (Ht : TrimOk Γ P ft)
    (b k l : List (List Ce)) : FnP Γ P f [.d (.sl eRw (crRows b)), .d (.sl eRw (crRows k)), .d (.sl eRw (crRows l))] (.bool true) := by
  refine .of_W H (by simpa using hN) ?_
  unfold x_law12_ScrollbackPushes
  refine W_seq (W_reg ?_)
  simp only [xs, xl, argS, reduceIte, Nat.reduceEqDiff, Nat.reduceAdd, Nat.reduceLT, Nat.reduceLeDiff, A.okCells, A.cells, A.one, splice]
  have hG := Hg b
  have hG2 := Hg k
  have hG3 := Hg l
  let U : Bool → St := fun c => ⟨look [(0, .d (.sl eRw (crRows b))), (1, .d (.sl eRw (crRows k))), (2, .d (.sl eRw (crRows l))), (21, .bool c)], []⟩
  refine W_seq (W_cutX (· = U (great12 b || great12 k || great12 l)) rfl (fun K hK => ?_) ?_)
  · cases hg : great12 b <;> simp only [hg, Bool.false_eq_true, if_true, if_false] at hG
    · simp only [xs, xl, argS, reduceIte, Nat.reduceEqDiff, Nat.reduceAdd, Nat.reduceLT, Nat.reduceLeDiff, A.okCells, A.cells, A.one, splice]
      refine c_fn hG rfl ?_
      simp only [xs, xl, argS, reduceIte, Nat.reduceEqDiff, Nat.reduceAdd, Nat.reduceLT, Nat.reduceLeDiff, A.okCells, A.cells, A.one, splice, Int.lt_irrefl, decide_false]
      cases hg2 : great12 k <;> simp only [hg2, Bool.false_eq_true, if_true, if_false] at hG2
      · refine c_fn hG2 rfl ?_
        simp only [xs, xl, argS, reduceIte, Nat.reduceEqDiff, Nat.reduceAdd, Nat.reduceLT, Nat.reduceLeDiff, A.okCells, A.cells, A.one, splice, Int.lt_irrefl, decide_false]
        cases hg3 : great12 l <;> simp only [hg3, Bool.false_eq_true, if_true, if_false] at hG3
        · refine c_fn hG3 rfl ?_
          simp only [xs, xl, argS, reduceIte, Nat.reduceEqDiff, Nat.reduceAdd, Nat.reduceLT, Nat.reduceLeDiff, A.okCells, A.cells, A.one, splice, Int.lt_irrefl, decide_false]
          exact hK _ _ (Co.keep _ (by simp [x_upd, x_look, hg, hg2, hg3])) rfl
        · refine c_fn hG3 rfl ?_
          simp only [xs, xl, argS, reduceIte, Nat.reduceEqDiff, Nat.reduceAdd, Nat.reduceLT, Nat.reduceLeDiff, A.okCells, A.cells, A.one, splice, show decide ((0 : Int) < 1) = true from rfl]
          exact hK _ _ (Co.keep _ (by simp [x_upd, x_look, hg, hg2, hg3])) rfl
      · refine c_fn hG2 rfl ?_
        simp only [xs, xl, argS, reduceIte, Nat.reduceEqDiff, Nat.reduceAdd, Nat.reduceLT, Nat.reduceLeDiff, A.okCells, A.cells, A.one, splice, show decide ((0 : Int) < 1) = true from rfl]
        exact hK _ _ (Co.keep _ (by simp [x_upd, x_look, hg, hg2])) rfl
    · simp only [xs, xl, argS, reduceIte, Nat.reduceEqDiff, Nat.reduceAdd, Nat.reduceLT, Nat.reduceLeDiff, A.okCells, A.cells, A.one, splice]
      refine c_fn hG rfl ?_
      simp only [xs, xl, argS, reduceIte, Nat.reduceEqDiff, Nat.reduceAdd, Nat.reduceLT, Nat.reduceLeDiff, A.okCells, A.cells, A.one, splice, show decide ((0 : Int) < 1) = true from rfl]
      exact hK _ _ (Co.keep _ (by simp [x_upd, x_look, hg])) rfl
  rintro _ rfl
  refine W_cond rfl (fun hc => ?_) (fun hc => W_skip ?_)
  · refine W_seq (W_reg ?_)
    simp only [U, xs, xl, argS, reduceIte, Nat.reduceEqDiff, Nat.reduceAdd, Nat.reduceLT, Nat.reduceLeDiff, A.okCells, A.cells, A.one, splice]
    refine c_fn Ha rfl ?_
    simp only [xs, xl, argS, reduceIte, Nat.reduceEqDiff, Nat.reduceAdd, Nat.reduceLT, Nat.reduceLeDiff, A.okCells, A.cells, A.one, splice]
    refine W_ret (.tmp ?_ rfl)
    simp only [x_upd, reduceIte]
  have hc := hc
  rw [Bool.or_eq_false_iff, Bool.or_eq_false_iff] at hc
  obtain ⟨hbl, hbr⟩ := great12_small hc.1.1
  obtain ⟨hkl, hkr⟩ := great12_small hc.1.2
  obtain ⟨hll, hlr⟩ := great12_small hc.2
  simp only [U, xs, xl, argS, reduceIte, Nat.reduceEqDiff, Nat.reduceAdd, Nat.reduceLT, Nat.reduceLeDiff, A.okCells, A.cells, A.one, splice]
  have hcs : ((crRows k).map fun r => r.map A.d) ++ ((crRows l).map fun r => r.map A.d) = (crRows (k ++ l)).map fun r => r.map A.d := by simp [crRows]
  let S : St := ⟨look [(0, .d (.sl eRw (crRows b))), (1, .d (.sl eRw (crRows k))), (2, .d (.sl eRw (crRows l))), (7, .d (.sl eRw (crRows (k ++ l))))], []⟩
  refine W_cutX (· = S) rfl (fun K hK => ?_) ?_
  · simp only [xs, xl, argS, reduceIte, Nat.reduceEqDiff, Nat.reduceAdd, Nat.reduceLT, Nat.reduceLeDiff, A.okCells, A.cells, A.one, splice, crRows_len, hcs]
    refine ⟨by simp only [room]; omega, by simp only [maxLen]; omega, by simp only [room]; omega, by simp only [maxLen]; omega, ?_⟩
    refine hK _ _ (Co.frz _ 0 ?_ (Nat.le_refl _) (Nat.zero_le _) (by simp)) rfl
    intro p hp
    simp only [List.mem_cons, List.not_mem_nil, or_false] at hp
    rcases hp with rfl | rfl | rfl | rfl
    · exact .same rfl
    · exact .same rfl
    · exact .same rfl
    · have := frz_all (id := 0) (full := true) (e := eRw) (rows := crRows (k ++ l)) (h := [.cells eRw ((crRows (k ++ l)).map fun r => r.map A.d)]) rfl
      rw [crRows_len, List.length_append] at this
      exact this
  rintro _ rfl
  have p1 : lastN (b ++ k) 500 = b ++ k := lastN_all (by simp; omega)
  have p2 : lastN (b ++ k ++ l) 500 = b ++ (k ++ l) := by rw [lastN_all (by simp; omega), List.append_assoc]
  have p3 : lastN (b ++ (k ++ l)) 500 = b ++ (k ++ l) := by rw [lastN_all (by simp; omega)]
  have P1 := Hp b k (by omega) (by omega)
  rw [p1] at P1
  have P2 := Hp (b ++ k) l (by simp; omega) (by omega)
  rw [p2] at P2
  have P3 := Hp b (k ++ l) (by omega) (by simp; omega)
  rw [p3] at P3
  have hS := Hs (b ++ (k ++ l)) (b ++ (k ++ l))
  rw [decide_eq_true rfl] at hS
  have hS2 := Hs (k ++ l) (k ++ l)
  rw [decide_eq_true rfl] at hS2
  have T1 := Ht (b ++ (k ++ l)) (by simp; omega) ((k ++ l).length : Nat) (by simp; omega)
  rw [lastN_app] at T1
  refine W_seq (W_reg ?_)
  simp only [S, xs, xl, argS, reduceIte, Nat.reduceEqDiff, Nat.reduceAdd, Nat.reduceLT, Nat.reduceLeDiff, A.okCells, A.cells, A.one, splice]
  refine c_fn P1 rfl ?_
  simp only [xs, xl, argS, reduceIte, Nat.reduceEqDiff, Nat.reduceAdd, Nat.reduceLT, Nat.reduceLeDiff, A.okCells, A.cells, A.one, splice]
  refine c_fn P2 rfl ?_
  simp only [xs, xl, argS, reduceIte, Nat.reduceEqDiff, Nat.reduceAdd, Nat.reduceLT, Nat.reduceLeDiff, A.okCells, A.cells, A.one, splice]
  refine W_sreg fun K hK => ?_
  refine run_take 6 fun K1 hK1 => ?_
  simp only [xs, xl, argS, reduceIte, Nat.reduceEqDiff, Nat.reduceAdd, Nat.reduceLT, Nat.reduceLeDiff, A.okCells, A.cells, A.one, splice]
  refine c_fn P3 rfl ?_
  simp only [xs, xl, argS, reduceIte, Nat.reduceEqDiff, Nat.reduceAdd, Nat.reduceLT, Nat.reduceLeDiff, A.okCells, A.cells, A.one, splice]
  refine c_fn hS rfl ?_
  simp only [xs, xl, argS, reduceIte, Nat.reduceEqDiff, Nat.reduceAdd, Nat.reduceLT, Nat.reduceLeDiff, A.okCells, A.cells, A.one, splice]
  refine hK1 _ ?_
  refine run_take 7 fun K2 hK2 => ?_
  generalize hkl' : k ++ l = kl at T1 hS2 
  simp only [xs, xl, argS, reduceIte, Nat.reduceEqDiff, Nat.reduceAdd, Nat.reduceLT, Nat.reduceLeDiff, A.okCells, A.cells, A.one, splice, crRows_len]
  refine c_fn T1 rfl ?_
  simp only [xs, xl, argS, reduceIte, Nat.reduceEqDiff, Nat.reduceAdd, Nat.reduceLT, Nat.reduceLeDiff, A.okCells, A.cells, A.one, splice]
  refine c_fn hS2 rfl ?_
  simp only [xs, xl, argS, reduceIte, Nat.reduceEqDiff, Nat.reduceAdd, Nat.reduceLT, Nat.reduceLeDiff, A.okCells, A.cells, A.one, splice]
  refine hK2 _ ?_
  have k1 : IntKind.i64.wrap ((b.length : Int) + (kl.length : Int)) = ((b ++ kl).length : Int) := by
    rw [← hkl']; rw [i64_of (by simp; omega)]; simp
  generalize hbk : b ++ kl = bk at k1
  simp only [xs, xl, argS, reduceIte, Nat.reduceEqDiff, Nat.reduceAdd, Nat.reduceLT, Nat.reduceLeDiff, A.okCells, A.cells, A.one, splice, crRows_len, k1, decide_true]
  refine c_fn Ha rfl ?_
  simp only [xs, xl, argS, reduceIte, Nat.reduceEqDiff, Nat.reduceAdd, Nat.reduceLT, Nat.reduceLeDiff, A.okCells, A.cells, A.one, splice]
  refine hK _ ?_
  refine W_ret (.tmp ?_ rfl)
  simp only [x_upd, reduceIte]

end Go.Proofs.YthhjkfilfhmakaaDoor.Nx

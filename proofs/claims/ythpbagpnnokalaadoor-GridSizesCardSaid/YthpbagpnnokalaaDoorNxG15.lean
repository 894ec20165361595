/- Grids: the law GridScrollBack. -/
/- Rows: what Fit answers is proper; grids: the law GridProper. -/
/- Grids: the law GridProper. -/
/- Grids: the law GridSizes. -/
import Derived.Test.YthpbagpnnokalaaDoorNxG13
namespace Go.Proofs.YthpbagpnnokalaaDoor.Nx
set_option linter.unusedSimpArgs false
set_option linter.unusedVariables false
set_option linter.unnecessarySimpa false
open Go

variable {P : Program} {N : Nat} {Γ : Tabs}

theorem scrollR_down' {w h b : Int} {A M C : List (List Ce)} {m t bt : Nat} (hck : gridCk ⟨w, h, A ++ M ++ C⟩ = 0) (ht : t = A.length) (hbt : bt = A.length + M.length) (hM : 1 ≤ M.length) (hm : m ≤ M.length) :
    scrollR ⟨w, h, A ++ M ++ C⟩ t bt (-(m : Int)) b = (⟨w, h, A ++ (List.replicate m (blankRow w b) ++ M.take (M.length - m)) ++ C⟩, [], 0) := by
  rcases Nat.eq_zero_or_pos m with rfl | h1
  · have := scrollR_up (b := b) (m := 0) hck ht hbt hM (Nat.zero_le _)
    simpa using this
  · exact scrollR_down hck ht hbt hM hm h1

/-- The rows on the way back. -/
def backY (g : Gd) (t bt n : Nat) (b : Int) (i : Nat) : Gd := ⟨g.w, g.h, g.rows.take t ++ (((g.rows.drop t).take i) ++ List.replicate (n - i) (blankRow g.w b) ++ ((g.rows.drop t).take (bt - t)).drop n) ++ g.rows.drop bt⟩

theorem back_plain {g : Gd} (hck : gridCk g = 0) {t bt n : Nat} (ht : t < bt) (hb : bt ≤ g.rows.length) (hn : n ≤ bt - t) (b : Int) (hs : g.small) :
    ∃ x l, scrollR g t bt n b = (x, l, 0) ∧ scrollR x t bt (-(n : Int)) b = (backY g t bt n b 0, [], 0) ∧ l.length = n ∧ backY g t bt n b n = g ∧ x.small ∧
      (∀ i, i ≤ n → (backY g t bt n b i).small) ∧ (∀ i (hi : i < l.length), setR (backY g t bt n b i) ((t + i : Nat) : Int) l[i] = (backY g t bt n b (i + 1), 0)) ∧ (∀ r ∈ l, r.length ≤ 1000 ∧ smallR r) := by
  obtain ⟨w, h, rows⟩ := g
  dsimp only at hb
  have hrows := gridCk_rows hck
  have hgh := gridCk_h hck
  obtain ⟨A, M, C, rfl, hA, hM, htk, hdr⟩ := cut3 (Nat.le_of_lt ht) hb
  have hdt : (A ++ M ++ C).drop t = M ++ C := by rw [List.append_assoc, List.drop_left' hA]
  have hmid : ((A ++ M ++ C).drop t).take (bt - t) = M := by rw [hdt, List.take_left' hM]
  have hY : ∀ i, i ≤ n → backY ⟨w, h, A ++ M ++ C⟩ t bt n b i = ⟨w, h, A ++ (M.take i ++ List.replicate (n - i) (blankRow w b) ++ M.drop n) ++ C⟩ := fun i hi => by
    simp only [backY, htk, hdr, hdt, List.take_left' hM]
    rw [List.take_append_of_le_length (by omega)]
  have h1 := scrollR_up (b := b) (m := n) (t := t) (bt := bt) hck hA.symm (by omega) (by omega) (by omega)
  have hl1 : (M.drop n ++ List.replicate n (blankRow w b)).length = M.length := by simp; omega
  have hck1 := gridCk_mid hck hl1 up_mem
  have h2 := scrollR_down' (b := b) (m := n) (t := t) (bt := bt) hck1 hA.symm (by rw [hl1]; omega) (by omega) (by omega)
  have e1 : (M.drop n ++ List.replicate n (blankRow w b)).take ((M.drop n ++ List.replicate n (blankRow w b)).length - n) = M.drop n := by
    rw [hl1, List.take_left' (by simp)]
  rw [e1] at h2
  have hmem : ∀ i, i ≤ n → ∀ r ∈ M.take i ++ List.replicate (n - i) (blankRow w b) ++ M.drop n, r ∈ M ∨ r = blankRow w b := fun i hi r hr => by
    simp only [List.mem_append] at hr
    rcases hr with (hr | hr) | hr
    · exact .inl (List.mem_of_mem_take hr)
    · exact .inr (List.eq_of_mem_replicate hr)
    · exact .inl (List.mem_of_mem_drop hr)
  have hlen : ∀ i, i ≤ n → (M.take i ++ List.replicate (n - i) (blankRow w b) ++ M.drop n).length = M.length := fun i hi => by simp; omega
  refine ⟨_, _, h1, ?_, by simp; omega, ?_, small_mid hs up_mem, fun i hi => ?_, fun i hi => ?_, fun r hr => ?_⟩
  · rw [h2, hY 0 (Nat.zero_le _)]; simp
  · rw [hY n (Nat.le_refl _)]; simp
  · rw [hY i hi]; exact small_mid hs (hmem i hi)
  · have hi' : i < n := by simp at hi; omega
    have hiM : i < M.length := by omega
    rw [hY i (by omega), hY (i + 1) hi']
    have hcki := gridCk_mid hck (hlen i (by omega)) (hmem i (by omega))
    have hli : (M.take n)[i] = M[i] := by simp
    have hpr := hrows M[i] (by simp only [List.mem_append]; exact .inl (.inr (List.getElem_mem hiM)))
    have hli2 := hlen i (by omega)
    have hhi := (gridCk_h hcki).1
    dsimp only at hhi hpr
    simp only [setR, hcki, ne_eq, not_true_eq_false, if_false, hli, hpr.1, hpr.2, Int.toNat_natCast]
    rw [if_neg (by rw [hhi]; simp only [List.length_append] at hli2 ⊢; omega)]
    have hset : (A ++ (M.take i ++ List.replicate (n - i) (blankRow w b) ++ M.drop n) ++ C).set (t + i) M[i] = A ++ (M.take (i + 1) ++ List.replicate (n - (i + 1)) (blankRow w b) ++ M.drop n) ++ C := by
      have hti : (M.take i).length = i := by simp; omega
      rw [List.append_assoc, List.set_append_right _ _ (by omega), hA, Nat.add_sub_cancel_left, List.append_assoc, List.append_assoc, List.set_append_right _ _ (by omega), hti, Nat.sub_self, show n - i = (n - (i + 1)) + 1 by omega, List.replicate_succ, List.cons_append, List.set_cons_zero,
        List.take_add_one, List.getElem?_eq_getElem hiM]
      simp only [Option.toList_some, List.append_assoc, List.cons_append, List.nil_append]
    rw [hset]
  · have hr : r ∈ M := List.mem_of_mem_take hr
    have := hs r (by show r ∈ A ++ M ++ C; simp only [List.mem_append]; exact .inl (.inr hr))
    exact this

set_option maxHeartbeats 2000000 in
theorem gridBackLaw_fn {f fg fa fp fs ft fe : FuncId} (H : FnIs P f N [.t 10] (x_law08_GridScrollBack fg fa fp fs ft fe)) (hN : 5 ≤ N) (Hg : RightOk Γ P fg) (Ha : FnP Γ P fa [] (.bool true)) (Hp : PartOk Γ P fp) (Hs : ScrollOk Γ P fs) (Ht : SetOk Γ P ft) (He : SameGOk Γ P fe)
    (g : Gd) (u v p : Nat) (hu : u ≤ 255) (hv : v ≤ 255) (hp : p ≤ 255) (a b c : Int) :
    FnP Γ P f [gdA g, .d (.sc (.int .u8 u)), .d (.sc (.int .u8 v)), .d (.sc (.int .u8 p)), atA a b c] (.bool true) := by
  refine .of_W H (by simpa using hN) ?_
  have hG := Hg g
  unfold x_law08_GridScrollBack
  refine W_seq (W_reg ?_)
  simp only [gdA, gdR, atA, xs, xl, argS, reduceIte, Nat.reduceEqDiff, Nat.reduceAdd, Nat.reduceLT, Nat.reduceLeDiff, A.okCells, A.cells, A.one, splice]
  cases hg : rightG g
  all_goals simp only [hg, Bool.false_eq_true, if_true, if_false, gdA, gdR] at hG
  · refine W_seq (W_seq (W_reg ?_))
    simp only [xs, xl, argS, reduceIte, Nat.reduceEqDiff, Nat.reduceAdd, Nat.reduceLT, Nat.reduceLeDiff, A.okCells, A.cells, A.one, splice]
    refine c_fn hG (by simp [A.underL, A.under]) ?_
    simp only [xs, xl, argS, reduceIte, Nat.reduceEqDiff, Nat.reduceAdd, Nat.reduceLT, Nat.reduceLeDiff, A.okCells, A.cells, A.one, splice]
    refine W_cond rfl (fun _ => ?_) (fun hc => by simp at hc)
    refine W_seq (W_reg ?_)
    simp only [xs, xl, argS, reduceIte, Nat.reduceEqDiff, Nat.reduceAdd, Nat.reduceLT, Nat.reduceLeDiff, A.okCells, A.cells, A.one, splice]
    refine c_fn Ha rfl ?_
    simp only [xs, xl, argS, reduceIte, Nat.reduceEqDiff, Nat.reduceAdd, Nat.reduceLT, Nat.reduceLeDiff, A.okCells, A.cells, A.one, splice]
    refine W_ret (.tmp ?_ rfl)
    simp only [x_upd, reduceIte]
  obtain ⟨hck, hsm, hl10⟩ := rightG_ok hg
  obtain ⟨n, hn⟩ : ∃ n, n = g.rows.length := ⟨_, rfl⟩
  have hgh := (gridCk_h hck).1
  have hn1 := gridCk_pos hck
  rw [← hn] at hgh hn1 hl10
  have hP := Hp g u v hu hv n hgh hn1 (by omega)
  have hl1 := Nat.mod_lt u (show 0 < n by omega)
  have hl2 := Nat.mod_lt v (show 0 < n - u % n by omega)
  obtain ⟨t, ht⟩ : ∃ t, t = u % n := ⟨_, rfl⟩
  rw [← ht] at hl1 hl2 hP
  obtain ⟨bt, hbt⟩ : ∃ bt, bt = t + 1 + v % (n - t) := ⟨_, rfl⟩
  rw [← hbt] at hP
  have htb : t < bt := by omega
  have hbn : bt ≤ n := by omega
  have hm1 := Nat.mod_lt p (show 0 < bt - t + 1 by omega)
  obtain ⟨m, hm⟩ : ∃ m, m = p % (bt - t + 1) := ⟨_, rfl⟩
  rw [← hm] at hm1
  obtain ⟨x, l, r1, r2, hll, hYn, hxs, hYs, hset, hlr⟩ := back_plain hck htb (by omega) (by omega : m ≤ bt - t) b hsm
  have S1 := Hs g hsm t bt m a b c
  have S2 := Hs x hxs t bt (-(m : Int)) a b c
  rw [r1] at S1
  rw [r2] at S2
  have T : ∀ i (hi : i < l.length), FnP Γ P ft [gdA (backY g t bt m b i), .int ((t + i : Nat) : Int), .d (.sl eCe (ceRows l[i]))] (gdE (backY g t bt m b (i + 1), 0)) := fun i hi => by
    have h1 := hlr _ (List.getElem_mem hi)
    have := Ht (backY g t bt m b i) (hYs i (by omega)) ((t + i : Nat) : Int) l[i] (by omega) h1.2
    rw [hset i hi] at this
    exact this
  have hg0 : g.h = (backY g t bt m b m).h := by rw [hYn]
  have E1 := He g g
  rw [decide_eq_true rfl] at E1
  generalize hYf : backY g t bt m b = Y at S2 T hYn
  simp only [gdA, gdR, scrollA, gdE, atA, hgh] at S1 S2 E1 hP hG T
  simp only [hgh]
  refine W_seq (W_seq (W_reg ?_))
  simp only [xs, xl, argS, reduceIte, Nat.reduceEqDiff, Nat.reduceAdd, Nat.reduceLT, Nat.reduceLeDiff, A.okCells, A.cells, A.one, splice]
  refine c_fn hG (by simp [A.underL, A.under]) ?_
  simp only [xs, xl, argS, reduceIte, Nat.reduceEqDiff, Nat.reduceAdd, Nat.reduceLT, Nat.reduceLeDiff, A.okCells, A.cells, A.one, splice]
  refine W_cond rfl (fun hc => by simp at hc) (fun _ => W_skip ?_)
  simp only [xs, xl, argS, reduceIte, Nat.reduceEqDiff, Nat.reduceAdd, Nat.reduceLT, Nat.reduceLeDiff, A.okCells, A.cells, A.one, splice]
  refine W_seq (W_reg ?_)
  simp only [xs, xl, argS, reduceIte, Nat.reduceEqDiff, Nat.reduceAdd, Nat.reduceLT, Nat.reduceLeDiff, A.okCells, A.cells, A.one, splice]
  refine c_fn hP (by simp [A.underL, A.under]) ?_
  simp only [xs, xl, argS, reduceIte, Nat.reduceEqDiff, Nat.reduceAdd, Nat.reduceLT, Nat.reduceLeDiff, A.okCells, A.cells, A.one, splice]
  have w1 : IntKind.i64.wrap (p : Int) = p := i64_of (by omega)
  have w3 : IntKind.i64.wrap ((bt : Int) - (t : Int)) = ((bt - t : Nat) : Int) := by rw [i64_of (by omega)]; omega
  have w4 : IntKind.i64.wrap (((bt - t : Nat) : Int) + 1) = ((bt - t + 1 : Nat) : Int) := i64_of (by omega)
  have w7 : IntKind.i64.wrap (0 - (m : Int)) = -(m : Int) := by rw [i64_of (by omega)]; omega
  refine W_seq (W_reg ?_)
  simp only [xs, xl, argS, reduceIte, Nat.reduceEqDiff, Nat.reduceAdd, Nat.reduceLT, Nat.reduceLeDiff, A.okCells, A.cells, A.one, splice, w1, w3, w4, b_rem (k := .i64) (show ((bt - t + 1 : Nat) : Int) ≠ 0 by omega), tmod_nat, ← hm]
  refine W_seq (W_reg ?_)
  simp only [xs, xl, argS, reduceIte, Nat.reduceEqDiff, Nat.reduceAdd, Nat.reduceLT, Nat.reduceLeDiff, A.okCells, A.cells, A.one, splice]
  refine c_fn S1 (by simp [A.underL, A.under]) ?_
  simp only [xs, xl, argS, reduceIte, Nat.reduceEqDiff, Nat.reduceAdd, Nat.reduceLT, Nat.reduceLeDiff, A.okCells, A.cells, A.one, splice]
  refine W_seq (W_reg ?_)
  simp only [xs, xl, argS, reduceIte, Nat.reduceEqDiff, Nat.reduceAdd, Nat.reduceLT, Nat.reduceLeDiff, A.okCells, A.cells, A.one, splice, w7]
  refine c_fn S2 (by simp [A.underL, A.under]) ?_
  simp only [xs, xl, argS, reduceIte, Nat.reduceEqDiff, Nat.reduceAdd, Nat.reduceLT, Nat.reduceLeDiff, A.okCells, A.cells, A.one, splice]
  have z1 : decide (((l.length : Nat) : Int) = (m : Int)) = true := by rw [hll]; exact decide_eq_true rfl
  refine W_seq (W_seq (W_reg ?_))
  simp only [xs, xl, argS, reduceIte, Nat.reduceEqDiff, Nat.reduceAdd, Nat.reduceLT, Nat.reduceLeDiff, A.okCells, A.cells, A.one, splice, crRows_len, decide_true, Bool.not_true, List.length_nil, z1]
  refine W_cond rfl (fun hc => by simp at hc) (fun _ => W_skip ?_)
  simp only [xs, xl, argS, reduceIte, Nat.reduceEqDiff, Nat.reduceAdd, Nat.reduceLT, Nat.reduceLeDiff, A.okCells, A.cells, A.one, splice]
  refine W_seq (W_seq (W_reg ?_))
  simp only [xs, xl, argS, reduceIte, Nat.reduceEqDiff, Nat.reduceAdd, Nat.reduceLT, Nat.reduceLeDiff, A.okCells, A.cells, A.one, splice, crRows_len]
  refine W_block ?_
  let S : Nat → St := fun i => ⟨look [(5, .ptr 0 1 0 0), (11, .int t), (14, .ptr 2 1 0 0), (77, .d (.sl eRw (crRows l))), (78, .int l.length), (79, .int i)], [.cells eGd [[.int g.w, .int n, .d (.sl eRw (crRows g.rows))]], atB a b c, gB (Y i)]⟩
  refine W_co (s' := S 0) (Co.keep _ (by simp [x_upd, x_look])) ?_
  refine W_loop (fun q s => ∃ i, i ≤ l.length ∧ q = l.length - i ∧ s = S i) ⟨0, Nat.zero_le _, rfl, rfl⟩ ?_
  rintro q s ⟨i, hi, rfl, rfl⟩
  refine W_seq (W_reg ?_)
  simp only [S, xs, xl, argS, reduceIte, Nat.reduceEqDiff, Nat.reduceAdd, Nat.reduceLT, Nat.reduceLeDiff, A.okCells, A.cells, A.one, splice]
  refine W_seq (W_cond rfl (fun hc => W_skip ?_) (fun hc => W_exit ?_))
  · have hlt : i < l.length := by simpa using hc
    have hgk : (crRows l).getD i [] = [.sl eCe (ceRows l[i])] := crRows_get hlt
    have hT := T i hlt
    have w8 : IntKind.i64.wrap ((t : Int) + (i : Int)) = ((t + i : Nat) : Int) := i64_of (by omega)
    have w2 : IntKind.i64.wrap ((i : Int) + 1) = ((i + 1 : Nat) : Int) := i64_of (by omega)
    generalize l[i] = L at hgk hT
    simp only [xs, xl, argS, reduceIte, Nat.reduceEqDiff, Nat.reduceAdd, Nat.reduceLT, Nat.reduceLeDiff, A.okCells, A.cells, A.one, splice]
    refine W_seq (W_block (W_seq (W_reg ?_)))
    simp only [xs, xl, argS, reduceIte, Nat.reduceEqDiff, Nat.reduceAdd, Nat.reduceLT, Nat.reduceLeDiff, A.okCells, A.cells, A.one, splice, hgk, crRows_len]
    refine ⟨by omega, by omega, ?_⟩
    refine W_seq (W_reg ?_)
    simp only [gdR, xs, xl, argS, reduceIte, Nat.reduceEqDiff, Nat.reduceAdd, Nat.reduceLT, Nat.reduceLeDiff, A.okCells, A.cells, A.one, splice, w8]
    refine c_fn hT (by simp [A.underL, A.under]) ?_
    simp only [gdR, xs, xl, argS, reduceIte, Nat.reduceEqDiff, Nat.reduceAdd, Nat.reduceLT, Nat.reduceLeDiff, A.okCells, A.cells, A.one, splice]
    refine W_seq (W_reg ?_)
    simp only [xs, xl, argS, reduceIte, Nat.reduceEqDiff, Nat.reduceAdd, Nat.reduceLT, Nat.reduceLeDiff, A.okCells, A.cells, A.one, splice, decide_true, Bool.not_true]
    refine W_cond rfl (fun hc => by simp at hc) (fun _ => W_skip ?_)
    simp only [xs, xl, argS, reduceIte, Nat.reduceEqDiff, Nat.reduceAdd, Nat.reduceLT, Nat.reduceLeDiff, A.okCells, A.cells, A.one, splice]
    refine W_reg ?_
    simp only [xs, xl, argS, reduceIte, Nat.reduceEqDiff, Nat.reduceAdd, Nat.reduceLT, Nat.reduceLeDiff, A.okCells, A.cells, A.one, splice, w2]
    refine ⟨l.length - (i + 1), S (i + 1), by omega, Co.keep _ ?_, i + 1, hlt, rfl, rfl⟩
    simp [x_upd, x_look]
  · have hle : i = l.length := by simp at hc; omega
    subst hle
    rw [hll, hYn]
    simp only [xs, xl, argS, reduceIte, Nat.reduceEqDiff, Nat.reduceAdd, Nat.reduceLT, Nat.reduceLeDiff, A.okCells, A.cells, A.one, splice]
    refine W_seq (W_reg ?_)
    simp only [gdR, hgh, xs, xl, argS, reduceIte, Nat.reduceEqDiff, Nat.reduceAdd, Nat.reduceLT, Nat.reduceLeDiff, A.okCells, A.cells, A.one, splice]
    refine c_fn E1 (by simp [A.underL, A.under]) ?_
    simp only [xs, xl, argS, reduceIte, Nat.reduceEqDiff, Nat.reduceAdd, Nat.reduceLT, Nat.reduceLeDiff, A.okCells, A.cells, A.one, splice]
    refine c_fn Ha rfl ?_
    simp only [xs, xl, argS, reduceIte, Nat.reduceEqDiff, Nat.reduceAdd, Nat.reduceLT, Nat.reduceLeDiff, A.okCells, A.cells, A.one, splice]
    refine W_ret (.tmp ?_ rfl)
    simp only [x_upd, reduceIte]

end Go.Proofs.YthpbagpnnokalaaDoor.Nx

namespace Go.Proofs.YthpbagpnnokalaaDoor.Nx
set_option linter.unusedSimpArgs false
set_option linter.unusedVariables false
set_option linter.unnecessarySimpa false
open Go

variable {P : Program} {N : Nat} {Γ : Tabs}

theorem rowCk_cons {c : Ce} {l : List Ce} (h : rowCk (c :: l) = 0) : chkC c.text = 0 ∧ widC c.text = c.width ∧ ((c.width = 1 ∧ rowCk l = 0) ∨ (c.width = 2 ∧ ∃ l', l = pairC c :: l' ∧ rowCk l' = 0)) := by
  rw [rowCk.eq_def] at h
  dsimp only at h
  split at h
  · cases h
  rename_i h1
  split at h
  · rename_i h2
    split at h
    · rename_i h3
      refine ⟨h2, h3, ?_⟩
      split at h
      · rename_i h4
        right
        cases l with
        | nil => cases h
        | cons d l' =>
          dsimp only at h
          split at h
          · rename_i h5; subst h5; exact ⟨h4, l', rfl, h⟩
          · cases h
      · left; exact ⟨by omega, h⟩
    · cases h
  · cases h
theorem rowCk_one {c : Ce} {l : List Ce} (h1 : chkC c.text = 0) (h2 : widC c.text = c.width) (h3 : c.width = 1) (h : rowCk l = 0) : rowCk (c :: l) = 0 := by
  rw [rowCk.eq_def]
  dsimp only
  rw [if_neg (by omega), if_pos h1, if_pos h2, if_neg (by omega)]
  exact h
theorem rowCk_two {c : Ce} {l : List Ce} (h1 : chkC c.text = 0) (h2 : widC c.text = c.width) (h3 : c.width = 2) (h : rowCk l = 0) : rowCk (c :: pairC c :: l) = 0 := by
  rw [rowCk.eq_def]
  dsimp only
  rw [if_neg (by omega), if_pos h1, if_pos h2, if_pos h3, if_pos rfl]
  exact h
theorem blank_chk {b : Int} : chkC (blankC b).text = 0 := by show chkC ⟨#[32]⟩ = 0; decide +kernel
theorem blank_wid {b : Int} : widC (blankC b).text = (blankC b).width := by show widC ⟨#[32]⟩ = 1; decide +kernel

theorem rowCk_app : ∀ (n : Nat) (l m : List Ce), l.length ≤ n → rowCk l = 0 → rowCk m = 0 → rowCk (l ++ m) = 0
  | _, [], m, _, _, hm => hm
  | 0, c :: l, m, hn, _, _ => by simp at hn
  | n + 1, c :: l, m, hn, h, hm => by
    obtain ⟨h1, h2, ⟨h3, h4⟩ | ⟨h3, l', rfl, h4⟩⟩ := rowCk_cons h
    · exact rowCk_one h1 h2 h3 (rowCk_app n l m (by simp at hn; omega) h4 hm)
    · exact rowCk_two h1 h2 h3 (rowCk_app n l' m (by simp at hn; omega) h4 hm)

/-- A row cut to w cells. -/
def cutR (l : List Ce) (w : Nat) : List Ce := match (l.take w).getLast? with
  | some c => if c.width = 2 then (l.take w).set (w - 1) (blankC c.back) else l.take w
  | none => []
theorem cutR_cons {c : Ce} {l : List Ce} {w : Nat} (hw : 1 ≤ w) (hl : w ≤ l.length) : cutR (c :: l) (w + 1) = c :: cutR l w := by
  obtain ⟨d, l', rfl⟩ : ∃ d l', l = d :: l' := by cases l with
    | nil => simp at hl; omega
    | cons d l' => exact ⟨d, l', rfl⟩
  obtain ⟨w, rfl⟩ : ∃ w', w = w' + 1 := ⟨w - 1, by omega⟩
  simp only [cutR, List.take_succ_cons, List.getLast?_cons_cons, Nat.add_sub_cancel, List.set_cons_succ]
  cases hq : (d :: List.take w l').getLast? with
  | none => simp at hq
  | some e => dsimp only; split <;> rfl
theorem cutR_one {c : Ce} {l : List Ce} : cutR (c :: l) 1 = if c.width = 2 then [blankC c.back] else [c] := by
  simp only [cutR, List.take_succ_cons, List.take_zero, List.getLast?_singleton]
  split <;> rfl
theorem cutR_two {c d : Ce} {l : List Ce} : cutR (c :: d :: l) 2 = if d.width = 2 then [c, blankC d.back] else [c, d] := by
  simp only [cutR, List.take_succ_cons, List.take_zero, List.getLast?_cons_cons, List.getLast?_singleton]
  split <;> rfl
theorem cutR_ck : ∀ (n : Nat) (l : List Ce) (w : Nat), l.length ≤ n → rowCk l = 0 → 1 ≤ w → w ≤ l.length → rowCk (cutR l w) = 0 ∧ (cutR l w).length = w
  | _, [], w, _, _, h1, h2 => by simp at h2; omega
  | 0, c :: l, w, hn, _, _, _ => by simp at hn
  | n + 1, c :: l, w, hn, h, h1, h2 => by
    obtain ⟨k1, k2, ⟨k3, k4⟩ | ⟨k3, l', rfl, k4⟩⟩ := rowCk_cons h
    · rcases Nat.eq_or_lt_of_le h1 with rfl | h1'
      · rw [cutR_one, if_neg (by omega)]
        exact ⟨rowCk_one k1 k2 k3 rfl, rfl⟩
      · obtain ⟨w, rfl⟩ : ∃ w', w = w' + 1 := ⟨w - 1, by omega⟩
        simp only [List.length_cons] at hn h2
        have := cutR_ck n l w (by omega) k4 (by omega) (by omega)
        rw [cutR_cons (by omega) (by omega)]
        exact ⟨rowCk_one k1 k2 k3 this.1, by rw [List.length_cons, this.2]⟩
    · simp only [List.length_cons] at hn h2
      rcases Nat.eq_or_lt_of_le h1 with rfl | h1'
      · rw [cutR_one, if_pos k3]
        exact ⟨rowCk_one blank_chk blank_wid rfl rfl, rfl⟩
      · obtain ⟨w, rfl⟩ : ∃ w', w = w' + 2 := ⟨w - 2, by omega⟩
        rcases Nat.eq_zero_or_pos w with rfl | hw
        · rw [cutR_two, if_neg (by show ¬ (0 : Int) = 2; decide)]
          exact ⟨rowCk_two k1 k2 k3 rfl, rfl⟩
        · have := cutR_ck n l' w (by omega) k4 hw (by omega)
          rw [cutR_cons (by omega) (by simp; omega), cutR_cons (by omega) (by omega)]
          exact ⟨rowCk_two k1 k2 k3 this.1, by rw [List.length_cons, List.length_cons, this.2]⟩

theorem fitC_le {l : List Ce} {w : Nat} (h : l.length ≤ w) : fitC l w = l ++ List.replicate (w - l.length) (blankC (-1)) := by unfold fitC; rw [if_pos h]
theorem fitC_gt {l : List Ce} {w : Nat} (h : w < l.length) : fitC l w = cutR l w := by unfold fitC cutR; rw [if_neg (by omega)]; rfl
theorem fitC_ck {l : List Ce} {w : Nat} (h : checkR l = 0) (h1 : 1 ≤ w) (h2 : w ≤ 132) : checkR (fitC l w) = 0 ∧ (fitC l w).length = w := by
  have hr : rowCk l = 0 ∧ 1 ≤ l.length := by
    unfold checkR at h
    split at h
    · cases h
    · exact ⟨h, by omega⟩
  have key : rowCk (fitC l w) = 0 ∧ (fitC l w).length = w := by
    rcases Nat.lt_or_ge w l.length with hlt | hge
    · rw [fitC_gt hlt]
      exact cutR_ck _ l w (Nat.le_refl _) hr.1 h1 (by omega)
    · rw [fitC_le hge]
      exact ⟨rowCk_app _ _ _ (Nat.le_refl _) hr.1 (blank_ck _), by simp; omega⟩
  refine ⟨?_, key.2⟩
  unfold checkR
  rw [if_neg (by rw [key.2]; omega)]
  exact key.1
theorem fitC_small {l : List Ce} {w : Nat} (h : smallR l) : smallR (fitC l w) := by
  intro c hc
  have hbl : ∀ b, (blankC b).text.size ≤ 1000 := fun b => by show (1 : Nat) ≤ 1000; decide
  unfold fitC at hc
  split at hc
  · rcases List.mem_append.1 hc with hc | hc
    · exact h c hc
    · rw [List.eq_of_mem_replicate hc]; exact hbl _
  · split at hc
    · split at hc
      · rcases List.mem_or_eq_of_mem_set hc with hc | rfl
        · exact h c (List.mem_of_mem_take hc)
        · exact hbl _
      · exact h c (List.mem_of_mem_take hc)
    · simp at hc

/-! ### Proper results -/
def GoodX (x : Gd) (e w h : Int) : Prop := (e ≠ 0 ∧ x = zeroGd) ∨ (e = 0 ∧ x.w = w ∧ x.h = h ∧ gridCk x = 0 ∧ x.small)

theorem scrollR_good {g : Gd} (hck : gridCk g = 0) (hs : g.small) (top bottom by_ b : Int) : GoodX (scrollR g top bottom by_ b).1 (scrollR g top bottom by_ b).2.2 g.w g.h ∧ ((scrollR g top bottom by_ b).2.2 = 0 ∨ (scrollR g top bottom by_ b).2.1 = []) := by
  by_cases hd : (top < 0 ∨ bottom ≤ top) ∨ g.h < bottom
  · simp only [scrollR, hck, ne_eq, not_true_eq_false, if_false, if_pos hd]
    exact ⟨.inl ⟨by decide, rfl⟩, .inr trivial⟩
  · obtain ⟨w, h, rows⟩ := g
    have hgh := gridCk_h hck
    dsimp only at hd hgh
    obtain ⟨t, rfl⟩ : ∃ t : Nat, top = t := ⟨top.toNat, by omega⟩
    obtain ⟨bt, rfl⟩ : ∃ bt : Nat, bottom = bt := ⟨bottom.toNat, by omega⟩
    obtain ⟨A, M, C, rfl, hA, hM, htk, hdr⟩ := cut3 (l := rows) (t := t) (bt := bt) (by omega) (by omega)
    have hcl := clampBy_le (m := (M.length : Int)) (b := by_) (by omega)
    have hcc : clampBy (M.length : Int) (clampBy (M.length : Int) by_) = clampBy (M.length : Int) by_ := by simp only [clampBy] at hcl ⊢; omega
    have hsame : scrollR ⟨w, h, A ++ M ++ C⟩ t bt by_ b = scrollR ⟨w, h, A ++ M ++ C⟩ t bt (clampBy (M.length : Int) by_) b := by
      have e1 : (bt : Int) - (t : Int) = (M.length : Int) := by omega
      simp only [scrollR, e1, hcc]
    rw [hsame]
    generalize clampBy (M.length : Int) by_ = d at hcl
    rcases Int.lt_or_le d 0 with h0 | h0
    · obtain ⟨m, rfl⟩ : ∃ m : Nat, d = -(m : Int) := ⟨(-d).toNat, by omega⟩
      rw [scrollR_down' hck hA.symm (by omega) (by omega) (by omega)]
      have hmem : ∀ r ∈ List.replicate m (blankRow w b) ++ M.take (M.length - m), r ∈ M ∨ r = blankRow w b := fun r hr => by
        rcases List.mem_append.1 hr with hr | hr
        · exact .inr (List.eq_of_mem_replicate hr)
        · exact .inl (List.mem_of_mem_take hr)
      exact ⟨.inr ⟨rfl, rfl, rfl, gridCk_mid hck (by simp; omega) hmem, small_mid hs hmem⟩, .inl rfl⟩
    · obtain ⟨m, rfl⟩ : ∃ m : Nat, d = m := ⟨d.toNat, by omega⟩
      rw [scrollR_up hck hA.symm (by omega) (by omega) (by omega)]
      exact ⟨.inr ⟨rfl, rfl, rfl, gridCk_mid hck (by simp; omega) up_mem, small_mid hs up_mem⟩, .inl rfl⟩

theorem clearR_good {g : Gd} (hck : gridCk g = 0) (hs : g.small) (u v b : Int) : GoodX (clearR g u v b).1 (clearR g u v b).2 g.w g.h := by
  by_cases hd : (u < 0 ∨ v < u) ∨ g.h < v
  · simp only [clearR, hck, ne_eq, not_true_eq_false, if_false, if_pos hd]
    exact .inl ⟨by decide, rfl⟩
  · obtain ⟨w, h, rows⟩ := g
    have hgh := gridCk_h hck
    dsimp only at hd hgh
    obtain ⟨t, rfl⟩ : ∃ t : Nat, u = t := ⟨u.toNat, by omega⟩
    obtain ⟨bt, rfl⟩ : ∃ bt : Nat, v = bt := ⟨v.toNat, by omega⟩
    obtain ⟨A, M, C, rfl, hA, hM, htk, hdr⟩ := cut3 (l := rows) (t := t) (bt := bt) (by omega) (by omega)
    simp only [clearR, hck, ne_eq, not_true_eq_false, if_false, if_neg hd, Int.toNat_natCast, htk, hdr]
    have hmem : ∀ r ∈ List.replicate ((bt : Int) - (t : Int)).toNat (blankRow w b), r ∈ M ∨ r = blankRow w b := fun r hr => .inr (List.eq_of_mem_replicate hr)
    exact .inr ⟨rfl, rfl, rfl, gridCk_mid hck (by simp; omega) hmem, small_mid hs hmem⟩

theorem rzRow_fit {g : Gd} (hck : gridCk g = 0) {w : Int} (h1 : 1 ≤ w) (h2 : w ≤ 132) {i : Nat} (hi : i < g.rows.length) : rzRow g.rows w i = fitC g.rows[i] w.toNat := by
  have := (gridCk_rows hck g.rows[i] (List.getElem_mem hi)).2
  have hgd : g.rows.getD i [] = g.rows[i] := by rw [List.getD_eq_getElem?_getD, List.getElem?_eq_getElem hi]; rfl
  simp only [rzRow, if_pos hi, hgd, fitR, this]
  rw [if_neg (by omega)]
theorem resizeR_good {g : Gd} (hck : gridCk g = 0) (hs : g.small) (w h : Int) : GoodX (resizeR g w h).1 (resizeR g w h).2 w h := by
  cases hz : szOk w h
  · simp only [resizeR, hck, ne_eq, not_true_eq_false, if_false, hz, Bool.false_eq_true]
    exact .inl ⟨by decide, rfl⟩
  · simp only [resizeR, hck, ne_eq, not_true_eq_false, if_false, hz, if_true]
    obtain ⟨⟨hw1, hw2⟩, hh1, hh2⟩ := szOk_le hz
    have key : ∀ r ∈ rzRows g.rows w h.toNat, ((r.length : Int) = w ∧ checkR r = 0) ∧ smallR r := fun r hr => by
      simp only [rzRows, List.mem_map, List.mem_range] at hr
      obtain ⟨i, hi, rfl⟩ := hr
      by_cases hil : i < g.rows.length
      · rw [rzRow_fit hck hw1 hw2 hil]
        have hm := List.getElem_mem hil
        have := fitC_ck (gridCk_rows hck _ hm).2 (show 1 ≤ w.toNat by omega) (by omega)
        exact ⟨⟨by omega, this.1⟩, fitC_small (hs _ hm).2⟩
      · have : rzRow g.rows w i = blankRow w (-1) := by simp only [rzRow, if_neg hil]
        rw [this]
        exact ⟨blankRow_ck hw1 hw2, blankRow_small⟩
    refine .inr ⟨rfl, rfl, rfl, gridCk_of hz (by dsimp only; rw [rzRows_len]; omega) fun r hr => (key r hr).1, fun r hr => ⟨?_, (key r hr).2⟩⟩
    have := (key r hr).1.1
    omega

end Go.Proofs.YthpbagpnnokalaaDoor.Nx

namespace Go.Proofs.YthpbagpnnokalaaDoor.Nx
set_option linter.unusedSimpArgs false
set_option linter.unusedVariables false
set_option linter.unnecessarySimpa false
open Go

variable {P : Program} {N : Nat} {Γ : Tabs}

theorem proper1_fn {f fc : FuncId} (H : FnIs P f N [.t 8] (x_law08_GridProper_1 fc)) (hN : 4 ≤ N) (Hc : GCheckOk Γ P fc) (x : Gd) (e w h : Int) (hx : GoodX x e w h) : FnP Γ P f [gdA x, .int e, .int w, .int h] (.bool true) := by
  refine .of_W H (by simpa using hN) ?_
  unfold x_law08_GridProper_1
  refine W_seq (W_reg ?_)
  simp only [gdA, gdR, xs, xl, argS, reduceIte, Nat.reduceEqDiff, Nat.reduceAdd, Nat.reduceLT, Nat.reduceLeDiff, A.okCells, A.cells, A.one, splice]
  rcases hx with ⟨he, rfl⟩ | ⟨rfl, rfl, rfl, hck, hs⟩
  · have e1 : decide (e = 0) = false := decide_eq_false he
    refine W_seq (W_regK fun K hK => ?_)
    refine run_take 10 fun K1 hK1 => ?_
    simp only [zeroGd, xs, xl, argS, reduceIte, Nat.reduceEqDiff, Nat.reduceAdd, Nat.reduceLT, Nat.reduceLeDiff, A.okCells, A.cells, A.one, splice, e1, undefA, Bool.true_eq_false, Bool.false_eq_true, Bool.not_false, decide_true, crRows_len, List.length_nil, show ((0 : Nat) : Int) = 0 from rfl]
    refine hK1 _ ?_
    refine run_take 8 fun K2 hK2 => ?_
    simp only [zeroGd, xs, xl, argS, reduceIte, Nat.reduceEqDiff, Nat.reduceAdd, Nat.reduceLT, Nat.reduceLeDiff, A.okCells, A.cells, A.one, splice, e1, undefA, Bool.true_eq_false, Bool.false_eq_true, Bool.not_false, decide_true, crRows_len, List.length_nil, show ((0 : Nat) : Int) = 0 from rfl]
    refine hK2 _ ?_
    refine run_take 8 fun K3 hK3 => ?_
    simp only [zeroGd, xs, xl, argS, reduceIte, Nat.reduceEqDiff, Nat.reduceAdd, Nat.reduceLT, Nat.reduceLeDiff, A.okCells, A.cells, A.one, splice, e1, undefA, Bool.true_eq_false, Bool.false_eq_true, Bool.not_false, decide_true, crRows_len, List.length_nil, show ((0 : Nat) : Int) = 0 from rfl]
    refine hK3 _ ?_
    simp only [zeroGd, xs, xl, argS, reduceIte, Nat.reduceEqDiff, Nat.reduceAdd, Nat.reduceLT, Nat.reduceLeDiff, A.okCells, A.cells, A.one, splice, e1, undefA, Bool.true_eq_false, Bool.false_eq_true, Bool.not_false, decide_true, crRows_len, List.length_nil, show ((0 : Nat) : Int) = 0 from rfl]
    refine hK _ (W_ret (.tmp ?_ rfl))
    simp only [x_upd, reduceIte]
  · have C := Hc x hs
    rw [hck] at C
    simp only [gdA, gdR] at C
    refine W_seq (W_regK fun K hK => ?_)
    refine run_take 10 fun K1 hK1 => ?_
    simp only [xs, xl, argS, reduceIte, Nat.reduceEqDiff, Nat.reduceAdd, Nat.reduceLT, Nat.reduceLeDiff, A.okCells, A.cells, A.one, splice, undefA, Bool.true_eq_false, Bool.false_eq_true, decide_true, Bool.not_true]
    refine hK1 _ ?_
    refine run_take 8 fun K2 hK2 => ?_
    simp only [xs, xl, argS, reduceIte, Nat.reduceEqDiff, Nat.reduceAdd, Nat.reduceLT, Nat.reduceLeDiff, A.okCells, A.cells, A.one, splice, undefA, Bool.true_eq_false, Bool.false_eq_true, decide_true, Bool.not_true]
    refine hK2 _ ?_
    refine run_take 8 fun K3 hK3 => ?_
    simp only [xs, xl, argS, reduceIte, Nat.reduceEqDiff, Nat.reduceAdd, Nat.reduceLT, Nat.reduceLeDiff, A.okCells, A.cells, A.one, splice, undefA, Bool.true_eq_false, Bool.false_eq_true, decide_true, Bool.not_true]
    refine hK3 _ ?_
    simp only [xs, xl, argS, reduceIte, Nat.reduceEqDiff, Nat.reduceAdd, Nat.reduceLT, Nat.reduceLeDiff, A.okCells, A.cells, A.one, splice, undefA, Bool.true_eq_false, Bool.false_eq_true, decide_true, Bool.not_true]
    refine c_fn C (by simp [A.underL, A.under]) ?_
    simp only [xs, xl, argS, reduceIte, Nat.reduceEqDiff, Nat.reduceAdd, Nat.reduceLT, Nat.reduceLeDiff, A.okCells, A.cells, A.one, splice, decide_true]
    refine hK _ (W_ret (.tmp ?_ rfl))
    simp only [x_upd, reduceIte]

set_option maxHeartbeats 2000000 in
theorem gridProperLaw_fn {f fg fa f1 fs fc fr : FuncId} (H : FnIs P f N [.t 10] (x_law08_GridProper fg fa f1 fs fc fr)) (hN : 5 ≤ N) (Hg : RightOk Γ P fg) (Ha : FnP Γ P fa [] (.bool true))
    (H1 : ∀ (x : Gd) (e w h : Int), GoodX x e w h → FnP Γ P f1 [gdA x, .int e, .int w, .int h] (.bool true)) (Hs : ScrollOk Γ P fs) (Hc : ClearOk Γ P fc) (Hr : ResizeOk Γ P fr)
    (g : Gd) (top bottom by_ a b c : Int) : FnP Γ P f [gdA g, .int top, .int bottom, .int by_, atA a b c] (.bool true) := by
  refine .of_W H (by simpa using hN) ?_
  have hG := Hg g
  unfold x_law08_GridProper
  refine W_seq (W_reg ?_)
  simp only [gdA, gdR, atA, xs, xl, argS, reduceIte, Nat.reduceEqDiff, Nat.reduceAdd, Nat.reduceLT, Nat.reduceLeDiff, A.okCells, A.cells, A.one, splice]
  cases hg : rightG g
  all_goals simp only [hg, Bool.false_eq_true, if_true, if_false, gdA, gdR] at hG
  · refine W_seq (W_seq (W_reg ?_))
    simp only [xs, xl, argS, reduceIte, Nat.reduceEqDiff, Nat.reduceAdd, Nat.reduceLT, Nat.reduceLeDiff, A.okCells, A.cells, A.one, splice]
    refine c_fn hG (by simp [A.underL, A.under]) ?_
    simp only [xs, xl, argS, reduceIte, Nat.reduceEqDiff, Nat.reduceAdd, Nat.reduceLT, Nat.reduceLeDiff, A.okCells, A.cells, A.one, splice]
    refine W_cond rfl (fun _ => ?_) (fun hc => by simp at hc)
    refine W_seq (W_reg ?_)
    simp only [xs, xl, argS, reduceIte, Nat.reduceEqDiff, Nat.reduceAdd, Nat.reduceLT, Nat.reduceLeDiff, A.okCells, A.cells, A.one, splice]
    refine c_fn Ha rfl ?_
    simp only [xs, xl, argS, reduceIte, Nat.reduceEqDiff, Nat.reduceAdd, Nat.reduceLT, Nat.reduceLeDiff, A.okCells, A.cells, A.one, splice]
    refine W_ret (.tmp ?_ rfl)
    simp only [x_upd, reduceIte]
  obtain ⟨hck, hsm, hl10⟩ := rightG_ok hg
  have S := Hs g hsm top bottom by_ a b c
  have C := Hc g hsm top bottom a b c
  have R := Hr g hsm bottom by_
  obtain ⟨gs, gl⟩ := scrollR_good hck hsm top bottom by_ b
  have gc := clearR_good hck hsm top bottom b
  have gr := resizeR_good hck hsm bottom by_
  generalize scrollR g top bottom by_ b = q1 at S gs gl
  generalize clearR g top bottom b = q2 at C gc
  generalize resizeR g bottom by_ = q3 at R gr
  obtain ⟨x, l, e⟩ := q1
  obtain ⟨y, e2⟩ := q2
  obtain ⟨z, e3⟩ := q3
  have T1 := H1 _ _ _ _ gs
  have T2 := H1 _ _ _ _ gc
  have T3 := H1 _ _ _ _ gr
  simp only [gdA, gdR, scrollA, gdE, atA] at S C R T1 T2 T3
  refine W_seq (W_seq (W_reg ?_))
  simp only [xs, xl, argS, reduceIte, Nat.reduceEqDiff, Nat.reduceAdd, Nat.reduceLT, Nat.reduceLeDiff, A.okCells, A.cells, A.one, splice]
  refine c_fn hG (by simp [A.underL, A.under]) ?_
  simp only [xs, xl, argS, reduceIte, Nat.reduceEqDiff, Nat.reduceAdd, Nat.reduceLT, Nat.reduceLeDiff, A.okCells, A.cells, A.one, splice]
  refine W_cond rfl (fun hc => by simp at hc) (fun _ => W_skip ?_)
  simp only [xs, xl, argS, reduceIte, Nat.reduceEqDiff, Nat.reduceAdd, Nat.reduceLT, Nat.reduceLeDiff, A.okCells, A.cells, A.one, splice]
  refine W_seq (W_reg ?_)
  simp only [xs, xl, argS, reduceIte, Nat.reduceEqDiff, Nat.reduceAdd, Nat.reduceLT, Nat.reduceLeDiff, A.okCells, A.cells, A.one, splice]
  refine W_seq (W_reg ?_)
  simp only [xs, xl, argS, reduceIte, Nat.reduceEqDiff, Nat.reduceAdd, Nat.reduceLT, Nat.reduceLeDiff, A.okCells, A.cells, A.one, splice]
  refine c_fn S (by simp [A.underL, A.under]) ?_
  simp only [xs, xl, argS, reduceIte, Nat.reduceEqDiff, Nat.reduceAdd, Nat.reduceLT, Nat.reduceLeDiff, A.okCells, A.cells, A.one, splice]
  refine W_seq (W_reg ?_)
  simp only [xs, xl, argS, reduceIte, Nat.reduceEqDiff, Nat.reduceAdd, Nat.reduceLT, Nat.reduceLeDiff, A.okCells, A.cells, A.one, splice]
  refine c_fn C (by simp [A.underL, A.under]) ?_
  simp only [xs, xl, argS, reduceIte, Nat.reduceEqDiff, Nat.reduceAdd, Nat.reduceLT, Nat.reduceLeDiff, A.okCells, A.cells, A.one, splice]
  refine W_seq (W_reg ?_)
  simp only [xs, xl, argS, reduceIte, Nat.reduceEqDiff, Nat.reduceAdd, Nat.reduceLT, Nat.reduceLeDiff, A.okCells, A.cells, A.one, splice]
  refine c_fn R (by simp [A.underL, A.under]) ?_
  simp only [xs, xl, argS, reduceIte, Nat.reduceEqDiff, Nat.reduceAdd, Nat.reduceLT, Nat.reduceLeDiff, A.okCells, A.cells, A.one, splice]
  let V : St := ⟨look [(2, .int bottom), (3, .int by_), (5, .ptr 0 1 0 0), (11, .fn f1 []), (13, .d (.sl eRw (crRows l))), (14, .int e), (15, .ptr 3 1 0 0), (12, .ptr 2 1 0 0), (16, .int e2), (17, .ptr 4 1 0 0), (18, .int e3)], [gB g, atB a b c, gB x, gB y, gB z]⟩
  refine W_co (s' := V) (Co.keep _ (by simp [x_upd, x_look])) ?_
  refine W_seq (W_regK fun K hK => ?_)
  refine run_take 8 fun K1 hK1 => ?_
  simp only [V, gdR, xs, xl, argS, reduceIte, Nat.reduceEqDiff, Nat.reduceAdd, Nat.reduceLT, Nat.reduceLeDiff, A.okCells, A.cells, A.one, splice]
  refine c_fn T1 (by simp [A.underL, A.under]) ?_
  simp only [xs, xl, argS, reduceIte, Nat.reduceEqDiff, Nat.reduceAdd, Nat.reduceLT, Nat.reduceLeDiff, A.okCells, A.cells, A.one, splice]
  refine hK1 _ ?_
  cases he : decide (e = 0)
  · have hl0 : l = [] := by
      rcases gl with h | h
      · have := of_decide_eq_false he; exact absurd h this
      · exact h
    subst hl0
    refine run_take 9 fun K2 hK2 => ?_
    simp only [gdR, xs, xl, argS, reduceIte, Nat.reduceEqDiff, Nat.reduceAdd, Nat.reduceLT, Nat.reduceLeDiff, A.okCells, A.cells, A.one, splice, he, undefA, Bool.true_eq_false, Bool.false_eq_true, crRows_len, List.length_nil, show ((0 : Nat) : Int) = 0 from rfl, decide_true]
    refine hK2 _ ?_
    refine run_take 9 fun K3 hK3 => ?_
    simp only [gdR, xs, xl, argS, reduceIte, Nat.reduceEqDiff, Nat.reduceAdd, Nat.reduceLT, Nat.reduceLeDiff, A.okCells, A.cells, A.one, splice, he, undefA, Bool.true_eq_false, Bool.false_eq_true, crRows_len, List.length_nil, show ((0 : Nat) : Int) = 0 from rfl, decide_true]
    refine c_fn T2 (by simp [A.underL, A.under]) ?_
    simp only [xs, xl, argS, reduceIte, Nat.reduceEqDiff, Nat.reduceAdd, Nat.reduceLT, Nat.reduceLeDiff, A.okCells, A.cells, A.one, splice]
    refine hK3 _ ?_
    refine run_take 8 fun K4 hK4 => ?_
    simp only [gdR, xs, xl, argS, reduceIte, Nat.reduceEqDiff, Nat.reduceAdd, Nat.reduceLT, Nat.reduceLeDiff, A.okCells, A.cells, A.one, splice, he, undefA, Bool.true_eq_false, Bool.false_eq_true, crRows_len, List.length_nil, show ((0 : Nat) : Int) = 0 from rfl, decide_true]
    refine c_fn T3 (by simp [A.underL, A.under]) ?_
    simp only [xs, xl, argS, reduceIte, Nat.reduceEqDiff, Nat.reduceAdd, Nat.reduceLT, Nat.reduceLeDiff, A.okCells, A.cells, A.one, splice]
    refine hK4 _ ?_
    simp only [gdR, xs, xl, argS, reduceIte, Nat.reduceEqDiff, Nat.reduceAdd, Nat.reduceLT, Nat.reduceLeDiff, A.okCells, A.cells, A.one, splice, he, undefA, Bool.true_eq_false, Bool.false_eq_true, crRows_len, List.length_nil, show ((0 : Nat) : Int) = 0 from rfl, decide_true]
    refine c_fn Ha rfl ?_
    simp only [xs, xl, argS, reduceIte, Nat.reduceEqDiff, Nat.reduceAdd, Nat.reduceLT, Nat.reduceLeDiff, A.okCells, A.cells, A.one, splice]
    refine hK _ (W_ret (.tmp ?_ rfl))
    simp only [x_upd, reduceIte]
  · refine run_take 9 fun K2 hK2 => ?_
    simp only [gdR, xs, xl, argS, reduceIte, Nat.reduceEqDiff, Nat.reduceAdd, Nat.reduceLT, Nat.reduceLeDiff, A.okCells, A.cells, A.one, splice, he, undefA, Bool.true_eq_false, Bool.false_eq_true]
    refine hK2 _ ?_
    refine run_take 9 fun K3 hK3 => ?_
    simp only [gdR, xs, xl, argS, reduceIte, Nat.reduceEqDiff, Nat.reduceAdd, Nat.reduceLT, Nat.reduceLeDiff, A.okCells, A.cells, A.one, splice, he, undefA, Bool.true_eq_false, Bool.false_eq_true]
    refine c_fn T2 (by simp [A.underL, A.under]) ?_
    simp only [xs, xl, argS, reduceIte, Nat.reduceEqDiff, Nat.reduceAdd, Nat.reduceLT, Nat.reduceLeDiff, A.okCells, A.cells, A.one, splice]
    refine hK3 _ ?_
    refine run_take 8 fun K4 hK4 => ?_
    simp only [gdR, xs, xl, argS, reduceIte, Nat.reduceEqDiff, Nat.reduceAdd, Nat.reduceLT, Nat.reduceLeDiff, A.okCells, A.cells, A.one, splice, he, undefA, Bool.true_eq_false, Bool.false_eq_true]
    refine c_fn T3 (by simp [A.underL, A.under]) ?_
    simp only [xs, xl, argS, reduceIte, Nat.reduceEqDiff, Nat.reduceAdd, Nat.reduceLT, Nat.reduceLeDiff, A.okCells, A.cells, A.one, splice]
    refine hK4 _ ?_
    simp only [gdR, xs, xl, argS, reduceIte, Nat.reduceEqDiff, Nat.reduceAdd, Nat.reduceLT, Nat.reduceLeDiff, A.okCells, A.cells, A.one, splice, he, undefA, Bool.true_eq_false, Bool.false_eq_true]
    refine c_fn Ha rfl ?_
    simp only [xs, xl, argS, reduceIte, Nat.reduceEqDiff, Nat.reduceAdd, Nat.reduceLT, Nat.reduceLeDiff, A.okCells, A.cells, A.one, splice]
    refine hK _ (W_ret (.tmp ?_ rfl))
    simp only [x_upd, reduceIte]

end Go.Proofs.YthpbagpnnokalaaDoor.Nx

namespace Go.Proofs.YthpbagpnnokalaaDoor.Nx
set_option linter.unusedSimpArgs false
set_option linter.unusedVariables false
set_option linter.unnecessarySimpa false
open Go

variable {P : Program} {N : Nat} {Γ : Tabs}

theorem rzRows_get {rows : List (List Ce)} {w : Int} {n i : Nat} (hi : i < n) : (rzRows rows w n)[i]'(by rw [rzRows_len]; exact hi) = rzRow rows w i := by simp [rzRows]
theorem resize_ok {g : Gd} (hck : gridCk g = 0) {w h : Int} (hz : szOk w h = true) : resizeR g w h = (⟨w, h, rzRows g.rows w h.toNat⟩, 0) := by
  simp only [resizeR, hck, ne_eq, not_true_eq_false, if_false, hz, if_true]
theorem resize_good {g : Gd} (hck : gridCk g = 0) (hs : g.small) {w h : Int} (hz : szOk w h = true) : gridCk ⟨w, h, rzRows g.rows w h.toNat⟩ = 0 ∧ Gd.small ⟨w, h, rzRows g.rows w h.toNat⟩ := by
  have := resizeR_good hck hs w h
  rw [resize_ok hck hz] at this
  rcases this with ⟨h, _⟩ | ⟨_, _, _, h1, h2⟩
  · exact absurd rfl h
  · exact ⟨h1, h2⟩

theorem cutR_no {l : List Ce} {w : Nat} (h : ∀ c, (l.take w).getLast? = some c → c.width ≠ 2) : cutR l w = l.take w := by
  unfold cutR
  cases hq : (l.take w).getLast? with
  | none => exact (List.getLast?_eq_none_iff.1 hq).symm
  | some c => dsimp only; rw [if_neg (h c hq)]
theorem fit_back {l : List Ce} (h : checkR l = 0) (k : Nat) : fitC (l ++ List.replicate k (blankC (-1))) l.length = l := by
  rcases Nat.eq_zero_or_pos k with rfl | hk
  · rw [fitC_le (by simp)]; simp
  · rw [fitC_gt (by simp; omega), cutR_no, List.take_left]
    intro c hc
    rw [List.take_left] at hc
    exact checkR_last h hc
theorem take_cutR {l : List Ce} {m w : Nat} (h : w < m) : (cutR l m).take w = l.take w := by
  unfold cutR
  cases hq : (l.take m).getLast? with
  | none =>
    have := List.getLast?_eq_none_iff.1 hq
    have h2 : (l.take m).take w = l.take w := by rw [List.take_take]; congr 1; omega
    rw [← h2, this]
  | some c =>
    dsimp only
    split
    · rw [List.take_set_of_le (by omega), List.take_take]; congr 1; omega
    · rw [List.take_take]; congr 1; omega
theorem fit_two {l : List Ce} {m w : Nat} (h1 : 1 ≤ w) (h2 : w ≤ m) (h3 : m ≤ l.length) (h : checkR l = 0) (hm : m ≤ 132) : fitC (fitC l m) w = fitC l w := by
  have hlen := (fitC_ck h (show 1 ≤ m by omega) hm).2
  rcases Nat.eq_or_lt_of_le h2 with rfl | h2
  · rw [fitC_le (l := fitC l w) (w := w) (by omega), hlen, Nat.sub_self]; simp
  · rw [fitC_gt (l := fitC l m) (w := w) (by omega), fitC_gt (l := l) (w := w) (by omega)]
    have key : (fitC l m).take w = l.take w := by
      rcases Nat.eq_or_lt_of_le h3 with rfl | h3
      · rw [fitC_le (Nat.le_refl _)]; simp
      · rw [fitC_gt h3, take_cutR h2]
    unfold cutR
    rw [key]

theorem sizes_back {g : Gd} (hck : gridCk g = 0) (hs : g.small) {w' h' : Int} (hz : szOk w' h' = true) (hw : g.w ≤ w') (hh : g.h ≤ h') : ∃ L, resizeR g w' h' = (L, 0) ∧ L.small ∧ resizeR L g.w g.h = (g, 0) := by
  obtain ⟨hL, hLs⟩ := resize_good hck hs hz
  refine ⟨_, resize_ok hck hz, hLs, ?_⟩
  rw [resize_ok hL (gridCk_sz hck)]
  obtain ⟨w, h, rows⟩ := g
  have hgh := gridCk_h hck
  have hrows := gridCk_rows hck
  dsimp only at hgh hrows hw hh
  obtain ⟨⟨k1, k2⟩, k3, k4⟩ := szOk_le hz
  have : rzRows (rzRows rows w' h'.toNat) w h.toNat = rows := by
    refine List.ext_getElem (by rw [rzRows_len]; omega) fun i hi hi2 => ?_
    rw [rzRows_len] at hi
    rw [rzRows_get hi]
    have hi3 : i < h'.toNat := by omega
    have e1 := rzRow_fit hL (w := w) (by omega) (by omega) (i := i) (by dsimp only; rw [rzRows_len]; exact hi3)
    dsimp only at e1
    rw [e1, rzRows_get hi3]
    have e2 := rzRow_fit hck (w := w') k1 k2 (i := i) hi2
    dsimp only at e2
    rw [e2]
    have hr := hrows _ (List.getElem_mem hi2)
    rw [fitC_le (l := rows[i]) (w := w'.toNat) (by omega)]
    have hwl : w.toNat = rows[i].length := by omega
    rw [hwl]
    exact fit_back hr.2 _
  rw [this]

theorem sizes_two {g : Gd} (hck : gridCk g = 0) (hs : g.small) {wm hm w2 h2 : Int} (hz1 : szOk wm hm = true) (hz2 : szOk w2 h2 = true) (q1 : w2 ≤ wm) (q2 : wm ≤ g.w) (q3 : h2 ≤ hm) (q4 : hm ≤ g.h) :
    ∃ M X, resizeR g wm hm = (M, 0) ∧ M.small ∧ resizeR M w2 h2 = (X, 0) ∧ resizeR g w2 h2 = (X, 0) := by
  obtain ⟨hL, hLs⟩ := resize_good hck hs hz1
  refine ⟨_, _, resize_ok hck hz1, hLs, resize_ok hL hz2, ?_⟩
  rw [resize_ok hck hz2]
  obtain ⟨w, h, rows⟩ := g
  have hgh := gridCk_h hck
  have hrows := gridCk_rows hck
  dsimp only at hgh hrows q2 q4
  obtain ⟨⟨k1, k2⟩, k3, k4⟩ := szOk_le hz1
  obtain ⟨⟨j1, j2⟩, j3, j4⟩ := szOk_le hz2
  have : rzRows rows w2 h2.toNat = rzRows (rzRows rows wm hm.toNat) w2 h2.toNat := by
    refine List.ext_getElem (by rw [rzRows_len, rzRows_len]) fun i hi hi2 => ?_
    rw [rzRows_len] at hi
    rw [rzRows_get hi, rzRows_get hi]
    have hi3 : i < hm.toNat := by omega
    have hi4 : i < rows.length := by omega
    have e1 := rzRow_fit hL (w := w2) j1 j2 (i := i) (by dsimp only; rw [rzRows_len]; exact hi3)
    dsimp only at e1
    rw [e1, rzRows_get hi3]
    have e2 := rzRow_fit hck (w := wm) k1 k2 (i := i) hi4
    have e3 := rzRow_fit hck (w := w2) j1 j2 (i := i) hi4
    dsimp only at e2 e3
    rw [e2, e3]
    have hr := hrows _ (List.getElem_mem hi4)
    rw [fit_two (by omega) (by omega) (by omega) hr.2 (by omega)]
  rw [this]

set_option maxHeartbeats 2000000 in
theorem gridSizesLaw_fn {f fg fa fr fe : FuncId} (H : FnIs P f N [.t 10] (x_law08_GridSizes fg fa fr fe)) (hN : 5 ≤ N) (Hg : RightOk Γ P fg) (Ha : FnP Γ P fa [] (.bool true)) (Hr : ResizeOk Γ P fr) (He : SameGOk Γ P fe)
    (g : Gd) (u v p q : Nat) (hu : u ≤ 255) (hv : v ≤ 255) (hp : p ≤ 255) (hq : q ≤ 255) : FnP Γ P f [gdA g, .d (.sc (.int .u8 u)), .d (.sc (.int .u8 v)), .d (.sc (.int .u8 p)), .d (.sc (.int .u8 q))] (.bool true) := by
  refine .of_W H (by simpa using hN) ?_
  have hG := Hg g
  unfold x_law08_GridSizes
  refine W_seq (W_reg ?_)
  simp only [gdA, gdR, xs, xl, argS, reduceIte, Nat.reduceEqDiff, Nat.reduceAdd, Nat.reduceLT, Nat.reduceLeDiff, A.okCells, A.cells, A.one, splice]
  let U : Bool → St := fun x => ⟨look [(1, .d (.sc (.int .u8 u))), (2, .d (.sc (.int .u8 v))), (3, .d (.sc (.int .u8 p))), (4, .d (.sc (.int .u8 q))), (5, .ptr 0 1 0 0), (28, .bool x)], [gB g]⟩
  refine W_seq (W_cutX (· = U (!rightG g || decide (20 < g.w))) rfl (fun K hK => ?_) ?_)
  · cases hg : rightG g
    all_goals simp only [hg, Bool.false_eq_true, if_true, if_false, gdA, gdR] at hG
    · simp only [xs, xl, argS, reduceIte, Nat.reduceEqDiff, Nat.reduceAdd, Nat.reduceLT, Nat.reduceLeDiff, A.okCells, A.cells, A.one, splice]
      refine c_fn hG (by simp [A.underL, A.under]) ?_
      simp only [xs, xl, argS, reduceIte, Nat.reduceEqDiff, Nat.reduceAdd, Nat.reduceLT, Nat.reduceLeDiff, A.okCells, A.cells, A.one, splice, Bool.true_eq_false, decide_true]
      exact hK _ _ (Co.keep _ (by simp [x_upd, x_look, hg])) rfl
    · simp only [xs, xl, argS, reduceIte, Nat.reduceEqDiff, Nat.reduceAdd, Nat.reduceLT, Nat.reduceLeDiff, A.okCells, A.cells, A.one, splice]
      refine c_fn hG (by simp [A.underL, A.under]) ?_
      simp only [xs, xl, argS, reduceIte, Nat.reduceEqDiff, Nat.reduceAdd, Nat.reduceLT, Nat.reduceLeDiff, A.okCells, A.cells, A.one, splice, show decide ((1 : Int) = 0) = false from rfl]
      exact hK _ _ (Co.keep _ (by simp [x_upd, x_look, hg])) rfl
  rintro _ rfl
  refine W_cond rfl (fun hc => ?_) (fun hc => W_skip ?_)
  · refine W_seq (W_reg ?_)
    simp only [U, xs, xl, argS, reduceIte, Nat.reduceEqDiff, Nat.reduceAdd, Nat.reduceLT, Nat.reduceLeDiff, A.okCells, A.cells, A.one, splice]
    refine c_fn Ha rfl ?_
    simp only [xs, xl, argS, reduceIte, Nat.reduceEqDiff, Nat.reduceAdd, Nat.reduceLT, Nat.reduceLeDiff, A.okCells, A.cells, A.one, splice]
    refine W_ret (.tmp ?_ rfl)
    simp only [x_upd, reduceIte]
  have hc := hc
  simp only [Bool.or_eq_false_iff, Bool.not_eq_false', decide_eq_false_iff_not] at hc
  obtain ⟨hg, hw20⟩ := hc
  obtain ⟨hck, hsm, hl10⟩ := rightG_ok hg
  have hgh := gridCk_h hck
  obtain ⟨n, hn⟩ : ∃ n, n = g.rows.length := ⟨_, rfl⟩
  have hn1 := gridCk_pos hck
  rw [← hn] at hgh hn1 hl10
  obtain ⟨W0, hW⟩ : ∃ W0 : Nat, g.w = W0 := ⟨g.w.toNat, by omega⟩
  have hh := hgh.1
  have l1 := Nat.mod_lt u (show 0 < 4 by decide)
  have l2 := Nat.mod_lt v (show 0 < 4 by decide)
  have l3 := Nat.mod_lt p (show 0 < W0 by omega)
  have l4 := Nat.mod_lt q (show 0 < n by omega)
  obtain ⟨w1, ew1⟩ : ∃ w1, w1 = u % 4 := ⟨_, rfl⟩
  obtain ⟨h1, eh1⟩ : ∃ h1, h1 = v % 4 := ⟨_, rfl⟩
  obtain ⟨w2, ew2⟩ : ∃ w2, w2 = p % W0 := ⟨_, rfl⟩
  obtain ⟨h2, eh2⟩ : ∃ h2, h2 = q % n := ⟨_, rfl⟩
  rw [← ew1] at l1
  rw [← eh1] at l2
  rw [← ew2] at l3
  rw [← eh2] at l4
  have szo : ∀ a b : Nat, 1 ≤ a → a ≤ 132 → 1 ≤ b → b ≤ 60 → szOk (a : Int) (b : Int) = true := fun a b _ _ _ _ => by
    simp only [szOk, Bool.and_eq_true, decide_eq_true_eq]; omega
  have z1 := szo (W0 + w1) (n + h1) (by omega) (by omega) (by omega) (by omega)
  obtain ⟨L, r1, hLs, r2⟩ := sizes_back hck hsm z1 (by omega) (by omega)
  have zm := szo ((W0 + (1 + w2)) / 2) ((n + (1 + h2)) / 2) (by omega) (by omega) (by omega) (by omega)
  have z2 := szo (1 + w2) (1 + h2) (by omega) (by omega) (by omega) (by omega)
  obtain ⟨Mi, X, r3, hMs, r4, r5⟩ := sizes_two hck hsm zm z2 (by omega) (by omega) (by omega) (by omega)
  have R1 := Hr g hsm ((W0 + w1 : Nat) : Int) ((n + h1 : Nat) : Int)
  have R2 := Hr L hLs g.w g.h
  have R3 := Hr g hsm (((W0 + (1 + w2)) / 2 : Nat) : Int) (((n + (1 + h2)) / 2 : Nat) : Int)
  have R4 := Hr Mi hMs ((1 + w2 : Nat) : Int) ((1 + h2 : Nat) : Int)
  have R5 := Hr g hsm ((1 + w2 : Nat) : Int) ((1 + h2 : Nat) : Int)
  rw [r1] at R1
  rw [r2] at R2
  rw [r3] at R3
  rw [r4] at R4
  rw [r5] at R5
  have E1 := He g g
  have E2 := He X X
  rw [decide_eq_true rfl] at E1 E2
  simp only [gdA, gdR, gdE, hW, hh] at R1 R2 R3 R4 R5 E1 E2
  have v1 : IntKind.i64.wrap (u : Int) = u := i64_of (by omega)
  have v2 : IntKind.i64.wrap (v : Int) = v := i64_of (by omega)
  have v3 : IntKind.i64.wrap (p : Int) = p := i64_of (by omega)
  have v4 : IntKind.i64.wrap (q : Int) = q := i64_of (by omega)
  have t1 : (u : Int).tmod 4 = (w1 : Int) := by rw [ew1]; rfl
  have t2 : (v : Int).tmod 4 = (h1 : Int) := by rw [eh1]; rfl
  have t3 : (p : Int).tmod (W0 : Int) = (w2 : Int) := by rw [ew2]; rfl
  have t4 : (q : Int).tmod (n : Int) = (h2 : Int) := by rw [eh2]; rfl
  have a1 : IntKind.i64.wrap ((W0 : Int) + (w1 : Int)) = ((W0 + w1 : Nat) : Int) := i64_of (by omega)
  have a2 : IntKind.i64.wrap ((n : Int) + (h1 : Int)) = ((n + h1 : Nat) : Int) := i64_of (by omega)
  have a3 : IntKind.i64.wrap (1 + (w2 : Int)) = ((1 + w2 : Nat) : Int) := i64_of (by omega)
  have a4 : IntKind.i64.wrap (1 + (h2 : Int)) = ((1 + h2 : Nat) : Int) := i64_of (by omega)
  have a5 : IntKind.i64.wrap ((W0 : Int) + ((1 + w2 : Nat) : Int)) = ((W0 + (1 + w2) : Nat) : Int) := i64_of (by omega)
  have a6 : IntKind.i64.wrap ((n : Int) + ((1 + h2 : Nat) : Int)) = ((n + (1 + h2) : Nat) : Int) := i64_of (by omega)
  simp only [U, gdR, hW, hh, xs, xl, argS, reduceIte, Nat.reduceEqDiff, Nat.reduceAdd, Nat.reduceLT, Nat.reduceLeDiff, A.okCells, A.cells, A.one, splice]
  refine W_seq (W_reg ?_)
  simp only [gdR, hW, hh, xs, xl, argS, reduceIte, Nat.reduceEqDiff, Nat.reduceAdd, Nat.reduceLT, Nat.reduceLeDiff, A.okCells, A.cells, A.one, splice, v1, v2, b_rem (k := .i64) (show (4 : Int) ≠ 0 by decide), t1, t2, a1, a2]
  refine c_fn R1 (by simp [A.underL, A.under]) ?_
  simp only [gdR, hW, hh, xs, xl, argS, reduceIte, Nat.reduceEqDiff, Nat.reduceAdd, Nat.reduceLT, Nat.reduceLeDiff, A.okCells, A.cells, A.one, splice]
  refine W_seq (W_reg ?_)
  simp only [gdR, hW, hh, xs, xl, argS, reduceIte, Nat.reduceEqDiff, Nat.reduceAdd, Nat.reduceLT, Nat.reduceLeDiff, A.okCells, A.cells, A.one, splice]
  refine c_fn R2 (by simp [A.underL, A.under]) ?_
  simp only [gdR, hW, hh, xs, xl, argS, reduceIte, Nat.reduceEqDiff, Nat.reduceAdd, Nat.reduceLT, Nat.reduceLeDiff, A.okCells, A.cells, A.one, splice]
  refine W_seq (W_seq (W_reg ?_))
  simp only [gdR, hW, hh, xs, xl, argS, reduceIte, Nat.reduceEqDiff, Nat.reduceAdd, Nat.reduceLT, Nat.reduceLeDiff, A.okCells, A.cells, A.one, splice, decide_true, Bool.not_true]
  refine c_fn E1 (by simp [A.underL, A.under]) ?_
  simp only [gdR, hW, hh, xs, xl, argS, reduceIte, Nat.reduceEqDiff, Nat.reduceAdd, Nat.reduceLT, Nat.reduceLeDiff, A.okCells, A.cells, A.one, splice, Bool.not_true]
  refine W_cond rfl (fun hc => by simp at hc) (fun _ => W_skip ?_)
  simp only [gdR, hW, hh, xs, xl, argS, reduceIte, Nat.reduceEqDiff, Nat.reduceAdd, Nat.reduceLT, Nat.reduceLeDiff, A.okCells, A.cells, A.one, splice]
  refine W_seq (W_drw (by simp) ?_)
  simp only [gdR, hW, hh, xs, xl, argS, reduceIte, Nat.reduceEqDiff, Nat.reduceAdd, Nat.reduceLT, Nat.reduceLeDiff, A.okCells, A.cells, A.one, splice, v3, v4, b_rem (k := .i64) (show (W0 : Int) ≠ 0 by omega), b_rem (k := .i64) (show (n : Int) ≠ 0 by omega), t3, t4, a3, a4]
  have d1 : IntKind.i64.wrap (((W0 + (1 + w2) : Nat) : Int).tdiv 2) = (((W0 + (1 + w2)) / 2 : Nat) : Int) := by
    rw [show ((W0 + (1 + w2) : Nat) : Int).tdiv 2 = (((W0 + (1 + w2)) / 2 : Nat) : Int) from rfl]; exact i64_of (by omega)
  have d2 : IntKind.i64.wrap (((n + (1 + h2) : Nat) : Int).tdiv 2) = (((n + (1 + h2)) / 2 : Nat) : Int) := by
    rw [show ((n + (1 + h2) : Nat) : Int).tdiv 2 = (((n + (1 + h2)) / 2 : Nat) : Int) from rfl]; exact i64_of (by omega)
  refine W_seq (W_reg ?_)
  simp only [gdR, hW, hh, xs, xl, argS, reduceIte, Nat.reduceEqDiff, Nat.reduceAdd, Nat.reduceLT, Nat.reduceLeDiff, A.okCells, A.cells, A.one, splice, a5, a6, b_quo (k := .i64) (show (2 : Int) ≠ 0 by decide), d1, d2]
  refine c_fn R3 (by simp [A.underL, A.under]) ?_
  simp only [gdR, hW, hh, xs, xl, argS, reduceIte, Nat.reduceEqDiff, Nat.reduceAdd, Nat.reduceLT, Nat.reduceLeDiff, A.okCells, A.cells, A.one, splice]
  refine W_seq (W_reg ?_)
  simp only [gdR, hW, hh, xs, xl, argS, reduceIte, Nat.reduceEqDiff, Nat.reduceAdd, Nat.reduceLT, Nat.reduceLeDiff, A.okCells, A.cells, A.one, splice]
  refine c_fn R4 (by simp [A.underL, A.under]) ?_
  simp only [gdR, hW, hh, xs, xl, argS, reduceIte, Nat.reduceEqDiff, Nat.reduceAdd, Nat.reduceLT, Nat.reduceLeDiff, A.okCells, A.cells, A.one, splice]
  refine W_seq (W_reg ?_)
  simp only [gdR, hW, hh, xs, xl, argS, reduceIte, Nat.reduceEqDiff, Nat.reduceAdd, Nat.reduceLT, Nat.reduceLeDiff, A.okCells, A.cells, A.one, splice]
  refine c_fn R5 (by simp [A.underL, A.under]) ?_
  simp only [gdR, hW, hh, xs, xl, argS, reduceIte, Nat.reduceEqDiff, Nat.reduceAdd, Nat.reduceLT, Nat.reduceLeDiff, A.okCells, A.cells, A.one, splice]
  refine W_seq (W_reg ?_)
  simp only [gdR, hW, hh, xs, xl, argS, reduceIte, Nat.reduceEqDiff, Nat.reduceAdd, Nat.reduceLT, Nat.reduceLeDiff, A.okCells, A.cells, A.one, splice, decide_true]
  refine c_fn E2 (by simp [A.underL, A.under]) ?_
  simp only [xs, xl, argS, reduceIte, Nat.reduceEqDiff, Nat.reduceAdd, Nat.reduceLT, Nat.reduceLeDiff, A.okCells, A.cells, A.one, splice]
  refine c_fn Ha rfl ?_
  simp only [xs, xl, argS, reduceIte, Nat.reduceEqDiff, Nat.reduceAdd, Nat.reduceLT, Nat.reduceLeDiff, A.okCells, A.cells, A.one, splice]
  refine W_ret (.tmp ?_ rfl)
  simp only [x_upd, reduceIte]

end Go.Proofs.YthpbagpnnokalaaDoor.Nx


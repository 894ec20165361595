/- Grids: Resize. -/
/- Grids: the reference's Resize; the law GridResize. -/
import Derived.Test.YthpbagpnnokalaaDoorNxG7
namespace Go.Proofs.YthpbagpnnokalaaDoor.Nx
set_option linter.unusedSimpArgs false
set_option linter.unusedVariables false
set_option linter.unnecessarySimpa false
open Go

variable {P : Program} {N : Nat} {Γ : Tabs}

/-- Row i of a resized grid. -/
def rzRow (rows : List (List Ce)) (w : Int) (i : Nat) : List Ce := if i < rows.length then fitR (checkR (rows.getD i [])) (rows.getD i []) w else blankRow w (-1)
def rzRows (rows : List (List Ce)) (w : Int) (n : Nat) : List (List Ce) := (List.range n).map (rzRow rows w)
theorem rzRows_len {rows : List (List Ce)} {w : Int} {n : Nat} : (rzRows rows w n).length = n := by simp [rzRows]
theorem rzRows_succ {rows : List (List Ce)} {w : Int} {n : Nat} : rzRows rows w (n + 1) = rzRows rows w n ++ [rzRow rows w n] := by simp [rzRows, List.range_succ]
/-- What Resize answers. -/
def resizeR (g : Gd) (w h : Int) : Gd × Int :=
  if gridCk g ≠ 0 then (zeroGd, 1) else if szOk w h then (⟨w, h, rzRows g.rows w h.toNat⟩, 0) else (zeroGd, 2)
abbrev ResizeOk (Γ : Tabs) (P : Program) (f : FuncId) : Prop := ∀ g : Gd, g.small → ∀ w h : Int, FnP Γ P f [gdA g, .int w, .int h] (gdE (resizeR g w h))

theorem gridCk_pos {g : Gd} (h : gridCk g = 0) : 1 ≤ g.rows.length := by
  have h2 := gridCk_h h
  simp only [gridCk] at h
  split at h
  · rename_i hs
    have := szOk_le hs
    omega
  · omega
theorem rowsCk_each {w : Int} : ∀ {l : List (List Ce)}, rowsCk w l = 0 → ∀ r ∈ l, (r.length : Int) = w ∧ checkR r = 0
  | [], _, r, hr => by simp at hr
  | a :: l, h, r, hr => by
    simp only [rowsCk] at h
    split at h
    · rename_i h1
      split at h
      · rename_i h2
        rcases List.mem_cons.1 hr with rfl | hr
        · exact ⟨h1, h2⟩
        · exact rowsCk_each h r hr
      · omega
    · cases h
theorem gridCk_rows {g : Gd} (h : gridCk g = 0) : ∀ r ∈ g.rows, (r.length : Int) = g.w ∧ checkR r = 0 := by
  simp only [gridCk] at h
  split at h
  · split at h
    · exact rowsCk_each h
    · omega
  · omega

theorem rzH_under (w0 : Int) (rows : List (List Ce)) (w n : Int) (i : Nat) (L M : List (List Ce)) : ∀ B ∈ setH w0 rows ++ [oB w n (.ref 9 i 0 i true), crBk L, crBk M], HB.under 10 B := by
  intro B hB
  simp only [setH, List.cons_append, List.nil_append, List.mem_cons, List.not_mem_nil, or_false] at hB
  rcases hB with rfl | rfl | rfl | rfl | rfl | rfl | rfl | rfl | rfl | rfl
  · exact under_oB (by decide)
  · exact under_zgB
  · exact under_gB
  · exact under_oB (by decide)
  · exact under_oB (by decide)
  · exact under_oB (by decide)
  · exact under_d
  · exact under_oB (by decide)
  · exact under_d
  · exact under_d

set_option maxHeartbeats 2000000 in
theorem resize_fn {f fr fs fst fb ff f1 : FuncId} (H : FnIs P f N [.c 6 3 true, .t 7] (x_grid_Resize fr fs fst fb ff)) (hN : 3 ≤ N) (g : Gd) (w h : Int)
    (Hr : ∀ h : Heap, FnD Γ.ctx P fr [gdA g] h (readyA g h.length) (h ++ readyH g h.length)) (Hs : ∀ w h, FnP Γ P fs [.int w, .int h] (.int (if szOk w h then 0 else 2))) (Hst : FnP Γ P fst [] (atA (-1) (-1) 0))
    (Hb : ∀ w a b c, FnP Γ P fb [.int w, atA a b c] (.fn f1 [.iptr [.sc (.int .i64 w)], .iptr (atD a b c)])) (H1 : ∀ w a b c, FnP Γ P f1 [.iptr [.sc (.int .i64 w)], .iptr (atD a b c)] (.d (.sl eCe (ceRows (blankRow w b)))))
    (Hf : gridCk g = 0 → ∀ r ∈ g.rows, FnP Γ P ff [.d (.sl eCe (ceRows r)), .int w] (.d (.sl eCe (ceRows (fitR (checkR r) r w))))) :
    FnP Γ P f [gdA g, .int w, .int h] (gdE (resizeR g w h)) := by
  have hR := Hr [gB g, zgB]
  refine .of_W H (by simpa using hN) ?_
  unfold x_grid_Resize
  refine W_seq (W_reg ?_)
  simp only [gdA, gdR, xs, xl, argS, reduceIte, Nat.reduceEqDiff, Nat.reduceAdd, Nat.reduceLT, Nat.reduceLeDiff, A.okCells, A.cells, A.one, splice]
  by_cases hck : ¬ gridCk g = 0
  · simp only [readyA, readyH, if_neg hck, gdA, gdR, List.length_cons, List.length_nil, Nat.reduceAdd] at hR
    refine W_seq (W_reg ?_)
    simp only [xs, xl, argS, reduceIte, Nat.reduceEqDiff, Nat.reduceAdd, Nat.reduceLT, Nat.reduceLeDiff, A.okCells, A.cells, A.one, splice]
    refine ce_fn hR ?_
    simp only [gdR, xs, xl, argS, reduceIte, Nat.reduceEqDiff, Nat.reduceAdd, Nat.reduceLT, Nat.reduceLeDiff, A.okCells, A.cells, A.one, splice]
    refine W_seq (W_seq (W_reg ?_))
    simp only [xs, xl, argS, reduceIte, Nat.reduceEqDiff, Nat.reduceAdd, Nat.reduceLT, Nat.reduceLeDiff, A.okCells, A.cells, A.one, splice]
    refine W_cond rfl (fun _ => ?_) (fun hc => by simp at hc)
    refine W_seq (W_reg ?_)
    simp only [xs, xl, argS, reduceIte, Nat.reduceEqDiff, Nat.reduceAdd, Nat.reduceLT, Nat.reduceLeDiff, A.okCells, A.cells, A.one, splice]
    refine W_ret ⟨.inr rfl, ?_⟩
    simp only [readRs, readR, single, x_upd, reduceIte, Nat.reduceEqDiff, x_look, argS, xs, xl, argS, reduceIte, Nat.reduceEqDiff, Nat.reduceAdd, Nat.reduceLT, Nat.reduceLeDiff, A.okCells, A.cells, A.one, splice, loadsTo, resizeR, ne_eq, hck, not_false_eq_true]
    exact frz_gd (.d (.nil _))
  have hck : gridCk g = 0 := Decidable.not_not.1 hck
  have hpos := gridCk_pos hck
  have hF := Hf hck
  obtain ⟨hgh, hgl, _, _⟩ := gridCk_h hck
  obtain ⟨w0, hh, rows⟩ := g
  dsimp only at hgh hgl hpos hF
  subst hgh
  simp only [readyA, readyH, if_pos hck, gdA, gdR, ownH, List.length_cons, List.length_nil, Nat.reduceAdd, List.cons_append, List.nil_append] at hR
  refine W_seq (W_reg ?_)
  simp only [xs, xl, argS, reduceIte, Nat.reduceEqDiff, Nat.reduceAdd, Nat.reduceLT, Nat.reduceLeDiff, A.okCells, A.cells, A.one, splice]
  refine ce_fn hR ?_
  simp only [gdR, xs, xl, argS, reduceIte, Nat.reduceEqDiff, Nat.reduceAdd, Nat.reduceLT, Nat.reduceLeDiff, A.okCells, A.cells, A.one, splice]
  refine W_seq (W_seq (W_reg ?_))
  simp only [xs, xl, argS, reduceIte, Nat.reduceEqDiff, Nat.reduceAdd, Nat.reduceLT, Nat.reduceLeDiff, A.okCells, A.cells, A.one, splice]
  refine W_cond rfl (fun hc => by simp at hc) (fun _ => W_skip ?_)
  simp only [xs, xl, argS, reduceIte, Nat.reduceEqDiff, Nat.reduceAdd, Nat.reduceLT, Nat.reduceLeDiff, A.okCells, A.cells, A.one, splice]
  let U : St := ⟨look [(1, .int w), (2, .int h), (3, .ptr 0 1 0 0), (6, .ptr 1 1 0 0)], setH w0 rows⟩
  refine W_co (s' := U) (Co.keep _ (by simp [x_upd, x_look, setH])) ?_
  have hS := Hs w h
  refine W_seq (W_seq (W_reg ?_))
  simp only [U, xs, xl, argS, reduceIte, Nat.reduceEqDiff, Nat.reduceAdd, Nat.reduceLT, Nat.reduceLeDiff, A.okCells, A.cells, A.one, splice]
  refine c_fn hS rfl ?_
  simp only [xs, xl, argS, reduceIte, Nat.reduceEqDiff, Nat.reduceAdd, Nat.reduceLT, Nat.reduceLeDiff, A.okCells, A.cells, A.one, splice]
  refine W_seq (W_reg ?_)
  simp only [xs, xl, argS, reduceIte, Nat.reduceEqDiff, Nat.reduceAdd, Nat.reduceLT, Nat.reduceLeDiff, A.okCells, A.cells, A.one, splice]
  cases hz : szOk w h
  all_goals simp only [hz, Bool.false_eq_true, if_true, if_false]
  · refine W_cond rfl (fun _ => ?_) (fun hc => by simp at hc)
    refine W_seq (W_reg ?_)
    simp only [setH, xs, xl, argS, reduceIte, Nat.reduceEqDiff, Nat.reduceAdd, Nat.reduceLT, Nat.reduceLeDiff, A.okCells, A.cells, A.one, splice]
    refine W_ret ⟨.inr rfl, ?_⟩
    simp only [readRs, readR, single, x_upd, reduceIte, Nat.reduceEqDiff, x_look, argS, xs, xl, argS, reduceIte, Nat.reduceEqDiff, Nat.reduceAdd, Nat.reduceLT, Nat.reduceLeDiff, A.okCells, A.cells, A.one, splice, loadsTo, resizeR, hck, ne_eq, not_true_eq_false, hz, Bool.false_eq_true, if_false]
    exact frz_gd (.d (.nil _))
  refine W_cond rfl (fun hc => by simp at hc) (fun _ => W_skip ?_)
  obtain ⟨⟨hw1, hw2⟩, hh1, hh2⟩ := szOk_le hz
  obtain ⟨n, rfl⟩ : ∃ n : Nat, h = n := ⟨h.toNat, by omega⟩
  have hres : resizeR ⟨w0, rows.length, rows⟩ w n = (⟨w, n, rzRows rows w n⟩, 0) := by
    simp only [resizeR, hck, ne_eq, not_true_eq_false, if_false, hz, if_true, Int.toNat_natCast]
  rw [hres]
  have hB := Hb w (-1) (-1) 0
  have hF1 := H1 w (-1) (-1) 0
  simp only [atA] at hB Hst
  obtain ⟨bl, hbl⟩ : ∃ bl, bl = blankRow w (-1) := ⟨_, rfl⟩
  rw [← hbl] at hF1
  let caps : List A := [.iptr [.sc (.int .i64 w)], .iptr (atD (-1) (-1) 0)]
  simp only [xs, xl, argS, reduceIte, Nat.reduceEqDiff, Nat.reduceAdd, Nat.reduceLT, Nat.reduceLeDiff, A.okCells, A.cells, A.one, splice]
  refine W_seq (W_reg ?_)
  simp only [xs, xl, argS, reduceIte, Nat.reduceEqDiff, Nat.reduceAdd, Nat.reduceLT, Nat.reduceLeDiff, A.okCells, A.cells, A.one, splice]
  refine c_fn Hst rfl ?_
  simp only [xs, xl, argS, reduceIte, Nat.reduceEqDiff, Nat.reduceAdd, Nat.reduceLT, Nat.reduceLeDiff, A.okCells, A.cells, A.one, splice]
  refine c_fn hB rfl ?_
  simp only [xs, xl, argS, reduceIte, Nat.reduceEqDiff, Nat.reduceAdd, Nat.reduceLT, Nat.reduceLeDiff, A.okCells, A.cells, A.one, splice]
  refine W_seq (W_reg ?_)
  simp only [setH, xs, xl, argS, reduceIte, Nat.reduceEqDiff, Nat.reduceAdd, Nat.reduceLT, Nat.reduceLeDiff, A.okCells, A.cells, A.one, splice]
  refine W_seq (W_seq (W_reg ?_))
  simp only [xs, xl, argS, reduceIte, Nat.reduceEqDiff, Nat.reduceAdd, Nat.reduceLT, Nat.reduceLeDiff, A.okCells, A.cells, A.one, splice]
  refine W_block ?_
  let R : Nat → List (List Ce) := rzRows rows w
  have hRl : ∀ i, (R i).length = i := fun i => rzRows_len
  have hRs : ∀ i r, rzRow rows w i = r → ((crRows (R i)).map fun r => r.map A.d) ++ [[A.d (.sl eCe (ceRows r))]] = (crRows (R (i + 1))).map fun r => r.map A.d := fun i r hr => by
    rw [show R (i + 1) = R i ++ [rzRow rows w i] from rzRows_succ, hr]; simp [crRows]
  let h0 : Heap := setH w0 rows
  let Hp : Nat → Heap := fun i => if i = 0 then h0 ++ [oB w n .nil] else h0 ++ [oB w n (.ref 9 i 0 i true), crBk (R 1), crBk (R i)]
  let S : Nat → St := fun i => ⟨look [(1, .int w), (3, .ptr 0 1 0 0), (6, .ptr 1 1 0 0), (10, .fn f1 caps), (11, .ptr 7 1 0 0), (35, .int n), (36, .int i)], Hp i⟩
  refine W_co (s' := S 0) (Co.keep _ (by simp [x_upd, x_look, caps])) ?_
  refine W_loop (fun q s => ∃ i, i ≤ n ∧ q = n - i ∧ s = S i) ⟨0, Nat.zero_le _, rfl, rfl⟩ ?_
  rintro q s ⟨i, hi, rfl, rfl⟩
  refine W_seq (W_reg ?_)
  simp only [S, xs, xl, argS, reduceIte, Nat.reduceEqDiff, Nat.reduceAdd, Nat.reduceLT, Nat.reduceLeDiff, A.okCells, A.cells, A.one, splice]
  refine W_seq (W_cond rfl (fun hc => W_skip ?_) (fun hc => W_exit ?_))
  · have hlt : i < n := by simpa using hc
    have w2 : IntKind.i64.wrap ((i : Int) + 1) = ((i + 1 : Nat) : Int) := i64_of (by omega)
    let Z : St := ⟨look [(1, .int w), (3, .ptr 0 1 0 0), (6, .ptr 1 1 0 0), (10, .fn f1 caps), (11, .ptr 7 1 0 0), (35, .int n), (36, .int i)], Hp (i + 1)⟩
    have hHs : Hp (i + 1) = h0 ++ [oB w n (.ref 9 (i + 1) 0 (i + 1) true), crBk (R 1), crBk (R (i + 1))] := by simp only [Hp, if_neg (Nat.succ_ne_zero i)]
    simp only [xs, xl, argS, reduceIte, Nat.reduceEqDiff, Nat.reduceAdd, Nat.reduceLT, Nat.reduceLeDiff, A.okCells, A.cells, A.one, splice]
    refine W_cut (· = Z) (W_block (W_seq (W_reg ?_))) ?_
    · simp only [xs, xl, argS, reduceIte, Nat.reduceEqDiff, Nat.reduceAdd, Nat.reduceLT, Nat.reduceLeDiff, A.okCells, A.cells, A.one, splice]
      by_cases hil : i < rows.length
      · have hgk : (crRows rows).getD i [] = [.sl eCe (ceRows rows[i])] := crRows_get hil
        have hget : (crC rows)[i]? = some [A.d (.sl eCe (ceRows rows[i]))] := by
          simp [crC, crRows, List.getElem?_map, List.getElem?_eq_getElem hil]
        have hgd : rows.getD i [] = rows[i] := by rw [List.getD_eq_getElem?_getD, List.getElem?_eq_getElem hil]; rfl
        have hr : rzRow rows w i = fitR (checkR rows[i]) rows[i] w := by simp only [rzRow, if_pos hil, hgd]
        have hf := hF _ (List.getElem_mem hil)
        have hs1 := hRs i _ hr
        clear hr hRs hgk hgd
        generalize fitR (checkR rows[i]) rows[i] w = L at hf hs1
        generalize rows[i] = K0 at hf hget
        have k1 : (0 : Int) ≤ (i : Int) := by omega
        have k2 : (i : Int) < (rows.length : Int) := by omega
        rcases Nat.eq_zero_or_pos i with rfl | hpos
        · have hR1 : (crRows (R 1)).map (fun r => r.map A.d) = [[A.d (.sl eCe (ceRows L))]] := hs1.symm
          have hH : Hp 0 = h0 ++ [oB w n .nil] := rfl
          simp only [hH, h0, setH, List.cons_append, List.nil_append]
          refine W_seq (W_reg ?_)
          simp only [xs, xl, argS, reduceIte, Nat.reduceEqDiff, Nat.reduceAdd, Nat.reduceLT, Nat.reduceLeDiff, A.okCells, A.cells, A.one, splice]
          refine W_cond rfl (fun _ => ?_) (fun hc => by have := of_decide_eq_false hc; omega)
          refine W_drw (by simp) ?_
          simp only [xs, xl, argS, reduceIte, Nat.reduceEqDiff, Nat.reduceAdd, Nat.reduceLT, Nat.reduceLeDiff, A.okCells, A.cells, A.one, splice, crRows_len, hget, Int.toNat_natCast]
          refine ⟨by omega, by omega, ?_⟩
          refine c_fn hf rfl ?_
          simp only [xs, xl, argS, reduceIte, Nat.reduceEqDiff, Nat.reduceAdd, Nat.reduceLT, Nat.reduceLeDiff, A.okCells, A.cells, A.one, splice]
          rw [if_neg (by simp)]
          refine ⟨by decide, by decide, ?_⟩
          refine ⟨Z, ?_, rfl⟩
          have hZ : Z = ⟨look [(1, .int w), (3, .ptr 0 1 0 0), (6, .ptr 1 1 0 0), (10, .fn f1 caps), (11, .ptr 7 1 0 0), (35, .int n), (36, .int (0 : Nat))], [oB w0 rows.length (sRf 6 rows.length), zgB, gB ⟨w0, rows.length, rows⟩, oB w0 rows.length (sRf 6 rows.length), oB w0 rows.length (sRf 6 rows.length), oB w0 rows.length (sRf 6 rows.length), crBk rows, oB w n (.ref 9 1 0 1 true), .cells eRw [[A.d (.sl eCe (ceRows L))]], .cells eRw [[A.d (.sl eCe (ceRows L))]]]⟩ := by
            simp only [Z, hHs, Nat.zero_add, h0, setH, List.cons_append, List.nil_append, crBk, hR1]
          rw [hZ]
          exact Co.keep _ (by simp [x_upd, x_look, caps])
        · have hH : Hp i = h0 ++ [oB w n (.ref 9 i 0 i true), crBk (R 1), crBk (R i)] := by simp only [Hp, if_neg (by omega : ¬ i = 0)]
          simp only [hH, h0, setH, List.cons_append, List.nil_append]
          refine W_seq (W_reg ?_)
          simp only [xs, xl, argS, reduceIte, Nat.reduceEqDiff, Nat.reduceAdd, Nat.reduceLT, Nat.reduceLeDiff, A.okCells, A.cells, A.one, splice]
          refine W_cond rfl (fun _ => ?_) (fun hc => by have := of_decide_eq_false hc; omega)
          refine W_drw (by simp) ?_
          simp only [xs, xl, argS, reduceIte, Nat.reduceEqDiff, Nat.reduceAdd, Nat.reduceLT, Nat.reduceLeDiff, A.okCells, A.cells, A.one, splice, crRows_len, hget, Int.toNat_natCast]
          refine ⟨by omega, by omega, ?_⟩
          refine c_fn hf rfl ?_
          simp only [xs, xl, argS, reduceIte, Nat.reduceEqDiff, Nat.reduceAdd, Nat.reduceLT, Nat.reduceLeDiff, A.okCells, A.cells, A.one, splice, crRows_len, hRl, hs1]
          refine ⟨by simp only [room]; omega, by simp only [maxLen]; omega, ?_⟩
          refine ⟨Z, ?_, rfl⟩
          rw [show Z = ⟨look [(1, .int w), (3, .ptr 0 1 0 0), (6, .ptr 1 1 0 0), (10, .fn f1 caps), (11, .ptr 7 1 0 0), (35, .int n), (36, .int i)], h0 ++ [oB w n (.ref 9 (i + 1) 0 (i + 1) true), crBk (R 1), crBk (R (i + 1))]⟩ from by simp only [Z, hHs]]
          refine Co.to _ 10 ?_ (Nat.zero_le _) (by simp) ?_
          · have : ∀ q, A.underL q caps = true := fun _ => rfl
            simp [x_upd, x_look, A.under, this]
          · intro B hB
            simp only [List.take_succ_cons, List.take_zero] at hB
            exact rzH_under _ _ _ _ _ _ _ B hB
      · have hs1 := hRs i bl (by simp only [rzRow, if_neg hil, ← hbl])
        rcases Nat.eq_zero_or_pos i with rfl | hpos
        · have hR1 : (crRows (R 1)).map (fun r => r.map A.d) = [[A.d (.sl eCe (ceRows bl))]] := hs1.symm
          have hH : Hp 0 = h0 ++ [oB w n .nil] := rfl
          simp only [hH, h0, setH, List.cons_append, List.nil_append]
          refine W_seq (W_reg ?_)
          simp only [xs, xl, argS, reduceIte, Nat.reduceEqDiff, Nat.reduceAdd, Nat.reduceLT, Nat.reduceLeDiff, A.okCells, A.cells, A.one, splice]
          refine W_cond rfl (fun hc => by have := of_decide_eq_true hc; omega) (fun _ => ?_)
          refine W_drw (by simp) ?_
          simp only [xs, xl, argS, reduceIte, Nat.reduceEqDiff, Nat.reduceAdd, Nat.reduceLT, Nat.reduceLeDiff, A.okCells, A.cells, A.one, splice]
          refine c_clo (caps := caps) (args := []) hF1 rfl ?_
          simp only [xs, xl, argS, reduceIte, Nat.reduceEqDiff, Nat.reduceAdd, Nat.reduceLT, Nat.reduceLeDiff, A.okCells, A.cells, A.one, splice]
          rw [if_neg (by simp)]
          refine ⟨by decide, by decide, ?_⟩
          refine ⟨Z, ?_, rfl⟩
          have hZ : Z = ⟨look [(1, .int w), (3, .ptr 0 1 0 0), (6, .ptr 1 1 0 0), (10, .fn f1 caps), (11, .ptr 7 1 0 0), (35, .int n), (36, .int (0 : Nat))], [oB w0 rows.length (sRf 6 rows.length), zgB, gB ⟨w0, rows.length, rows⟩, oB w0 rows.length (sRf 6 rows.length), oB w0 rows.length (sRf 6 rows.length), oB w0 rows.length (sRf 6 rows.length), crBk rows, oB w n (.ref 9 1 0 1 true), .cells eRw [[A.d (.sl eCe (ceRows bl))]], .cells eRw [[A.d (.sl eCe (ceRows bl))]]]⟩ := by
            simp only [Z, hHs, Nat.zero_add, h0, setH, List.cons_append, List.nil_append, crBk, hR1]
          rw [hZ]
          exact Co.keep _ (by simp [x_upd, x_look, caps])
        · have hH : Hp i = h0 ++ [oB w n (.ref 9 i 0 i true), crBk (R 1), crBk (R i)] := by simp only [Hp, if_neg (by omega : ¬ i = 0)]
          simp only [hH, h0, setH, List.cons_append, List.nil_append]
          refine W_seq (W_reg ?_)
          simp only [xs, xl, argS, reduceIte, Nat.reduceEqDiff, Nat.reduceAdd, Nat.reduceLT, Nat.reduceLeDiff, A.okCells, A.cells, A.one, splice]
          refine W_cond rfl (fun hc => by have := of_decide_eq_true hc; omega) (fun _ => ?_)
          refine W_drw (by simp) ?_
          simp only [xs, xl, argS, reduceIte, Nat.reduceEqDiff, Nat.reduceAdd, Nat.reduceLT, Nat.reduceLeDiff, A.okCells, A.cells, A.one, splice]
          refine c_clo (caps := caps) (args := []) hF1 rfl ?_
          simp only [xs, xl, argS, reduceIte, Nat.reduceEqDiff, Nat.reduceAdd, Nat.reduceLT, Nat.reduceLeDiff, A.okCells, A.cells, A.one, splice, crRows_len, hRl, hs1]
          refine ⟨by simp only [room]; omega, by simp only [maxLen]; omega, ?_⟩
          refine ⟨Z, ?_, rfl⟩
          rw [show Z = ⟨look [(1, .int w), (3, .ptr 0 1 0 0), (6, .ptr 1 1 0 0), (10, .fn f1 caps), (11, .ptr 7 1 0 0), (35, .int n), (36, .int i)], h0 ++ [oB w n (.ref 9 (i + 1) 0 (i + 1) true), crBk (R 1), crBk (R (i + 1))]⟩ from by simp only [Z, hHs]]
          refine Co.to _ 10 ?_ (Nat.zero_le _) (by simp) ?_
          · have : ∀ q, A.underL q caps = true := fun _ => rfl
            simp [x_upd, x_look, A.under, this]
          · intro B hB
            simp only [List.take_succ_cons, List.take_zero] at hB
            exact rzH_under _ _ _ _ _ _ _ B hB
    rintro _ rfl
    refine W_reg ?_
    simp only [Z, xs, xl, argS, reduceIte, Nat.reduceEqDiff, Nat.reduceAdd, Nat.reduceLT, Nat.reduceLeDiff, A.okCells, A.cells, A.one, splice, w2]
    refine ⟨n - (i + 1), S (i + 1), by omega, Co.keep _ ?_, i + 1, hlt, rfl, rfl⟩
    simp [x_upd, x_look, caps]
  · have hle : i = n := by simp at hc; omega
    subst hle
    have hH : Hp i = h0 ++ [oB w i (.ref 9 i 0 i true), crBk (R 1), crBk (R i)] := by simp only [Hp, if_neg (by omega : ¬ i = 0)]
    simp only [hH, h0, setH, xs, xl, argS, reduceIte, Nat.reduceEqDiff, Nat.reduceAdd, Nat.reduceLT, Nat.reduceLeDiff, A.okCells, A.cells, A.one, splice, List.cons_append, List.nil_append]
    refine W_seq (W_reg ?_)
    simp only [xs, xl, argS, reduceIte, Nat.reduceEqDiff, Nat.reduceAdd, Nat.reduceLT, Nat.reduceLeDiff, A.okCells, A.cells, A.one, splice]
    refine W_ret ⟨.inr rfl, ?_⟩
    simp only [readRs, readR, single, x_upd, reduceIte, Nat.reduceEqDiff, x_look, argS, xs, xl, argS, reduceIte, Nat.reduceEqDiff, Nat.reduceAdd, Nat.reduceLT, Nat.reduceLeDiff, A.okCells, A.cells, A.one, splice, loadsTo]
    refine frz_gd ?_
    have := fun h0 h1 h2 h3 h4 h5 h6 h7 h8 => frz_all (id := 9) (full := true) (e := eRw) (rows := crRows (R i)) (h := [h0, h1, h2, h3, h4, h5, h6, h7, h8, crBk (R i)]) rfl
    rw [crRows_len, hRl] at this
    exact this _ _ _ _ _ _ _ _ _

end Go.Proofs.YthpbagpnnokalaaDoor.Nx

namespace Go.Proofs.YthpbagpnnokalaaDoor.Nx
set_option linter.unusedSimpArgs false
set_option linter.unusedVariables false
set_option linter.unnecessarySimpa false
open Go

variable {P : Program} {N : Nat} {Γ : Tabs}

def newDA (w h : Int) : A := if szOk w h then .tup [.agg [.int w, .int h, .ref 5 h.toNat 0 h.toNat true], .int 0] else .tup [.agg [.int 0, .int 0, .nil], .int 2]
def newDH (w h : Int) : Heap := if szOk w h then [oB w h (.ref 5 h.toNat 0 h.toNat true), oB w h (.ref 5 h.toNat 0 h.toNat true), crBk [blankRow w (-1)], crBk (List.replicate h.toNat (blankRow w (-1)))] else [zgB]

theorem newDH_under (g : Gd) (w n : Int) (i : Nat) (L M : List (List Ce)) : ∀ B ∈ [gB g, zgB, zgB, oB w n (.ref 5 i 0 i true), crBk L, crBk M], HB.under 6 B := by
  intro B hB
  simp only [List.mem_cons, List.not_mem_nil, or_false] at hB
  rcases hB with rfl | rfl | rfl | rfl | rfl | rfl
  · exact under_gB
  · exact under_zgB
  · exact under_zgB
  · exact under_oB (by decide)
  · exact under_d
  · exact under_d

set_option maxHeartbeats 1000000 in
theorem rnewD_fn {f fs fB : FuncId} (H : FnIs P f N [.c 4 3 true, .t 5] (x_ref08_New fs fB)) (hN : 2 ≤ N) (Hs : ∀ w h, FnP Γ P fs [.int w, .int h] (.bool (szOk w h)))
    (HBl : ∀ w a b c, FnP Γ P fB [.int w, atA a b c] (.d (.sl eCe (ceRows (blankRow w b))))) (g : Gd) (w h : Int) :
    FnD Γ.ctx P f [.int w, .int h] [gB g, zgB] (newDA w h) ([gB g, zgB] ++ newDH w h) := by
  refine .of_W H (by simpa using hN) (Nat.zero_le _) ?_
  have hS := Hs w h
  have hB := HBl w 0 (-1) 0
  simp only [atA] at hB
  unfold x_ref08_New
  refine W_seq (W_reg ?_)
  simp only [gdR, xs, xl, argS, reduceIte, Nat.reduceEqDiff, Nat.reduceAdd, Nat.reduceLT, Nat.reduceLeDiff, A.okCells, A.cells, A.one, splice, List.cons_append, List.nil_append]
  refine W_seq (W_seq (W_reg ?_))
  simp only [xs, xl, argS, reduceIte, Nat.reduceEqDiff, Nat.reduceAdd, Nat.reduceLT, Nat.reduceLeDiff, A.okCells, A.cells, A.one, splice]
  refine c_fn hS rfl ?_
  simp only [xs, xl, argS, reduceIte, Nat.reduceEqDiff, Nat.reduceAdd, Nat.reduceLT, Nat.reduceLeDiff, A.okCells, A.cells, A.one, splice]
  cases hz : szOk w h
  all_goals simp only [hz, Bool.not_true, Bool.not_false]
  · refine W_cond rfl (fun _ => ?_) (fun hc => by simp at hc)
    refine W_seq (W_reg ?_)
    simp only [xs, xl, argS, reduceIte, Nat.reduceEqDiff, Nat.reduceAdd, Nat.reduceLT, Nat.reduceLeDiff, A.okCells, A.cells, A.one, splice]
    refine W_ret ⟨.inr rfl, ?_⟩
    simp only [readRs, readR, single, x_upd, reduceIte, Nat.reduceEqDiff, x_look, argS, xs, xl, argS, reduceIte, Nat.reduceEqDiff, Nat.reduceAdd, Nat.reduceLT, Nat.reduceLeDiff, A.okCells, A.cells, A.one, splice, loadsTo, newDA, newDH, hz, Bool.false_eq_true, if_false, gdR]
  refine W_cond rfl (fun hc => by simp at hc) (fun _ => W_skip ?_)
  obtain ⟨⟨hw1, hw2⟩, hh1, hh2⟩ := szOk_le hz
  obtain ⟨n, rfl⟩ : ∃ n : Nat, h = n := ⟨h.toNat, by omega⟩
  simp only [newDA, newDH, hz, if_true, Int.toNat_natCast]
  obtain ⟨bl, hbl⟩ : ∃ bl, bl = blankRow w (-1) := ⟨_, rfl⟩
  rw [← hbl] at hB ⊢
  simp only [xs, xl, argS, reduceIte, Nat.reduceEqDiff, Nat.reduceAdd, Nat.reduceLT, Nat.reduceLeDiff, A.okCells, A.cells, A.one, splice]
  refine W_seq (W_reg ?_)
  simp only [xs, xl, argS, reduceIte, Nat.reduceEqDiff, Nat.reduceAdd, Nat.reduceLT, Nat.reduceLeDiff, A.okCells, A.cells, A.one, splice]
  refine W_seq (W_seq (W_reg ?_))
  simp only [xs, xl, argS, reduceIte, Nat.reduceEqDiff, Nat.reduceAdd, Nat.reduceLT, Nat.reduceLeDiff, A.okCells, A.cells, A.one, splice]
  refine W_block ?_
  let M : Nat → List (List Ce) := fun i => List.replicate i bl
  have hMl : ∀ i, (M i).length = i := fun i => by simp [M]
  have hMs : ∀ i, ((crRows (M i)).map fun r => r.map A.d) ++ [[A.d (.sl eCe (ceRows bl))]] = (crRows (M (i + 1))).map fun r => r.map A.d := fun i => by simp [M, crRows, List.replicate_succ']
  let Hp : Nat → Heap := fun i => if i = 0 then [gB g, zgB, zgB, oB w n .nil] else [gB g, zgB, zgB, oB w n (.ref 5 i 0 i true), crBk [bl], crBk (M i)]
  let S : Nat → St := fun i => ⟨look [(0, .int w), (1, .int n), (4, .ptr 2 1 0 0), (6, .ptr 3 1 0 0), (7, .int i)], Hp i⟩
  refine W_co (s' := S 0) (Co.keep _ (by simp [x_upd, x_look])) ?_
  refine W_loop (fun q s => ∃ i, i ≤ n ∧ q = n - i ∧ s = S i) ⟨0, Nat.zero_le _, rfl, rfl⟩ ?_
  rintro q s ⟨i, hi, rfl, rfl⟩
  refine W_seq (W_seq (W_reg ?_))
  simp only [S, xs, xl, argS, reduceIte, Nat.reduceEqDiff, Nat.reduceAdd, Nat.reduceLT, Nat.reduceLeDiff, A.okCells, A.cells, A.one, splice]
  refine W_cond rfl (fun hc => W_skip ?_) (fun hc => W_exit ?_)
  · have hlt : i < n := by simpa using hc
    simp only [xs, xl, argS, reduceIte, Nat.reduceEqDiff, Nat.reduceAdd, Nat.reduceLT, Nat.reduceLeDiff, A.okCells, A.cells, A.one, splice]
    refine W_seq (W_block (W_drw (by simp) ?_))
    rcases Nat.eq_zero_or_pos i with rfl | hpos
    · have hH : Hp 0 = [gB g, zgB, zgB, oB w n .nil] := rfl
      simp only [hH, xs, xl, argS, reduceIte, Nat.reduceEqDiff, Nat.reduceAdd, Nat.reduceLT, Nat.reduceLeDiff, A.okCells, A.cells, A.one, splice]
      refine c_fn hB rfl ?_
      simp only [xs, xl, argS, reduceIte, Nat.reduceEqDiff, Nat.reduceAdd, Nat.reduceLT, Nat.reduceLeDiff, A.okCells, A.cells, A.one, splice]
      rw [if_neg (by simp)]
      refine ⟨by decide, by decide, ?_⟩
      refine W_reg ?_
      simp only [xs, xl, argS, reduceIte, Nat.reduceEqDiff, Nat.reduceAdd, Nat.reduceLT, Nat.reduceLeDiff, A.okCells, A.cells, A.one, splice]
      refine ⟨n - (0 + 1), S 1, by omega, ?_, 1, hlt, rfl, rfl⟩
      have hS1 : S 1 = ⟨look [(0, .int w), (1, .int n), (4, .ptr 2 1 0 0), (6, .ptr 3 1 0 0), (7, .int 1)], [gB g, zgB, zgB, oB w n (.ref 5 1 0 1 true), crBk [bl], crBk [bl]]⟩ := rfl
      rw [hS1]
      refine Co.keep _ ?_
      have w1 : IntKind.i64.wrap 1 = 1 := rfl
      simp [x_upd, x_look, w1]
    · have hH : Hp i = [gB g, zgB, zgB, oB w n (.ref 5 i 0 i true), crBk [bl], crBk (M i)] := by simp only [Hp, if_neg (by omega : ¬ i = 0)]
      have w2 : IntKind.i64.wrap ((i : Int) + 1) = ((i + 1 : Nat) : Int) := i64_of (by omega)
      simp only [hH, xs, xl, argS, reduceIte, Nat.reduceEqDiff, Nat.reduceAdd, Nat.reduceLT, Nat.reduceLeDiff, A.okCells, A.cells, A.one, splice]
      refine c_fn hB rfl ?_
      simp only [xs, xl, argS, reduceIte, Nat.reduceEqDiff, Nat.reduceAdd, Nat.reduceLT, Nat.reduceLeDiff, A.okCells, A.cells, A.one, splice, crRows_len, hMl, hMs]
      refine ⟨by simp only [room]; omega, by simp only [maxLen]; omega, ?_⟩
      refine W_reg ?_
      simp only [xs, xl, argS, reduceIte, Nat.reduceEqDiff, Nat.reduceAdd, Nat.reduceLT, Nat.reduceLeDiff, A.okCells, A.cells, A.one, splice, w2]
      refine ⟨n - (i + 1), S (i + 1), by omega, ?_, i + 1, hlt, rfl, rfl⟩
      have hS1 : S (i + 1) = ⟨look [(0, .int w), (1, .int n), (4, .ptr 2 1 0 0), (6, .ptr 3 1 0 0), (7, .int ((i + 1 : Nat) : Int))], [gB g, zgB, zgB, oB w n (.ref 5 (i + 1) 0 (i + 1) true), crBk [bl], crBk (M (i + 1))]⟩ := by
        simp only [S, Hp, if_neg (Nat.succ_ne_zero i)]
      rw [hS1]
      refine Co.to _ 6 ?_ (by simp) (by simp) ?_
      · simp [x_upd, x_look, A.under]
      · intro B hB
        simp only [List.take_succ_cons, List.take_zero] at hB
        exact newDH_under _ _ _ _ _ _ B hB
  · have hle : i = n := by simp at hc; omega
    subst hle
    have hH : Hp i = [gB g, zgB, zgB, oB w i (.ref 5 i 0 i true), crBk [bl], crBk (M i)] := by simp only [Hp, if_neg (by omega : ¬ i = 0)]
    simp only [hH, xs, xl, argS, reduceIte, Nat.reduceEqDiff, Nat.reduceAdd, Nat.reduceLT, Nat.reduceLeDiff, A.okCells, A.cells, A.one, splice]
    refine W_seq (W_reg ?_)
    simp only [xs, xl, argS, reduceIte, Nat.reduceEqDiff, Nat.reduceAdd, Nat.reduceLT, Nat.reduceLeDiff, A.okCells, A.cells, A.one, splice]
    refine W_ret ⟨.inr rfl, ?_⟩
    simp only [readRs, readR, single, x_upd, reduceIte, Nat.reduceEqDiff, x_look, argS, xs, xl, argS, reduceIte, Nat.reduceEqDiff, Nat.reduceAdd, Nat.reduceLT, Nat.reduceLeDiff, A.okCells, A.cells, A.one, splice, loadsTo, gdR]
    first | rfl | exact ⟨rfl, rfl⟩

theorem rz_end {rows : List (List Ce)} {w : Int} {n i : Nat} (hi : i ≤ n) (h : i = n ∨ rows.length ≤ i) : rzRows rows w i ++ List.replicate (n - i) (blankRow w (-1)) = rzRows rows w n := by
  rcases h with rfl | h
  · simp
  · obtain ⟨m, rfl⟩ : ∃ m, n = i + m := ⟨n - i, by omega⟩
    rw [Nat.add_sub_cancel_left]
    clear hi
    induction m with
    | zero => simp
    | succ m ih =>
      rw [← Nat.add_assoc, rzRows_succ, ← ih, List.replicate_succ']
      have : rzRow rows w (i + m) = blankRow w (-1) := by simp only [rzRow, if_neg (by omega : ¬ i + m < rows.length)]
      rw [this]; simp

theorem rz_set {rows : List (List Ce)} {w : Int} {n i : Nat} {bl r : List Ce} (hi : i < n) (hr : rzRow rows w i = r) : (rzRows rows w i ++ List.replicate (n - i) bl).set i r = rzRows rows w (i + 1) ++ List.replicate (n - (i + 1)) bl := by
  rw [List.set_append_right _ _ (by rw [rzRows_len]; omega), rzRows_len, Nat.sub_self, show n - i = (n - (i + 1)) + 1 by omega, List.replicate_succ, List.set_cons_zero, rzRows_succ, hr]
  simp

set_option maxHeartbeats 2000000 in
theorem rresize_fn {f fc fn ff : FuncId} (H : FnIs P f N [.c 6 3 true, .t 7] (x_ref08_Resize fc fn ff)) (hN : 3 ≤ N) (g : Gd) (w h : Int)
    (Hck : FnP Γ P fc [gdA g] (.int (gridCk g))) (Hn : ∀ w h, FnD Γ.ctx P fn [.int w, .int h] [gB g, zgB] (newDA w h) ([gB g, zgB] ++ newDH w h))
    (Hf : ∀ r ∈ g.rows, FnP Γ P ff [.d (.sl eCe (ceRows r)), .int w] (.d (.sl eCe (ceRows (fitR (checkR r) r w))))) :
    FnP Γ P f [gdA g, .int w, .int h] (gdE (resizeR g w h)) := by
  refine .of_W H (by simpa using hN) ?_
  have hC := Hck
  have hu := gd_under g 0
  have hW := Hn w h
  simp only [gdA, gdR] at hC hu hW
  unfold x_ref08_Resize
  refine W_seq (W_reg ?_)
  simp only [gdA, gdR, xs, xl, argS, reduceIte, Nat.reduceEqDiff, Nat.reduceAdd, Nat.reduceLT, Nat.reduceLeDiff, A.okCells, A.cells, A.one, splice]
  refine W_seq (W_seq (W_reg ?_))
  simp only [xs, xl, argS, reduceIte, Nat.reduceEqDiff, Nat.reduceAdd, Nat.reduceLT, Nat.reduceLeDiff, A.okCells, A.cells, A.one, splice]
  refine c_fn hC hu ?_
  simp only [xs, xl, argS, reduceIte, Nat.reduceEqDiff, Nat.reduceAdd, Nat.reduceLT, Nat.reduceLeDiff, A.okCells, A.cells, A.one, splice]
  refine W_cond rfl (fun hc => ?_) (fun hc => W_skip ?_)
  · have hck : gridCk g ≠ 0 := by simpa using hc
    refine W_seq (W_reg ?_)
    simp only [xs, xl, argS, reduceIte, Nat.reduceEqDiff, Nat.reduceAdd, Nat.reduceLT, Nat.reduceLeDiff, A.okCells, A.cells, A.one, splice]
    refine W_ret ⟨.inr rfl, ?_⟩
    simp only [readRs, readR, single, x_upd, reduceIte, Nat.reduceEqDiff, x_look, argS, xs, xl, argS, reduceIte, Nat.reduceEqDiff, Nat.reduceAdd, Nat.reduceLT, Nat.reduceLeDiff, A.okCells, A.cells, A.one, splice, loadsTo, resizeR, if_pos hck]
    exact frz_gd (.d (.nil _))
  have hck : gridCk g = 0 := by simpa using hc
  obtain ⟨hgh, hgl, _, _⟩ := gridCk_h hck
  obtain ⟨w0, hh, rows⟩ := g
  dsimp only at hgh hgl Hf hW
  subst hgh
  simp only [xs, xl, argS, reduceIte, Nat.reduceEqDiff, Nat.reduceAdd, Nat.reduceLT, Nat.reduceLeDiff, A.okCells, A.cells, A.one, splice]
  cases hz : szOk w h
  · simp only [newDA, newDH, hz, Bool.false_eq_true, if_false, List.cons_append, List.nil_append] at hW
    refine W_seq (W_reg ?_)
    simp only [xs, xl, argS, reduceIte, Nat.reduceEqDiff, Nat.reduceAdd, Nat.reduceLT, Nat.reduceLeDiff, A.okCells, A.cells, A.one, splice]
    refine ce_fn hW ?_
    simp only [xs, xl, argS, reduceIte, Nat.reduceEqDiff, Nat.reduceAdd, Nat.reduceLT, Nat.reduceLeDiff, A.okCells, A.cells, A.one, splice]
    refine W_seq (W_seq (W_reg ?_))
    simp only [xs, xl, argS, reduceIte, Nat.reduceEqDiff, Nat.reduceAdd, Nat.reduceLT, Nat.reduceLeDiff, A.okCells, A.cells, A.one, splice]
    refine W_cond rfl (fun _ => ?_) (fun hc => by simp at hc)
    refine W_seq (W_reg ?_)
    simp only [xs, xl, argS, reduceIte, Nat.reduceEqDiff, Nat.reduceAdd, Nat.reduceLT, Nat.reduceLeDiff, A.okCells, A.cells, A.one, splice]
    refine W_ret ⟨.inr rfl, ?_⟩
    simp only [readRs, readR, single, x_upd, reduceIte, Nat.reduceEqDiff, x_look, argS, xs, xl, argS, reduceIte, Nat.reduceEqDiff, Nat.reduceAdd, Nat.reduceLT, Nat.reduceLeDiff, A.okCells, A.cells, A.one, splice, loadsTo, resizeR, hck, ne_eq, not_true_eq_false, hz, Bool.false_eq_true, if_false]
    exact frz_gd (.d (.nil _))
  obtain ⟨⟨hw1, hw2⟩, hh1, hh2⟩ := szOk_le hz
  obtain ⟨n, rfl⟩ : ∃ n : Nat, h = n := ⟨h.toNat, by omega⟩
  have hres : resizeR ⟨w0, rows.length, rows⟩ w n = (⟨w, n, rzRows rows w n⟩, 0) := by
    simp only [resizeR, hck, ne_eq, not_true_eq_false, if_false, hz, if_true, Int.toNat_natCast]
  rw [hres]
  simp only [newDA, newDH, hz, if_true, Int.toNat_natCast, List.cons_append, List.nil_append] at hW
  obtain ⟨bl, hbl⟩ : ∃ bl, bl = blankRow w (-1) := ⟨_, rfl⟩
  rw [← hbl] at hW
  refine W_seq (W_reg ?_)
  simp only [xs, xl, argS, reduceIte, Nat.reduceEqDiff, Nat.reduceAdd, Nat.reduceLT, Nat.reduceLeDiff, A.okCells, A.cells, A.one, splice]
  refine ce_fn hW ?_
  simp only [xs, xl, argS, reduceIte, Nat.reduceEqDiff, Nat.reduceAdd, Nat.reduceLT, Nat.reduceLeDiff, A.okCells, A.cells, A.one, splice]
  refine W_seq (W_seq (W_reg ?_))
  simp only [xs, xl, argS, reduceIte, Nat.reduceEqDiff, Nat.reduceAdd, Nat.reduceLT, Nat.reduceLeDiff, A.okCells, A.cells, A.one, splice]
  refine W_cond rfl (fun hc => by simp at hc) (fun _ => W_skip ?_)
  simp only [xs, xl, argS, reduceIte, Nat.reduceEqDiff, Nat.reduceAdd, Nat.reduceLT, Nat.reduceLeDiff, A.okCells, A.cells, A.one, splice]
  refine W_seq (W_seq (W_reg ?_))
  simp only [xs, xl, argS, reduceIte, Nat.reduceEqDiff, Nat.reduceAdd, Nat.reduceLT, Nat.reduceLeDiff, A.okCells, A.cells, A.one, splice]
  refine W_block ?_
  let R : Nat → List (List Ce) := fun i => rzRows rows w i ++ List.replicate (n - i) bl
  have hRl : ∀ i, i ≤ n → (R i).length = n := fun i hi => by simp only [R, List.length_append, rzRows_len, List.length_replicate]; omega
  have hR0 : R 0 = List.replicate n bl := by simp [R, rzRows]
  let S : Nat → St := fun i => ⟨look [(1, .int w), (2, .int n), (3, .ptr 0 1 0 0), (6, .ptr 1 1 0 0), (8, .ptr 6 1 0 0), (10, .int i)], [gB ⟨w0, rows.length, rows⟩, zgB, oB w n (.ref 5 n 0 n true), oB w n (.ref 5 n 0 n true), crBk [bl], crBk (R i), oB w n (.ref 5 n 0 n true)]⟩
  refine W_co (s' := S 0) (by simp only [S, hR0]; exact Co.keep _ (by simp [x_upd, x_look])) ?_
  refine W_loop (fun q s => ∃ i, i ≤ n ∧ i ≤ rows.length ∧ q = n - i ∧ s = S i) ⟨0, Nat.zero_le _, Nat.zero_le _, rfl, rfl⟩ ?_
  rintro q s ⟨i, hi, hil, rfl, rfl⟩
  let V : Bool → St := fun x => ⟨look [(1, .int w), (2, .int n), (3, .ptr 0 1 0 0), (6, .ptr 1 1 0 0), (8, .ptr 6 1 0 0), (10, .int i), (33, .bool x)], [gB ⟨w0, rows.length, rows⟩, zgB, oB w n (.ref 5 n 0 n true), oB w n (.ref 5 n 0 n true), crBk [bl], crBk (R i), oB w n (.ref 5 n 0 n true)]⟩
  refine W_seq (W_cutX (· = V (decide (i < n) && decide (i < rows.length))) rfl (fun K hK => ?_) ?_)
  · have c1 : decide ((i : Int) < (n : Int)) = decide (i < n) := by rw [Bool.eq_iff_iff]; simp only [decide_eq_true_eq]; omega
    have c2 : decide ((i : Int) < (rows.length : Int)) = decide (i < rows.length) := by rw [Bool.eq_iff_iff]; simp only [decide_eq_true_eq]; omega
    cases e : decide (i < n)
    · simp only [S, gdR, xs, xl, argS, reduceIte, Nat.reduceEqDiff, Nat.reduceAdd, Nat.reduceLT, Nat.reduceLeDiff, A.okCells, A.cells, A.one, splice, c1, e]
      refine hK _ _ (Co.keep _ ?_) rfl
      simp [x_upd, x_look, e]
    · simp only [S, gdR, xs, xl, argS, reduceIte, Nat.reduceEqDiff, Nat.reduceAdd, Nat.reduceLT, Nat.reduceLeDiff, A.okCells, A.cells, A.one, splice, c1, c2, e]
      refine hK _ _ (Co.keep _ ?_) rfl
      simp [x_upd, x_look, e]
  rintro _ rfl
  refine W_cond rfl (fun hc => W_skip ?_) (fun hc => W_exit ?_)
  · have hlt : i < n ∧ i < rows.length := by simpa using hc
    have w2 : IntKind.i64.wrap ((i : Int) + 1) = ((i + 1 : Nat) : Int) := i64_of (by omega)
    have hgk : (crRows rows).getD i [] = [.sl eCe (ceRows rows[i])] := crRows_get hlt.2
    have hgd : rows.getD i [] = rows[i] := by rw [List.getD_eq_getElem?_getD, List.getElem?_eq_getElem hlt.2]; rfl
    have hr : rzRow rows w i = fitR (checkR rows[i]) rows[i] w := by simp only [rzRow, if_pos hlt.2, hgd]
    have hf := Hf _ (List.getElem_mem hlt.2)
    have hset : (crC (R i)).set i [A.d (.sl eCe (ceRows (fitR (checkR rows[i]) rows[i] w)))] = crC (R (i + 1)) := by
      rw [crC_set]
      simp only [R]
      rw [rz_set hlt.1 hr]
    have hml := hRl i hi
    have hget : ∃ y, (crC (R i))[i]? = some [y] := by
      have hil : i < (R i).length := by omega
      refine ⟨A.d (.sl eCe (ceRows (R i)[i])), ?_⟩
      simp [crC, crRows, List.getElem?_map, List.getElem?_eq_getElem hil]
    obtain ⟨y, hget⟩ := hget
    clear hr hgd
    generalize fitR (checkR rows[i]) rows[i] w = L at hf hset
    generalize rows[i] = K0 at hf hgk
    have k1 : (0 : Int) ≤ (i : Int) := by omega
    have k2 : (i : Int) < (rows.length : Int) := by omega
    simp only [V, xs, xl, argS, reduceIte, Nat.reduceEqDiff, Nat.reduceAdd, Nat.reduceLT, Nat.reduceLeDiff, A.okCells, A.cells, A.one, splice]
    refine W_seq (W_block (W_drw (by simp) ?_))
    simp only [gdR, xs, xl, argS, reduceIte, Nat.reduceEqDiff, Nat.reduceAdd, Nat.reduceLT, Nat.reduceLeDiff, A.okCells, A.cells, A.one, splice, crRows_len, hgk]
    refine ⟨by omega, by omega, ?_⟩
    refine c_fn hf rfl ?_
    simp only [xs, xl, argS, reduceIte, Nat.reduceEqDiff, Nat.reduceAdd, Nat.reduceLT, Nat.reduceLeDiff, A.okCells, A.cells, A.one, splice, crRows_len, hml, hget, hset, Int.toNat_natCast]
    refine ⟨by omega, by omega, ?_⟩
    refine W_reg ?_
    simp only [xs, xl, argS, reduceIte, Nat.reduceEqDiff, Nat.reduceAdd, Nat.reduceLT, Nat.reduceLeDiff, A.okCells, A.cells, A.one, splice, w2]
    refine ⟨n - (i + 1), S (i + 1), by omega, Co.keep _ ?_, i + 1, hlt.1, hlt.2, rfl, rfl⟩
    simp [x_upd, x_look]
  · have hle : i = n ∨ rows.length ≤ i := by
      simp only [Bool.and_eq_false_iff, decide_eq_false_iff_not] at hc
      omega
    have hRe : R i = rzRows rows w n := by
      simp only [R, hbl]
      exact rz_end hi hle
    simp only [V, hRe, xs, xl, argS, reduceIte, Nat.reduceEqDiff, Nat.reduceAdd, Nat.reduceLT, Nat.reduceLeDiff, A.okCells, A.cells, A.one, splice]
    refine W_seq (W_reg ?_)
    simp only [xs, xl, argS, reduceIte, Nat.reduceEqDiff, Nat.reduceAdd, Nat.reduceLT, Nat.reduceLeDiff, A.okCells, A.cells, A.one, splice]
    refine W_ret ⟨.inr rfl, ?_⟩
    simp only [readRs, readR, single, x_upd, reduceIte, Nat.reduceEqDiff, x_look, argS, xs, xl, argS, reduceIte, Nat.reduceEqDiff, Nat.reduceAdd, Nat.reduceLT, Nat.reduceLeDiff, A.okCells, A.cells, A.one, splice, loadsTo]
    refine frz_gd ?_
    have := fun h0 h1 h2 h3 h4 h6 => frz_all (id := 5) (full := true) (e := eRw) (rows := crRows (rzRows rows w n)) (h := [h0, h1, h2, h3, h4, crBk (rzRows rows w n), h6]) rfl
    rw [crRows_len, rzRows_len] at this
    exact this _ _ _ _ _ _

set_option maxHeartbeats 1000000 in
theorem gridResizeLaw_fn {f fg fa fn fm fe : FuncId} (H : FnIs P f N [.t 6] (x_law08_GridResize fg fa fn fm fe)) (hN : 3 ≤ N) (Hg : Great10Ok Γ P fg) (Ha : FnP Γ P fa [] (.bool true)) (Hn : ResizeOk Γ P fn) (Hm : ResizeOk Γ P fm) (He : SameGOk Γ P fe)
    (g : Gd) (w h : Int) : FnP Γ P f [gdA g, .int w, .int h] (.bool true) := by
  refine .of_W H (by simpa using hN) ?_
  have hG := Hg g.rows
  unfold x_law08_GridResize
  refine W_seq (W_reg ?_)
  simp only [gdA, gdR, xs, xl, argS, reduceIte, Nat.reduceEqDiff, Nat.reduceAdd, Nat.reduceLT, Nat.reduceLeDiff, A.okCells, A.cells, A.one, splice]
  cases hg : great10 g.rows
  all_goals simp only [hg, Bool.false_eq_true, if_true, if_false] at hG
  · have N1 := Hn g (great10_small hg).2 w h
    have N2 := Hm g (great10_small hg).2 w h
    generalize resizeR g w h = q at N1 N2
    obtain ⟨x, e⟩ := q
    have E1 := He x x
    rw [decide_eq_true rfl] at E1
    simp only [gdA, gdR, gdE] at N1 N2 E1
    refine W_seq (W_seq (W_reg ?_))
    simp only [xs, xl, argS, reduceIte, Nat.reduceEqDiff, Nat.reduceAdd, Nat.reduceLT, Nat.reduceLeDiff, A.okCells, A.cells, A.one, splice]
    refine c_fn hG rfl ?_
    simp only [xs, xl, argS, reduceIte, Nat.reduceEqDiff, Nat.reduceAdd, Nat.reduceLT, Nat.reduceLeDiff, A.okCells, A.cells, A.one, splice]
    refine W_cond rfl (fun hc => by simp at hc) (fun _ => W_skip ?_)
    simp only [xs, xl, argS, reduceIte, Nat.reduceEqDiff, Nat.reduceAdd, Nat.reduceLT, Nat.reduceLeDiff, A.okCells, A.cells, A.one, splice]
    refine W_seq (W_reg ?_)
    simp only [xs, xl, argS, reduceIte, Nat.reduceEqDiff, Nat.reduceAdd, Nat.reduceLT, Nat.reduceLeDiff, A.okCells, A.cells, A.one, splice]
    refine c_fn N1 (by simp [A.underL, A.under]) ?_
    simp only [xs, xl, argS, reduceIte, Nat.reduceEqDiff, Nat.reduceAdd, Nat.reduceLT, Nat.reduceLeDiff, A.okCells, A.cells, A.one, splice]
    refine W_seq (W_reg ?_)
    simp only [xs, xl, argS, reduceIte, Nat.reduceEqDiff, Nat.reduceAdd, Nat.reduceLT, Nat.reduceLeDiff, A.okCells, A.cells, A.one, splice]
    refine c_fn N2 (by simp [A.underL, A.under]) ?_
    simp only [xs, xl, argS, reduceIte, Nat.reduceEqDiff, Nat.reduceAdd, Nat.reduceLT, Nat.reduceLeDiff, A.okCells, A.cells, A.one, splice]
    refine W_seq (W_reg ?_)
    simp only [xs, xl, argS, reduceIte, Nat.reduceEqDiff, Nat.reduceAdd, Nat.reduceLT, Nat.reduceLeDiff, A.okCells, A.cells, A.one, splice]
    refine c_fn E1 rfl ?_
    simp only [xs, xl, argS, reduceIte, Nat.reduceEqDiff, Nat.reduceAdd, Nat.reduceLT, Nat.reduceLeDiff, A.okCells, A.cells, A.one, splice, decide_true]
    refine c_fn Ha rfl ?_
    simp only [xs, xl, argS, reduceIte, Nat.reduceEqDiff, Nat.reduceAdd, Nat.reduceLT, Nat.reduceLeDiff, A.okCells, A.cells, A.one, splice]
    refine W_ret (.tmp ?_ rfl)
    simp only [x_upd, reduceIte]
  · refine W_seq (W_seq (W_reg ?_))
    simp only [xs, xl, argS, reduceIte, Nat.reduceEqDiff, Nat.reduceAdd, Nat.reduceLT, Nat.reduceLeDiff, A.okCells, A.cells, A.one, splice]
    refine c_fn hG rfl ?_
    simp only [xs, xl, argS, reduceIte, Nat.reduceEqDiff, Nat.reduceAdd, Nat.reduceLT, Nat.reduceLeDiff, A.okCells, A.cells, A.one, splice]
    refine W_cond rfl (fun _ => ?_) (fun hc => by simp at hc)
    refine W_seq (W_reg ?_)
    simp only [xs, xl, argS, reduceIte, Nat.reduceEqDiff, Nat.reduceAdd, Nat.reduceLT, Nat.reduceLeDiff, A.okCells, A.cells, A.one, splice]
    refine c_fn Ha rfl ?_
    simp only [xs, xl, argS, reduceIte, Nat.reduceEqDiff, Nat.reduceAdd, Nat.reduceLT, Nat.reduceLeDiff, A.okCells, A.cells, A.one, splice]
    refine W_ret (.tmp ?_ rfl)
    simp only [x_upd, reduceIte]

end Go.Proofs.YthpbagpnnokalaaDoor.Nx


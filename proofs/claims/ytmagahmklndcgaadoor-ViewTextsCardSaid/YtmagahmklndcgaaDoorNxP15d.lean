/- Layer 15: the glyphs of a row of cells, collected. -/
/- Layer 15: slices.AppendSeq, slices.Collect over glyphs. -/
/- Layer 15: what the evaluator is told of slices.Collect. -/
import Derived.Test.YtmagahmklndcgaaDoorNxP15a
import Derived.Test.YtmagahmklndcgaaDoorNxB0
import Derived.Test.YtmagahmklndcgaaDoorNxEval
namespace Go.Proofs.YtmagahmklndcgaaDoor.Nx
set_option linter.unusedSimpArgs false
set_option linter.unusedVariables false
set_option linter.unnecessarySimpa false
open Go

variable {P : Program} {N : Nat} {Γ : Tabs}

/-! ### view.glyphs -/
def starGl : Gl := ⟨⟨#[42]⟩, false, 3⟩
def glyphOf (c : Ce) : Option Gl := if andI .i64 c.flags 64 ≠ 0 then some starGl else if c.width = 0 then none else some ⟨c.text, decide (c.width = 2), styleOf c.flags⟩
def glyphsOf (l : List Ce) : List Gl := l.filterMap glyphOf

theorem ceRows_len {l : List Ce} : (ceRows l).length = l.length := by simp [ceRows]

theorem glyphs_next {l : List Ce} {i : Nat} (hi : i < l.length) {g : Gl} (hg : glyphOf l[i] = some g) : (glyphsOf l)[(glyphsOf (l.take i)).length]? = some g ∧ (glyphsOf (l.take (i + 1))).length = (glyphsOf (l.take i)).length + 1 := by
  constructor
  · have h1 : glyphsOf l = glyphsOf (l.take i) ++ glyphsOf (l.drop i) := by
      unfold glyphsOf; rw [← List.filterMap_append, List.take_append_drop]
    rw [h1, List.getElem?_append_right (Nat.le_refl _), Nat.sub_self, List.drop_eq_getElem_cons hi]
    simp only [glyphsOf, List.filterMap_cons, hg, List.getElem?_cons_zero]
  · rw [List.take_add_one, List.getElem?_eq_getElem hi]
    simp only [glyphsOf, Option.toList_some, List.filterMap_append, List.filterMap_cons, hg, List.filterMap_nil, List.length_append, List.length_cons, List.length_nil]
theorem glyphs_skip {l : List Ce} {i : Nat} (hi : i < l.length) (hg : glyphOf l[i] = none) : (glyphsOf (l.take (i + 1))).length = (glyphsOf (l.take i)).length := by
  rw [List.take_add_one, List.getElem?_eq_getElem hi]
  simp only [glyphsOf, Option.toList_some, List.filterMap_append, List.filterMap_cons, hg, List.filterMap_nil, List.append_nil]

theorem glyphs1_gen {f fst : FuncId} {Ns : Nat} (H : FnIs P f N [] (x_view_glyphs_1 fst)) (hN : 2 ≤ N) (Hs : FnIs P fst Ns [.t 2] x_attr_Style) (hNs : 1 ≤ Ns) (l : List Ce) :
    GenD Γ P f [.iptr [.sl eCe (ceRows l)]] ((glyphsOf l).map fun g => [glA g]) := by
  refine ⟨H.enters, fun env b id I E rounds L h hI hL hb => ?_⟩
  refine .of_WT H (by simpa using hN) hb (W_noTabs ?_)
  unfold x_view_glyphs_1
  refine W_seq (W_reg ?_)
  simp only [xs, xl, argS, reduceIte, Nat.reduceEqDiff, Nat.reduceAdd, Nat.reduceLT, Nat.reduceLeDiff, A.okCells, A.cells, A.one, splice, ceRows_len]
  refine W_block ?_
  let S : Nat → Heap → St := fun i h => ⟨look [(0, .yld id), (6, .d (.sl eCe (ceRows l))), (7, .int l.length), (8, .int i)], h⟩
  refine W_co (s' := S 0 h) (Co.keep _ (by simp [x_upd, x_look])) ?_
  refine W_sl 6 rfl fun ⟨_, hroom, _⟩ => ?_
  have hlr : l.length ≤ room := by
    rw [ceRows_len] at hroom
    exact Nat.le_trans (Nat.le_mul_of_pos_right _ (by decide)) hroom
  refine W_loop (fun m s => ∃ i L' h', i ≤ l.length ∧ m = l.length - i ∧ s = S i h' ∧ Turn L L' h h' ∧ I (glyphsOf (l.take i)).length L') ⟨0, L, h, Nat.zero_le _, rfl, rfl, .refl hL, by simpa [glyphsOf] using hI⟩ ?_
  rintro m s ⟨i, L', h', hi, rfl, rfl, T, hI'⟩
  refine W_seq (W_reg ?_)
  simp only [xs, xl, argS, reduceIte, Nat.reduceEqDiff, Nat.reduceAdd, Nat.reduceLT, Nat.reduceLeDiff, A.okCells, A.cells, A.one, splice, S]
  refine W_seq (W_cond rfl (fun hc => W_skip ?_) (fun hc => W_exit ?_))
  · have hlt : i < l.length := by simpa using hc
    simp only [xs, xl, argS, reduceIte, Nat.reduceEqDiff, Nat.reduceAdd, Nat.reduceLT, Nat.reduceLeDiff, A.okCells, A.cells, A.one, splice]
    -- the glyph, the own blocks behind it
    refine W_seq (W_block (W_seq (W_reg ?_)))
    simp only [xs, xl, argS, reduceIte, Nat.reduceEqDiff, Nat.reduceAdd, Nat.reduceLT, Nat.reduceLeDiff, A.okCells, A.cells, A.one, splice, ceRows_get hlt, Ce.row, hp_g0, hp_s0, ceRows_len]
    refine ⟨by omega, by omega, ?_⟩
    refine W_seq (W_drw (by simp) ?_)
    simp only [xs, xl, argS, reduceIte, Nat.reduceEqDiff, Nat.reduceAdd, Nat.reduceLT, Nat.reduceLeDiff, A.okCells, A.cells, A.one, splice, List.append_assoc, hp_g0, hp_g1, hp_s0, hp_s1]
    refine c_fn (style_fn Hs hNs _ _ _) rfl ?_
    simp only [xs, xl, argS, reduceIte, Nat.reduceEqDiff, Nat.reduceAdd, Nat.reduceLT, Nat.reduceLeDiff, A.okCells, A.cells, A.one, splice, List.append_assoc, hp_g0, hp_g1, hp_s0, hp_s1]
    have ci : ((l[i].width == 2) : Bool) = decide (l[i].width = 2) := by
      rw [Bool.eq_iff_iff]; simp
    refine W_seq (W_seq (W_reg ?_))
    simp only [xs, xl, argS, reduceIte, Nat.reduceEqDiff, Nat.reduceAdd, Nat.reduceLT, Nat.reduceLeDiff, A.okCells, A.cells, A.one, splice, List.append_assoc, hp_g0, hp_g1, hp_s0, hp_s1]
    refine W_cond rfl (fun hd => ?_) (fun hd => ?_)
    · have hfl : andI .i64 l[i].flags 64 ≠ 0 := by simpa using hd
      have hgl : glyphOf l[i] = some starGl := by simp [glyphOf, hfl]
      refine W_reg ?_
      simp only [xs, xl, argS, reduceIte, Nat.reduceEqDiff, Nat.reduceAdd, Nat.reduceLT, Nat.reduceLeDiff, A.okCells, A.cells, A.one, splice, List.append_assoc, hp_g0, hp_g1, hp_s0, hp_s1]
      refine W_seq (W_reg ?_)
      simp only [xs, xl, argS, reduceIte, Nat.reduceEqDiff, Nat.reduceAdd, Nat.reduceLT, Nat.reduceLeDiff, A.okCells, A.cells, A.one, splice, List.append_assoc, hp_g0, hp_g1, hp_s0, hp_s1]
      obtain ⟨hnx, hct⟩ := glyphs_next hlt hgl
      have hxs : ((glyphsOf l).map fun g => [glA g])[(glyphsOf (l.take i)).length]? = some [glA starGl] := by rw [List.getElem?_map, hnx]; rfl
      have hlen2 : b ≤ (h' ++ [HB.cells eCe [l[i].row.map .d], HB.cells eGl [(starGl).row.map .d]]).length := by have := T.len; simp; omega
      rcases rounds _ _ L' _ hxs hI' (T.has.app _) hlen2 with ⟨L2, h2, hR, T2, hI2⟩ | ⟨L2, h2, hR, T2, hE2⟩
      · refine ce_yld hR ?_
        simp only [xs, xl, argS, reduceIte, Nat.reduceEqDiff, Nat.reduceAdd, Nat.reduceLT, Nat.reduceLeDiff, A.okCells, A.cells, A.one, splice]
        refine W_cond rfl (fun hd => by cases hd) (fun _ => W_skip ?_)
        simp only [xs, xl, argS, reduceIte, Nat.reduceEqDiff, Nat.reduceAdd, Nat.reduceLT, Nat.reduceLeDiff, A.okCells, A.cells, A.one, splice]
        refine W_reg ?_
        simp only [xs, xl, argS, reduceIte, Nat.reduceEqDiff, Nat.reduceAdd, Nat.reduceLT, Nat.reduceLeDiff, A.okCells, A.cells, A.one, splice]
        refine ⟨l.length - (i + 1), S (i + 1) h2, by omega, Co.keep _ ?_, i + 1, L2, h2, hlt, rfl, rfl, T.trans ((Turn.app T.has _).trans T2), by rw [hct]; exact hI2⟩
        simp [x_upd, x_look, i64_succ' hlt hlr]
      · refine ce_yld hR ?_
        simp only [xs, xl, argS, reduceIte, Nat.reduceEqDiff, Nat.reduceAdd, Nat.reduceLT, Nat.reduceLeDiff, A.okCells, A.cells, A.one, splice]
        refine W_cond rfl (fun _ => W_ret ?_) (fun hd => by cases hd)
        simp only [xs, xl, argS, reduceIte, Nat.reduceEqDiff, Nat.reduceAdd, Nat.reduceLT, Nat.reduceLeDiff, A.okCells, A.cells, A.one, splice]
        refine ⟨.inr trivial, ?_⟩
        simp only [readRs]
        exact ⟨L2, T.trans ((Turn.app T.has _).trans T2), .inr hE2⟩
    · have hfl : andI .i64 l[i].flags 64 = 0 := by simpa using hd
      refine W_seq (W_reg ?_)
      simp only [xs, xl, argS, reduceIte, Nat.reduceEqDiff, Nat.reduceAdd, Nat.reduceLT, Nat.reduceLeDiff, A.okCells, A.cells, A.one, splice, List.append_assoc, hp_g0, hp_g1, hp_s0, hp_s1]
      refine W_cond rfl (fun hw => W_exit ?_) (fun hw => W_skip ?_)
      · have hwd : l[i].width = 0 := by simpa using hw
        have hgl : glyphOf l[i] = none := by simp [glyphOf, hfl, hwd]
        simp only [xs, xl, argS, reduceIte, Nat.reduceEqDiff, Nat.reduceAdd, Nat.reduceLT, Nat.reduceLeDiff, A.okCells, A.cells, A.one, splice]
        refine W_reg ?_
        simp only [xs, xl, argS, reduceIte, Nat.reduceEqDiff, Nat.reduceAdd, Nat.reduceLT, Nat.reduceLeDiff, A.okCells, A.cells, A.one, splice]
        refine ⟨l.length - (i + 1), S (i + 1) _, by omega, Co.keep _ ?_, i + 1, L', _, hlt, rfl, rfl, T.trans (Turn.app T.has _), by rw [glyphs_skip hlt hgl]; exact hI'⟩
        simp [x_upd, x_look, i64_succ' hlt hlr]
      · have hwd : l[i].width ≠ 0 := by simpa using hw
        have hgl : glyphOf l[i] = some ⟨l[i].text, decide (l[i].width = 2), styleOf l[i].flags⟩ := by simp [glyphOf, hfl, hwd]
        simp only [xs, xl, argS, reduceIte, Nat.reduceEqDiff, Nat.reduceAdd, Nat.reduceLT, Nat.reduceLeDiff, A.okCells, A.cells, A.one, splice]
        refine W_seq (W_reg ?_)
        simp only [xs, xl, argS, reduceIte, Nat.reduceEqDiff, Nat.reduceAdd, Nat.reduceLT, Nat.reduceLeDiff, A.okCells, A.cells, A.one, splice, List.append_assoc, hp_g0, hp_g1, hp_s0, hp_s1]
        obtain ⟨hnx, hct⟩ := glyphs_next hlt hgl
        have hxs : ((glyphsOf l).map fun g => [glA g])[(glyphsOf (l.take i)).length]? = some [glA ⟨l[i].text, decide (l[i].width = 2), styleOf l[i].flags⟩] := by rw [List.getElem?_map, hnx]; rfl
        have hlen2 : b ≤ (h' ++ [HB.cells eCe [l[i].row.map .d], HB.cells eGl [((⟨l[i].text, decide (l[i].width = 2), styleOf l[i].flags⟩ : Gl)).row.map .d]]).length := by have := T.len; simp; omega
        rcases rounds _ _ L' _ hxs hI' (T.has.app _) hlen2 with ⟨L2, h2, hR, T2, hI2⟩ | ⟨L2, h2, hR, T2, hE2⟩
        · refine ce_yld hR ?_
          simp only [xs, xl, argS, reduceIte, Nat.reduceEqDiff, Nat.reduceAdd, Nat.reduceLT, Nat.reduceLeDiff, A.okCells, A.cells, A.one, splice]
          refine W_cond rfl (fun hd => by cases hd) (fun _ => W_skip ?_)
          simp only [xs, xl, argS, reduceIte, Nat.reduceEqDiff, Nat.reduceAdd, Nat.reduceLT, Nat.reduceLeDiff, A.okCells, A.cells, A.one, splice]
          refine W_reg ?_
          simp only [xs, xl, argS, reduceIte, Nat.reduceEqDiff, Nat.reduceAdd, Nat.reduceLT, Nat.reduceLeDiff, A.okCells, A.cells, A.one, splice]
          refine ⟨l.length - (i + 1), S (i + 1) h2, by omega, Co.keep _ ?_, i + 1, L2, h2, hlt, rfl, rfl, T.trans ((Turn.app T.has _).trans T2), by rw [hct]; exact hI2⟩
          simp [x_upd, x_look, i64_succ' hlt hlr]
        · refine ce_yld hR ?_
          simp only [xs, xl, argS, reduceIte, Nat.reduceEqDiff, Nat.reduceAdd, Nat.reduceLT, Nat.reduceLeDiff, A.okCells, A.cells, A.one, splice]
          refine W_cond rfl (fun _ => W_ret ?_) (fun hd => by cases hd)
          simp only [xs, xl, argS, reduceIte, Nat.reduceEqDiff, Nat.reduceAdd, Nat.reduceLT, Nat.reduceLeDiff, A.okCells, A.cells, A.one, splice]
          refine ⟨.inr trivial, ?_⟩
          simp only [readRs]
          exact ⟨L2, T.trans ((Turn.app T.has _).trans T2), .inr hE2⟩
  · have hle : i = l.length := by simp at hc; omega
    subst hle
    rw [List.take_length] at hI'
    simp only [xs, xl, argS, reduceIte, Nat.reduceEqDiff, Nat.reduceAdd, Nat.reduceLT, Nat.reduceLeDiff, A.okCells, A.cells, A.one, splice]
    refine ⟨.inl trivial, ?_⟩
    simp only [readRs]
    exact ⟨L', T, .inl hI'⟩

end Go.Proofs.YtmagahmklndcgaaDoor.Nx

namespace Go.Proofs.YtmagahmklndcgaaDoor.Nx
set_option linter.unusedSimpArgs false
set_option linter.unusedVariables false
set_option linter.unnecessarySimpa false
open Go

variable {P : Program} {N : Nat} {Γ : Tabs}

abbrev glBlock (l : List Gl) : HB := .cells eGl ((glRows l).map fun r => r.map A.d)
def boxV : Nat → Nat → A
  | 0, _ => .nil
  | k + 1, j => .ref j (k + 1) 0 (k + 1) true
abbrev boxB (k j : Nat) : HB := .cells ⟨1, 24⟩ [[boxV k j]]

/-- The body's blocks behind k rounds. -/
def seqI (gs : List Gl) (k : Nat) (L : List (Nat × HB)) : Prop :=
  (k = 0 ∧ ∃ j, L = [(0, boxB 0 j)]) ∨ (0 < k ∧ ∃ j, j ≠ 0 ∧ L = [(0, boxB k j), (j, glBlock (gs.take k))])

theorem glBlock_snoc {gs : List Gl} {k : Nat} (hk : k < gs.length) : ((glRows (gs.take k)).map fun r => r.map A.d) ++ [gs[k].row.map .d] = (glRows (gs.take (k + 1))).map fun r => r.map A.d := by
  rw [List.take_add_one, List.getElem?_eq_getElem hk]
  simp only [glRows, Option.toList_some, List.map_append, List.map_cons, List.map_nil]

theorem appendSeq_fn {f fG : FuncId} {caps : List A} (H : FnIs P f N [.t 4] x_slices_AppendSeq_675) (hN : 2 ≤ N) (gs : List Gl) (hG : GenD Γ P fG caps (gs.map fun g => [glA g])) (h0 : A.underL 0 caps = true) (hlen : gs.length * 32 ≤ room) :
    FnP Γ P f [.nil, .fn fG caps] (.d (.sl eGl (glRows gs))) := by
  refine .of_W H (by simpa using hN) ?_
  unfold x_slices_AppendSeq_675
  refine W_seq (W_reg ?_)
  simp only [xs, xl, argS, reduceIte, Nat.reduceEqDiff, Nat.reduceAdd, Nat.reduceLT, Nat.reduceLeDiff, A.okCells, A.cells, A.one, splice]
  refine W_seq (W_seq (W_reg ?_))
  simp only [xs, xl, argS, reduceIte, Nat.reduceEqDiff, Nat.reduceAdd, Nat.reduceLT, Nat.reduceLeDiff, A.okCells, A.cells, A.one, splice]
  let sl0 : Nat → A := upd (upd (upd (look [(0, .nil), (1, .fn fG caps)]) 2 (.ptr 0 1 0 0)) 4 .nil) 6 (.fn fG caps)
  have hmax : gs.length ≤ room := Nat.le_trans (Nat.le_mul_of_pos_right _ (by decide)) hlen
  refine W_block (W_range (Γ := Γ.ctx) (xs := gs.map fun g => [glA g]) (f := fG) (caps := caps) rfl hG (seqI gs) (fun _ _ => False) [(0, boxB 0 0)] (.inl ⟨rfl, 0, rfl⟩) ?_
    (fun k n => upd (upd sl0 7 (glA (gs.getD k starGl))) 5 (.ptr n 1 0 0)) (fun k => [.cells eGl [(gs.getD k starGl).row.map .d]]) ?_ ?_ ?_ ?_ ?_)
  · intro p hp
    simp only [List.mem_cons, List.not_mem_nil, or_false] at hp
    subst hp; rfl
  · intro k xa hk
    simp only [List.getElem?_map, Option.map_eq_some_iff] at hk
    obtain ⟨g, _, rfl⟩ := hk
    rfl
  · -- the variable
    intro k xa h rl hk hlt
    simp only [List.getElem?_map, Option.map_eq_some_iff] at hk
    obtain ⟨g, hg, rfl⟩ := hk
    have hgd : gs.getD k starGl = g := by rw [List.getD_eq_getElem?_getD, hg]; rfl
    refine W_reg ?_
    simp only [xs, xl, argS, reduceIte, Nat.reduceEqDiff, Nat.reduceAdd, Nat.reduceLT, Nat.reduceLeDiff, A.okCells, A.cells, A.one, splice, setAll, hp_g0, hp_s0, glA, Gl.row, hgd]
    rfl
  · -- a round
    intro k xa L h hk hI hL hlt
    simp only [List.getElem?_map, Option.map_eq_some_iff] at hk
    obtain ⟨g, hg, rfl⟩ := hk
    have hgd : gs.getD k starGl = g := by rw [List.getD_eq_getElem?_getD, hg]; rfl
    have hkl : k < gs.length := (List.getElem?_eq_some_iff.1 hg).1
    have hgk : gs[k] = g := by rw [List.getElem?_eq_getElem hkl] at hg; exact Option.some.inj hg
    have hpos : 0 < h.length := by simp at hlt; omega
    have hnew : gs.take 0 ++ [g] = [g] := rfl
    rw [hgd]
    rcases hI with ⟨rfl, j, rfl⟩ | ⟨hk0, j, hj, rfl⟩
    · -- the first
      have hb0 : h[0]? = some (boxB 0 j) := hL _ (List.mem_cons_self ..)
      have e0 : ∀ t : Heap, (h ++ t)[0]? = some (boxB 0 j) := fun t => by rw [List.getElem?_append_left hpos]; exact hb0
      have e1 : ∀ (t : Heap) X, (h ++ t).set 0 X = h.set 0 X ++ t := fun t X => List.set_append_left _ _ hpos
      refine ⟨.normal, [(0, boxB 1 (h.length + 2)), (h.length + 2, glBlock [g])], h.set 0 (boxB 1 (h.length + 2)) ++ [.cells eGl [g.row.map .d], .cells eGl [g.row.map .d], glBlock [g]], ?_, fun rl => ?_, .inl ⟨rfl, .inr ⟨Nat.succ_pos _, h.length + 2, by omega, ?_⟩⟩⟩
      · refine ⟨fun p hp => ?_, by simp, fun q hq hn => ?_, fun q hq => ?_⟩
        · simp only [List.mem_cons, List.not_mem_nil, or_false] at hp
          rcases hp with rfl | rfl
          · rw [List.getElem?_append_left (by simpa using hpos), List.getElem?_set_self hpos]
          · rw [List.getElem?_append_right (by simp)]; simp
        · simp only [ids, List.map_cons, List.map_nil, List.mem_cons, List.not_mem_nil, or_false] at hn
          simp only [List.length_append, List.length_cons, List.length_nil] at hq
          rcases Nat.lt_or_ge q h.length with h1 | h1
          · rw [List.getElem?_append_left (by simpa using h1), List.getElem?_set_ne (Ne.symm hn), List.getElem?_append_left h1]
          · have : q = h.length := by omega
            subst this
            rw [List.getElem?_append_right (by simp), List.getElem?_append_right (Nat.le_refl _)]; simp
        · simp only [ids, List.map_cons, List.map_nil, List.mem_cons, List.not_mem_nil, or_false] at hq ⊢
          rcases hq with rfl | rfl
          · exact .inl rfl
          · exact .inr (by simp)
      · refine W_block (W_reg ?_)
        simp only [xs, xl, argS, reduceIte, Nat.reduceEqDiff, Nat.reduceAdd, Nat.reduceLT, Nat.reduceLeDiff, A.okCells, A.cells, A.one, splice, e0, e1, boxV, sl0, List.append_assoc, hp_g0, hp_g1, hp_s0, Gl.row, Nat.reduceMul]
        rw [if_neg (by simp)]
        exact ⟨by decide, by decide, rfl⟩
      · rw [← hgk, List.take_add_one, List.getElem?_eq_getElem hkl]; rfl
    · -- the others
      obtain ⟨k, rfl⟩ : ∃ k', k = k' + 1 := ⟨k - 1, by omega⟩
      have hb0 : h[0]? = some (boxB (k + 1) j) := hL _ (List.mem_cons_self ..)
      have hbj : h[j]? = some (glBlock (gs.take (k + 1))) := hL _ (List.mem_cons_of_mem _ (List.mem_cons_self ..))
      have hjl : j < h.length := (List.getElem?_eq_some_iff.1 hbj).1
      have e0 : ∀ t : Heap, (h ++ t)[0]? = some (boxB (k + 1) j) := fun t => by rw [List.getElem?_append_left hpos]; exact hb0
      have ej : ∀ t : Heap, (h ++ t)[j]? = some (glBlock (gs.take (k + 1))) := fun t => by rw [List.getElem?_append_left hjl]; exact hbj
      have e1 : ∀ (t : Heap) X, (h ++ t).set j X = h.set j X ++ t := fun t X => List.set_append_left _ _ hjl
      have e2 : ∀ (t : Heap) X, (h.set j X ++ t)[0]? = some (boxB (k + 1) j) := fun t X => by
        rw [List.getElem?_append_left (by simpa using hpos), List.getElem?_set_ne hj]; exact hb0
      have e3 : ∀ (t : Heap) X Y, (h.set j X ++ t).set 0 Y = (h.set j X).set 0 Y ++ t := fun t X Y => List.set_append_left _ _ (by simpa using hpos)
      have hrl : (glRows (gs.take (k + 1))).length = k + 1 := by simp [glRows]; omega
      have hsn := glBlock_snoc hkl
      rw [hgk] at hsn
      refine ⟨.normal, [(0, boxB (k + 1 + 1) j), (j, glBlock (gs.take (k + 1 + 1)))], (h.set j (glBlock (gs.take (k + 1 + 1)))).set 0 (boxB (k + 1 + 1) j) ++ [.cells eGl [g.row.map .d], .cells eGl [g.row.map .d]], ?_, fun rl => ?_, .inl ⟨rfl, .inr ⟨Nat.succ_pos _, j, hj, rfl⟩⟩⟩
      · refine ⟨fun p hp => ?_, by simp, fun q hq hn => ?_, fun q hq => ?_⟩
        · simp only [List.mem_cons, List.not_mem_nil, or_false] at hp
          rcases hp with rfl | rfl
          · rw [List.getElem?_append_left (by simpa using hpos), List.getElem?_set_self (by simpa using hpos)]
          · rw [List.getElem?_append_left (by simpa using hjl), List.getElem?_set_ne (Ne.symm hj), List.getElem?_set_self hjl]
        · simp only [ids, List.map_cons, List.map_nil, List.mem_cons, List.not_mem_nil, or_false, not_or] at hn
          simp only [List.length_append, List.length_cons, List.length_nil] at hq
          rcases Nat.lt_or_ge q h.length with h1 | h1
          · rw [List.getElem?_append_left (by simpa using h1), List.getElem?_set_ne (Ne.symm hn.1), List.getElem?_set_ne (Ne.symm hn.2), List.getElem?_append_left h1]
          · have : q = h.length := by omega
            subst this
            rw [List.getElem?_append_right (by simp), List.getElem?_append_right (Nat.le_refl _)]; simp
        · simp only [ids, List.map_cons, List.map_nil, List.mem_cons, List.not_mem_nil, or_false] at hq ⊢
          exact .inl hq
      · refine W_block (W_reg ?_)
        simp only [xs, xl, argS, reduceIte, Nat.reduceEqDiff, Nat.reduceAdd, Nat.reduceLT, Nat.reduceLeDiff, A.okCells, A.cells, A.one, splice, e0, ej, e1, e2, e3, boxV, sl0, List.append_assoc, hp_g0, hp_g1, hp_s0, Gl.row, hrl]
        refine ⟨by omega, by simp only [maxLen, room] at *; omega, ?_⟩
        simp only [Gl.row, List.map_cons, List.map_nil] at hsn
        rw [hsn]
        rfl
  · -- behind the loop
    intro L' h' T hI
    simp only [xs, xl, argS, reduceIte, Nat.reduceEqDiff, Nat.reduceAdd, Nat.reduceLT, Nat.reduceLeDiff, A.okCells, A.cells, A.one, splice]
    rw [List.length_map] at hI
    rcases hI with ⟨hk, j, rfl⟩ | ⟨hk, j, hj, rfl⟩
    · have hb0 : h'[0]? = some (boxB 0 j) := T.has _ (List.mem_cons_self ..)
      have hgs : gs = [] := List.eq_nil_of_length_eq_zero hk
      subst hgs
      refine W_seq (W_reg ?_)
      simp only [xs, xl, argS, reduceIte, Nat.reduceEqDiff, Nat.reduceAdd, Nat.reduceLT, Nat.reduceLeDiff, A.okCells, A.cells, A.one, splice, hb0, boxV, sl0]
      refine W_ret (.frz ?_)
      simp only [xs, xl, argS, reduceIte, Nat.reduceEqDiff, Nat.reduceAdd, Nat.reduceLT, Nat.reduceLeDiff, A.okCells, A.cells, A.one, splice]
      exact .d (.nil _)
    · obtain ⟨k, hk'⟩ : ∃ k', gs.length = k' + 1 := ⟨gs.length - 1, by omega⟩
      have hb0 : h'[0]? = some (boxB gs.length j) := T.has _ (List.mem_cons_self ..)
      have hbj : h'[j]? = some (glBlock (gs.take gs.length)) := T.has _ (List.mem_cons_of_mem _ (List.mem_cons_self ..))
      rw [List.take_length] at hbj
      have hb0' : h'[0]? = some (boxB (k + 1) j) := by rw [← hk']; exact hb0
      refine W_seq (W_reg ?_)
      simp only [xs, xl, argS, reduceIte, Nat.reduceEqDiff, Nat.reduceAdd, Nat.reduceLT, Nat.reduceLeDiff, A.okCells, A.cells, A.one, splice, hb0', boxV, sl0]
      refine W_ret (.frz ?_)
      simp only [xs, xl, argS, reduceIte, Nat.reduceEqDiff, Nat.reduceAdd, Nat.reduceLT, Nat.reduceLeDiff, A.okCells, A.cells, A.one, splice]
      have := frz_all (full := true) hbj
      have hl : (glRows gs).length = k + 1 := by simp [glRows, hk']
      rw [hl] at this
      exact this
  · intro e0 L' h' T hE; exact hE.elim

theorem collect_fn {f fA fG : FuncId} {NA : Nat} {caps : List A} (H : FnIs P f N [.t 2] (x_slices_Collect_365 fA)) (hN : 1 ≤ N) (HA : FnIs P fA NA [.t 4] x_slices_AppendSeq_675) (hNA : 2 ≤ NA) (gs : List Gl) (hG : GenD Γ P fG caps (gs.map fun g => [glA g]))
    (h0 : A.underL 0 caps = true) (hlen : gs.length * 32 ≤ room) : FnP Γ P f [.fn fG caps] (.d (.sl eGl (glRows gs))) := by
  refine .of_W H (by simpa using hN) ?_
  unfold x_slices_Collect_365
  refine W_seq (W_reg ?_)
  simp only [xs, xl, argS, reduceIte, Nat.reduceEqDiff, Nat.reduceAdd, Nat.reduceLT, Nat.reduceLeDiff, A.okCells, A.cells, A.one, splice]
  refine W_seq (W_reg ?_)
  simp only [xs, xl, argS, reduceIte, Nat.reduceEqDiff, Nat.reduceAdd, Nat.reduceLT, Nat.reduceLeDiff, A.okCells, A.cells, A.one, splice]
  refine c_fn (appendSeq_fn HA hNA gs hG h0 hlen) (by simp [A.underL, A.under, h0]) ?_
  simp only [xs, xl, argS, reduceIte, Nat.reduceEqDiff, Nat.reduceAdd, Nat.reduceLT, Nat.reduceLeDiff, A.okCells, A.cells, A.one, splice]
  refine W_ret (.frz ?_)
  simp only [xs, xl, argS, reduceIte, Nat.reduceEqDiff, Nat.reduceAdd, Nat.reduceLT, Nat.reduceLeDiff, A.okCells, A.cells, A.one, splice]
  exact .same rfl

end Go.Proofs.YtmagahmklndcgaaDoor.Nx

namespace Go.Proofs.YtmagahmklndcgaaDoor.Nx
set_option linter.unusedSimpArgs false
set_option linter.unusedVariables false
set_option linter.unnecessarySimpa false
open Go

variable {P : Program} {N : Nat} {Γ : Tabs}

def extCollect (fc fG : FuncId) (f : FuncId) (args : List A) : Option A :=
  if f = fc then match args with
    | [.fn g [.iptr [.sl e rows]]] => if g = fG ∧ e = eCe then match rows.mapM ceOf with
      | some l => if (glyphsOf l).length * 32 ≤ room then some (.d (.sl eGl (glRows (glyphsOf l)))) else none
      | none => none
      else none
    | _ => none
    else none

theorem extCollect_ok {fc fA fG fst : FuncId} {Nc NA NG Ns : Nat} (H : FnIs P fc Nc [.t 2] (x_slices_Collect_365 fA)) (hN : 1 ≤ Nc) (HA : FnIs P fA NA [.t 4] x_slices_AppendSeq_675) (hNA : 2 ≤ NA)
    (HG : FnIs P fG NG [] (x_view_glyphs_1 fst)) (hNG : 2 ≤ NG) (Hs : FnIs P fst Ns [.t 2] x_attr_Style) (hNs : 1 ≤ Ns) : ∀ f args r, extCollect fc fG f args = some r → FnP Γ P f args r := by
  intro f args r h
  unfold extCollect at h
  split at h
  · rename_i hf
    subst hf
    split at h
    · split at h
      · rename_i hc
        obtain ⟨rfl, rfl⟩ := hc
        split at h
        · rename_i l hl
          split at h
          · rename_i hroom
            cases h
            rw [ceOfs_ok hl]
            exact collect_fn H hN HA hNA _ (glyphs1_gen HG hNG Hs hNs l) rfl hroom
          · cases h
        · cases h
      · cases h
    · cases h
  · cases h

end Go.Proofs.YtmagahmklndcgaaDoor.Nx


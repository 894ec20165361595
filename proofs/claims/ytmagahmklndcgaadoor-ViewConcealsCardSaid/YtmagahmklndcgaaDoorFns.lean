/- The functions of this program are those of the definitions; the example that every statement checks. -/
import Derived.Test.YtmagahmklndcgaaDoorNxP15a
import Derived.Test.YtmagahmklndcgaaDoorNxP15d
import Derived.Test.YtmagahmklndcgaaDoorNxU1
import Derived.Test.YtmagahmklndcgaaDoorNxC1
import Derived.Test.YtmagahmklndcgaaDoorNxV1
import Derived.Test.YtmagahmklndcgaaDoorNxC3
import Derived.Test.YtmagahmklndcgaaDoorNxP15b
import Derived.Test.YtmagahmklndcgaaDoorNxP15g
import Derived.Test.YtmagahmklndcgaaDoorNxP15i
import Derived.Test.YtmagahmklndcgaaDoorNxP15k
import Derived.Test.YtmagahmklndcgaaDoorNxR1
import Derived.Test.YtmagahmklndcgaaDoorNxP15n
import Derived.Test.YtmagahmklndcgaaDoorNxP15p
import Derived.Test.YtmagahmklndcgaaDoorNxEval
import Derived.Test.YtmagahmklndcgaaDoorNxLink2
import Derived.Test.YtmagahmklndcgaaDoorRows
import Derived.KernelRfl
import Derived.Ground.NamesProg
import Derived.Shelf.Lay
import Derived.Shelf.Unicode.ValidAny
namespace Go.Proofs.YtmagahmklndcgaaDoor
open Go.RowKit Go.Shelf Go.Lib
shelf_lay Lays.n196 Nm 196 at Tryd as Tryd.laysValid
end Go.Proofs.YtmagahmklndcgaaDoor
namespace Go.Proofs.YtmagahmklndcgaaDoor.Nx
set_option linter.unusedSimpArgs false
set_option linter.unusedVariables false
set_option linter.unnecessarySimpa false
open Go

theorem is_law15_ViewConceals : FnIs Tryd.prog 7 107 [.t 6] (x_law15_ViewConceals 12 24 25 13 15 23) := .of (by kernel_rfl)
theorem is_ref15_Large : FnIs Tryd.prog 12 24 [.t 2] (x_ref15_Large 37) := .of (by kernel_rfl)
theorem is_law15_awake : FnIs Tryd.prog 13 60 [.t 0] (x_law15_awake 15 19 20) := .of (by kernel_rfl)
theorem is_view_Of : FnIs Tryd.prog 15 45 [.c 2 6 true] (x_view_Of 38 40 39 18) := .of (by kernel_rfl)
theorem is_view_Trim : FnIs Tryd.prog 18 23 [.t 2] (x_view_Trim 42 43) := .of (by kernel_rfl)
theorem is_ref15_SameRow : FnIs Tryd.prog 19 26 [.t 4] x_ref15_SameRow := .of (by kernel_rfl)
theorem is_view_Index : FnIs Tryd.prog 20 34 [.t 4] x_view_Index := .of (by kernel_rfl)
theorem is_view_Equal : FnIs Tryd.prog 23 45 [.t 4] (x_view_Equal 44 45) := .of (by kernel_rfl)
theorem is_cluster_Width : FnIs Tryd.prog 24 13 [.t 2] (x_cluster_Width 46 47) := .of (by kernel_rfl)
theorem is_ref15_Showable : FnIs Tryd.prog 25 96 [.t 2] (x_ref15_Showable 48 49 50) := .of (by kernel_rfl)
theorem is_cellrow_Check : FnIs Tryd.prog 26 64 [.t 2] (x_cellrow_Check 51 24) := .of (by kernel_rfl)
theorem is_ref07_Great : FnIs Tryd.prog 37 20 [.t 2] x_ref07_Great := .of (by kernel_rfl)
theorem is_view_showable : FnIs Tryd.prog 38 71 [.t 2] (x_view_showable 55 26 58 59) := .of (by kernel_rfl)
theorem is_slices_Collect_365 : FnIs Tryd.prog 39 5 [.t 2] (x_slices_Collect_365 61) := .of (by kernel_rfl)
theorem is_view_glyphs : FnIs Tryd.prog 40 4 [.t 2] (x_view_glyphs 62) := .of (by kernel_rfl)
theorem is_view_blank : FnIs Tryd.prog 42 2 [.c 0 3 true] x_view_blank := .of (by kernel_rfl)
theorem is_slices_Clone_675 : FnIs Tryd.prog 43 8 [.t 2] x_slices_Clone_675 := .of (by kernel_rfl)
theorem is_slices_EqualFunc_833 : FnIs Tryd.prog 44 32 [.t 6] x_slices_EqualFunc_833 := .of (by kernel_rfl)
theorem is_slices_Equal_675 : FnIs Tryd.prog 45 26 [.t 4] x_slices_Equal_675 := .of (by kernel_rfl)
theorem is_cluster_runes : FnIs Tryd.prog 46 8 [.t 2] (x_cluster_runes 51) := .of (by kernel_rfl)
theorem is_charwidth_Width : FnIs Tryd.prog 47 22 [.t 2] (x_charwidth_Width 65 67 66) := .of (by kernel_rfl)
theorem is_ref15_Size : FnIs Tryd.prog 48 19 [.t 4] x_ref15_Size := .of (by kernel_rfl)
theorem is_ref07_Check : FnIs Tryd.prog 49 68 [.t 2] (x_ref07_Check 68 69) := .of (by kernel_rfl)
theorem is_ref04_Right : FnIs Tryd.prog 50 31 [.t 2] x_ref04_Right := .of (by kernel_rfl)
theorem is_cluster_Check : FnIs Tryd.prog 51 30 [.t 2] (x_cluster_Check 70 47 71) := .of (by kernel_rfl)
theorem is_view_sized : FnIs Tryd.prog 55 19 [.t 4] x_view_sized := .of (by kernel_rfl)
theorem is_slices_ContainsFunc_750 : FnIs Tryd.prog 58 9 [.t 4] (x_slices_ContainsFunc_750 73) := .of (by kernel_rfl)
theorem is_view_showable_1 : FnIs Tryd.prog 59 7 [.t 2] (x_view_showable_1 60) := .of (by kernel_rfl)
theorem is_attr_Check : FnIs Tryd.prog 60 28 [.t 2] x_attr_Check := .of (by kernel_rfl)
theorem is_slices_AppendSeq_675 : FnIs Tryd.prog 61 13 [.t 4] x_slices_AppendSeq_675 := .of (by kernel_rfl)
theorem is_view_glyphs_1 : FnIs Tryd.prog 62 35 [] (x_view_glyphs_1 63) := .of (by kernel_rfl)
theorem is_attr_Style : FnIs Tryd.prog 63 18 [.t 2] x_attr_Style := .of (by kernel_rfl)
theorem is_charwidth_Mark : FnIs Tryd.prog 65 7 [.t 2] (x_charwidth_Mark 74 66) := .of (by kernel_rfl)
theorem is_charwidth_finder : FnIs Tryd.prog 66 4 [.t 2] (x_charwidth_finder 75) := .of (by kernel_rfl)
theorem is_charwidth_Wide : FnIs Tryd.prog 67 16 [.t 0] x_charwidth_Wide := .of (by kernel_rfl)
theorem is_ref03_Check : FnIs Tryd.prog 68 40 [.t 2] (x_ref03_Check 76 77 78 79) := .of (by kernel_rfl)
theorem is_ref03_Width : FnIs Tryd.prog 69 11 [.t 2] (x_ref03_Width 68 77 79) := .of (by kernel_rfl)
theorem is_utf8stream_Valid : FnIs Tryd.prog 70 5 [.t 2] (x_utf8stream_Valid 80) := .of (by kernel_rfl)
theorem is_cluster_marked : FnIs Tryd.prog 71 15 [.t 2] (x_cluster_marked 65) := .of (by kernel_rfl)
theorem is_slices_IndexFunc_750 : FnIs Tryd.prog 73 19 [.t 4] x_slices_IndexFunc_750 := .of (by kernel_rfl)
theorem is_charwidth_marks : FnIs Tryd.prog 74 9 [.t 0] x_charwidth_marks := .of (by kernel_rfl)
theorem is_charwidth_finder_1 : FnIs Tryd.prog 75 39 [.t 3] x_charwidth_finder_1 := .of (by kernel_rfl)
theorem is_ref01_Valid : FnIs Tryd.prog 76 18 [.t 2] (x_ref01_Valid 82 83) := .of (by kernel_rfl)
theorem is_ref03_Characters : FnIs Tryd.prog 77 11 [.t 2] (x_ref03_Characters 82) := .of (by kernel_rfl)
theorem is_ref02_Mark : FnIs Tryd.prog 78 6 [.t 2] (x_ref02_Mark 85 84) := .of (by kernel_rfl)
theorem is_ref02_Width : FnIs Tryd.prog 79 21 [.t 2] (x_ref02_Width 78 86 84) := .of (by kernel_rfl)
theorem is_unicode_utf8_ValidString : FnIs Tryd.prog 80 169 [.t 2] (x_unicode_utf8_ValidString 87) := .of (by kernel_rfl)
theorem is_ref01_Decode : FnIs Tryd.prog 82 96 [.t 4, .t 5] (x_ref01_Decode 88 89) := .of (by kernel_rfl)
theorem is_ref01_Encode : FnIs Tryd.prog 83 95 [.t 2] x_ref01_Encode := .of (by kernel_rfl)
theorem is_ref02_in : FnIs Tryd.prog 84 28 [.t 4] x_ref02_in := .of (by kernel_rfl)
theorem is_ref02_Marks : FnIs Tryd.prog 85 9 [.t 0] x_ref02_Marks := .of (by kernel_rfl)
theorem is_ref02_Wide : FnIs Tryd.prog 86 16 [.t 0] x_ref02_Wide := .of (by kernel_rfl)
theorem is_unicode_utf8_word_69 : FnIs Tryd.prog 87 59 [.t 2] x_unicode_utf8_word_69 := .of (by kernel_rfl)
theorem is_ref01_limits : FnIs Tryd.prog 88 61 [.t 2, .t 3, .t 4] x_ref01_limits := .of (by kernel_rfl)
theorem is_ref01_value : FnIs Tryd.prog 89 44 [.t 2] x_ref01_value := .of (by kernel_rfl)

def fnsE : List (FuncId × FnE) := [
  (13, ⟨60, [.t 0], (x_law15_awake 15 19 20)⟩),
  (15, ⟨45, [.c 2 6 true], (x_view_Of 38 40 39 18)⟩),
  (18, ⟨23, [.t 2], (x_view_Trim 42 43)⟩),
  (19, ⟨26, [.t 4], x_ref15_SameRow⟩),
  (20, ⟨34, [.t 4], x_view_Index⟩),
  (24, ⟨13, [.t 2], (x_cluster_Width 46 47)⟩),
  (26, ⟨64, [.t 2], (x_cellrow_Check 51 24)⟩),
  (38, ⟨71, [.t 2], (x_view_showable 55 26 58 59)⟩),
  (40, ⟨4, [.t 2], (x_view_glyphs 62)⟩),
  (42, ⟨2, [.c 0 3 true], x_view_blank⟩),
  (43, ⟨8, [.t 2], x_slices_Clone_675⟩),
  (46, ⟨8, [.t 2], (x_cluster_runes 51)⟩),
  (47, ⟨22, [.t 2], (x_charwidth_Width 65 67 66)⟩),
  (51, ⟨30, [.t 2], (x_cluster_Check 70 47 71)⟩),
  (55, ⟨19, [.t 4], x_view_sized⟩),
  (58, ⟨9, [.t 4], (x_slices_ContainsFunc_750 73)⟩),
  (59, ⟨7, [.t 2], (x_view_showable_1 60)⟩),
  (60, ⟨28, [.t 2], x_attr_Check⟩),
  (62, ⟨35, [], (x_view_glyphs_1 63)⟩),
  (63, ⟨18, [.t 2], x_attr_Style⟩),
  (65, ⟨7, [.t 2], (x_charwidth_Mark 74 66)⟩),
  (66, ⟨4, [.t 2], (x_charwidth_finder 75)⟩),
  (67, ⟨16, [.t 0], x_charwidth_Wide⟩),
  (70, ⟨5, [.t 2], (x_utf8stream_Valid 80)⟩),
  (71, ⟨15, [.t 2], (x_cluster_marked 65)⟩),
  (73, ⟨19, [.t 4], x_slices_IndexFunc_750⟩),
  (74, ⟨9, [.t 0], x_charwidth_marks⟩),
  (75, ⟨39, [.t 3], x_charwidth_finder_1⟩),
  (80, ⟨169, [.t 2], (x_unicode_utf8_ValidString 87)⟩),
  (87, ⟨59, [.t 2], x_unicode_utf8_word_69⟩)]

theorem fnsE_ok : ∀ p ∈ fnsE, FnIs Tryd.prog p.1 p.2.N p.2.res p.2.code := by
  intro p hp
  simp only [fnsE, List.mem_cons, List.not_mem_nil, or_false] at hp
  rcases hp with rfl | rfl | rfl | rfl | rfl | rfl | rfl | rfl | rfl | rfl | rfl | rfl | rfl | rfl | rfl | rfl | rfl | rfl | rfl | rfl | rfl | rfl | rfl | rfl | rfl | rfl | rfl | rfl | rfl | rfl
  · exact is_law15_awake
  · exact is_view_Of
  · exact is_view_Trim
  · exact is_ref15_SameRow
  · exact is_view_Index
  · exact is_cluster_Width
  · exact is_cellrow_Check
  · exact is_view_showable
  · exact is_view_glyphs
  · exact is_view_blank
  · exact is_slices_Clone_675
  · exact is_cluster_runes
  · exact is_charwidth_Width
  · exact is_cluster_Check
  · exact is_view_sized
  · exact is_slices_ContainsFunc_750
  · exact is_view_showable_1
  · exact is_attr_Check
  · exact is_view_glyphs_1
  · exact is_attr_Style
  · exact is_charwidth_Mark
  · exact is_charwidth_finder
  · exact is_charwidth_Wide
  · exact is_utf8stream_Valid
  · exact is_cluster_marked
  · exact is_slices_IndexFunc_750
  · exact is_charwidth_marks
  · exact is_charwidth_finder_1
  · exact is_unicode_utf8_ValidString
  · exact is_unicode_utf8_word_69

/-- The tables that the rows list. -/
def gam : Tabs := [(1, tabAccept), (0, tabFirst)]
theorem gam_is : tabsOf Tryd.prog [("unicode/utf8.acceptRanges", Rows.laid_unicode_utf8_acceptRanges), ("unicode/utf8.first", Rows.laid_unicode_utf8_first)] = some gam := by kernel_rfl

def isTrue : Option A → Bool
  | some (.d (.sc (.bool true))) => true
  | _ => false
theorem isTrue_some {x : Option A} (h : isTrue x = true) : x = some (.bool true) := by
  unfold isTrue at h
  split at h
  · rfl
  · cases h

theorem ext_ok : ∀ f args r, extCollect 39 62 f args = some r → FnP gam Tryd.prog f args r :=
  extCollect_ok is_slices_Collect_365 (by decide) is_slices_AppendSeq_675 (by decide) is_view_glyphs_1 (by decide) is_attr_Style (by decide)

set_option maxRecDepth 100000 in
theorem awake_run : isTrue ((orcE fnsE (extCollect 39 62) ⟨1, 24⟩ (tabS gam) 300 30).pure 13 []) = true := by kernel_rfl

theorem awake_fn : FnP gam Tryd.prog 13 [] (.bool true) := (orcE_ok fnsE_ok ext_ok 30).pure _ _ _ (isTrue_some awake_run)

theorem k_vs : ∀ s : ByteArray, s.size ≤ 1000 → FnP gam Tryd.prog 80 [.str s] (.bool (validS s)) :=
  validString_fn Tryd.laysValid rfl is_unicode_utf8_ValidString (by rw [show Tryd.laysValid_ren.g 3 = 0 from rfl]; exact List.mem_cons_of_mem _ (List.mem_cons_self ..)) (by rw [show Tryd.laysValid_ren.g 4 = 1 from rfl]; exact List.mem_cons_self ..)
theorem k_mark : ∀ r, FnP gam Tryd.prog 65 [.sc (.int .i32 r)] (.bool (markC r)) := mark_fn is_charwidth_Mark (by decide) is_charwidth_marks is_charwidth_finder (by decide) is_charwidth_finder_1 (by decide)
theorem k_cwidth : ∀ r, FnP gam Tryd.prog 47 [.sc (.int .i32 r)] (.int (widthC r)) := widthC_fn is_charwidth_Width (by decide) is_charwidth_Mark (by decide) is_charwidth_marks is_charwidth_Wide is_charwidth_finder (by decide) is_charwidth_finder_1 (by decide)
theorem k_marked : ∀ l : List Nat, FnP gam Tryd.prog 71 [.d (.sl eRn (rnRows l))] (.bool (l.all fun n => markC n)) := marked_fn is_cluster_marked (by decide) k_mark
theorem k_valid : ∀ s : ByteArray, s.size ≤ 1000 → FnP gam Tryd.prog 70 [.str s] (.bool (validS s)) := valid_fn is_utf8stream_Valid (by decide) k_vs
theorem k_check : ∀ s : ByteArray, s.size ≤ 1000 → FnP gam Tryd.prog 51 [.str s] (.int (chkC s)) := check_fn is_cluster_Check (by decide) k_valid k_cwidth k_marked
theorem k_runes : ∀ s : ByteArray, s.size ≤ 1000 → FnP gam Tryd.prog 46 [.str s] (.d (.sl eRn (rnRows (runesC s)))) := runes_fn is_cluster_runes (by decide) k_check
theorem k_width : ∀ s : ByteArray, s.size ≤ 1000 → FnP gam Tryd.prog 24 [.str s] (.int (widC s)) := cwidth_fn is_cluster_Width (by decide) k_runes k_cwidth

theorem k_dec : ∀ s : ByteArray, s.size ≤ 1000 → FnP gam Tryd.prog 82 [.str ⟨#[]⟩, .str s] (decA (toN s.data.toList)) := decode_fn is_ref01_Decode (by decide) is_ref01_limits (by decide) is_ref01_value (by decide)
theorem k_enc : ∀ l : List Int, l.length ≤ 1000 → FnP gam Tryd.prog 83 [.d (.sl eRu (irRows l))] (.str (numS (encL l))) := encode_fn is_ref01_Encode (by decide)
theorem k_rvalid : ∀ s : ByteArray, s.size ≤ 1000 → FnP gam Tryd.prog 76 [.str s] (.bool (validS s)) := refValid_fn is_ref01_Valid (by decide) k_dec k_enc
theorem k_chars : ∀ s : ByteArray, s.size ≤ 1000 → validS s = true → FnP gam Tryd.prog 77 [.str s] (.d (.sl eRn (rnRows (runesOf s)))) := refChars_fn is_ref03_Characters (by decide) k_dec
theorem k_mark2 : ∀ r, FnP gam Tryd.prog 78 [.sc (.int .i32 r)] (.bool (markC r)) := mark2_fn is_ref02_Mark (by decide) is_ref02_Marks is_ref02_in (by decide)
theorem k_width2 : ∀ r, FnP gam Tryd.prog 79 [.sc (.int .i32 r)] (.int (widthC r)) := width2_fn is_ref02_Width (by decide) is_ref02_Mark (by decide) is_ref02_Marks is_ref02_Wide is_ref02_in (by decide)
theorem k_check3 : ∀ s : ByteArray, s.size ≤ 1000 → FnP gam Tryd.prog 68 [.str s] (.int (chkC s)) := check3_fn is_ref03_Check (by decide) k_rvalid k_chars k_mark2 k_width2
theorem k_cw3 : ∀ s : ByteArray, s.size ≤ 1000 → FnP gam Tryd.prog 69 [.str s] (.int (widC s)) := cwidth3_fn is_ref03_Width (by decide) k_check3 k_chars k_width2

theorem k_sized : ∀ w h, FnP gam Tryd.prog 55 [.int w, .int h] (.bool (szOk w h)) := sized_fn is_view_sized (by decide)
theorem k_row : ∀ l : List Ce, (∀ c ∈ l, c.text.size ≤ 1000) → FnP gam Tryd.prog 26 [.d (.sl eCe (ceRows l))] (.int (checkR l)) := rowCheck_fn is_cellrow_Check (by decide) k_check k_width
theorem k_attr : ∀ c, FnP gam Tryd.prog 60 [attrA c] (.int (if badA c then 2 else 0)) := attrCheck_fn is_attr_Check (by decide)
theorem k_any : ∀ l : List Ce, FnP gam Tryd.prog 58 [.d (.sl eCe (ceRows l)), .fn 59 []] (.bool (l.any badA)) :=
  fun l => containsFunc_fn is_slices_ContainsFunc_750 (by decide) is_slices_IndexFunc_750 (by decide) l fun c _ => showable1_fn is_view_showable_1 (by decide) k_attr c
theorem k_show : ∀ t : Tm, (∀ l ∈ t.rows, ∀ c ∈ l, c.text.size ≤ 1000) → FnP gam Tryd.prog 38 [tmA t] (.bool (showT t)) := showable_fn is_view_showable (by decide) k_sized k_row k_any
theorem k_of : ∀ t : Tm, (∀ l ∈ t.rows, ∀ c ∈ l, c.text.size ≤ 1000) → FnP gam Tryd.prog 15 [tmA t] (vwA (ofV t)) := fun t ht =>
  of_fn is_view_Of (by decide) t (k_show t ht) (glyphs_fn (f1 := 62) is_view_glyphs (by decide))
    (fun l hl => collect_fn is_slices_Collect_365 (by decide) is_slices_AppendSeq_675 (by decide) _ (glyphs1_gen is_view_glyphs_1 (by decide) is_attr_Style (by decide) l) rfl (by have := glyphsOf_len l; simp only [room]; omega))
    (trim_fn is_view_Trim (by decide) is_view_blank is_slices_Clone_675 (by decide))

theorem k_sized2 : ∀ w h, FnP gam Tryd.prog 48 [.int w, .int h] (.bool (szOk w h)) := sized_fn is_ref15_Size (by decide)
theorem k_rrow : ∀ l : List Ce, (∀ c ∈ l, c.text.size ≤ 1000) → FnP gam Tryd.prog 49 [.d (.sl eCe (ceRows l))] (.int (checkR l)) := refRow_fn is_ref07_Check (by decide) k_check3 k_cw3
theorem k_rshow : ∀ t : Tm, (∀ l ∈ t.rows, ∀ c ∈ l, c.text.size ≤ 1000) → FnP gam Tryd.prog 25 [tmA t] (.bool (showT t)) := refShow_fn is_ref15_Showable (by decide) k_sized2 k_rrow (right_fn is_ref04_Right (by decide))
theorem k_large : ∀ t, FnP gam Tryd.prog 12 [tmA t] (.bool (largeT t)) := large_fn is_ref15_Large (by decide) (greatC_fn is_ref07_Great (by decide))

def tCells : Ty := .sl ⟨5, 48⟩ (.st [.str, .int .i64, .st [.int .i64, .int .i64, .int .i64]])
def tRows : Ty := .sl ⟨1, 24⟩ tCells
theorem cell_of {xs : List D} (h : WT (.st [.str, .int .i64, .st [.int .i64, .int .i64, .int .i64]]) xs) : ∃ c : Ce, xs = c.row := by
  obtain ⟨_, _, rfl, ⟨s, rfl, _⟩, _, _, rfl, ⟨w, rfl, _⟩, _, _, rfl, ⟨_, _, rfl, ⟨a, rfl, _⟩, _, _, rfl, ⟨b, rfl, _⟩, _, _, rfl, ⟨c, rfl, _⟩, rfl⟩, rfl⟩ := h
  exact ⟨⟨s, w, a, b, c⟩, rfl⟩
theorem cells_of' : ∀ {rows : List (List D)}, (∀ r ∈ rows, WT (.st [.str, .int .i64, .st [.int .i64, .int .i64, .int .i64]]) r) → ∃ l : List Ce, rows = ceRows l
  | [], _ => ⟨[], rfl⟩
  | r :: rows, h => by
    obtain ⟨g, rfl⟩ := cell_of (h r (List.mem_cons_self ..))
    obtain ⟨l, rfl⟩ := cells_of' fun r hr => h r (List.mem_cons_of_mem _ hr)
    exact ⟨g :: l, rfl⟩
theorem cells_of {xs : List D} (h : WT tCells xs) : ∃ l : List Ce, xs = [.sl eCe (ceRows l)] := by
  obtain ⟨rows, rfl, hr⟩ := h
  obtain ⟨l, rfl⟩ := cells_of' hr
  exact ⟨l, rfl⟩
theorem crows_of : ∀ {rows : List (List D)}, (∀ r ∈ rows, WT tCells r) → ∃ l : List (List Ce), rows = crRows l
  | [], _ => ⟨[], rfl⟩
  | r :: rows, h => by
    obtain ⟨g, rfl⟩ := cells_of (h r (List.mem_cons_self ..))
    obtain ⟨l, rfl⟩ := crows_of fun r hr => h r (List.mem_cons_of_mem _ hr)
    exact ⟨g :: l, rfl⟩
def tTerm : Ty := .st [.st [.int .i64, .int .i64, .sl ⟨1, 24⟩ (.sl ⟨5, 48⟩ (.st [.str, .int .i64, .st [.int .i64, .int .i64, .int .i64]]))], .st [.int .i64, .int .i64, .sl ⟨1, 24⟩ (.sl ⟨5, 48⟩ (.st [.str, .int .i64, .st [.int .i64, .int .i64, .int .i64]]))], .st [.int .i64, .int .i64, .bool], .st [.st [.int .i64, .int .i64, .bool], .st [.int .i64, .int .i64, .int .i64], .bool, .st [.int .u8, .int .u8], .int .i64], .st [.int .i64, .int .i64, .int .i64], .st [.bool, .bool, .bool, .bool, .bool, .bool, .bool, .bool, .st [.int .u8, .int .u8], .int .i64], .int .i64, .int .i64, .sl ⟨1, 1⟩ (.bool), .sl ⟨1, 24⟩ (.sl ⟨5, 48⟩ (.st [.str, .int .i64, .st [.int .i64, .int .i64, .int .i64]])), .st [.int .i64, .str, .str], .str, .str]
theorem term_of {xs : List D} (h : WT tTerm xs) : ∃ t : Tm, xs = t.ds := by
  obtain ⟨_, _, rfl, ⟨_, _, rfl, ⟨n0, rfl, _⟩, _, _, rfl, ⟨n1, rfl, _⟩, _, _, rfl, ⟨r2, rfl, hr2⟩, rfl⟩, _, _, rfl, ⟨_, _, rfl, ⟨n3, rfl, _⟩, _, _, rfl, ⟨n4, rfl, _⟩, _, _, rfl, ⟨r5, rfl, hr5⟩, rfl⟩, _, _, rfl, ⟨_, _, rfl, ⟨n6, rfl, _⟩, _, _, rfl, ⟨n7, rfl, _⟩, _, _, rfl, ⟨b8, rfl⟩, rfl⟩, _, _, rfl, ⟨_, _, rfl, ⟨_, _, rfl, ⟨n9, rfl, _⟩, _, _, rfl, ⟨n10, rfl, _⟩, _, _, rfl, ⟨b11, rfl⟩, rfl⟩, _, _, rfl, ⟨_, _, rfl, ⟨n12, rfl, _⟩, _, _, rfl, ⟨n13, rfl, _⟩, _, _, rfl, ⟨n14, rfl, _⟩, rfl⟩, _, _, rfl, ⟨b15, rfl⟩, _, _, rfl, ⟨_, _, rfl, ⟨n16, rfl, _⟩, _, _, rfl, ⟨n17, rfl, _⟩, rfl⟩, _, _, rfl, ⟨n18, rfl, _⟩, rfl⟩, _, _, rfl, ⟨_, _, rfl, ⟨n19, rfl, _⟩, _, _, rfl, ⟨n20, rfl, _⟩, _, _, rfl, ⟨n21, rfl, _⟩, rfl⟩, _, _, rfl, ⟨_, _, rfl, ⟨b22, rfl⟩, _, _, rfl, ⟨b23, rfl⟩, _, _, rfl, ⟨b24, rfl⟩, _, _, rfl, ⟨b25, rfl⟩, _, _, rfl, ⟨b26, rfl⟩, _, _, rfl, ⟨b27, rfl⟩, _, _, rfl, ⟨b28, rfl⟩, _, _, rfl, ⟨b29, rfl⟩, _, _, rfl, ⟨_, _, rfl, ⟨n30, rfl, _⟩, _, _, rfl, ⟨n31, rfl, _⟩, rfl⟩, _, _, rfl, ⟨n32, rfl, _⟩, rfl⟩, _, _, rfl, ⟨n33, rfl, _⟩, _, _, rfl, ⟨n34, rfl, _⟩, _, _, rfl, ⟨r35, rfl, hr35⟩, _, _, rfl, ⟨r36, rfl, hr36⟩, _, _, rfl, ⟨_, _, rfl, ⟨n37, rfl, _⟩, _, _, rfl, ⟨s38, rfl, _⟩, _, _, rfl, ⟨s39, rfl, _⟩, rfl⟩, _, _, rfl, ⟨s40, rfl, _⟩, _, _, rfl, ⟨s41, rfl, _⟩, rfl⟩ := h
  obtain ⟨l, rfl⟩ := crows_of hr2
  exact ⟨{ w := n0, h := n1, rows := l, x3 := .sc (.int .i64 n3), x4 := .sc (.int .i64 n4), x5 := .sl ⟨1, 24⟩ r5, row := n6, col := n7, x8 := .sc (.bool b8), q := [.sc (.int .i64 n9), .sc (.int .i64 n10), .sc (.bool b11), .sc (.int .i64 n12), .sc (.int .i64 n13), .sc (.int .i64 n14), .sc (.bool b15), .sc (.int .u8 n16), .sc (.int .u8 n17), .sc (.int .i64 n18), .sc (.int .i64 n19), .sc (.int .i64 n20), .sc (.int .i64 n21), .sc (.bool b22), .sc (.bool b23), .sc (.bool b24), .sc (.bool b25), .sc (.bool b26), .sc (.bool b27), .sc (.bool b28), .sc (.bool b29), .sc (.int .u8 n30), .sc (.int .u8 n31), .sc (.int .i64 n32), .sc (.int .i64 n33), .sc (.int .i64 n34), .sl ⟨1, 1⟩ r35, .sl ⟨1, 24⟩ r36, .sc (.int .i64 n37), .sc (.string s38), .sc (.string s39), .sc (.string s40), .sc (.string s41)], vis := b27, qt := [.sc (.bool b28), .sc (.bool b29), .sc (.int .u8 n30), .sc (.int .u8 n31), .sc (.int .i64 n32), .sc (.int .i64 n33), .sc (.int .i64 n34), .sl ⟨1, 1⟩ r35, .sl ⟨1, 24⟩ r36, .sc (.int .i64 n37), .sc (.string s38), .sc (.string s39), .sc (.string s40), .sc (.string s41)], hl := rfl, hd := rfl }, rfl⟩
def zTerm : Value := .agg (List.toArray ([.int .i64 0, .int .i64 0, .slice none 0 0, .int .i64 0, .int .i64 0, .slice none 0 0, .int .i64 0, .int .i64 0, .bool false, .int .i64 0, .int .i64 0, .bool false, .int .i64 0, .int .i64 0, .int .i64 0] ++ ([.bool false, .int .u8 0, .int .u8 0, .int .i64 0, .int .i64 0, .int .i64 0, .int .i64 0, .bool false, .bool false, .bool false, .bool false, .bool false, .bool false, .bool false, .bool false] ++ [.int .u8 0, .int .u8 0, .int .i64 0, .int .i64 0, .int .i64 0, .slice none 0 0, .slice none 0 0, .int .i64 0, .string ⟨#[]⟩, .string ⟨#[]⟩, .string ⟨#[]⟩, .string ⟨#[]⟩])))
def zTermD {H : Type} : DataW H := .agg [.agg [.lit (.int .i64 0), .lit (.int .i64 0), .nil], .agg [.lit (.int .i64 0), .lit (.int .i64 0), .nil], .agg [.lit (.int .i64 0), .lit (.int .i64 0), .lit (.bool false)], .agg [.agg [.lit (.int .i64 0), .lit (.int .i64 0), .lit (.bool false)], .agg [.lit (.int .i64 0), .lit (.int .i64 0), .lit (.int .i64 0)], .lit (.bool false), .agg [.lit (.int .u8 0), .lit (.int .u8 0)], .lit (.int .i64 0)], .agg [.lit (.int .i64 0), .lit (.int .i64 0), .lit (.int .i64 0)], .agg [.lit (.bool false), .lit (.bool false), .lit (.bool false), .lit (.bool false), .lit (.bool false), .lit (.bool false), .lit (.bool false), .lit (.bool false), .agg [.lit (.int .u8 0), .lit (.int .u8 0)], .lit (.int .i64 0)], .lit (.int .i64 0), .lit (.int .i64 0), .nil, .nil, .agg [.lit (.int .i64 0), .lit (.string []), .lit (.string [])], .lit (.string []), .lit (.string [])]

end Go.Proofs.YtmagahmklndcgaaDoor.Nx

/- The functions of this program are those of the definitions; the example that every statement checks. -/
import Derived.Test.YtmagahmklndcgaaDoorNxP15a
import Derived.Test.YtmagahmklndcgaaDoorNxP15d
import Derived.Test.YtmagahmklndcgaaDoorNxB0
import Derived.Test.YtmagahmklndcgaaDoorNxQ3
import Derived.Test.YtmagahmklndcgaaDoorNxG0
import Derived.Test.YtmagahmklndcgaaDoorNxU1
import Derived.Test.YtmagahmklndcgaaDoorNxC1
import Derived.Test.YtmagahmklndcgaaDoorNxV1
import Derived.Test.YtmagahmklndcgaaDoorNxC3
import Derived.Test.YtmagahmklndcgaaDoorNxP15b
import Derived.Test.YtmagahmklndcgaaDoorNxP15g
import Derived.Test.YtmagahmklndcgaaDoorNxP15i
import Derived.Test.YtmagahmklndcgaaDoorNxP15k
import Derived.Test.YtmagahmklndcgaaDoorNxR1
import Derived.Test.YtmagahmklndcgaaDoorNxP15n
import Derived.Test.YtmagahmklndcgaaDoorNxP15p
import Derived.Test.YtmagahmklndcgaaDoorNxT1
import Derived.Test.YtmagahmklndcgaaDoorNxT3
import Derived.Test.YtmagahmklndcgaaDoorNxP15u
import Derived.Test.YtmagahmklndcgaaDoorNxY1
import Derived.Test.YtmagahmklndcgaaDoorNxEval
import Derived.Test.YtmagahmklndcgaaDoorNxLink2
import Derived.Test.YtmagahmklndcgaaDoorRows
import Derived.KernelRfl
import Derived.Test.YtmagahmklndcgaaDoorTW
import Derived.Ground.NamesProg
import Derived.Shelf.Lay
import Derived.Shelf.Unicode.ValidAny
namespace Go.Proofs.YtmagahmklndcgaaDoor
open Go.RowKit Go.Shelf Go.Lib
shelf_lay Lays.n196 Nm 196 at Tryd as Tryd.laysValid
end Go.Proofs.YtmagahmklndcgaaDoor
namespace Go.Proofs.YtmagahmklndcgaaDoor.Nx
set_option linter.unusedSimpArgs false
set_option linter.unusedVariables false
set_option linter.unnecessarySimpa false
open Go

theorem is_law15_ViewTexts : FnIs Tryd.prog 8 81 [.t 2] (x_law15_ViewTexts 13 26 15 27 28) := .of (by kernel_rfl)
theorem is_law15_awake : FnIs Tryd.prog 13 60 [.t 0] (x_law15_awake 15 19 20) := .of (by kernel_rfl)
theorem is_view_Of : FnIs Tryd.prog 15 45 [.c 2 6 true] (x_view_Of 38 40 39 18) := .of (by kernel_rfl)
theorem is_view_Trim : FnIs Tryd.prog 18 23 [.t 2] (x_view_Trim 42 43) := .of (by kernel_rfl)
theorem is_ref15_SameRow : FnIs Tryd.prog 19 26 [.t 4] x_ref15_SameRow := .of (by kernel_rfl)
theorem is_view_Index : FnIs Tryd.prog 20 34 [.t 4] x_view_Index := .of (by kernel_rfl)
theorem is_cluster_Width : FnIs Tryd.prog 24 13 [.t 2] (x_cluster_Width 46 47) := .of (by kernel_rfl)
theorem is_cellrow_Check : FnIs Tryd.prog 26 64 [.t 2] (x_cellrow_Check 51 24) := .of (by kernel_rfl)
theorem is_cellrow_Text : FnIs Tryd.prog 27 17 [.t 2] (x_cellrow_Text 52 53) := .of (by kernel_rfl)
theorem is_view_Text : FnIs Tryd.prog 28 17 [.t 2] (x_view_Text 52 53) := .of (by kernel_rfl)
theorem is_view_showable : FnIs Tryd.prog 38 71 [.t 2] (x_view_showable 55 26 58 59) := .of (by kernel_rfl)
theorem is_slices_Collect_365 : FnIs Tryd.prog 39 5 [.t 2] (x_slices_Collect_365 61) := .of (by kernel_rfl)
theorem is_view_glyphs : FnIs Tryd.prog 40 4 [.t 2] (x_view_glyphs 62) := .of (by kernel_rfl)
theorem is_view_blank : FnIs Tryd.prog 42 2 [.c 0 3 true] x_view_blank := .of (by kernel_rfl)
theorem is_slices_Clone_675 : FnIs Tryd.prog 43 8 [.t 2] x_slices_Clone_675 := .of (by kernel_rfl)
theorem is_cluster_runes : FnIs Tryd.prog 46 8 [.t 2] (x_cluster_runes 51) := .of (by kernel_rfl)
theorem is_charwidth_Width : FnIs Tryd.prog 47 22 [.t 2] (x_charwidth_Width 65 67 66) := .of (by kernel_rfl)
theorem is_cluster_Check : FnIs Tryd.prog 51 30 [.t 2] (x_cluster_Check 70 47 71) := .of (by kernel_rfl)
theorem is_view_sized : FnIs Tryd.prog 55 19 [.t 4] x_view_sized := .of (by kernel_rfl)
theorem is_slices_ContainsFunc_750 : FnIs Tryd.prog 58 9 [.t 4] (x_slices_ContainsFunc_750 73) := .of (by kernel_rfl)
theorem is_view_showable_1 : FnIs Tryd.prog 59 7 [.t 2] (x_view_showable_1 60) := .of (by kernel_rfl)
theorem is_attr_Check : FnIs Tryd.prog 60 28 [.t 2] x_attr_Check := .of (by kernel_rfl)
theorem is_slices_AppendSeq_675 : FnIs Tryd.prog 61 13 [.t 4] x_slices_AppendSeq_675 := .of (by kernel_rfl)
theorem is_view_glyphs_1 : FnIs Tryd.prog 62 35 [] (x_view_glyphs_1 63) := .of (by kernel_rfl)
theorem is_attr_Style : FnIs Tryd.prog 63 18 [.t 2] x_attr_Style := .of (by kernel_rfl)
theorem is_charwidth_Mark : FnIs Tryd.prog 65 7 [.t 2] (x_charwidth_Mark 74 66) := .of (by kernel_rfl)
theorem is_charwidth_finder : FnIs Tryd.prog 66 4 [.t 2] (x_charwidth_finder 75) := .of (by kernel_rfl)
theorem is_charwidth_Wide : FnIs Tryd.prog 67 16 [.t 0] x_charwidth_Wide := .of (by kernel_rfl)
theorem is_utf8stream_Valid : FnIs Tryd.prog 70 5 [.t 2] (x_utf8stream_Valid 80) := .of (by kernel_rfl)
theorem is_cluster_marked : FnIs Tryd.prog 71 15 [.t 2] (x_cluster_marked 65) := .of (by kernel_rfl)
theorem is_slices_IndexFunc_750 : FnIs Tryd.prog 73 19 [.t 4] x_slices_IndexFunc_750 := .of (by kernel_rfl)
theorem is_charwidth_marks : FnIs Tryd.prog 74 9 [.t 0] x_charwidth_marks := .of (by kernel_rfl)
theorem is_charwidth_finder_1 : FnIs Tryd.prog 75 39 [.t 3] x_charwidth_finder_1 := .of (by kernel_rfl)
theorem is_unicode_utf8_ValidString : FnIs Tryd.prog 80 169 [.t 2] (x_unicode_utf8_ValidString 87) := .of (by kernel_rfl)
theorem is_unicode_utf8_word_69 : FnIs Tryd.prog 87 59 [.t 2] x_unicode_utf8_word_69 := .of (by kernel_rfl)

def fnsE : List (FuncId × FnE) := [
  (13, ⟨60, [.t 0], (x_law15_awake 15 19 20)⟩),
  (15, ⟨45, [.c 2 6 true], (x_view_Of 38 40 39 18)⟩),
  (18, ⟨23, [.t 2], (x_view_Trim 42 43)⟩),
  (19, ⟨26, [.t 4], x_ref15_SameRow⟩),
  (20, ⟨34, [.t 4], x_view_Index⟩),
  (24, ⟨13, [.t 2], (x_cluster_Width 46 47)⟩),
  (26, ⟨64, [.t 2], (x_cellrow_Check 51 24)⟩),
  (38, ⟨71, [.t 2], (x_view_showable 55 26 58 59)⟩),
  (40, ⟨4, [.t 2], (x_view_glyphs 62)⟩),
  (42, ⟨2, [.c 0 3 true], x_view_blank⟩),
  (43, ⟨8, [.t 2], x_slices_Clone_675⟩),
  (46, ⟨8, [.t 2], (x_cluster_runes 51)⟩),
  (47, ⟨22, [.t 2], (x_charwidth_Width 65 67 66)⟩),
  (51, ⟨30, [.t 2], (x_cluster_Check 70 47 71)⟩),
  (55, ⟨19, [.t 4], x_view_sized⟩),
  (58, ⟨9, [.t 4], (x_slices_ContainsFunc_750 73)⟩),
  (59, ⟨7, [.t 2], (x_view_showable_1 60)⟩),
  (60, ⟨28, [.t 2], x_attr_Check⟩),
  (62, ⟨35, [], (x_view_glyphs_1 63)⟩),
  (63, ⟨18, [.t 2], x_attr_Style⟩),
  (65, ⟨7, [.t 2], (x_charwidth_Mark 74 66)⟩),
  (66, ⟨4, [.t 2], (x_charwidth_finder 75)⟩),
  (67, ⟨16, [.t 0], x_charwidth_Wide⟩),
  (70, ⟨5, [.t 2], (x_utf8stream_Valid 80)⟩),
  (71, ⟨15, [.t 2], (x_cluster_marked 65)⟩),
  (73, ⟨19, [.t 4], x_slices_IndexFunc_750⟩),
  (74, ⟨9, [.t 0], x_charwidth_marks⟩),
  (75, ⟨39, [.t 3], x_charwidth_finder_1⟩),
  (80, ⟨169, [.t 2], (x_unicode_utf8_ValidString 87)⟩),
  (87, ⟨59, [.t 2], x_unicode_utf8_word_69⟩)]

theorem fnsE_ok : ∀ p ∈ fnsE, FnIs Tryd.prog p.1 p.2.N p.2.res p.2.code := by
  intro p hp
  simp only [fnsE, List.mem_cons, List.not_mem_nil, or_false] at hp
  rcases hp with rfl | rfl | rfl | rfl | rfl | rfl | rfl | rfl | rfl | rfl | rfl | rfl | rfl | rfl | rfl | rfl | rfl | rfl | rfl | rfl | rfl | rfl | rfl | rfl | rfl | rfl | rfl | rfl | rfl | rfl
  · exact is_law15_awake
  · exact is_view_Of
  · exact is_view_Trim
  · exact is_ref15_SameRow
  · exact is_view_Index
  · exact is_cluster_Width
  · exact is_cellrow_Check
  · exact is_view_showable
  · exact is_view_glyphs
  · exact is_view_blank
  · exact is_slices_Clone_675
  · exact is_cluster_runes
  · exact is_charwidth_Width
  · exact is_cluster_Check
  · exact is_view_sized
  · exact is_slices_ContainsFunc_750
  · exact is_view_showable_1
  · exact is_attr_Check
  · exact is_view_glyphs_1
  · exact is_attr_Style
  · exact is_charwidth_Mark
  · exact is_charwidth_finder
  · exact is_charwidth_Wide
  · exact is_utf8stream_Valid
  · exact is_cluster_marked
  · exact is_slices_IndexFunc_750
  · exact is_charwidth_marks
  · exact is_charwidth_finder_1
  · exact is_unicode_utf8_ValidString
  · exact is_unicode_utf8_word_69

/-- The tables that the rows list. -/
def gam : Tabs := [(1, tabAccept), (0, tabFirst)]
theorem gam_is : tabsOf Tryd.prog [("unicode/utf8.acceptRanges", Rows.laid_unicode_utf8_acceptRanges), ("unicode/utf8.first", Rows.laid_unicode_utf8_first)] = some gam := by kernel_rfl

def isTrue : Option A → Bool
  | some (.d (.sc (.bool true))) => true
  | _ => false
theorem isTrue_some {x : Option A} (h : isTrue x = true) : x = some (.bool true) := by
  unfold isTrue at h
  split at h
  · rfl
  · cases h

theorem ext_ok : ∀ f args r, extCollect 39 62 f args = some r → FnP gam Tryd.prog f args r :=
  extCollect_ok is_slices_Collect_365 (by decide) is_slices_AppendSeq_675 (by decide) is_view_glyphs_1 (by decide) is_attr_Style (by decide)

set_option maxRecDepth 100000 in
theorem awake_run : isTrue ((orcE fnsE (extCollect 39 62) ⟨1, 24⟩ (tabS gam) 300 30).pure 13 []) = true := by kernel_rfl

theorem awake_fn : FnP gam Tryd.prog 13 [] (.bool true) := (orcE_ok fnsE_ok ext_ok 30).pure _ _ _ (isTrue_some awake_run)

theorem k_vs : ∀ s : ByteArray, s.size ≤ 1000 → FnP gam Tryd.prog 80 [.str s] (.bool (validS s)) :=
  validString_fn Tryd.laysValid rfl is_unicode_utf8_ValidString (by rw [show Tryd.laysValid_ren.g 3 = 0 from rfl]; exact List.mem_cons_of_mem _ (List.mem_cons_self ..)) (by rw [show Tryd.laysValid_ren.g 4 = 1 from rfl]; exact List.mem_cons_self ..)
theorem k_mark : ∀ r, FnP gam Tryd.prog 65 [.sc (.int .i32 r)] (.bool (markC r)) := mark_fn is_charwidth_Mark (by decide) is_charwidth_marks is_charwidth_finder (by decide) is_charwidth_finder_1 (by decide)
theorem k_cwidth : ∀ r, FnP gam Tryd.prog 47 [.sc (.int .i32 r)] (.int (widthC r)) := widthC_fn is_charwidth_Width (by decide) is_charwidth_Mark (by decide) is_charwidth_marks is_charwidth_Wide is_charwidth_finder (by decide) is_charwidth_finder_1 (by decide)
theorem k_marked : ∀ l : List Nat, FnP gam Tryd.prog 71 [.d (.sl eRn (rnRows l))] (.bool (l.all fun n => markC n)) := marked_fn is_cluster_marked (by decide) k_mark
theorem k_valid : ∀ s : ByteArray, s.size ≤ 1000 → FnP gam Tryd.prog 70 [.str s] (.bool (validS s)) := valid_fn is_utf8stream_Valid (by decide) k_vs
theorem k_check : ∀ s : ByteArray, s.size ≤ 1000 → FnP gam Tryd.prog 51 [.str s] (.int (chkC s)) := check_fn is_cluster_Check (by decide) k_valid k_cwidth k_marked
theorem k_runes : ∀ s : ByteArray, s.size ≤ 1000 → FnP gam Tryd.prog 46 [.str s] (.d (.sl eRn (rnRows (runesC s)))) := runes_fn is_cluster_runes (by decide) k_check
theorem k_width : ∀ s : ByteArray, s.size ≤ 1000 → FnP gam Tryd.prog 24 [.str s] (.int (widC s)) := cwidth_fn is_cluster_Width (by decide) k_runes k_cwidth

theorem k_sized : ∀ w h, FnP gam Tryd.prog 55 [.int w, .int h] (.bool (szOk w h)) := sized_fn is_view_sized (by decide)
theorem k_row : ∀ l : List Ce, (∀ c ∈ l, c.text.size ≤ 1000) → FnP gam Tryd.prog 26 [.d (.sl eCe (ceRows l))] (.int (checkR l)) := rowCheck_fn is_cellrow_Check (by decide) k_check k_width
theorem k_attr : ∀ c, FnP gam Tryd.prog 60 [attrA c] (.int (if badA c then 2 else 0)) := attrCheck_fn is_attr_Check (by decide)
theorem k_any : ∀ l : List Ce, FnP gam Tryd.prog 58 [.d (.sl eCe (ceRows l)), .fn 59 []] (.bool (l.any badA)) :=
  fun l => containsFunc_fn is_slices_ContainsFunc_750 (by decide) is_slices_IndexFunc_750 (by decide) l fun c _ => showable1_fn is_view_showable_1 (by decide) k_attr c
theorem k_show : ∀ t : Tm, (∀ l ∈ t.rows, ∀ c ∈ l, c.text.size ≤ 1000) → FnP gam Tryd.prog 38 [tmA t] (.bool (showT t)) := showable_fn is_view_showable (by decide) k_sized k_row k_any
theorem k_of : ∀ t : Tm, (∀ l ∈ t.rows, ∀ c ∈ l, c.text.size ≤ 1000) → FnP gam Tryd.prog 15 [tmA t] (vwA (ofV t)) := fun t ht =>
  of_fn is_view_Of (by decide) t (k_show t ht) (glyphs_fn (f1 := 62) is_view_glyphs (by decide))
    (fun l hl => collect_fn is_slices_Collect_365 (by decide) is_slices_AppendSeq_675 (by decide) _ (glyphs1_gen is_view_glyphs_1 (by decide) is_attr_Style (by decide) l) rfl (by have := glyphsOf_len l; simp only [room]; omega))
    (trim_fn is_view_Trim (by decide) is_view_blank is_slices_Clone_675 (by decide))

def tCells : Ty := .sl ⟨5, 48⟩ (.st [.str, .int .i64, .st [.int .i64, .int .i64, .int .i64]])
def tRows : Ty := .sl ⟨1, 24⟩ tCells
theorem cell_of {xs : List D} (h : WT (.st [.str, .int .i64, .st [.int .i64, .int .i64, .int .i64]]) xs) : ∃ c : Ce, xs = c.row := by
  obtain ⟨_, _, rfl, ⟨s, rfl, _⟩, _, _, rfl, ⟨w, rfl, _⟩, _, _, rfl, ⟨_, _, rfl, ⟨a, rfl, _⟩, _, _, rfl, ⟨b, rfl, _⟩, _, _, rfl, ⟨c, rfl, _⟩, rfl⟩, rfl⟩ := h
  exact ⟨⟨s, w, a, b, c⟩, rfl⟩
theorem cells_of' : ∀ {rows : List (List D)}, (∀ r ∈ rows, WT (.st [.str, .int .i64, .st [.int .i64, .int .i64, .int .i64]]) r) → ∃ l : List Ce, rows = ceRows l
  | [], _ => ⟨[], rfl⟩
  | r :: rows, h => by
    obtain ⟨g, rfl⟩ := cell_of (h r (List.mem_cons_self ..))
    obtain ⟨l, rfl⟩ := cells_of' fun r hr => h r (List.mem_cons_of_mem _ hr)
    exact ⟨g :: l, rfl⟩
theorem cells_of {xs : List D} (h : WT tCells xs) : ∃ l : List Ce, xs = [.sl eCe (ceRows l)] := by
  obtain ⟨rows, rfl, hr⟩ := h
  obtain ⟨l, rfl⟩ := cells_of' hr
  exact ⟨l, rfl⟩
theorem crows_of : ∀ {rows : List (List D)}, (∀ r ∈ rows, WT tCells r) → ∃ l : List (List Ce), rows = crRows l
  | [], _ => ⟨[], rfl⟩
  | r :: rows, h => by
    obtain ⟨g, rfl⟩ := cells_of (h r (List.mem_cons_self ..))
    obtain ⟨l, rfl⟩ := crows_of fun r hr => h r (List.mem_cons_of_mem _ hr)
    exact ⟨g :: l, rfl⟩

end Go.Proofs.YtmagahmklndcgaaDoor.Nx

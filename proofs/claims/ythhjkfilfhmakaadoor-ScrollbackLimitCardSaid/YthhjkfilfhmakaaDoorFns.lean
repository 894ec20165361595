/- The functions of this program are those of the definitions; the example that every statement checks. -/
import Derived.Test.YthhjkfilfhmakaaDoorNxB0
import Derived.Test.YthhjkfilfhmakaaDoorNxB1
import Derived.Test.YthhjkfilfhmakaaDoorNxQ1
import Derived.Test.YthhjkfilfhmakaaDoorNxS1
import Derived.Test.YthhjkfilfhmakaaDoorNxS8
import Derived.Test.YthhjkfilfhmakaaDoorNxS6
import Derived.Test.YthhjkfilfhmakaaDoorNxS7
import Derived.Test.YthhjkfilfhmakaaDoorNxEval
import Derived.Test.YthhjkfilfhmakaaDoorNxLink2
import Derived.Test.YthhjkfilfhmakaaDoorRows
import Derived.KernelRfl
import Derived.Shelf.Spec.SlicesGrow
import Derived.Ground.Names7Prog
namespace Go.Proofs.YthhjkfilfhmakaaDoor
open Go.RowKit Go.Shelf Go.Lib
shelf_lay_g Lays8.n4 Nm8 4 at Tryd 55 as Tryd.growR
end Go.Proofs.YthhjkfilfhmakaaDoor
namespace Go.Proofs.YthhjkfilfhmakaaDoor.Nx
set_option linter.unusedSimpArgs false
set_option linter.unusedVariables false
set_option linter.unnecessarySimpa false
open Go

theorem is_law12_ScrollbackLimit : FnIs Tryd.prog 6 94 [.t 4] (x_law12_ScrollbackLimit 11 13 25 22) := .of (by kernel_rfl)
theorem is_ref12_Great : FnIs Tryd.prog 11 18 [.t 2] (x_ref12_Great 30) := .of (by kernel_rfl)
theorem is_law12_awake : FnIs Tryd.prog 13 50 [.t 0] (x_law12_awake 31 14 21) := .of (by kernel_rfl)
theorem is_scrollback_Window : FnIs Tryd.prog 14 55 [.c 6 3 true, .c 7 1 false] (x_scrollback_Window 17 32 33 34 35) := .of (by kernel_rfl)
theorem is_grid_Check : FnIs Tryd.prog 17 39 [.t 2] (x_grid_Check 38 33) := .of (by kernel_rfl)
theorem is_ref08_SameRows : FnIs Tryd.prog 21 27 [.t 4] (x_ref08_SameRows 22) := .of (by kernel_rfl)
theorem is_ref07_Same : FnIs Tryd.prog 22 26 [.t 4] x_ref07_Same := .of (by kernel_rfl)
theorem is_scrollback_Trim : FnIs Tryd.prog 24 9 [.t 4] (x_scrollback_Trim 42 41) := .of (by kernel_rfl)
theorem is_scrollback_Push : FnIs Tryd.prog 25 11 [.t 4] (x_scrollback_Push 43 42 41) := .of (by kernel_rfl)
theorem is_ref07_Great : FnIs Tryd.prog 30 20 [.t 2] x_ref07_Great := .of (by kernel_rfl)
theorem is_law12_rows : FnIs Tryd.prog 31 23 [.t 2] x_law12_rows := .of (by kernel_rfl)
theorem is_scrollback_visible : FnIs Tryd.prog 32 8 [.t 6] (x_scrollback_visible 47) := .of (by kernel_rfl)
theorem is_cellrow_Check : FnIs Tryd.prog 33 64 [.t 2] (x_cellrow_Check 48 49) := .of (by kernel_rfl)
theorem is_cellrow_Fit : FnIs Tryd.prog 34 52 [.t 4] (x_cellrow_Fit 33 35 50 51) := .of (by kernel_rfl)
theorem is_slices_Clone_750 : FnIs Tryd.prog 35 8 [.t 2] x_slices_Clone_750 := .of (by kernel_rfl)
theorem is_grid_size : FnIs Tryd.prog 38 19 [.t 4] x_grid_size := .of (by kernel_rfl)
theorem is_scrollback_copies : FnIs Tryd.prog 41 23 [.t 2] (x_scrollback_copies 35) := .of (by kernel_rfl)
theorem is_scrollback_last : FnIs Tryd.prog 42 14 [.t 4] x_scrollback_last := .of (by kernel_rfl)
theorem is_slices_Concat_128 : FnIs Tryd.prog 43 36 [.t 2] (x_slices_Concat_128 55) := .of (by kernel_rfl)
theorem is_scrollback_visible_1 : FnIs Tryd.prog 47 45 [] x_scrollback_visible_1 := .of (by kernel_rfl)
theorem is_cluster_Check : FnIs Tryd.prog 48 30 [.t 2] (x_cluster_Check 59 60 61) := .of (by kernel_rfl)
theorem is_cluster_Width : FnIs Tryd.prog 49 13 [.t 2] (x_cluster_Width 62 60) := .of (by kernel_rfl)
theorem is_cellrow_blanks : FnIs Tryd.prog 50 10 [.t 4] (x_cellrow_blanks 51 63) := .of (by kernel_rfl)
theorem is_cellrow_blank : FnIs Tryd.prog 51 6 [.c 2 5 true] x_cellrow_blank := .of (by kernel_rfl)
theorem is_utf8stream_Valid : FnIs Tryd.prog 59 5 [.t 2] (x_utf8stream_Valid 68) := .of (by kernel_rfl)
theorem is_charwidth_Width : FnIs Tryd.prog 60 22 [.t 2] (x_charwidth_Width 69 71 70) := .of (by kernel_rfl)
theorem is_cluster_marked : FnIs Tryd.prog 61 15 [.t 2] (x_cluster_marked 69) := .of (by kernel_rfl)
theorem is_cluster_runes : FnIs Tryd.prog 62 8 [.t 2] (x_cluster_runes 48) := .of (by kernel_rfl)
theorem is_slices_Repeat_750 : FnIs Tryd.prog 63 48 [.t 4] (x_slices_Repeat_750 72) := .of (by kernel_rfl)
theorem is_unicode_utf8_ValidString : FnIs Tryd.prog 68 169 [.t 2] (x_unicode_utf8_ValidString 78) := .of (by kernel_rfl)
theorem is_charwidth_Mark : FnIs Tryd.prog 69 7 [.t 2] (x_charwidth_Mark 79 70) := .of (by kernel_rfl)
theorem is_charwidth_finder : FnIs Tryd.prog 70 4 [.t 2] (x_charwidth_finder 80) := .of (by kernel_rfl)
theorem is_charwidth_Wide : FnIs Tryd.prog 71 16 [.t 0] x_charwidth_Wide := .of (by kernel_rfl)
theorem is_math_bits_Mul : FnIs Tryd.prog 72 30 [.t 4, .t 5] (x_math_bits_Mul 81 82) := .of (by kernel_rfl)
theorem is_unicode_utf8_word_69 : FnIs Tryd.prog 78 59 [.t 2] x_unicode_utf8_word_69 := .of (by kernel_rfl)
theorem is_charwidth_marks : FnIs Tryd.prog 79 9 [.t 0] x_charwidth_marks := .of (by kernel_rfl)
theorem is_charwidth_finder_1 : FnIs Tryd.prog 80 39 [.t 3] x_charwidth_finder_1 := .of (by kernel_rfl)
theorem is_math_bits_Mul32 : FnIs Tryd.prog 81 17 [.t 4, .t 5] x_math_bits_Mul32 := .of (by kernel_rfl)
theorem is_math_bits_Mul64 : FnIs Tryd.prog 82 51 [.t 4, .t 5] x_math_bits_Mul64 := .of (by kernel_rfl)

def fnsE : List (FuncId × FnE) := [
  (13, ⟨50, [.t 0], (x_law12_awake 31 14 21)⟩),
  (17, ⟨39, [.t 2], (x_grid_Check 38 33)⟩),
  (21, ⟨27, [.t 4], (x_ref08_SameRows 22)⟩),
  (22, ⟨26, [.t 4], x_ref07_Same⟩),
  (31, ⟨23, [.t 2], x_law12_rows⟩),
  (33, ⟨64, [.t 2], (x_cellrow_Check 48 49)⟩),
  (38, ⟨19, [.t 4], x_grid_size⟩),
  (48, ⟨30, [.t 2], (x_cluster_Check 59 60 61)⟩),
  (49, ⟨13, [.t 2], (x_cluster_Width 62 60)⟩),
  (50, ⟨10, [.t 4], (x_cellrow_blanks 51 63)⟩),
  (51, ⟨6, [.c 2 5 true], x_cellrow_blank⟩),
  (59, ⟨5, [.t 2], (x_utf8stream_Valid 68)⟩),
  (60, ⟨22, [.t 2], (x_charwidth_Width 69 71 70)⟩),
  (61, ⟨15, [.t 2], (x_cluster_marked 69)⟩),
  (62, ⟨8, [.t 2], (x_cluster_runes 48)⟩),
  (63, ⟨48, [.t 4], (x_slices_Repeat_750 72)⟩),
  (68, ⟨169, [.t 2], (x_unicode_utf8_ValidString 78)⟩),
  (69, ⟨7, [.t 2], (x_charwidth_Mark 79 70)⟩),
  (70, ⟨4, [.t 2], (x_charwidth_finder 80)⟩),
  (71, ⟨16, [.t 0], x_charwidth_Wide⟩),
  (72, ⟨30, [.t 4, .t 5], (x_math_bits_Mul 81 82)⟩),
  (78, ⟨59, [.t 2], x_unicode_utf8_word_69⟩),
  (79, ⟨9, [.t 0], x_charwidth_marks⟩),
  (80, ⟨39, [.t 3], x_charwidth_finder_1⟩),
  (81, ⟨17, [.t 4, .t 5], x_math_bits_Mul32⟩),
  (82, ⟨51, [.t 4, .t 5], x_math_bits_Mul64⟩)]

theorem fnsE_ok : ∀ p ∈ fnsE, FnIs Tryd.prog p.1 p.2.N p.2.res p.2.code := by
  intro p hp
  simp only [fnsE, List.mem_cons, List.not_mem_nil, or_false] at hp
  rcases hp with rfl | rfl | rfl | rfl | rfl | rfl | rfl | rfl | rfl | rfl | rfl | rfl | rfl | rfl | rfl | rfl | rfl | rfl | rfl | rfl | rfl | rfl | rfl | rfl | rfl | rfl
  · exact is_law12_awake
  · exact is_grid_Check
  · exact is_ref08_SameRows
  · exact is_ref07_Same
  · exact is_law12_rows
  · exact is_cellrow_Check
  · exact is_grid_size
  · exact is_cluster_Check
  · exact is_cluster_Width
  · exact is_cellrow_blanks
  · exact is_cellrow_blank
  · exact is_utf8stream_Valid
  · exact is_charwidth_Width
  · exact is_cluster_marked
  · exact is_cluster_runes
  · exact is_slices_Repeat_750
  · exact is_unicode_utf8_ValidString
  · exact is_charwidth_Mark
  · exact is_charwidth_finder
  · exact is_charwidth_Wide
  · exact is_math_bits_Mul
  · exact is_unicode_utf8_word_69
  · exact is_charwidth_marks
  · exact is_charwidth_finder_1
  · exact is_math_bits_Mul32
  · exact is_math_bits_Mul64

def tabFirst : List D := (List.replicate 128 (240 : Int) ++ List.replicate 66 241 ++ List.replicate 30 2 ++ [19] ++ List.replicate 12 3 ++ [35, 3, 3, 52, 4, 4, 4, 68] ++ List.replicate 11 241).map fun n => .sc (.int .u8 n)
def tabAccept : List D := ([128, 191, 160, 191, 128, 159, 144, 191, 128, 143] ++ List.replicate 22 (0 : Int)).map fun n => .sc (.int .u8 n)

/-- The tables that the rows list. -/
def gam : Tabs := [(1, tabAccept), (0, tabFirst)]
theorem gam_is : tabsOf Tryd.prog [("unicode/utf8.acceptRanges", Rows.laid_unicode_utf8_acceptRanges), ("unicode/utf8.first", Rows.laid_unicode_utf8_first)] = some gam := by kernel_rfl

def isTrue : Option A → Bool
  | some (.d (.sc (.bool true))) => true
  | _ => false
theorem isTrue_some {x : Option A} (h : isTrue x = true) : x = some (.bool true) := by
  unfold isTrue at h
  split at h
  · rfl
  · cases h

def o0 : Orc := orcE fnsE (fun _ _ => none) ⟨1, 24⟩ (tabS gam) 300 30
theorem o0_ok : OrcOk (.all gam.ctx Tryd.prog) o0 := orcE_ok fnsE_ok (fun _ _ _ h => by cases h) 30
theorem ext_ok : ∀ f args r, extWindow o0 14 17 33 50 f args = some r → FnP gam Tryd.prog f args r :=
  extWindow_ok o0_ok is_scrollback_Window (by decide) is_scrollback_visible (by decide) is_scrollback_visible_1 (by decide) is_slices_Clone_750 (by decide) is_cellrow_Fit (by decide) is_cellrow_blank (by decide)

set_option maxRecDepth 100000 in
theorem awake_run : isTrue ((orcE fnsE (extWindow o0 14 17 33 50) ⟨1, 24⟩ (tabS gam) 300 30).pure 13 []) = true := by kernel_rfl

theorem awake_fn : FnP gam Tryd.prog 13 [] (.bool true) := (orcE_ok fnsE_ok ext_ok 30).pure _ _ _ (isTrue_some awake_run)

theorem k_great12 : GreatOk gam Tryd.prog 11 := great12_fn is_ref12_Great (by decide) (greatC_fn is_ref07_Great (by decide))
theorem k_sc : SCellsOk gam Tryd.prog 22 := sameC_fn is_ref07_Same (by decide)
theorem k_sr : SRowsOk gam Tryd.prog 21 := sameRows_fn is_ref08_SameRows (by decide) k_sc
theorem k_clone : ∀ rows, FnP gam Tryd.prog 35 [.d (.sl eCe rows)] (.d (.sl eCe rows)) := cloneC_fn is_slices_Clone_750 (by decide)
theorem k_copies : ∀ l : List (List Ce), l.length ≤ 100000 → FnP gam Tryd.prog 41 [.d (.sl eRw (crRows l))] (.d (.sl eRw (crRows l))) := copies_fn is_scrollback_copies (by decide) k_clone
theorem k_last : TrimOk gam Tryd.prog 42 := last_fn is_scrollback_last (by decide)
theorem k_trim : TrimOk gam Tryd.prog 24 := trim12_fn is_scrollback_Trim (by decide) k_last k_copies

theorem k_growE : Enters Tryd.prog 55 := enters_of (by kernel_rfl)
theorem k_concat : ∀ ls : List (List (List Ce)), ls.length ≤ 1000 → ls.flatten.length ≤ 100000 → FnP gam Tryd.prog 43 [.d (.sl eRw (cc3 ls))] (.d (.sl eRw (crRows ls.flatten))) :=
  concat_fn is_slices_Concat_128 (by decide) (grow0_fn Tryd.growR rfl k_growE) (fun n hn hl h => growS_fn Tryd.growR rfl k_growE (by kernel_rfl) n hn hl h)
theorem k_push : PushOk gam Tryd.prog 25 := push_fn is_scrollback_Push (by decide) k_concat k_last k_copies

def tCells : Ty := .sl ⟨5, 48⟩ (.st [.str, .int .i64, .st [.int .i64, .int .i64, .int .i64]])
def tRows : Ty := .sl ⟨1, 24⟩ tCells
theorem cell_of {xs : List D} (h : WT (.st [.str, .int .i64, .st [.int .i64, .int .i64, .int .i64]]) xs) : ∃ c : Ce, xs = c.row := by
  obtain ⟨_, _, rfl, ⟨s, rfl, _⟩, _, _, rfl, ⟨w, rfl, _⟩, _, _, rfl, ⟨_, _, rfl, ⟨a, rfl, _⟩, _, _, rfl, ⟨b, rfl, _⟩, _, _, rfl, ⟨c, rfl, _⟩, rfl⟩, rfl⟩ := h
  exact ⟨⟨s, w, a, b, c⟩, rfl⟩
theorem cells_of' : ∀ {rows : List (List D)}, (∀ r ∈ rows, WT (.st [.str, .int .i64, .st [.int .i64, .int .i64, .int .i64]]) r) → ∃ l : List Ce, rows = ceRows l
  | [], _ => ⟨[], rfl⟩
  | r :: rows, h => by
    obtain ⟨g, rfl⟩ := cell_of (h r (List.mem_cons_self ..))
    obtain ⟨l, rfl⟩ := cells_of' fun r hr => h r (List.mem_cons_of_mem _ hr)
    exact ⟨g :: l, rfl⟩
theorem cells_of {xs : List D} (h : WT tCells xs) : ∃ l : List Ce, xs = [.sl eCe (ceRows l)] := by
  obtain ⟨rows, rfl, hr⟩ := h
  obtain ⟨l, rfl⟩ := cells_of' hr
  exact ⟨l, rfl⟩
theorem crows_of : ∀ {rows : List (List D)}, (∀ r ∈ rows, WT tCells r) → ∃ l : List (List Ce), rows = crRows l
  | [], _ => ⟨[], rfl⟩
  | r :: rows, h => by
    obtain ⟨g, rfl⟩ := cells_of (h r (List.mem_cons_self ..))
    obtain ⟨l, rfl⟩ := crows_of fun r hr => h r (List.mem_cons_of_mem _ hr)
    exact ⟨g :: l, rfl⟩

end Go.Proofs.YthhjkfilfhmakaaDoor.Nx

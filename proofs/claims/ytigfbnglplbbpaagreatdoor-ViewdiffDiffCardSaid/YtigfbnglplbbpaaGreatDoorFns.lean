/- The functions of this program are those of the definitions; the example that every statement checks. -/
import Derived.Test.YtigfbnglplbbpaaGreatDoorNxCore
import Derived.Test.YtigfbnglplbbpaaGreatDoorNxSound
import Derived.Test.YtigfbnglplbbpaaGreatDoorNxSound2
import Derived.Test.YtigfbnglplbbpaaGreatDoorNxSound4
import Derived.Test.YtigfbnglplbbpaaGreatDoorNxSound6
import Derived.Test.YtigfbnglplbbpaaGreatDoorNxComp
import Derived.Test.YtigfbnglplbbpaaGreatDoorNxExec
import Derived.Test.YtigfbnglplbbpaaGreatDoorNxDraw
import Derived.Test.YtigfbnglplbbpaaGreatDoorNxStep
import Derived.Test.YtigfbnglplbbpaaGreatDoorNxRegion
import Derived.Test.YtigfbnglplbbpaaGreatDoorNxCode
import Derived.Test.YtigfbnglplbbpaaGreatDoorNxFn
import Derived.Test.YtigfbnglplbbpaaGreatDoorNxCheck
import Derived.Test.YtigfbnglplbbpaaGreatDoorNxWalk
import Derived.Test.YtigfbnglplbbpaaGreatDoorNxLink
import Derived.Test.YtigfbnglplbbpaaGreatDoorNxEval
import Derived.Test.YtigfbnglplbbpaaGreatDoorNxC1
import Derived.Test.YtigfbnglplbbpaaGreatDoorNxV1
import Derived.Test.YtigfbnglplbbpaaGreatDoorNxB0
import Derived.Test.YtigfbnglplbbpaaGreatDoorNxP15a
import Derived.Test.YtigfbnglplbbpaaGreatDoorNxP15i
import Derived.Test.YtigfbnglplbbpaaGreatDoorNxG0
import Derived.Test.YtigfbnglplbbpaaGreatDoorNxP15g
import Derived.Test.YtigfbnglplbbpaaGreatDoorNxP15k
import Derived.Test.YtigfbnglplbbpaaGreatDoorNxP15n
import Derived.Test.YtigfbnglplbbpaaGreatDoorNxP15p
import Derived.Test.YtigfbnglplbbpaaGreatDoorNxH0
import Derived.Test.YtigfbnglplbbpaaGreatDoorNxE0
import Derived.Test.YtigfbnglplbbpaaGreatDoorNxE2
import Derived.Test.YtigfbnglplbbpaaGreatDoorNxW8
import Derived.Test.YtigfbnglplbbpaaGreatDoorNxE6
import Derived.Test.YtigfbnglplbbpaaGreatDoorNxE13
import Derived.Test.YtigfbnglplbbpaaGreatDoorNxE15
import Derived.Test.YtigfbnglplbbpaaGreatDoorNxE19
import Derived.Test.YtigfbnglplbbpaaGreatDoorNxE21
import Derived.Test.YtigfbnglplbbpaaGreatDoorNxK3
import Derived.Test.YtigfbnglplbbpaaGreatDoorNxT1
import Derived.Test.YtigfbnglplbbpaaGreatDoorNxI0
import Derived.Test.YtigfbnglplbbpaaGreatDoorNxI2
import Derived.Test.YtigfbnglplbbpaaGreatDoorNxI6
import Derived.Test.YtigfbnglplbbpaaGreatDoorNxI14
import Derived.Test.YtigfbnglplbbpaaGreatDoorNxC3
import Derived.Test.YtigfbnglplbbpaaGreatDoorNxI21
import Derived.Test.YtigfbnglplbbpaaGreatDoorNxI25
import Derived.Test.YtigfbnglplbbpaaGreatDoorNxE34
import Derived.Test.YtigfbnglplbbpaaGreatDoorNxI29
import Derived.Test.YtigfbnglplbbpaaGreatDoorNxE24
import Derived.Test.YtigfbnglplbbpaaGreatDoorNxE36
import Derived.Test.YtigfbnglplbbpaaGreatDoorNxE29
import Derived.Test.YtigfbnglplbbpaaGreatDoorNxE28
import Derived.Test.YtigfbnglplbbpaaGreatDoorNxDL
import Derived.Test.YtigfbnglplbbpaaGreatDoorNxD15
import Derived.Test.YtigfbnglplbbpaaGreatDoorRows
import Derived.KernelRfl
import Derived.Ground.NamesProg
import Derived.Shelf.Lay
import Derived.Shelf.Unicode.ValidAny
import Derived.Shelf.Spec.SlicesGrow
import Derived.Ground.Names7Prog
set_option linter.unusedSimpArgs false
set_option linter.unusedVariables false
set_option linter.unnecessarySimpa false
open Nat renaming zero_le → zI
open List renaming mem_cons_self → zW, mem_cons_of_mem → zZ
namespace Go.Proofs.YtigfbnglplbbpaaGreatDoor
open Go.RowKit Go.Shelf Go.Lib
shelf_lay Lays.n196 Nm 196 at Tryz as Tryz.laysValid
end Go.Proofs.YtigfbnglplbbpaaGreatDoor
namespace Go.Proofs.YtigfbnglplbbpaaGreatDoor
open Go.RowKit Go.Shelf Go.Lib
shelf_lay_g Lays8.n4 Nm8 4 at Tryz 101 as Tryz.growR
end Go.Proofs.YtigfbnglplbbpaaGreatDoor
namespace Go.Proofs.YtigfbnglplbbpaaGreatDoor.Nx
open Go
theorem is_law20_ViewdiffDiff:FnIs Tryz.prog 3 22 [.t 4] (x_law20_ViewdiffDiff 4 5 7 8 6):=.of (by kernel_rfl)
theorem is_ref15_Great:FnIs Tryz.prog 4 32 [.t 2] (x_ref15_Great 9):=.of (by kernel_rfl)
theorem is_law20_awake:FnIs Tryz.prog 5 48 [.t 0] (x_law20_awake 10 7 11):=.of (by kernel_rfl)
theorem is_ref19_Same:FnIs Tryz.prog 6 68 [.t 4] (x_ref19_Same 12):=.of (by kernel_rfl)
theorem is_viewdiff_Diff:FnIs Tryz.prog 7 87 [.t 4] (x_viewdiff_Diff 13 14 16 15 17 18):=.of (by kernel_rfl)
theorem is_ref20_Diff:FnIs Tryz.prog 8 86 [.t 4] (x_ref20_Diff 19 20 21 22 23):=.of (by kernel_rfl)
theorem is_ref15_GreatRow:FnIs Tryz.prog 9 20 [.t 2] x_ref15_GreatRow:=.of (by kernel_rfl)
theorem is_law20_column:FnIs Tryz.prog 10 26 [.c 2 6 true] x_law20_column:=.of (by kernel_rfl)
theorem is_viewdiff_Cost:FnIs Tryz.prog 11 36 [.t 2] (x_viewdiff_Cost 24):=.of (by kernel_rfl)
theorem is_ref15_SameRow:FnIs Tryz.prog 12 26 [.t 4] x_ref15_SameRow:=.of (by kernel_rfl)
theorem is_view_Check:FnIs Tryz.prog 13 84 [.t 2] (x_view_Check 25 26 27 28):=.of (by kernel_rfl)
theorem is_change_Apply:FnIs Tryz.prog 14 64 [.c 4 6 true,.t 5,.t 6] (x_change_Apply 13 29 30 31 27):=.of (by kernel_rfl)
theorem is_slices_Collect_706:FnIs Tryz.prog 15 5 [.t 2] (x_slices_Collect_706 32):=.of (by kernel_rfl)
theorem is_viewdiff_rest:FnIs Tryz.prog 16 6 [.t 4] (x_viewdiff_rest 33):=.of (by kernel_rfl)
theorem is_viewdiff_Diff_1:FnIs Tryz.prog 17 9 [.t 3] (x_viewdiff_Diff_1 11):=.of (by kernel_rfl)
theorem is_scrolldiff_Find:FnIs Tryz.prog 18 83 [.c 4 6 true,.t 5] (x_scrolldiff_Find 35 36 37):=.of (by kernel_rfl)
theorem is_ref15_Check:FnIs Tryz.prog 19 84 [.t 2] (x_ref15_Check 38 39 40 41):=.of (by kernel_rfl)
theorem is_ref19_Apply:FnIs Tryz.prog 20 57 [.c 4 6 true,.t 5,.t 6] (x_ref19_Apply 19 42 43 40):=.of (by kernel_rfl)
theorem is_ref20_rest:FnIs Tryz.prog 21 62 [.t 4] (x_ref20_rest 44):=.of (by kernel_rfl)
theorem is_ref18_Find:FnIs Tryz.prog 22 63 [.c 4 6 true,.t 5] (x_ref18_Find 45 46):=.of (by kernel_rfl)
theorem is_ref20_Cost:FnIs Tryz.prog 23 36 [.t 2] (x_ref20_Cost 47):=.of (by kernel_rfl)
theorem is_rowdiff_Cost:FnIs Tryz.prog 24 25 [.t 2] x_rowdiff_Cost:=.of (by kernel_rfl)
theorem is_view_sized:FnIs Tryz.prog 25 19 [.t 4] x_view_sized:=.of (by kernel_rfl)
theorem is_view_glyph:FnIs Tryz.prog 26 34 [.t 2] (x_view_glyph 48 49):=.of (by kernel_rfl)
theorem is_view_Width:FnIs Tryz.prog 27 20 [.t 2] x_view_Width:=.of (by kernel_rfl)
theorem is_view_blank:FnIs Tryz.prog 28 2 [.c 0 3 true] x_view_blank:=.of (by kernel_rfl)
theorem is_change_open:FnIs Tryz.prog 29 27 [.t 2] (x_change_open 50 51):=.of (by kernel_rfl)
theorem is_change_editor_check:FnIs Tryz.prog 30 35 [.t 4] (x_change_editor_check 52 53 54 55):=.of (by kernel_rfl)
theorem is_change_editor_apply:FnIs Tryz.prog 31 14 [] (x_change_editor_apply 56 57 58 59):=.of (by kernel_rfl)
theorem is_slices_AppendSeq_772:FnIs Tryz.prog 32 13 [.t 4] x_slices_AppendSeq_772:=.of (by kernel_rfl)
theorem is_viewdiff_rest_1:FnIs Tryz.prog 33 67 [] (x_viewdiff_rest_1 34):=.of (by kernel_rfl)
theorem is_rowdiff_Splices:FnIs Tryz.prog 34 64 [.t 6] (x_rowdiff_Splices 60 61 51 62 24):=.of (by kernel_rfl)
theorem is_scrolldiff_match:FnIs Tryz.prog 35 26 [.t 4] x_scrolldiff_match:=.of (by kernel_rfl)
theorem is_scrolldiff_gain:FnIs Tryz.prog 36 22 [.t 10] (x_scrolldiff_gain 64 63 66):=.of (by kernel_rfl)
theorem is_scrolldiff_candidate_better:FnIs Tryz.prog 37 72 [.t 4] x_scrolldiff_candidate_better:=.of (by kernel_rfl)
theorem is_ref15_Size:FnIs Tryz.prog 38 19 [.t 4] x_ref15_Size:=.of (by kernel_rfl)
theorem is_ref15_Glyph:FnIs Tryz.prog 39 34 [.t 2] (x_ref15_Glyph 67 68):=.of (by kernel_rfl)
theorem is_ref15_Width:FnIs Tryz.prog 40 21 [.t 2] x_ref15_Width:=.of (by kernel_rfl)
theorem is_ref15_blank:FnIs Tryz.prog 41 6 [.t 2] x_ref15_blank:=.of (by kernel_rfl)
theorem is_ref19_fits:FnIs Tryz.prog 42 125 [.t 4] (x_ref19_fits 69 70 38):=.of (by kernel_rfl)
theorem is_ref19_step:FnIs Tryz.prog 43 135 [.c 4 6 true] (x_ref19_step 71 72):=.of (by kernel_rfl)
theorem is_ref17_Splices:FnIs Tryz.prog 44 100 [.t 6] (x_ref17_Splices 73 74 75 76 77 47):=.of (by kernel_rfl)
theorem is_ref18_match:FnIs Tryz.prog 45 26 [.t 4] x_ref18_match:=.of (by kernel_rfl)
theorem is_ref18_Gain:FnIs Tryz.prog 46 42 [.t 10] (x_ref18_Gain 45 78 79):=.of (by kernel_rfl)
theorem is_ref17_Cost:FnIs Tryz.prog 47 33 [.t 2] x_ref17_Cost:=.of (by kernel_rfl)
theorem is_cluster_Check:FnIs Tryz.prog 48 30 [.t 2] (x_cluster_Check 80 81 82):=.of (by kernel_rfl)
theorem is_cluster_Width:FnIs Tryz.prog 49 13 [.t 2] (x_cluster_Width 83 81):=.of (by kernel_rfl)
theorem is_slices_Clone_164:FnIs Tryz.prog 50 8 [.t 2] x_slices_Clone_164:=.of (by kernel_rfl)
theorem is_slices_Clone_675:FnIs Tryz.prog 51 8 [.t 2] x_slices_Clone_675:=.of (by kernel_rfl)
theorem is_change_between:FnIs Tryz.prog 52 15 [.t 6] x_change_between:=.of (by kernel_rfl)
theorem is_change_blank:FnIs Tryz.prog 53 46 [.t 2] x_change_blank:=.of (by kernel_rfl)
theorem is_change_editor_ranges:FnIs Tryz.prog 54 124 [.t 4] (x_change_editor_ranges 52):=.of (by kernel_rfl)
theorem is_change_proper:FnIs Tryz.prog 55 30 [.t 2] (x_change_proper 48 49 52):=.of (by kernel_rfl)
theorem is_change_editor_size:FnIs Tryz.prog 56 134 [] (x_change_editor_size 27 60):=.of (by kernel_rfl)
theorem is_change_editor_scroll:FnIs Tryz.prog 57 28 [] (x_change_editor_scroll 84):=.of (by kernel_rfl)
theorem is_change_editor_splice:FnIs Tryz.prog 58 47 [] (x_change_editor_splice 85 60):=.of (by kernel_rfl)
theorem is_change_editor_cursor:FnIs Tryz.prog 59 23 [] x_change_editor_cursor:=.of (by kernel_rfl)
theorem is_view_Trim:FnIs Tryz.prog 60 23 [.t 2] (x_view_Trim 28 51):=.of (by kernel_rfl)
theorem is_view_Trim_r:FnIs Tryz.prog 60 23 [.t 2] (x_view_Trim_r 28 51):=.of (by kernel_rfl)
theorem is_editscript_Script_365:FnIs Tryz.prog 61 57 [.t 4] (x_editscript_Script_365 86):=.of (by kernel_rfl)
theorem is_rowdiff_Replace:FnIs Tryz.prog 62 14 [.c 6 6 true] (x_rowdiff_Replace 60):=.of (by kernel_rfl)
theorem is_scrolldiff_count:FnIs Tryz.prog 63 21 [.t 6] x_scrolldiff_count:=.of (by kernel_rfl)
theorem is_scrolldiff_gain_1:FnIs Tryz.prog 64 38 [.t 7] (x_scrolldiff_gain_1 65):=.of (by kernel_rfl)
theorem is_scrolldiff_equal:FnIs Tryz.prog 65 8 [.t 4] (x_scrolldiff_equal 87):=.of (by kernel_rfl)
theorem is_scrolldiff_gain_2:FnIs Tryz.prog 66 16 [.t 4] (x_scrolldiff_gain_2 65):=.of (by kernel_rfl)
theorem is_ref03_Check:FnIs Tryz.prog 67 40 [.t 2] (x_ref03_Check 88 89 90 91):=.of (by kernel_rfl)
theorem is_ref03_Width:FnIs Tryz.prog 68 11 [.t 2] (x_ref03_Width 67 89 91):=.of (by kernel_rfl)
theorem is_ref19_splice:FnIs Tryz.prog 69 76 [.t 4] (x_ref19_splice 70 39):=.of (by kernel_rfl)
theorem is_ref19_in:FnIs Tryz.prog 70 15 [.t 6] x_ref19_in:=.of (by kernel_rfl)
theorem is_ref19_sized:FnIs Tryz.prog 71 69 [.c 6 6 true] (x_ref19_sized 40 72):=.of (by kernel_rfl)
theorem is_ref15_Trim:FnIs Tryz.prog 72 23 [.t 2] (x_ref15_Trim 41):=.of (by kernel_rfl)
theorem is_ref17_Trim:FnIs Tryz.prog 73 23 [.t 2] (x_ref17_Trim 92):=.of (by kernel_rfl)
theorem is_ref17_SameGlyphs:FnIs Tryz.prog 74 26 [.t 4] x_ref17_SameGlyphs:=.of (by kernel_rfl)
theorem is_ref17_numbers:FnIs Tryz.prog 75 51 [.t 4,.t 5] x_ref17_numbers:=.of (by kernel_rfl)
theorem is_ref16_Script:FnIs Tryz.prog 76 74 [.t 4] (x_ref16_Script 93):=.of (by kernel_rfl)
theorem is_ref17_Replace:FnIs Tryz.prog 77 14 [.c 6 6 true] (x_ref17_Replace 73):=.of (by kernel_rfl)
theorem is_ref18_Rows:FnIs Tryz.prog 78 72 [.t 8,.t 9] (x_ref18_Rows 94):=.of (by kernel_rfl)
theorem is_ref18_equal:FnIs Tryz.prog 79 29 [.t 8] (x_ref18_equal 95):=.of (by kernel_rfl)
theorem is_utf8stream_Valid:FnIs Tryz.prog 80 5 [.t 2] (x_utf8stream_Valid 96):=.of (by kernel_rfl)
theorem is_charwidth_Width:FnIs Tryz.prog 81 22 [.t 2] (x_charwidth_Width 97 99 98):=.of (by kernel_rfl)
theorem is_cluster_marked:FnIs Tryz.prog 82 15 [.t 2] (x_cluster_marked 97):=.of (by kernel_rfl)
theorem is_cluster_runes:FnIs Tryz.prog 83 8 [.t 2] (x_cluster_runes 48):=.of (by kernel_rfl)
theorem is_scrolldiff_Rows:FnIs Tryz.prog 84 58 [.t 8,.t 9] (x_scrolldiff_Rows 100 51):=.of (by kernel_rfl)
theorem is_slices_Concat_675:FnIs Tryz.prog 85 36 [.t 2] (x_slices_Concat_675 101):=.of (by kernel_rfl)
theorem is_editscript_walk_365:FnIs Tryz.prog 86 6 [.t 4] (x_editscript_walk_365 102):=.of (by kernel_rfl)
theorem is_slices_Equal_675:FnIs Tryz.prog 87 26 [.t 4] x_slices_Equal_675:=.of (by kernel_rfl)
theorem is_ref01_Valid:FnIs Tryz.prog 88 18 [.t 2] (x_ref01_Valid 104 105):=.of (by kernel_rfl)
theorem is_ref03_Characters:FnIs Tryz.prog 89 11 [.t 2] (x_ref03_Characters 104):=.of (by kernel_rfl)
theorem is_ref02_Mark:FnIs Tryz.prog 90 6 [.t 2] (x_ref02_Mark 107 106):=.of (by kernel_rfl)
theorem is_ref02_Width:FnIs Tryz.prog 91 21 [.t 2] (x_ref02_Width 90 108 106):=.of (by kernel_rfl)
theorem is_ref17_blank:FnIs Tryz.prog 92 16 [.t 2] x_ref17_blank:=.of (by kernel_rfl)
theorem is_ref16_Walk:FnIs Tryz.prog 93 87 [.t 4] (x_ref16_Walk 109):=.of (by kernel_rfl)
theorem is_ref18_Possible:FnIs Tryz.prog 94 39 [.t 8] x_ref18_Possible:=.of (by kernel_rfl)
theorem is_ref18_SameRow:FnIs Tryz.prog 95 26 [.t 4] x_ref18_SameRow:=.of (by kernel_rfl)
theorem is_unicode_utf8_ValidString:FnIs Tryz.prog 96 169 [.t 2] (x_unicode_utf8_ValidString 110):=.of (by kernel_rfl)
theorem is_charwidth_Mark:FnIs Tryz.prog 97 7 [.t 2] (x_charwidth_Mark 111 98):=.of (by kernel_rfl)
theorem is_charwidth_finder:FnIs Tryz.prog 98 4 [.t 2] (x_charwidth_finder 112):=.of (by kernel_rfl)
theorem is_charwidth_Wide:FnIs Tryz.prog 99 16 [.t 0] x_charwidth_Wide:=.of (by kernel_rfl)
theorem is_scrolldiff_possible:FnIs Tryz.prog 100 39 [.t 8] x_scrolldiff_possible:=.of (by kernel_rfl)
theorem is_editscript_walk_365_1:FnIs Tryz.prog 102 88 [] (x_editscript_walk_365_1 103):=.of (by kernel_rfl)
theorem is_editscript_lengths_365:FnIs Tryz.prog 103 90 [.t 4] x_editscript_lengths_365:=.of (by kernel_rfl)
theorem is_ref01_Decode:FnIs Tryz.prog 104 96 [.t 4,.t 5] (x_ref01_Decode 113 114):=.of (by kernel_rfl)
theorem is_ref01_Encode:FnIs Tryz.prog 105 95 [.t 2] x_ref01_Encode:=.of (by kernel_rfl)
theorem is_ref02_in:FnIs Tryz.prog 106 28 [.t 4] x_ref02_in:=.of (by kernel_rfl)
theorem is_ref02_Marks:FnIs Tryz.prog 107 9 [.t 0] x_ref02_Marks:=.of (by kernel_rfl)
theorem is_ref02_Wide:FnIs Tryz.prog 108 16 [.t 0] x_ref02_Wide:=.of (by kernel_rfl)
theorem is_ref16_table:FnIs Tryz.prog 109 109 [.t 4] x_ref16_table:=.of (by kernel_rfl)
theorem is_unicode_utf8_word_69:FnIs Tryz.prog 110 59 [.t 2] x_unicode_utf8_word_69:=.of (by kernel_rfl)
theorem is_charwidth_marks:FnIs Tryz.prog 111 9 [.t 0] x_charwidth_marks:=.of (by kernel_rfl)
theorem is_charwidth_finder_1:FnIs Tryz.prog 112 39 [.t 3] x_charwidth_finder_1:=.of (by kernel_rfl)
theorem is_ref01_limits:FnIs Tryz.prog 113 61 [.t 2,.t 3,.t 4] x_ref01_limits:=.of (by kernel_rfl)
theorem is_ref01_value:FnIs Tryz.prog 114 44 [.t 2] x_ref01_value:=.of (by kernel_rfl)
def fnsE:List (FuncId × FnE):=[
 (5,⟨48,[.t 0],(x_law20_awake 10 7 11)⟩),
 (10,⟨26,[.c 2 6 true],x_law20_column⟩),
 (11,⟨36,[.t 2],(x_viewdiff_Cost 24)⟩),
 (24,⟨25,[.t 2],x_rowdiff_Cost⟩)]
theorem fnsE_ok:∀ p∈fnsE,FnIs Tryz.prog p.1 p.2.N p.2.res p.2.code:=by
 intro p hp
 simp only [fnsE,List.mem_cons,List.not_mem_nil,or_false] at hp
 rcases hp with rfl | rfl | rfl | rfl
 ·exact is_law20_awake
 ·exact is_law20_column
 ·exact is_viewdiff_Cost
 ·exact is_rowdiff_Cost
/-- The tables that the rows list. -/
def gam:Tabs:=[(1,tabAccept),(0,tabFirst)]
theorem gam_is : tabsOf Tryz.prog [("unicode/utf8.acceptRanges", Rows.laid_unicode_utf8_acceptRanges), ("unicode/utf8.first", Rows.laid_unicode_utf8_first)] = some gam := by kernel_rfl
def isTrue:Option A→Bool
 | some (.d (.sc (.bool true)))=>true
 | _=>false
theorem isTrue_some {x:Option A} (h:isTrue x=true):x=some (.bool true):=by
 unfold isTrue at h
 split at h
 ·rfl
 ·cases h
theorem k_vs:∀ s:ByteArray,s.size≤1000→FnP gam Tryz.prog 96 [.str s] (.bool (validS s)) :=
 validString_fn Tryz.laysValid rfl is_unicode_utf8_ValidString (by rw [show Tryz.laysValid_ren.g 3=0 from rfl];exact zZ _ (zW ..)) (by rw [show Tryz.laysValid_ren.g 4=1 from rfl];exact zW ..)
theorem k_mark:∀ r,FnP gam Tryz.prog 97 [.sc (.int .i32 r)] (.bool (markC r)):=mark_fn is_charwidth_Mark (by decide) is_charwidth_marks is_charwidth_finder (by decide) is_charwidth_finder_1 (by decide)
theorem k_cwidth:∀ r,FnP gam Tryz.prog 81 [.sc (.int .i32 r)] (.int (widthC r)):=widthC_fn is_charwidth_Width (by decide) is_charwidth_Mark (by decide) is_charwidth_marks is_charwidth_Wide is_charwidth_finder (by decide) is_charwidth_finder_1 (by decide)
theorem k_marked:∀ l:List Nat,FnP gam Tryz.prog 82 [.d (.sl eRn (rnRows l))] (.bool (l.all fun n=>markC n)):=marked_fn is_cluster_marked (by decide) k_mark
theorem k_valid:∀ s:ByteArray,s.size≤1000→FnP gam Tryz.prog 80 [.str s] (.bool (validS s)):=valid_fn is_utf8stream_Valid (by decide) k_vs
theorem k_check:∀ s:ByteArray,s.size≤1000→FnP gam Tryz.prog 48 [.str s] (.int (chkC s)):=check_fn is_cluster_Check (by decide) k_valid k_cwidth k_marked
theorem k_runes:∀ s:ByteArray,s.size≤1000→FnP gam Tryz.prog 83 [.str s] (.d (.sl eRn (rnRows (runesC s)))):=runes_fn is_cluster_runes (by decide) k_check
theorem k_width:∀ s:ByteArray,s.size≤1000→FnP gam Tryz.prog 49 [.str s] (.int (widC s)):=cwidth_fn is_cluster_Width (by decide) k_runes k_cwidth
theorem k_sized:∀ w h,FnP gam Tryz.prog 25 [.int w,.int h] (.bool (szOk w h)):=sized_fn is_view_sized (by decide)
theorem k_glyph:∀ g:Gl,g.text.size≤1000→FnP gam Tryz.prog 26 [glA g] (.int (glyphC g)):=glyph_fn is_view_glyph (by decide) k_check k_width
theorem k_vw:∀ l:List Gl,FnP gam Tryz.prog 27 [.d (.sl eGl (glRows l))] (.int (widthN l)):=width_fn is_view_Width (by decide)
theorem k_vchk:VchkOk gam Tryz.prog 13:=fun v hs=>viewCheck_fn is_view_Check (by decide) k_sized k_glyph k_vw (blank_fn is_view_blank) v hs.txt
theorem k_trim:∀ l:List Gl,FnP gam Tryz.prog 60 [.d (.sl eGl (glRows l))] (.d (.sl eGl (glRows (trimGl l)))):=trim_fn is_view_Trim (by decide) is_view_blank is_slices_Clone_675 (by decide)
theorem k_cloneO:∀ l:List Gl,RowO Tryz.prog 51 (.d (.sl eGl (glRows l))) l:=cloneO_fn is_slices_Clone_675 (by decide)
theorem k_trimO:∀ l:List Gl,RowO Tryz.prog 60 (.d (.sl eGl (glRows l))) (trimGl l):=trimO_fn is_view_Trim_r (by decide) is_view_blank is_slices_Clone_675 (by decide)
theorem k_between:∀ n a b,FnP gam Tryz.prog 52 [.int n,.int a,.int b] (.bool (btw n a b)):=between_fn is_change_between (by decide)
theorem k_blank19:∀ c,FnP gam Tryz.prog 53 [cgA c] (.bool (blankG c)):=blank19_fn is_change_blank (by decide)
theorem k_proper:∀ g:Gl,g.text.size≤1000→FnP gam Tryz.prog 55 [glA g] (.int (glyphC g)):=proper_fn is_change_proper (by decide) k_check k_width k_between
theorem k_ranges:RangesOk gam.ctx Tryz.prog 54:=fun c ed _ sm hm _ _ _ _ hb e=>ranges_fn is_change_editor_ranges (by decide) k_between c ed sm hm hb e
theorem k_echeck:∀ {v:Vw} (c:Cg),Ed v→∀ {m:Nat},Sm v m→m≤100000→(∀ g∈c.gl,g.text.size≤1000)→∀ {h:Heap} {id k:Nat} {R:List (List A)},EdIs h id v k R→FnD gam.ctx Tryz.prog 30 [.ptr id 1 0 0,cgA c] h (.int (chgC v c)) h :=
 fun c ed _ sm hm hg _ _ _ _ e=>check19_fn is_change_editor_check (by decide) k_between k_blank19 k_ranges k_proper c ed sm hm hg (zI _) e
theorem k_growE:Enters Tryz.prog 101:=enters_ofE (by kernel_rfl)
theorem k_concatO:∀ ls:List (List Gl),ls.length≤1000→ls.flatten.length≤100000→RowO Tryz.prog 85 (.d (.sl eRw (rwRows ls))) ls.flatten:=fun ls h1 h2 Δ h hb =>
 concatO_fn is_slices_Concat_675 (by decide) (fun n hn h _=>growGl_fn Tryz.growR rfl k_growE (by kernel_rfl) n hn h) ls h1 h2 h hb
theorem k_size:EdStep gam.ctx Tryz.prog 56 (fun v c=>c.kind=1∧StepPre v c) stepV:=size_fn is_change_editor_size (by decide) k_vw k_trimO
theorem k_splice:EdStep gam.ctx Tryz.prog 58 (fun v c=>c.kind=3∧StepPre v c) stepV:=splice_fn is_change_editor_splice (by decide) k_concatO k_trimO
theorem k_cursor:EdStep gam.ctx Tryz.prog 59 (fun _ c=>c.kind=4) stepV:=cursor_fn is_change_editor_cursor (by decide)
theorem k_poss:∀ {Γ:Tabs} (n t b y:Int),n≤1000000000000000000→FnP Γ Tryz.prog 100 [.int n,.int t,.int b,.int y] (.bool (possB n t b y)):=fun n t b y h=>possible_fn is_scrolldiff_possible (by decide) n t b y h
theorem k_scroll:EdStep gam.ctx Tryz.prog 57 (fun v c=>c.kind=2∧StepPre v c) stepV:=scroll_fn is_change_editor_scroll (by decide)
 fun Δ' _ l t b y hp hl h hb=>scrRows_fn is_scrolldiff_Rows (by decide) k_poss k_cloneO (cloneN_fn is_slices_Clone_675 (by decide)) l t b y hp hl h hb
theorem k_apply1:EdStep gam.ctx Tryz.prog 31 StepPre stepV:=apply19_fn is_change_editor_apply (by decide) k_size k_scroll k_splice k_cursor
theorem k_openT:OpenTOk gam.ctx Tryz.prog 29:=fun w h1 h2 h=>open19T_fn is_change_open (by decide) (fun l hl h hb=>cloneRows_fn is_slices_Clone_164 (by decide) l hl h hb) k_cloneO w h1 h2 h (zI _)
theorem k_open:OpenOk gam.ctx Tryz.prog 29:=fun w h1 h2 h=>open19_fn is_change_open (by decide) (fun l hl h hb=>cloneRows_fn is_slices_Clone_164 (by decide) l hl h hb) k_cloneO w h1 h2 h (zI _)
theorem k_apN:ApNOk gam Tryz.prog 14:=fun v l hr hl=>applyN_fn (Δ:=gam.ctx) is_change_Apply (by decide) v l hr hl (k_vchk v hr.sm) (fun h1 h2 h=>k_open v h1 h2 h) k_echeck k_apply1 k_vw
theorem k_ap:ApOk gam Tryz.prog 14:=fun v l hr hl=>(k_apN v l hr hl).toP
theorem k_lens:∀ a b:List Gl,a.length≤50000→b.length≤50000→FnP gam Tryz.prog 103 [.d (.sl eGl (glRows a)),.d (.sl eGl (glRows b))] (.d (.sl eRw (lenD a b))):=lengths_fn is_editscript_lengths_365 (by decide)
theorem k_script:∀ a b:List Gl,a.length≤50000→b.length≤50000→FnP gam Tryz.prog 61 [.d (.sl eGl (glRows a)),.d (.sl eGl (glRows b))] (.d (.sl eEd (edsRows (scriptE a b)))):=fun a b ha hb =>
 script_fn (f1:=102) is_editscript_Script_365 (by decide) a b ha hb (walk_fn is_editscript_walk_365 (by decide) a b) (walk1_gen is_editscript_walk_365_1 (by decide) a b ha hb (k_lens a b ha hb))
theorem k_splices:∀ (row:Int) (a b:List Gl),a.length≤50000→b.length≤50000→FnP gam Tryz.prog 34 [.int row,.d (.sl eGl (glRows a)),.d (.sl eGl (glRows b))] (cgsA (splicesV row a b)):=fun row a b ha hb =>
 splices_fn is_rowdiff_Splices (by decide) k_trim row a b (eds_ok (Nat.le_trans (trim_len _) ha) (Nat.le_trans (trim_len _) hb)) (by omega) (k_script _ _ (Nat.le_trans (trim_len _) ha) (Nat.le_trans (trim_len _) hb))
  (fun l=>clone_fn is_slices_Clone_675 (by decide) _) (fun a b=>replace_fn is_rowdiff_Replace (by decide) k_trim row a b) (cost_fn is_rowdiff_Cost (by decide))
theorem k_greatV:∀ v:Vw,FnP gam Tryz.prog 4 [vwA v] (.bool (greatV v)):=great_fn is_ref15_Great (by decide) is_ref15_GreatRow (by decide)
theorem k_sameRow:∀ a b:List Gl,FnP gam Tryz.prog 12 [.d (.sl eGl (glRows a)),.d (.sl eGl (glRows b))] (.bool (decide (a=b))):=sameRow_fn is_ref15_SameRow (by decide)
theorem k_rowEq:RowEqOk gam Tryz.prog 87:=equal_fn is_slices_Equal_675 (by decide)
theorem k_coll:CollOk gam Tryz.prog 15 33:=coll_ok is_slices_Collect_706 (by decide) is_slices_AppendSeq_772 (by decide) is_viewdiff_rest_1 (by decide) k_splices
theorem k_find:FindOk gam Tryz.prog 18:=find_ok is_scrolldiff_Find (by decide) is_scrolldiff_match (by decide) is_scrolldiff_gain (by decide) is_scrolldiff_candidate_better (by decide) is_scrolldiff_gain_1 (by decide) is_scrolldiff_gain_2 (by decide) is_scrolldiff_count (by decide) is_scrolldiff_equal (by decide) k_rowEq
theorem k_cost1:Cost1Ok gam Tryz.prog 24:=fun c hc=>by
 have:=cost_fn (Γ:=gam) is_rowdiff_Cost (by decide) [c] (by simp) (by simpa using hc)
 rw [costG_one] at this
 exact this
theorem k_cost20:CostOk gam Tryz.prog 11:=cost20_fn is_viewdiff_Cost (by decide) k_cost1
theorem k_diff:DiffOk gam Tryz.prog 7:=diff20_fn (f1:=33) is_viewdiff_Diff (by decide) k_vchk k_apN (fun x b=>rest_fn is_viewdiff_rest (by decide) x b) k_coll (fun l w hl hw h q hq=>diff1_fn is_viewdiff_Diff_1 (by decide) k_cost20 l w hl hw h q hq) k_find
theorem k_dec:∀ s:ByteArray,s.size≤1000→FnP gam Tryz.prog 104 [.str ⟨#[]⟩,.str s] (decA (toN s.data.toList)):=decode_fn is_ref01_Decode (by decide) is_ref01_limits (by decide) is_ref01_value (by decide)
theorem k_enc:∀ l:List Int,l.length≤1000→FnP gam Tryz.prog 105 [.d (.sl eRu (irRows l))] (.str (numS (encL l))):=encode_fn is_ref01_Encode (by decide)
theorem k_rvalid:∀ s:ByteArray,s.size≤1000→FnP gam Tryz.prog 88 [.str s] (.bool (validS s)):=refValid_fn is_ref01_Valid (by decide) k_dec k_enc
theorem k_chars:∀ s:ByteArray,s.size≤1000→validS s=true→FnP gam Tryz.prog 89 [.str s] (.d (.sl eRn (rnRows (runesOf s)))):=refChars_fn is_ref03_Characters (by decide) k_dec
theorem k_mark2:∀ r,FnP gam Tryz.prog 90 [.sc (.int .i32 r)] (.bool (markC r)):=mark2_fn is_ref02_Mark (by decide) is_ref02_Marks is_ref02_in (by decide)
theorem k_width2:∀ r,FnP gam Tryz.prog 91 [.sc (.int .i32 r)] (.int (widthC r)):=width2_fn is_ref02_Width (by decide) is_ref02_Mark (by decide) is_ref02_Marks is_ref02_Wide is_ref02_in (by decide)
theorem k_check3:∀ s:ByteArray,s.size≤1000→FnP gam Tryz.prog 67 [.str s] (.int (chkC s)):=check3_fn is_ref03_Check (by decide) k_rvalid k_chars k_mark2 k_width2
theorem k_cw3:∀ s:ByteArray,s.size≤1000→FnP gam Tryz.prog 68 [.str s] (.int (widC s)):=cwidth3_fn is_ref03_Width (by decide) k_check3 k_chars k_width2
theorem k_rsz:∀ w h,FnP gam Tryz.prog 38 [.int w,.int h] (.bool (szOk w h)):=sized_fn is_ref15_Size (by decide)
theorem k_rgl:∀ g:Gl,g.text.size≤1000→FnP gam Tryz.prog 39 [glA g] (.int (glyphC g)):=glyph_fn (fc:=67) (fw:=68) is_ref15_Glyph (by decide) k_check3 k_cw3
theorem k_rwd:∀ l:List Gl,FnP gam Tryz.prog 40 [.d (.sl eGl (glRows l))] (.int (widthN l)):=refWidth_fn is_ref15_Width (by decide)
theorem k_rbl:∀ g,FnP gam Tryz.prog 41 [glA g] (.bool (decide (g=spaceGl))):=refBlankG_fn is_ref15_blank (by decide)
theorem k_rvchk:VchkOk gam Tryz.prog 19:=fun v hs=>refCheck_fn is_ref15_Check (by decide) k_rsz k_rgl k_rwd k_rbl v hs.txt
def diffA (a b:Vw):A:=cgsA (diffV a b)
theorem ext_ok:∀ f args r,extVV 7 diffA f args=some r→FnP gam Tryz.prog f args r:=extVV_ok fun a b ha hb=>k_diff a b (greatV_sm ha).1 (greatV_sm hb).1
set_option maxRecDepth 100000 in
theorem awake_run:isTrue ((orcE fnsE (extVV 7 diffA) ⟨3,32⟩ (tabS gam) 300 30).pure 5 [])=true:=by kernel_rfl
theorem awake_fn:FnP gam Tryz.prog 5 [] (.bool true):=(orcE_ok fnsE_ok ext_ok 30).pure _ _ _ (isTrue_some awake_run)
theorem k_rin:∀ n a b,FnP gam Tryz.prog 70 [.int n,.int a,.int b] (.bool (btw n a b)):=rin_fn is_ref19_in (by decide)
theorem k_fits:FitsOk gam Tryz.prog 42:=fun v c ed sm hg=>fits_fn is_ref19_fits (by decide) k_rin k_rsz v c ed fun hk =>
 rsplice_fn is_ref19_splice (by decide) k_rin k_rgl v c hk ed.len (szOk_iff.1 ed.sz).2 sm.row hg
theorem k_rtrim:∀ l:List Gl,l.length≤1000000→FnP gam Tryz.prog 72 [.d (.sl eGl (glRows l))] (.d (.sl eGl (glRows (trimGl l)))):=refTrimL_fn is_ref15_Trim (by decide) k_rbl
theorem k_rsized:SizedOk gam Tryz.prog 71:=rsized_fn is_ref19_sized (by decide) k_rwd k_rtrim
theorem k_rstep:RStepOk gam Tryz.prog 43:=rstep_fn is_ref19_step (by decide) k_rsized k_rtrim
theorem k_rap1:Ap1Ok gam Tryz.prog 20:=fun v w c sv hk hc hw hwd hok h q hq=>rapply1D_fn is_ref19_Apply (by decide) k_rvchk k_fits k_rstep k_rwd sv hk hc hw hwd hok.txt ⟨(viewC_zero.1 hk).1,hc,sv.row,hok.len⟩ hq
theorem k_spl17:SplOk gam Tryz.prog 44:=spl17_ok is_ref17_Splices (by decide) is_ref17_Trim (by decide) is_ref17_blank (by decide) is_ref17_SameGlyphs (by decide) is_ref17_numbers (by decide) is_ref16_Script (by decide) is_ref16_Walk (by decide) is_ref16_table (by decide) is_ref17_Replace (by decide) is_ref17_Cost (by decide)
theorem k_rrest:RRestOk gam Tryz.prog 21:=fun x b h1 h2 sx sb=>rrest20_fn is_ref20_rest (by decide) x b (by omega) h2 sx sb k_spl17
theorem k_same18:RowEqOk gam Tryz.prog 95:=sameRow_fn is_ref18_SameRow (by decide)
theorem k_rfind:RFindOk gam Tryz.prog 22:=rfind_ok is_ref18_Find (by decide) is_ref18_match (by decide) is_ref18_Gain (by decide) is_ref18_Rows (by decide) is_ref18_Possible (by decide) is_ref18_equal (by decide) k_same18
theorem k_rcost20:CostOk gam Tryz.prog 23:=rcost20_fn is_ref20_Cost (by decide) (rcost17_fn is_ref17_Cost (by decide))
theorem k_rdiff:DiffOk gam Tryz.prog 8:=rdiff20_fn is_ref20_Diff (by decide) k_rvchk k_rap1 k_rrest k_rfind k_rcost20
theorem k_rsame:CgsSameOk gam Tryz.prog 6:=rsame19_fn is_ref19_Same (by decide) k_sameRow
/-! ### Arguments -/
def tGlyph:Ty:=.st [.str,.bool,.int .i64]
def tGlyphs:Ty:=.sl ⟨3,32⟩ tGlyph
theorem glyph_of {xs:List D} (h:WT tGlyph xs):∃ g:Gl,xs=g.row:=by
 obtain ⟨a,b,rfl,⟨s,rfl,_⟩,a2,b2,rfl,⟨w,rfl⟩,a3,b3,rfl,⟨n,rfl,_⟩,rfl⟩:=h
 exact ⟨⟨s,w,n⟩,rfl⟩
theorem rows_of:∀ {rows:List (List D)},(∀ r∈rows,WT tGlyph r)→∃ l:List Gl,rows=glRows l
 | [],_=>⟨[],rfl⟩
 | r::rows,h=>by
  obtain ⟨g,rfl⟩:=glyph_of (h r (zW ..))
  obtain ⟨l,rfl⟩:=rows_of fun r hr=>h r (zZ _ hr)
  exact ⟨g::l,rfl⟩
theorem glyphs_of {xs:List D} (h:WT tGlyphs xs):∃ l:List Gl,xs=[.sl eGl (glRows l)]:=by
 obtain ⟨rows,rfl,hr⟩:=h
 obtain ⟨l,rfl⟩:=rows_of hr
 exact ⟨l,rfl⟩
def tView:Ty:=.st [.int .i64,.int .i64,.sl ⟨1,24⟩ tGlyphs,.int .i64,.int .i64,.bool]
theorem vrows_of:∀ {rows:List (List D)},(∀ r∈rows,WT tGlyphs r)→∃ l:List (List Gl),rows=rwRows l
 | [],_=>⟨[],rfl⟩
 | r::rows,h=>by
  obtain ⟨g,rfl⟩:=glyphs_of (h r (zW ..))
  obtain ⟨l,rfl⟩:=vrows_of fun r hr=>h r (zZ _ hr)
  exact ⟨g::l,rfl⟩
theorem view_of {xs:List D} (h:WT tView xs):∃ v:Vw,xs=v.ds:=by
 obtain ⟨_,_,rfl,⟨w,rfl,_⟩,_,_,rfl,⟨h,rfl,_⟩,_,_,rfl,⟨rows,rfl,hr⟩,_,_,rfl,⟨r,rfl,_⟩,_,_,rfl,⟨c,rfl,_⟩,_,_,rfl,⟨b,rfl⟩,rfl⟩:=h
 obtain ⟨l,rfl⟩:=vrows_of hr
 exact ⟨⟨w,h,l,r,c,b⟩,rfl⟩
def tChange:Ty:=.st [.int .i64,.int .i64,.int .i64,.int .i64,.int .i64,tGlyphs]
def tChanges:Ty:=.sl ⟨6,64⟩ tChange
theorem change_of {xs:List D} (h:WT tChange xs):∃ c:Cg,xs=c.ds:=by
 obtain ⟨_,_,rfl,⟨a,rfl,_⟩,_,_,rfl,⟨b,rfl,_⟩,_,_,rfl,⟨c,rfl,_⟩,_,_,rfl,⟨d,rfl,_⟩,_,_,rfl,⟨e,rfl,_⟩,_,_,rfl,⟨rows,rfl,hr⟩,rfl⟩:=h
 obtain ⟨l,rfl⟩:=rows_of hr
 exact ⟨⟨a,b,c,d,e,l⟩,rfl⟩
theorem changes_of':∀ {rows:List (List D)},(∀ r∈rows,WT tChange r)→∃ l:List Cg,rows=cgRows l
 | [],_=>⟨[],rfl⟩
 | r::rows,h=>by
  obtain ⟨g,rfl⟩:=change_of (h r (zW ..))
  obtain ⟨l,rfl⟩:=changes_of' fun r hr=>h r (zZ _ hr)
  exact ⟨g::l,rfl⟩
theorem changes_of {xs:List D} (h:WT tChanges xs):∃ l:List Cg,xs=[.sl eCg (cgRows l)]:=by
 obtain ⟨rows,rfl,hr⟩:=h
 obtain ⟨l,rfl⟩:=changes_of' hr
 exact ⟨l,rfl⟩
end Go.Proofs.YtigfbnglplbbpaaGreatDoor.Nx

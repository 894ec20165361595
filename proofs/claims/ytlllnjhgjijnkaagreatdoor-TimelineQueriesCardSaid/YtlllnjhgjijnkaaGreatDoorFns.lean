/- The functions of this program are those of the definitions; the example that every statement checks. -/
import Derived.Test.YtlllnjhgjijnkaaGreatDoorNxCore
import Derived.Test.YtlllnjhgjijnkaaGreatDoorNxSound
import Derived.Test.YtlllnjhgjijnkaaGreatDoorNxSound2
import Derived.Test.YtlllnjhgjijnkaaGreatDoorNxSound4
import Derived.Test.YtlllnjhgjijnkaaGreatDoorNxSound6
import Derived.Test.YtlllnjhgjijnkaaGreatDoorNxComp
import Derived.Test.YtlllnjhgjijnkaaGreatDoorNxExec
import Derived.Test.YtlllnjhgjijnkaaGreatDoorNxDraw
import Derived.Test.YtlllnjhgjijnkaaGreatDoorNxStep
import Derived.Test.YtlllnjhgjijnkaaGreatDoorNxRegion
import Derived.Test.YtlllnjhgjijnkaaGreatDoorNxCode
import Derived.Test.YtlllnjhgjijnkaaGreatDoorNxFn
import Derived.Test.YtlllnjhgjijnkaaGreatDoorNxCheck
import Derived.Test.YtlllnjhgjijnkaaGreatDoorNxWalk
import Derived.Test.YtlllnjhgjijnkaaGreatDoorNxLink
import Derived.Test.YtlllnjhgjijnkaaGreatDoorNxEval
import Derived.Test.YtlllnjhgjijnkaaGreatDoorNxC1
import Derived.Test.YtlllnjhgjijnkaaGreatDoorNxV1
import Derived.Test.YtlllnjhgjijnkaaGreatDoorNxB0
import Derived.Test.YtlllnjhgjijnkaaGreatDoorNxP15a
import Derived.Test.YtlllnjhgjijnkaaGreatDoorNxP15i
import Derived.Test.YtlllnjhgjijnkaaGreatDoorNxP15g
import Derived.Test.YtlllnjhgjijnkaaGreatDoorNxP15k
import Derived.Test.YtlllnjhgjijnkaaGreatDoorNxP15n
import Derived.Test.YtlllnjhgjijnkaaGreatDoorNxH0
import Derived.Test.YtlllnjhgjijnkaaGreatDoorNxE0
import Derived.Test.YtlllnjhgjijnkaaGreatDoorNxE2
import Derived.Test.YtlllnjhgjijnkaaGreatDoorNxW8
import Derived.Test.YtlllnjhgjijnkaaGreatDoorNxE6
import Derived.Test.YtlllnjhgjijnkaaGreatDoorNxE13
import Derived.Test.YtlllnjhgjijnkaaGreatDoorNxE15
import Derived.Test.YtlllnjhgjijnkaaGreatDoorNxE19
import Derived.Test.YtlllnjhgjijnkaaGreatDoorNxE21
import Derived.Test.YtlllnjhgjijnkaaGreatDoorNxK3
import Derived.Test.YtlllnjhgjijnkaaGreatDoorNxT1
import Derived.Test.YtlllnjhgjijnkaaGreatDoorNxI0
import Derived.Test.YtlllnjhgjijnkaaGreatDoorNxI2
import Derived.Test.YtlllnjhgjijnkaaGreatDoorNxI6
import Derived.Test.YtlllnjhgjijnkaaGreatDoorNxC3
import Derived.Test.YtlllnjhgjijnkaaGreatDoorNxJ0
import Derived.Test.YtlllnjhgjijnkaaGreatDoorNxJ4
import Derived.Test.YtlllnjhgjijnkaaGreatDoorNxJ6
import Derived.Test.YtlllnjhgjijnkaaGreatDoorNxJ9
import Derived.Test.YtlllnjhgjijnkaaGreatDoorNxJ11
import Derived.Test.YtlllnjhgjijnkaaGreatDoorNxJ19
import Derived.Test.YtlllnjhgjijnkaaGreatDoorNxE29
import Derived.Test.YtlllnjhgjijnkaaGreatDoorNxJ15
import Derived.Test.YtlllnjhgjijnkaaGreatDoorNxE34
import Derived.Test.YtlllnjhgjijnkaaGreatDoorNxE36
import Derived.Test.YtlllnjhgjijnkaaGreatDoorNxDL
import Derived.Test.YtlllnjhgjijnkaaGreatDoorNxD15
import Derived.Test.YtlllnjhgjijnkaaGreatDoorRows
import Derived.KernelRfl
import Derived.Ground.NamesProg
import Derived.Shelf.Lay
import Derived.Shelf.Unicode.ValidAny
import Derived.Shelf.Spec.SlicesGrow
import Derived.Ground.Names7Prog
set_option linter.unusedSimpArgs false
set_option linter.unusedVariables false
set_option linter.unnecessarySimpa false
open Nat renaming zero_le → zI
open List renaming mem_cons_self → zW, mem_cons_of_mem → zZ
namespace Go.Proofs.YtlllnjhgjijnkaaGreatDoor
open Go.RowKit Go.Shelf Go.Lib
shelf_lay Lays.n196 Nm 196 at Tryz as Tryz.laysValid
end Go.Proofs.YtlllnjhgjijnkaaGreatDoor
namespace Go.Proofs.YtlllnjhgjijnkaaGreatDoor
open Go.RowKit Go.Shelf Go.Lib
shelf_lay_g Lays8.n4 Nm8 4 at Tryz 139 as Tryz.growR
end Go.Proofs.YtlllnjhgjijnkaaGreatDoor
namespace Go.Proofs.YtlllnjhgjijnkaaGreatDoor.Nx
open Go
theorem is_law21_TimelineQueries:FnIs Tryz.prog 4 104 [.t 2] (x_law21_TimelineQueries 14 6 15 16 17 18 19 20 21 22 23 9):=.of (by kernel_rfl)
theorem is_law21_awake:FnIs Tryz.prog 6 83 [.t 0] (x_law21_awake 7 10 17 15 12 25):=.of (by kernel_rfl)
theorem is_timeline_New:FnIs Tryz.prog 7 21 [.c 4 9 true] (x_timeline_New 26 27):=.of (by kernel_rfl)
theorem is_ref21_Same:FnIs Tryz.prog 9 71 [.t 4] (x_ref21_Same 23 30):=.of (by kernel_rfl)
theorem is_timeline_Add:FnIs Tryz.prog 10 63 [.c 6 9 true,.t 7] (x_timeline_Add 21 26 31 32 25 33 34):=.of (by kernel_rfl)
theorem is_timeline_Last:FnIs Tryz.prog 12 9 [.t 2] x_timeline_Last:=.of (by kernel_rfl)
theorem is_ref21_Last:FnIs Tryz.prog 13 9 [.t 2] x_ref21_Last:=.of (by kernel_rfl)
theorem is_ref21_Great:FnIs Tryz.prog 14 27 [.t 2] (x_ref21_Great 24 39):=.of (by kernel_rfl)
theorem is_timeline_At:FnIs Tryz.prog 15 25 [.c 4 6 true,.c 5 1 false] (x_timeline_At 21 40 27):=.of (by kernel_rfl)
theorem is_ref21_At:FnIs Tryz.prog 16 35 [.c 4 6 true,.t 5] (x_ref21_At 35 13):=.of (by kernel_rfl)
theorem is_timeline_When:FnIs Tryz.prog 17 36 [.t 4,.t 5] (x_timeline_When 21):=.of (by kernel_rfl)
theorem is_ref21_When:FnIs Tryz.prog 18 45 [.t 4,.t 5] (x_ref21_When 35):=.of (by kernel_rfl)
theorem is_timeline_Keep:FnIs Tryz.prog 19 26 [.c 4 9 true,.t 5] (x_timeline_Keep 21 32 34):=.of (by kernel_rfl)
theorem is_ref21_Keep:FnIs Tryz.prog 20 36 [.c 4 9 true,.t 5] (x_ref21_Keep 35 38):=.of (by kernel_rfl)
theorem is_timeline_Check:FnIs Tryz.prog 21 74 [.t 2] (x_timeline_Check 26 41):=.of (by kernel_rfl)
theorem is_ref21_Check:FnIs Tryz.prog 22 11 [.t 2] (x_ref21_Check 35):=.of (by kernel_rfl)
theorem is_ref15_Same:FnIs Tryz.prog 23 67 [.t 4] (x_ref15_Same 42):=.of (by kernel_rfl)
theorem is_ref15_Great:FnIs Tryz.prog 24 32 [.t 2] (x_ref15_Great 43):=.of (by kernel_rfl)
theorem is_view_Equal:FnIs Tryz.prog 25 45 [.t 4] (x_view_Equal 44 45):=.of (by kernel_rfl)
theorem is_view_Check:FnIs Tryz.prog 26 84 [.t 2] (x_view_Check 46 47 48 49):=.of (by kernel_rfl)
theorem is_timeline_own:FnIs Tryz.prog 27 26 [.c 2 6 true] (x_timeline_own 50 51):=.of (by kernel_rfl)
theorem is_ref15_Check:FnIs Tryz.prog 28 84 [.t 2] (x_ref15_Check 52 53 54 55):=.of (by kernel_rfl)
theorem is_ref21_time:FnIs Tryz.prog 29 9 [.t 2] x_ref21_time:=.of (by kernel_rfl)
theorem is_ref19_Same:FnIs Tryz.prog 30 68 [.t 4] (x_ref19_Same 42):=.of (by kernel_rfl)
theorem is_timeline_final:FnIs Tryz.prog 31 29 [.c 2 6 true,.t 3] (x_timeline_final 40):=.of (by kernel_rfl)
theorem is_timeline_copied:FnIs Tryz.prog 32 51 [.c 2 9 true] (x_timeline_copied 27 56 57 51):=.of (by kernel_rfl)
theorem is_viewdiff_Diff:FnIs Tryz.prog 33 87 [.t 4] (x_viewdiff_Diff 26 41 59 58 60 62):=.of (by kernel_rfl)
theorem is_timeline_drop:FnIs Tryz.prog 34 30 [.c 2 9 true] (x_timeline_drop 40):=.of (by kernel_rfl)
theorem is_ref21_views:FnIs Tryz.prog 35 82 [.t 2,.t 3] (x_ref21_views 29 28 63):=.of (by kernel_rfl)
theorem is_ref21_dropped:FnIs Tryz.prog 38 20 [.c 4 9 true] x_ref21_dropped:=.of (by kernel_rfl)
theorem is_ref19_Great:FnIs Tryz.prog 39 19 [.t 2] (x_ref19_Great 43):=.of (by kernel_rfl)
theorem is_timeline_views:FnIs Tryz.prog 40 4 [.t 2] (x_timeline_views 67):=.of (by kernel_rfl)
theorem is_change_Apply:FnIs Tryz.prog 41 64 [.c 4 6 true,.t 5,.t 6] (x_change_Apply 26 68 69 70 48):=.of (by kernel_rfl)
theorem is_ref15_SameRow:FnIs Tryz.prog 42 26 [.t 4] x_ref15_SameRow:=.of (by kernel_rfl)
theorem is_ref15_GreatRow:FnIs Tryz.prog 43 20 [.t 2] x_ref15_GreatRow:=.of (by kernel_rfl)
theorem is_slices_EqualFunc_833:FnIs Tryz.prog 44 32 [.t 6] x_slices_EqualFunc_833:=.of (by kernel_rfl)
theorem is_slices_Equal_675:FnIs Tryz.prog 45 26 [.t 4] x_slices_Equal_675:=.of (by kernel_rfl)
theorem is_view_sized:FnIs Tryz.prog 46 19 [.t 4] x_view_sized:=.of (by kernel_rfl)
theorem is_view_glyph:FnIs Tryz.prog 47 34 [.t 2] (x_view_glyph 71 72):=.of (by kernel_rfl)
theorem is_view_Width:FnIs Tryz.prog 48 20 [.t 2] x_view_Width:=.of (by kernel_rfl)
theorem is_view_blank:FnIs Tryz.prog 49 2 [.c 0 3 true] x_view_blank:=.of (by kernel_rfl)
theorem is_slices_Clone_164:FnIs Tryz.prog 50 8 [.t 2] x_slices_Clone_164:=.of (by kernel_rfl)
theorem is_slices_Clone_675:FnIs Tryz.prog 51 8 [.t 2] x_slices_Clone_675:=.of (by kernel_rfl)
theorem is_ref15_Size:FnIs Tryz.prog 52 19 [.t 4] x_ref15_Size:=.of (by kernel_rfl)
theorem is_ref15_Glyph:FnIs Tryz.prog 53 34 [.t 2] (x_ref15_Glyph 73 74):=.of (by kernel_rfl)
theorem is_ref15_Width:FnIs Tryz.prog 54 21 [.t 2] x_ref15_Width:=.of (by kernel_rfl)
theorem is_ref15_blank:FnIs Tryz.prog 55 6 [.t 2] x_ref15_blank:=.of (by kernel_rfl)
theorem is_slices_Clone_424:FnIs Tryz.prog 56 8 [.t 2] x_slices_Clone_424:=.of (by kernel_rfl)
theorem is_slices_Clone_772:FnIs Tryz.prog 57 8 [.t 2] x_slices_Clone_772:=.of (by kernel_rfl)
theorem is_slices_Collect_706:FnIs Tryz.prog 58 5 [.t 2] (x_slices_Collect_706 75):=.of (by kernel_rfl)
theorem is_viewdiff_rest:FnIs Tryz.prog 59 6 [.t 4] (x_viewdiff_rest 76):=.of (by kernel_rfl)
theorem is_viewdiff_Diff_1:FnIs Tryz.prog 60 9 [.t 3] (x_viewdiff_Diff_1 61):=.of (by kernel_rfl)
theorem is_viewdiff_Cost:FnIs Tryz.prog 61 36 [.t 2] (x_viewdiff_Cost 78):=.of (by kernel_rfl)
theorem is_scrolldiff_Find:FnIs Tryz.prog 62 83 [.c 4 6 true,.t 5] (x_scrolldiff_Find 79 80 81):=.of (by kernel_rfl)
theorem is_ref19_Apply:FnIs Tryz.prog 63 57 [.c 4 6 true,.t 5,.t 6] (x_ref19_Apply 28 82 83 54):=.of (by kernel_rfl)
theorem is_timeline_views_1:FnIs Tryz.prog 67 48 [] (x_timeline_views_1 41):=.of (by kernel_rfl)
theorem is_change_open:FnIs Tryz.prog 68 27 [.t 2] (x_change_open 50 51):=.of (by kernel_rfl)
theorem is_change_editor_check:FnIs Tryz.prog 69 35 [.t 4] (x_change_editor_check 88 89 90 91):=.of (by kernel_rfl)
theorem is_change_editor_apply:FnIs Tryz.prog 70 14 [] (x_change_editor_apply 92 93 94 95):=.of (by kernel_rfl)
theorem is_cluster_Check:FnIs Tryz.prog 71 30 [.t 2] (x_cluster_Check 96 97 98):=.of (by kernel_rfl)
theorem is_cluster_Width:FnIs Tryz.prog 72 13 [.t 2] (x_cluster_Width 99 97):=.of (by kernel_rfl)
theorem is_ref03_Check:FnIs Tryz.prog 73 40 [.t 2] (x_ref03_Check 100 101 102 103):=.of (by kernel_rfl)
theorem is_ref03_Width:FnIs Tryz.prog 74 11 [.t 2] (x_ref03_Width 73 101 103):=.of (by kernel_rfl)
theorem is_slices_AppendSeq_772:FnIs Tryz.prog 75 13 [.t 4] x_slices_AppendSeq_772:=.of (by kernel_rfl)
theorem is_viewdiff_rest_1:FnIs Tryz.prog 76 67 [] (x_viewdiff_rest_1 77):=.of (by kernel_rfl)
theorem is_rowdiff_Splices:FnIs Tryz.prog 77 64 [.t 6] (x_rowdiff_Splices 104 105 51 106 78):=.of (by kernel_rfl)
theorem is_rowdiff_Cost:FnIs Tryz.prog 78 25 [.t 2] x_rowdiff_Cost:=.of (by kernel_rfl)
theorem is_scrolldiff_match:FnIs Tryz.prog 79 26 [.t 4] x_scrolldiff_match:=.of (by kernel_rfl)
theorem is_scrolldiff_gain:FnIs Tryz.prog 80 22 [.t 10] (x_scrolldiff_gain 108 107 110):=.of (by kernel_rfl)
theorem is_scrolldiff_candidate_better:FnIs Tryz.prog 81 72 [.t 4] x_scrolldiff_candidate_better:=.of (by kernel_rfl)
theorem is_ref19_fits:FnIs Tryz.prog 82 125 [.t 4] (x_ref19_fits 111 112 52):=.of (by kernel_rfl)
theorem is_ref19_step:FnIs Tryz.prog 83 135 [.c 4 6 true] (x_ref19_step 113 114):=.of (by kernel_rfl)
theorem is_change_between:FnIs Tryz.prog 88 15 [.t 6] x_change_between:=.of (by kernel_rfl)
theorem is_change_blank:FnIs Tryz.prog 89 46 [.t 2] x_change_blank:=.of (by kernel_rfl)
theorem is_change_editor_ranges:FnIs Tryz.prog 90 124 [.t 4] (x_change_editor_ranges 88):=.of (by kernel_rfl)
theorem is_change_proper:FnIs Tryz.prog 91 30 [.t 2] (x_change_proper 71 72 88):=.of (by kernel_rfl)
theorem is_change_editor_size:FnIs Tryz.prog 92 134 [] (x_change_editor_size 48 104):=.of (by kernel_rfl)
theorem is_change_editor_scroll:FnIs Tryz.prog 93 28 [] (x_change_editor_scroll 122):=.of (by kernel_rfl)
theorem is_change_editor_splice:FnIs Tryz.prog 94 47 [] (x_change_editor_splice 123 104):=.of (by kernel_rfl)
theorem is_change_editor_cursor:FnIs Tryz.prog 95 23 [] x_change_editor_cursor:=.of (by kernel_rfl)
theorem is_utf8stream_Valid:FnIs Tryz.prog 96 5 [.t 2] (x_utf8stream_Valid 124):=.of (by kernel_rfl)
theorem is_charwidth_Width:FnIs Tryz.prog 97 22 [.t 2] (x_charwidth_Width 125 127 126):=.of (by kernel_rfl)
theorem is_cluster_marked:FnIs Tryz.prog 98 15 [.t 2] (x_cluster_marked 125):=.of (by kernel_rfl)
theorem is_cluster_runes:FnIs Tryz.prog 99 8 [.t 2] (x_cluster_runes 71):=.of (by kernel_rfl)
theorem is_ref01_Valid:FnIs Tryz.prog 100 18 [.t 2] (x_ref01_Valid 128 129):=.of (by kernel_rfl)
theorem is_ref03_Characters:FnIs Tryz.prog 101 11 [.t 2] (x_ref03_Characters 128):=.of (by kernel_rfl)
theorem is_ref02_Mark:FnIs Tryz.prog 102 6 [.t 2] (x_ref02_Mark 131 130):=.of (by kernel_rfl)
theorem is_ref02_Width:FnIs Tryz.prog 103 21 [.t 2] (x_ref02_Width 102 132 130):=.of (by kernel_rfl)
theorem is_view_Trim:FnIs Tryz.prog 104 23 [.t 2] (x_view_Trim 49 51):=.of (by kernel_rfl)
theorem is_view_Trim_r:FnIs Tryz.prog 104 23 [.t 2] (x_view_Trim_r 49 51):=.of (by kernel_rfl)
theorem is_editscript_Script_365:FnIs Tryz.prog 105 57 [.t 4] (x_editscript_Script_365 133):=.of (by kernel_rfl)
theorem is_rowdiff_Replace:FnIs Tryz.prog 106 14 [.c 6 6 true] (x_rowdiff_Replace 104):=.of (by kernel_rfl)
theorem is_scrolldiff_count:FnIs Tryz.prog 107 21 [.t 6] x_scrolldiff_count:=.of (by kernel_rfl)
theorem is_scrolldiff_gain_1:FnIs Tryz.prog 108 38 [.t 7] (x_scrolldiff_gain_1 109):=.of (by kernel_rfl)
theorem is_scrolldiff_equal:FnIs Tryz.prog 109 8 [.t 4] (x_scrolldiff_equal 45):=.of (by kernel_rfl)
theorem is_scrolldiff_gain_2:FnIs Tryz.prog 110 16 [.t 4] (x_scrolldiff_gain_2 109):=.of (by kernel_rfl)
theorem is_ref19_splice:FnIs Tryz.prog 111 76 [.t 4] (x_ref19_splice 112 53):=.of (by kernel_rfl)
theorem is_ref19_in:FnIs Tryz.prog 112 15 [.t 6] x_ref19_in:=.of (by kernel_rfl)
theorem is_ref19_sized:FnIs Tryz.prog 113 69 [.c 6 6 true] (x_ref19_sized 54 114):=.of (by kernel_rfl)
theorem is_ref15_Trim:FnIs Tryz.prog 114 23 [.t 2] (x_ref15_Trim 55):=.of (by kernel_rfl)
theorem is_scrolldiff_Rows:FnIs Tryz.prog 122 58 [.t 8,.t 9] (x_scrolldiff_Rows 138 51):=.of (by kernel_rfl)
theorem is_slices_Concat_675:FnIs Tryz.prog 123 36 [.t 2] (x_slices_Concat_675 139):=.of (by kernel_rfl)
theorem is_unicode_utf8_ValidString:FnIs Tryz.prog 124 169 [.t 2] (x_unicode_utf8_ValidString 140):=.of (by kernel_rfl)
theorem is_charwidth_Mark:FnIs Tryz.prog 125 7 [.t 2] (x_charwidth_Mark 141 126):=.of (by kernel_rfl)
theorem is_charwidth_finder:FnIs Tryz.prog 126 4 [.t 2] (x_charwidth_finder 142):=.of (by kernel_rfl)
theorem is_charwidth_Wide:FnIs Tryz.prog 127 16 [.t 0] x_charwidth_Wide:=.of (by kernel_rfl)
theorem is_ref01_Decode:FnIs Tryz.prog 128 96 [.t 4,.t 5] (x_ref01_Decode 143 144):=.of (by kernel_rfl)
theorem is_ref01_Encode:FnIs Tryz.prog 129 95 [.t 2] x_ref01_Encode:=.of (by kernel_rfl)
theorem is_ref02_in:FnIs Tryz.prog 130 28 [.t 4] x_ref02_in:=.of (by kernel_rfl)
theorem is_ref02_Marks:FnIs Tryz.prog 131 9 [.t 0] x_ref02_Marks:=.of (by kernel_rfl)
theorem is_ref02_Wide:FnIs Tryz.prog 132 16 [.t 0] x_ref02_Wide:=.of (by kernel_rfl)
theorem is_editscript_walk_365:FnIs Tryz.prog 133 6 [.t 4] (x_editscript_walk_365 145):=.of (by kernel_rfl)
theorem is_scrolldiff_possible:FnIs Tryz.prog 138 39 [.t 8] x_scrolldiff_possible:=.of (by kernel_rfl)
theorem is_unicode_utf8_word_69:FnIs Tryz.prog 140 59 [.t 2] x_unicode_utf8_word_69:=.of (by kernel_rfl)
theorem is_charwidth_marks:FnIs Tryz.prog 141 9 [.t 0] x_charwidth_marks:=.of (by kernel_rfl)
theorem is_charwidth_finder_1:FnIs Tryz.prog 142 39 [.t 3] x_charwidth_finder_1:=.of (by kernel_rfl)
theorem is_ref01_limits:FnIs Tryz.prog 143 61 [.t 2,.t 3,.t 4] x_ref01_limits:=.of (by kernel_rfl)
theorem is_ref01_value:FnIs Tryz.prog 144 44 [.t 2] x_ref01_value:=.of (by kernel_rfl)
theorem is_editscript_walk_365_1:FnIs Tryz.prog 145 88 [] (x_editscript_walk_365_1 146):=.of (by kernel_rfl)
theorem is_editscript_lengths_365:FnIs Tryz.prog 146 90 [.t 4] x_editscript_lengths_365:=.of (by kernel_rfl)
/-- The tables that the rows list. -/
def gam:Tabs:=[(1,tabAccept),(0,tabFirst)]
theorem gam_is : tabsOf Tryz.prog [("unicode/utf8.acceptRanges", Rows.laid_unicode_utf8_acceptRanges), ("unicode/utf8.first", Rows.laid_unicode_utf8_first)] = some gam := by kernel_rfl
def isTrue:Option A→Bool
 | some (.d (.sc (.bool true)))=>true
 | _=>false
theorem isTrue_some {x:Option A} (h:isTrue x=true):x=some (.bool true):=by
 unfold isTrue at h
 split at h
 ·rfl
 ·cases h
theorem k_vs:∀ s:ByteArray,s.size≤1000→FnP gam Tryz.prog 124 [.str s] (.bool (validS s)) :=
 validString_fn Tryz.laysValid rfl is_unicode_utf8_ValidString (by rw [show Tryz.laysValid_ren.g 3=0 from rfl];exact zZ _ (zW ..)) (by rw [show Tryz.laysValid_ren.g 4=1 from rfl];exact zW ..)
theorem k_mark:∀ r,FnP gam Tryz.prog 125 [.sc (.int .i32 r)] (.bool (markC r)):=mark_fn is_charwidth_Mark (by decide) is_charwidth_marks is_charwidth_finder (by decide) is_charwidth_finder_1 (by decide)
theorem k_cwidth:∀ r,FnP gam Tryz.prog 97 [.sc (.int .i32 r)] (.int (widthC r)):=widthC_fn is_charwidth_Width (by decide) is_charwidth_Mark (by decide) is_charwidth_marks is_charwidth_Wide is_charwidth_finder (by decide) is_charwidth_finder_1 (by decide)
theorem k_marked:∀ l:List Nat,FnP gam Tryz.prog 98 [.d (.sl eRn (rnRows l))] (.bool (l.all fun n=>markC n)):=marked_fn is_cluster_marked (by decide) k_mark
theorem k_valid:∀ s:ByteArray,s.size≤1000→FnP gam Tryz.prog 96 [.str s] (.bool (validS s)):=valid_fn is_utf8stream_Valid (by decide) k_vs
theorem k_check:∀ s:ByteArray,s.size≤1000→FnP gam Tryz.prog 71 [.str s] (.int (chkC s)):=check_fn is_cluster_Check (by decide) k_valid k_cwidth k_marked
theorem k_runes:∀ s:ByteArray,s.size≤1000→FnP gam Tryz.prog 99 [.str s] (.d (.sl eRn (rnRows (runesC s)))):=runes_fn is_cluster_runes (by decide) k_check
theorem k_width:∀ s:ByteArray,s.size≤1000→FnP gam Tryz.prog 72 [.str s] (.int (widC s)):=cwidth_fn is_cluster_Width (by decide) k_runes k_cwidth
theorem k_sized:∀ w h,FnP gam Tryz.prog 46 [.int w,.int h] (.bool (szOk w h)):=sized_fn is_view_sized (by decide)
theorem k_glyph:∀ g:Gl,g.text.size≤1000→FnP gam Tryz.prog 47 [glA g] (.int (glyphC g)):=glyph_fn is_view_glyph (by decide) k_check k_width
theorem k_vw:∀ l:List Gl,FnP gam Tryz.prog 48 [.d (.sl eGl (glRows l))] (.int (widthN l)):=width_fn is_view_Width (by decide)
theorem k_vchk:VchkOk gam Tryz.prog 26:=fun v hs=>viewCheck_fn is_view_Check (by decide) k_sized k_glyph k_vw (blank_fn is_view_blank) v hs.txt
theorem k_trim:∀ l:List Gl,FnP gam Tryz.prog 104 [.d (.sl eGl (glRows l))] (.d (.sl eGl (glRows (trimGl l)))):=trim_fn is_view_Trim (by decide) is_view_blank is_slices_Clone_675 (by decide)
theorem k_cloneO:∀ l:List Gl,RowO Tryz.prog 51 (.d (.sl eGl (glRows l))) l:=cloneO_fn is_slices_Clone_675 (by decide)
theorem k_trimO:∀ l:List Gl,RowO Tryz.prog 104 (.d (.sl eGl (glRows l))) (trimGl l):=trimO_fn is_view_Trim_r (by decide) is_view_blank is_slices_Clone_675 (by decide)
theorem k_between:∀ n a b,FnP gam Tryz.prog 88 [.int n,.int a,.int b] (.bool (btw n a b)):=between_fn is_change_between (by decide)
theorem k_blank19:∀ c,FnP gam Tryz.prog 89 [cgA c] (.bool (blankG c)):=blank19_fn is_change_blank (by decide)
theorem k_proper:∀ g:Gl,g.text.size≤1000→FnP gam Tryz.prog 91 [glA g] (.int (glyphC g)):=proper_fn is_change_proper (by decide) k_check k_width k_between
theorem k_ranges:RangesOk gam.ctx Tryz.prog 90:=fun c ed _ sm hm _ _ _ _ hb e=>ranges_fn is_change_editor_ranges (by decide) k_between c ed sm hm hb e
theorem k_echeck:∀ {v:Vw} (c:Cg),Ed v→∀ {m:Nat},Sm v m→m≤100000→(∀ g∈c.gl,g.text.size≤1000)→∀ {h:Heap} {id k:Nat} {R:List (List A)},EdIs h id v k R→FnD gam.ctx Tryz.prog 69 [.ptr id 1 0 0,cgA c] h (.int (chgC v c)) h :=
 fun c ed _ sm hm hg _ _ _ _ e=>check19_fn is_change_editor_check (by decide) k_between k_blank19 k_ranges k_proper c ed sm hm hg (zI _) e
theorem k_growE:Enters Tryz.prog 139:=enters_ofE (by kernel_rfl)
theorem k_concatO:∀ ls:List (List Gl),ls.length≤1000→ls.flatten.length≤100000→RowO Tryz.prog 123 (.d (.sl eRw (rwRows ls))) ls.flatten:=fun ls h1 h2 Δ h hb =>
 concatO_fn is_slices_Concat_675 (by decide) (fun n hn h _=>growGl_fn Tryz.growR rfl k_growE (by kernel_rfl) n hn h) ls h1 h2 h hb
theorem k_size:EdStep gam.ctx Tryz.prog 92 (fun v c=>c.kind=1∧StepPre v c) stepV:=size_fn is_change_editor_size (by decide) k_vw k_trimO
theorem k_splice:EdStep gam.ctx Tryz.prog 94 (fun v c=>c.kind=3∧StepPre v c) stepV:=splice_fn is_change_editor_splice (by decide) k_concatO k_trimO
theorem k_cursor:EdStep gam.ctx Tryz.prog 95 (fun _ c=>c.kind=4) stepV:=cursor_fn is_change_editor_cursor (by decide)
theorem k_poss:∀ {Γ:Tabs} (n t b y:Int),n≤1000000000000000000→FnP Γ Tryz.prog 138 [.int n,.int t,.int b,.int y] (.bool (possB n t b y)):=fun n t b y h=>possible_fn is_scrolldiff_possible (by decide) n t b y h
theorem k_scroll:EdStep gam.ctx Tryz.prog 93 (fun v c=>c.kind=2∧StepPre v c) stepV:=scroll_fn is_change_editor_scroll (by decide)
 fun Δ' _ l t b y hp hl h hb=>scrRows_fn is_scrolldiff_Rows (by decide) k_poss k_cloneO (cloneN_fn is_slices_Clone_675 (by decide)) l t b y hp hl h hb
theorem k_apply1:EdStep gam.ctx Tryz.prog 70 StepPre stepV:=apply19_fn is_change_editor_apply (by decide) k_size k_scroll k_splice k_cursor
theorem k_openT:OpenTOk gam.ctx Tryz.prog 68:=fun w h1 h2 h=>open19T_fn is_change_open (by decide) (fun l hl h hb=>cloneRows_fn is_slices_Clone_164 (by decide) l hl h hb) k_cloneO w h1 h2 h (zI _)
theorem k_open:OpenOk gam.ctx Tryz.prog 68:=fun w h1 h2 h=>open19_fn is_change_open (by decide) (fun l hl h hb=>cloneRows_fn is_slices_Clone_164 (by decide) l hl h hb) k_cloneO w h1 h2 h (zI _)
theorem k_apN:ApNOk gam Tryz.prog 41:=fun v l hr hl=>applyN_fn (Δ:=gam.ctx) is_change_Apply (by decide) v l hr hl (k_vchk v hr.sm) (fun h1 h2 h=>k_open v h1 h2 h) k_echeck k_apply1 k_vw
theorem k_ap:ApOk gam Tryz.prog 41:=fun v l hr hl=>(k_apN v l hr hl).toP
theorem k_lens:∀ a b:List Gl,a.length≤50000→b.length≤50000→FnP gam Tryz.prog 146 [.d (.sl eGl (glRows a)),.d (.sl eGl (glRows b))] (.d (.sl eRw (lenD a b))):=lengths_fn is_editscript_lengths_365 (by decide)
theorem k_script:∀ a b:List Gl,a.length≤50000→b.length≤50000→FnP gam Tryz.prog 105 [.d (.sl eGl (glRows a)),.d (.sl eGl (glRows b))] (.d (.sl eEd (edsRows (scriptE a b)))):=fun a b ha hb =>
 script_fn (f1:=145) is_editscript_Script_365 (by decide) a b ha hb (walk_fn is_editscript_walk_365 (by decide) a b) (walk1_gen is_editscript_walk_365_1 (by decide) a b ha hb (k_lens a b ha hb))
theorem k_splices:∀ (row:Int) (a b:List Gl),a.length≤50000→b.length≤50000→FnP gam Tryz.prog 77 [.int row,.d (.sl eGl (glRows a)),.d (.sl eGl (glRows b))] (cgsA (splicesV row a b)):=fun row a b ha hb =>
 splices_fn is_rowdiff_Splices (by decide) k_trim row a b (eds_ok (Nat.le_trans (trim_len _) ha) (Nat.le_trans (trim_len _) hb)) (by omega) (k_script _ _ (Nat.le_trans (trim_len _) ha) (Nat.le_trans (trim_len _) hb))
  (fun l=>clone_fn is_slices_Clone_675 (by decide) _) (fun a b=>replace_fn is_rowdiff_Replace (by decide) k_trim row a b) (cost_fn is_rowdiff_Cost (by decide))
theorem k_great19:∀ l:List Cg,FnP gam Tryz.prog 39 [cgsA l] (.bool (greatL l)):=great19_fn is_ref19_Great (by decide) (greatRow_fn is_ref15_GreatRow (by decide))
theorem k_greatV:∀ v:Vw,FnP gam Tryz.prog 24 [vwA v] (.bool (greatV v)):=great_fn is_ref15_Great (by decide) is_ref15_GreatRow (by decide)
theorem k_vsame:SameOk gam Tryz.prog 23:=same_fn is_ref15_Same (by decide) is_ref15_SameRow (by decide)
theorem k_vequal:SameOk gam Tryz.prog 25:=viewEqual_fn is_view_Equal (by decide) is_slices_EqualFunc_833 (by decide) is_slices_Equal_675 (by decide)
theorem k_sameRow:∀ a b:List Gl,FnP gam Tryz.prog 42 [.d (.sl eGl (glRows a)),.d (.sl eGl (glRows b))] (.bool (decide (a=b))):=sameRow_fn is_ref15_SameRow (by decide)
theorem k_rowEq:RowEqOk gam Tryz.prog 45:=equal_fn is_slices_Equal_675 (by decide)
theorem k_coll:CollOk gam Tryz.prog 58 76:=coll_ok is_slices_Collect_706 (by decide) is_slices_AppendSeq_772 (by decide) is_viewdiff_rest_1 (by decide) k_splices
theorem k_find:FindOk gam Tryz.prog 62:=find_ok is_scrolldiff_Find (by decide) is_scrolldiff_match (by decide) is_scrolldiff_gain (by decide) is_scrolldiff_candidate_better (by decide) is_scrolldiff_gain_1 (by decide) is_scrolldiff_gain_2 (by decide) is_scrolldiff_count (by decide) is_scrolldiff_equal (by decide) k_rowEq
theorem k_cost1:Cost1Ok gam Tryz.prog 78:=fun c hc=>by
 have:=cost_fn (Γ:=gam) is_rowdiff_Cost (by decide) [c] (by simp) (by simpa using hc)
 rw [costG_one] at this
 exact this
theorem k_cost20:CostOk gam Tryz.prog 61:=cost20_fn is_viewdiff_Cost (by decide) k_cost1
theorem k_diff:DiffOk gam Tryz.prog 33:=diff20_fn (f1:=76) is_viewdiff_Diff (by decide) k_vchk k_apN (fun x b=>rest_fn is_viewdiff_rest (by decide) x b) k_coll (fun l w hl hw h q hq=>diff1_fn is_viewdiff_Diff_1 (by decide) k_cost20 l w hl hw h q hq) k_find
theorem k_dec:∀ s:ByteArray,s.size≤1000→FnP gam Tryz.prog 128 [.str ⟨#[]⟩,.str s] (decA (toN s.data.toList)):=decode_fn is_ref01_Decode (by decide) is_ref01_limits (by decide) is_ref01_value (by decide)
theorem k_enc:∀ l:List Int,l.length≤1000→FnP gam Tryz.prog 129 [.d (.sl eRu (irRows l))] (.str (numS (encL l))):=encode_fn is_ref01_Encode (by decide)
theorem k_rvalid:∀ s:ByteArray,s.size≤1000→FnP gam Tryz.prog 100 [.str s] (.bool (validS s)):=refValid_fn is_ref01_Valid (by decide) k_dec k_enc
theorem k_chars:∀ s:ByteArray,s.size≤1000→validS s=true→FnP gam Tryz.prog 101 [.str s] (.d (.sl eRn (rnRows (runesOf s)))):=refChars_fn is_ref03_Characters (by decide) k_dec
theorem k_mark2:∀ r,FnP gam Tryz.prog 102 [.sc (.int .i32 r)] (.bool (markC r)):=mark2_fn is_ref02_Mark (by decide) is_ref02_Marks is_ref02_in (by decide)
theorem k_width2:∀ r,FnP gam Tryz.prog 103 [.sc (.int .i32 r)] (.int (widthC r)):=width2_fn is_ref02_Width (by decide) is_ref02_Mark (by decide) is_ref02_Marks is_ref02_Wide is_ref02_in (by decide)
theorem k_check3:∀ s:ByteArray,s.size≤1000→FnP gam Tryz.prog 73 [.str s] (.int (chkC s)):=check3_fn is_ref03_Check (by decide) k_rvalid k_chars k_mark2 k_width2
theorem k_cw3:∀ s:ByteArray,s.size≤1000→FnP gam Tryz.prog 74 [.str s] (.int (widC s)):=cwidth3_fn is_ref03_Width (by decide) k_check3 k_chars k_width2
theorem k_rsz:∀ w h,FnP gam Tryz.prog 52 [.int w,.int h] (.bool (szOk w h)):=sized_fn is_ref15_Size (by decide)
theorem k_rgl:∀ g:Gl,g.text.size≤1000→FnP gam Tryz.prog 53 [glA g] (.int (glyphC g)):=glyph_fn (fc:=73) (fw:=74) is_ref15_Glyph (by decide) k_check3 k_cw3
theorem k_rwd:∀ l:List Gl,FnP gam Tryz.prog 54 [.d (.sl eGl (glRows l))] (.int (widthN l)):=refWidth_fn is_ref15_Width (by decide)
theorem k_rbl:∀ g,FnP gam Tryz.prog 55 [glA g] (.bool (decide (g=spaceGl))):=refBlankG_fn is_ref15_blank (by decide)
theorem k_rvchk:VchkOk gam Tryz.prog 28:=fun v hs=>refCheck_fn is_ref15_Check (by decide) k_rsz k_rgl k_rwd k_rbl v hs.txt
theorem k_own:OwnOk gam Tryz.prog 27:=own_fn is_timeline_own (by decide) is_slices_Clone_164 (by decide) (fun rows=>clone_fn is_slices_Clone_675 (by decide) rows)
theorem k_copied:TCopyDOk gam Tryz.prog 32:=fun t h=>copied_fn (Δ:=gam.ctx) is_timeline_copied (by decide) k_own is_slices_Clone_424 (by decide) is_slices_Clone_772 (by decide) (fun rows=>clone_fn is_slices_Clone_675 (by decide) rows) t h (zI _)
theorem k_views:TViewsOk gam Tryz.prog 40 67:=⟨fun t=>views_fn is_timeline_views (by decide) t,fun t hok hf hl=>views1_gen is_timeline_views_1 (by decide) k_ap t hok hf hl⟩
theorem k_tcheck:TCheckOk gam Tryz.prog 21:=tcheck_fn is_timeline_Check (by decide) k_vchk k_ap
theorem k_tnew:TNewOk gam Tryz.prog 7:=tnew_fn is_timeline_New (by decide) k_vchk k_own
theorem k_tlast:TLastOk gam Tryz.prog 12:=tlast_fn is_timeline_Last (by decide)
theorem k_twhen:TWhenOk gam Tryz.prog 17:=twhen_fn is_timeline_When (by decide) k_tcheck
theorem k_final:TFinalOk gam Tryz.prog 31:=final_fn is_timeline_final (by decide) k_views
theorem k_drop:TDropOk gam Tryz.prog 34:=drop_fn is_timeline_drop (by decide) k_views
theorem k_tat:TAtOk gam Tryz.prog 15:=tat_fn is_timeline_At (by decide) k_tcheck k_views k_own
theorem k_tkeep:TKeepOk gam Tryz.prog 19:=tkeep_fn is_timeline_Keep (by decide) k_tcheck (tcopy_of k_copied) k_drop
theorem k_tadd:TAddOk gam Tryz.prog 10:=tadd_fn is_timeline_Add (by decide) k_tcheck k_vchk k_final k_copied k_vequal k_diff k_drop
theorem aw_A:viewC awA=0:=by kernel_rfl
theorem aw_B:viewC awB=0:=by kernel_rfl
theorem awake_fn:FnP gam Tryz.prog 6 [] (.bool true):=awake21_fn is_law21_awake k_tnew k_tadd k_twhen k_tat k_tlast k_vequal aw_A aw_B
theorem k_rin:∀ n a b,FnP gam Tryz.prog 112 [.int n,.int a,.int b] (.bool (btw n a b)):=rin_fn is_ref19_in (by decide)
theorem k_fits:FitsOk gam Tryz.prog 82:=fun v c ed sm hg=>fits_fn is_ref19_fits (by decide) k_rin k_rsz v c ed fun hk =>
 rsplice_fn is_ref19_splice (by decide) k_rin k_rgl v c hk ed.len (szOk_iff.1 ed.sz).2 sm.row hg
theorem k_rtrim:∀ l:List Gl,l.length≤1000000→FnP gam Tryz.prog 114 [.d (.sl eGl (glRows l))] (.d (.sl eGl (glRows (trimGl l)))):=refTrimL_fn is_ref15_Trim (by decide) k_rbl
theorem k_rsized:SizedOk gam Tryz.prog 113:=rsized_fn is_ref19_sized (by decide) k_rwd k_rtrim
theorem k_rstep:RStepOk gam Tryz.prog 83:=rstep_fn is_ref19_step (by decide) k_rsized k_rtrim
theorem k_rap:ApOk gam Tryz.prog 63:=rapply_fn is_ref19_Apply (by decide) k_rvchk k_fits k_rstep k_rwd
theorem k_rtime:RTimeOk gam Tryz.prog 29:=rtime_fn is_ref21_time (by decide)
theorem k_rviews:RViewsOk gam Tryz.prog 35:=rviews_fn is_ref21_views (by decide) k_rtime k_rvchk k_rap
theorem k_rtcheck:TCheckOk gam Tryz.prog 22:=rtcheck_fn is_ref21_Check (by decide) k_rviews
theorem k_rtlast:TLastOk gam Tryz.prog 13:=rlast_fn is_ref21_Last (by decide)
theorem k_rtat:TAtOk gam Tryz.prog 16:=rtat_fn is_ref21_At (by decide) k_rviews k_rtlast
theorem k_rtwhen:TWhenOk gam Tryz.prog 18:=rtwhen_fn is_ref21_When (by decide) k_rviews
theorem k_rdrop:RDropOk gam Tryz.prog 38:=rdropped_fn is_ref21_dropped (by decide)
theorem k_rtkeep:TKeepOk gam Tryz.prog 20:=rtkeep_fn is_ref21_Keep (by decide) k_rviews k_rdrop
theorem k_tgreat:∀ t:Tl,FnP gam Tryz.prog 14 [tlA t] (.bool (greatT t)):=tgreat_fn is_ref21_Great (by decide) k_greatV k_great19
theorem k_rsame:CgsSameOk gam Tryz.prog 30:=rsame19_fn is_ref19_Same (by decide) k_sameRow
theorem k_tsame:TSameOk gam Tryz.prog 9:=tsame_fn is_ref21_Same (by decide) k_vsame k_rsame
/-! ### Arguments -/
def tGlyph:Ty:=.st [.str,.bool,.int .i64]
def tGlyphs:Ty:=.sl ⟨3,32⟩ tGlyph
theorem glyph_of {xs:List D} (h:WT tGlyph xs):∃ g:Gl,xs=g.row:=by
 obtain ⟨a,b,rfl,⟨s,rfl,_⟩,a2,b2,rfl,⟨w,rfl⟩,a3,b3,rfl,⟨n,rfl,_⟩,rfl⟩:=h
 exact ⟨⟨s,w,n⟩,rfl⟩
theorem rows_of:∀ {rows:List (List D)},(∀ r∈rows,WT tGlyph r)→∃ l:List Gl,rows=glRows l
 | [],_=>⟨[],rfl⟩
 | r::rows,h=>by
  obtain ⟨g,rfl⟩:=glyph_of (h r (zW ..))
  obtain ⟨l,rfl⟩:=rows_of fun r hr=>h r (zZ _ hr)
  exact ⟨g::l,rfl⟩
theorem glyphs_of {xs:List D} (h:WT tGlyphs xs):∃ l:List Gl,xs=[.sl eGl (glRows l)]:=by
 obtain ⟨rows,rfl,hr⟩:=h
 obtain ⟨l,rfl⟩:=rows_of hr
 exact ⟨l,rfl⟩
def tView:Ty:=.st [.int .i64,.int .i64,.sl ⟨1,24⟩ tGlyphs,.int .i64,.int .i64,.bool]
theorem vrows_of:∀ {rows:List (List D)},(∀ r∈rows,WT tGlyphs r)→∃ l:List (List Gl),rows=rwRows l
 | [],_=>⟨[],rfl⟩
 | r::rows,h=>by
  obtain ⟨g,rfl⟩:=glyphs_of (h r (zW ..))
  obtain ⟨l,rfl⟩:=vrows_of fun r hr=>h r (zZ _ hr)
  exact ⟨g::l,rfl⟩
theorem view_of {xs:List D} (h:WT tView xs):∃ v:Vw,xs=v.ds:=by
 obtain ⟨_,_,rfl,⟨w,rfl,_⟩,_,_,rfl,⟨h,rfl,_⟩,_,_,rfl,⟨rows,rfl,hr⟩,_,_,rfl,⟨r,rfl,_⟩,_,_,rfl,⟨c,rfl,_⟩,_,_,rfl,⟨b,rfl⟩,rfl⟩:=h
 obtain ⟨l,rfl⟩:=vrows_of hr
 exact ⟨⟨w,h,l,r,c,b⟩,rfl⟩
def tChange:Ty:=.st [.int .i64,.int .i64,.int .i64,.int .i64,.int .i64,tGlyphs]
def tChanges:Ty:=.sl ⟨6,64⟩ tChange
theorem change_of {xs:List D} (h:WT tChange xs):∃ c:Cg,xs=c.ds:=by
 obtain ⟨_,_,rfl,⟨a,rfl,_⟩,_,_,rfl,⟨b,rfl,_⟩,_,_,rfl,⟨c,rfl,_⟩,_,_,rfl,⟨d,rfl,_⟩,_,_,rfl,⟨e,rfl,_⟩,_,_,rfl,⟨rows,rfl,hr⟩,rfl⟩:=h
 obtain ⟨l,rfl⟩:=rows_of hr
 exact ⟨⟨a,b,c,d,e,l⟩,rfl⟩
theorem changes_of':∀ {rows:List (List D)},(∀ r∈rows,WT tChange r)→∃ l:List Cg,rows=cgRows l
 | [],_=>⟨[],rfl⟩
 | r::rows,h=>by
  obtain ⟨g,rfl⟩:=change_of (h r (zW ..))
  obtain ⟨l,rfl⟩:=changes_of' fun r hr=>h r (zZ _ hr)
  exact ⟨g::l,rfl⟩
theorem changes_of {xs:List D} (h:WT tChanges xs):∃ l:List Cg,xs=[.sl eCg (cgRows l)]:=by
 obtain ⟨rows,rfl,hr⟩:=h
 obtain ⟨l,rfl⟩:=changes_of' hr
 exact ⟨l,rfl⟩
def tStep:Ty:=.st [.int .i64,tChanges]
def tSteps:Ty:=.sl ⟨2,32⟩ tStep
def tTimeline:Ty:=.st [.int .i64,.int .i64,tView,tSteps]
def tQuery:Ty:=.st [tTimeline,.int .i64,.int .i64,.int .i64]
theorem step_of {xs:List D} (h:WT tStep xs):∃ s:Stp,xs=s.ds:=by
 obtain ⟨_,_,rfl,⟨n,rfl,_⟩,_,_,rfl,hc,rfl⟩:=h
 obtain ⟨l,rfl⟩:=changes_of hc
 exact ⟨⟨n,l⟩,rfl⟩
theorem steps_of':∀ {rows:List (List D)},(∀ r∈rows,WT tStep r)→∃ l:List Stp,rows=stRows l
 | [],_=>⟨[],rfl⟩
 | r::rows,h=>by
  obtain ⟨g,rfl⟩:=step_of (h r (zW ..))
  obtain ⟨l,rfl⟩:=steps_of' fun r hr=>h r (zZ _ hr)
  exact ⟨g::l,rfl⟩
theorem steps_of {xs:List D} (h:WT tSteps xs):∃ l:List Stp,xs=[.sl eSt (stRows l)]:=by
 obtain ⟨rows,rfl,hr⟩:=h
 obtain ⟨l,rfl⟩:=steps_of' hr
 exact ⟨l,rfl⟩
theorem timeline_of {xs:List D} (h:WT tTimeline xs):∃ t:Tl,xs=t.ds:=by
 obtain ⟨_,_,rfl,⟨a,rfl,_⟩,_,_,rfl,⟨b,rfl,_⟩,_,_,rfl,hv,_,_,rfl,hs,rfl⟩:=h
 obtain ⟨v,rfl⟩:=view_of hv
 obtain ⟨l,rfl⟩:=steps_of hs
 exact ⟨⟨a,b,v,l⟩,rfl⟩
theorem query_of {xs:List D} (h:WT tQuery xs):∃ (t:Tl) (a b c:Int),xs=qDs t a b c:=by
 obtain ⟨_,_,rfl,ht,_,_,rfl,⟨a,rfl,_⟩,_,_,rfl,⟨b,rfl,_⟩,_,_,rfl,⟨c,rfl,_⟩,rfl⟩:=h
 obtain ⟨t,rfl⟩:=timeline_of ht
 exact ⟨t,a,b,c,rfl⟩
end Go.Proofs.YtlllnjhgjijnkaaGreatDoor.Nx

/- The functions of this program are those of the definitions; the example that every statement checks. -/
import Derived.Test.YtlllnjhgjijnkaaDoorNxCore
import Derived.Test.YtlllnjhgjijnkaaDoorNxSound
import Derived.Test.YtlllnjhgjijnkaaDoorNxSound2
import Derived.Test.YtlllnjhgjijnkaaDoorNxSound4
import Derived.Test.YtlllnjhgjijnkaaDoorNxSound6
import Derived.Test.YtlllnjhgjijnkaaDoorNxComp
import Derived.Test.YtlllnjhgjijnkaaDoorNxExec
import Derived.Test.YtlllnjhgjijnkaaDoorNxDraw
import Derived.Test.YtlllnjhgjijnkaaDoorNxStep
import Derived.Test.YtlllnjhgjijnkaaDoorNxRegion
import Derived.Test.YtlllnjhgjijnkaaDoorNxCode
import Derived.Test.YtlllnjhgjijnkaaDoorNxFn
import Derived.Test.YtlllnjhgjijnkaaDoorNxCheck
import Derived.Test.YtlllnjhgjijnkaaDoorNxWalk
import Derived.Test.YtlllnjhgjijnkaaDoorNxLink
import Derived.Test.YtlllnjhgjijnkaaDoorNxEval
import Derived.Test.YtlllnjhgjijnkaaDoorNxC1
import Derived.Test.YtlllnjhgjijnkaaDoorNxV1
import Derived.Test.YtlllnjhgjijnkaaDoorNxB0
import Derived.Test.YtlllnjhgjijnkaaDoorNxP15a
import Derived.Test.YtlllnjhgjijnkaaDoorNxP15i
import Derived.Test.YtlllnjhgjijnkaaDoorNxG0
import Derived.Test.YtlllnjhgjijnkaaDoorNxP15g
import Derived.Test.YtlllnjhgjijnkaaDoorNxP15k
import Derived.Test.YtlllnjhgjijnkaaDoorNxP15n
import Derived.Test.YtlllnjhgjijnkaaDoorNxP15p
import Derived.Test.YtlllnjhgjijnkaaDoorNxH0
import Derived.Test.YtlllnjhgjijnkaaDoorNxE0
import Derived.Test.YtlllnjhgjijnkaaDoorNxE2
import Derived.Test.YtlllnjhgjijnkaaDoorNxW8
import Derived.Test.YtlllnjhgjijnkaaDoorNxE6
import Derived.Test.YtlllnjhgjijnkaaDoorNxE13
import Derived.Test.YtlllnjhgjijnkaaDoorNxE15
import Derived.Test.YtlllnjhgjijnkaaDoorNxE19
import Derived.Test.YtlllnjhgjijnkaaDoorNxE21
import Derived.Test.YtlllnjhgjijnkaaDoorNxK3
import Derived.Test.YtlllnjhgjijnkaaDoorNxT1
import Derived.Test.YtlllnjhgjijnkaaDoorNxI0
import Derived.Test.YtlllnjhgjijnkaaDoorNxI2
import Derived.Test.YtlllnjhgjijnkaaDoorNxI6
import Derived.Test.YtlllnjhgjijnkaaDoorNxJ0
import Derived.Test.YtlllnjhgjijnkaaDoorNxJ4
import Derived.Test.YtlllnjhgjijnkaaDoorNxJ6
import Derived.Test.YtlllnjhgjijnkaaDoorNxJ9
import Derived.Test.YtlllnjhgjijnkaaDoorNxJ11
import Derived.Test.YtlllnjhgjijnkaaDoorNxJ18
import Derived.Test.YtlllnjhgjijnkaaDoorNxDL
import Derived.Test.YtlllnjhgjijnkaaDoorNxD15
import Derived.Test.YtlllnjhgjijnkaaDoorRows
import Derived.KernelRfl
import Derived.Ground.NamesProg
import Derived.Shelf.Lay
import Derived.Shelf.Unicode.ValidAny
import Derived.Shelf.Spec.SlicesGrow
import Derived.Ground.Names7Prog
set_option linter.unusedSimpArgs false
set_option linter.unusedVariables false
set_option linter.unnecessarySimpa false
open Nat renaming zero_le → zI
open List renaming mem_cons_self → zW
namespace Go.Proofs.YtlllnjhgjijnkaaDoor
open Go.RowKit Go.Shelf Go.Lib
shelf_lay Lays.n196 Nm 196 at Tryd as Tryd.laysValid
end Go.Proofs.YtlllnjhgjijnkaaDoor
namespace Go.Proofs.YtlllnjhgjijnkaaDoor
open Go.RowKit Go.Shelf Go.Lib
shelf_lay_g Lays8.n4 Nm8 4 at Tryd 88 as Tryd.growR
end Go.Proofs.YtlllnjhgjijnkaaDoor
namespace Go.Proofs.YtlllnjhgjijnkaaDoor.Nx
open Go
theorem is_law21_TimelineLimit:FnIs Tryd.prog 6 96 [.t 2] (x_law21_TimelineLimit 18 16 13 14 12 10):=.of (by kernel_rfl)
theorem is_law21_build:FnIs Tryd.prog 9 90 [.c 2 9 true,.t 3,.t 4] (x_law21_build 23 24 18 16 14):=.of (by kernel_rfl)
theorem is_law21_awake:FnIs Tryd.prog 10 83 [.t 0] (x_law21_awake 18 16 15 13 12 14):=.of (by kernel_rfl)
theorem is_timeline_Check:FnIs Tryd.prog 11 74 [.t 2] (x_timeline_Check 24 21):=.of (by kernel_rfl)
theorem is_timeline_Last:FnIs Tryd.prog 12 9 [.t 2] x_timeline_Last:=.of (by kernel_rfl)
theorem is_timeline_At:FnIs Tryd.prog 13 25 [.c 4 6 true,.c 5 1 false] (x_timeline_At 11 25 26):=.of (by kernel_rfl)
theorem is_view_Equal:FnIs Tryd.prog 14 45 [.t 4] (x_view_Equal 27 28):=.of (by kernel_rfl)
theorem is_timeline_When:FnIs Tryd.prog 15 36 [.t 4,.t 5] (x_timeline_When 11):=.of (by kernel_rfl)
theorem is_timeline_Add:FnIs Tryd.prog 16 63 [.c 6 9 true,.t 7] (x_timeline_Add 11 24 29 30 14 20 31):=.of (by kernel_rfl)
theorem is_ref21_Same:FnIs Tryd.prog 17 71 [.t 4] (x_ref21_Same 32 33):=.of (by kernel_rfl)
theorem is_timeline_New:FnIs Tryd.prog 18 21 [.c 4 9 true] (x_timeline_New 24 26):=.of (by kernel_rfl)
theorem is_change_Equal:FnIs Tryd.prog 19 8 [.t 4] (x_change_Equal 34 35):=.of (by kernel_rfl)
theorem is_viewdiff_Diff:FnIs Tryd.prog 20 87 [.t 4] (x_viewdiff_Diff 24 21 37 36 38 40):=.of (by kernel_rfl)
theorem is_change_Apply:FnIs Tryd.prog 21 64 [.c 4 6 true,.t 5,.t 6] (x_change_Apply 24 41 42 43 44):=.of (by kernel_rfl)
theorem is_timeline_Keep:FnIs Tryd.prog 22 26 [.c 4 9 true,.t 5] (x_timeline_Keep 11 30 31):=.of (by kernel_rfl)
theorem is_law21_fine:FnIs Tryd.prog 23 18 [.t 2] (x_law21_fine 45):=.of (by kernel_rfl)
theorem is_view_Check:FnIs Tryd.prog 24 84 [.t 2] (x_view_Check 46 47 44 48):=.of (by kernel_rfl)
theorem is_timeline_views:FnIs Tryd.prog 25 4 [.t 2] (x_timeline_views 49):=.of (by kernel_rfl)
theorem is_timeline_own:FnIs Tryd.prog 26 26 [.c 2 6 true] (x_timeline_own 50 51):=.of (by kernel_rfl)
theorem is_slices_EqualFunc_833:FnIs Tryd.prog 27 32 [.t 6] x_slices_EqualFunc_833:=.of (by kernel_rfl)
theorem is_slices_Equal_675:FnIs Tryd.prog 28 26 [.t 4] x_slices_Equal_675:=.of (by kernel_rfl)
theorem is_timeline_final:FnIs Tryd.prog 29 29 [.c 2 6 true,.t 3] (x_timeline_final 25):=.of (by kernel_rfl)
theorem is_timeline_copied:FnIs Tryd.prog 30 51 [.c 2 9 true] (x_timeline_copied 26 52 53 51):=.of (by kernel_rfl)
theorem is_timeline_drop:FnIs Tryd.prog 31 30 [.c 2 9 true] (x_timeline_drop 25):=.of (by kernel_rfl)
theorem is_ref15_Same:FnIs Tryd.prog 32 67 [.t 4] (x_ref15_Same 54):=.of (by kernel_rfl)
theorem is_ref19_Same:FnIs Tryd.prog 33 68 [.t 4] (x_ref19_Same 54):=.of (by kernel_rfl)
theorem is_slices_EqualFunc_49:FnIs Tryd.prog 34 32 [.t 6] x_slices_EqualFunc_49:=.of (by kernel_rfl)
theorem is_change_Equal_1:FnIs Tryd.prog 35 45 [.t 4] (x_change_Equal_1 28):=.of (by kernel_rfl)
theorem is_slices_Collect_706:FnIs Tryd.prog 36 5 [.t 2] (x_slices_Collect_706 55):=.of (by kernel_rfl)
theorem is_viewdiff_rest:FnIs Tryd.prog 37 6 [.t 4] (x_viewdiff_rest 56):=.of (by kernel_rfl)
theorem is_viewdiff_Diff_1:FnIs Tryd.prog 38 9 [.t 3] (x_viewdiff_Diff_1 39):=.of (by kernel_rfl)
theorem is_viewdiff_Cost:FnIs Tryd.prog 39 36 [.t 2] (x_viewdiff_Cost 58):=.of (by kernel_rfl)
theorem is_scrolldiff_Find:FnIs Tryd.prog 40 83 [.c 4 6 true,.t 5] (x_scrolldiff_Find 59 60 61):=.of (by kernel_rfl)
theorem is_change_open:FnIs Tryd.prog 41 27 [.t 2] (x_change_open 50 51):=.of (by kernel_rfl)
theorem is_change_editor_check:FnIs Tryd.prog 42 35 [.t 4] (x_change_editor_check 62 63 64 65):=.of (by kernel_rfl)
theorem is_change_editor_apply:FnIs Tryd.prog 43 14 [] (x_change_editor_apply 66 67 68 69):=.of (by kernel_rfl)
theorem is_view_Width:FnIs Tryd.prog 44 20 [.t 2] x_view_Width:=.of (by kernel_rfl)
theorem is_ref15_Great:FnIs Tryd.prog 45 32 [.t 2] (x_ref15_Great 70):=.of (by kernel_rfl)
theorem is_view_sized:FnIs Tryd.prog 46 19 [.t 4] x_view_sized:=.of (by kernel_rfl)
theorem is_view_glyph:FnIs Tryd.prog 47 34 [.t 2] (x_view_glyph 71 72):=.of (by kernel_rfl)
theorem is_view_blank:FnIs Tryd.prog 48 2 [.c 0 3 true] x_view_blank:=.of (by kernel_rfl)
theorem is_timeline_views_1:FnIs Tryd.prog 49 48 [] (x_timeline_views_1 21):=.of (by kernel_rfl)
theorem is_slices_Clone_164:FnIs Tryd.prog 50 8 [.t 2] x_slices_Clone_164:=.of (by kernel_rfl)
theorem is_slices_Clone_675:FnIs Tryd.prog 51 8 [.t 2] x_slices_Clone_675:=.of (by kernel_rfl)
theorem is_slices_Clone_424:FnIs Tryd.prog 52 8 [.t 2] x_slices_Clone_424:=.of (by kernel_rfl)
theorem is_slices_Clone_772:FnIs Tryd.prog 53 8 [.t 2] x_slices_Clone_772:=.of (by kernel_rfl)
theorem is_ref15_SameRow:FnIs Tryd.prog 54 26 [.t 4] x_ref15_SameRow:=.of (by kernel_rfl)
theorem is_slices_AppendSeq_772:FnIs Tryd.prog 55 13 [.t 4] x_slices_AppendSeq_772:=.of (by kernel_rfl)
theorem is_viewdiff_rest_1:FnIs Tryd.prog 56 67 [] (x_viewdiff_rest_1 57):=.of (by kernel_rfl)
theorem is_rowdiff_Splices:FnIs Tryd.prog 57 64 [.t 6] (x_rowdiff_Splices 73 74 51 75 58):=.of (by kernel_rfl)
theorem is_rowdiff_Cost:FnIs Tryd.prog 58 25 [.t 2] x_rowdiff_Cost:=.of (by kernel_rfl)
theorem is_scrolldiff_match:FnIs Tryd.prog 59 26 [.t 4] x_scrolldiff_match:=.of (by kernel_rfl)
theorem is_scrolldiff_gain:FnIs Tryd.prog 60 22 [.t 10] (x_scrolldiff_gain 77 76 79):=.of (by kernel_rfl)
theorem is_scrolldiff_candidate_better:FnIs Tryd.prog 61 72 [.t 4] x_scrolldiff_candidate_better:=.of (by kernel_rfl)
theorem is_change_between:FnIs Tryd.prog 62 15 [.t 6] x_change_between:=.of (by kernel_rfl)
theorem is_change_blank:FnIs Tryd.prog 63 46 [.t 2] x_change_blank:=.of (by kernel_rfl)
theorem is_change_editor_ranges:FnIs Tryd.prog 64 124 [.t 4] (x_change_editor_ranges 62):=.of (by kernel_rfl)
theorem is_change_proper:FnIs Tryd.prog 65 30 [.t 2] (x_change_proper 71 72 62):=.of (by kernel_rfl)
theorem is_change_editor_size:FnIs Tryd.prog 66 134 [] (x_change_editor_size 44 73):=.of (by kernel_rfl)
theorem is_change_editor_scroll:FnIs Tryd.prog 67 28 [] (x_change_editor_scroll 80):=.of (by kernel_rfl)
theorem is_change_editor_splice:FnIs Tryd.prog 68 47 [] (x_change_editor_splice 81 73):=.of (by kernel_rfl)
theorem is_change_editor_cursor:FnIs Tryd.prog 69 23 [] x_change_editor_cursor:=.of (by kernel_rfl)
theorem is_ref15_GreatRow:FnIs Tryd.prog 70 20 [.t 2] x_ref15_GreatRow:=.of (by kernel_rfl)
theorem is_cluster_Check:FnIs Tryd.prog 71 30 [.t 2] (x_cluster_Check 82 83 84):=.of (by kernel_rfl)
theorem is_cluster_Width:FnIs Tryd.prog 72 13 [.t 2] (x_cluster_Width 85 83):=.of (by kernel_rfl)
theorem is_view_Trim:FnIs Tryd.prog 73 23 [.t 2] (x_view_Trim 48 51):=.of (by kernel_rfl)
theorem is_view_Trim_r:FnIs Tryd.prog 73 23 [.t 2] (x_view_Trim_r 48 51):=.of (by kernel_rfl)
theorem is_editscript_Script_365:FnIs Tryd.prog 74 57 [.t 4] (x_editscript_Script_365 86):=.of (by kernel_rfl)
theorem is_rowdiff_Replace:FnIs Tryd.prog 75 14 [.c 6 6 true] (x_rowdiff_Replace 73):=.of (by kernel_rfl)
theorem is_scrolldiff_count:FnIs Tryd.prog 76 21 [.t 6] x_scrolldiff_count:=.of (by kernel_rfl)
theorem is_scrolldiff_gain_1:FnIs Tryd.prog 77 38 [.t 7] (x_scrolldiff_gain_1 78):=.of (by kernel_rfl)
theorem is_scrolldiff_equal:FnIs Tryd.prog 78 8 [.t 4] (x_scrolldiff_equal 28):=.of (by kernel_rfl)
theorem is_scrolldiff_gain_2:FnIs Tryd.prog 79 16 [.t 4] (x_scrolldiff_gain_2 78):=.of (by kernel_rfl)
theorem is_scrolldiff_Rows:FnIs Tryd.prog 80 58 [.t 8,.t 9] (x_scrolldiff_Rows 87 51):=.of (by kernel_rfl)
theorem is_slices_Concat_675:FnIs Tryd.prog 81 36 [.t 2] (x_slices_Concat_675 88):=.of (by kernel_rfl)
theorem is_utf8stream_Valid:FnIs Tryd.prog 82 5 [.t 2] (x_utf8stream_Valid 89):=.of (by kernel_rfl)
theorem is_charwidth_Width:FnIs Tryd.prog 83 22 [.t 2] (x_charwidth_Width 90 92 91):=.of (by kernel_rfl)
theorem is_cluster_marked:FnIs Tryd.prog 84 15 [.t 2] (x_cluster_marked 90):=.of (by kernel_rfl)
theorem is_cluster_runes:FnIs Tryd.prog 85 8 [.t 2] (x_cluster_runes 71):=.of (by kernel_rfl)
theorem is_editscript_walk_365:FnIs Tryd.prog 86 6 [.t 4] (x_editscript_walk_365 93):=.of (by kernel_rfl)
theorem is_scrolldiff_possible:FnIs Tryd.prog 87 39 [.t 8] x_scrolldiff_possible:=.of (by kernel_rfl)
theorem is_unicode_utf8_ValidString:FnIs Tryd.prog 89 169 [.t 2] (x_unicode_utf8_ValidString 95):=.of (by kernel_rfl)
theorem is_charwidth_Mark:FnIs Tryd.prog 90 7 [.t 2] (x_charwidth_Mark 96 91):=.of (by kernel_rfl)
theorem is_charwidth_finder:FnIs Tryd.prog 91 4 [.t 2] (x_charwidth_finder 97):=.of (by kernel_rfl)
theorem is_charwidth_Wide:FnIs Tryd.prog 92 16 [.t 0] x_charwidth_Wide:=.of (by kernel_rfl)
theorem is_editscript_walk_365_1:FnIs Tryd.prog 93 88 [] (x_editscript_walk_365_1 94):=.of (by kernel_rfl)
theorem is_editscript_lengths_365:FnIs Tryd.prog 94 90 [.t 4] x_editscript_lengths_365:=.of (by kernel_rfl)
theorem is_unicode_utf8_word_69:FnIs Tryd.prog 95 59 [.t 2] x_unicode_utf8_word_69:=.of (by kernel_rfl)
theorem is_charwidth_marks:FnIs Tryd.prog 96 9 [.t 0] x_charwidth_marks:=.of (by kernel_rfl)
theorem is_charwidth_finder_1:FnIs Tryd.prog 97 39 [.t 3] x_charwidth_finder_1:=.of (by kernel_rfl)
/-- The tables that the rows list. -/
def gam:Tabs:=[(1,tabAccept),(0,tabFirst)]
theorem gam_is : tabsOf Tryd.prog [("unicode/utf8.acceptRanges", Rows.laid_unicode_utf8_acceptRanges), ("unicode/utf8.first", Rows.laid_unicode_utf8_first)] = some gam := by kernel_rfl
def isTrue:Option A→Bool
 | some (.d (.sc (.bool true)))=>true
 | _=>false
theorem isTrue_some {x:Option A} (h:isTrue x=true):x=some (.bool true):=by
 unfold isTrue at h
 split at h
 ·rfl
 ·cases h
theorem k_vs:∀ s:ByteArray,s.size≤1000→FnP gam Tryd.prog 89 [.str s] (.bool (validS s)) :=
 validString_fn Tryd.laysValid rfl is_unicode_utf8_ValidString (by rw [show Tryd.laysValid_ren.g 3=0 from rfl];exact List.mem_cons_of_mem _ (zW ..)) (by rw [show Tryd.laysValid_ren.g 4=1 from rfl];exact zW ..)
theorem k_mark:∀ r,FnP gam Tryd.prog 90 [.sc (.int .i32 r)] (.bool (markC r)):=mark_fn is_charwidth_Mark (by decide) is_charwidth_marks is_charwidth_finder (by decide) is_charwidth_finder_1 (by decide)
theorem k_cwidth:∀ r,FnP gam Tryd.prog 83 [.sc (.int .i32 r)] (.int (widthC r)):=widthC_fn is_charwidth_Width (by decide) is_charwidth_Mark (by decide) is_charwidth_marks is_charwidth_Wide is_charwidth_finder (by decide) is_charwidth_finder_1 (by decide)
theorem k_marked:∀ l:List Nat,FnP gam Tryd.prog 84 [.d (.sl eRn (rnRows l))] (.bool (l.all fun n=>markC n)):=marked_fn is_cluster_marked (by decide) k_mark
theorem k_valid:∀ s:ByteArray,s.size≤1000→FnP gam Tryd.prog 82 [.str s] (.bool (validS s)):=valid_fn is_utf8stream_Valid (by decide) k_vs
theorem k_check:∀ s:ByteArray,s.size≤1000→FnP gam Tryd.prog 71 [.str s] (.int (chkC s)):=check_fn is_cluster_Check (by decide) k_valid k_cwidth k_marked
theorem k_runes:∀ s:ByteArray,s.size≤1000→FnP gam Tryd.prog 85 [.str s] (.d (.sl eRn (rnRows (runesC s)))):=runes_fn is_cluster_runes (by decide) k_check
theorem k_width:∀ s:ByteArray,s.size≤1000→FnP gam Tryd.prog 72 [.str s] (.int (widC s)):=cwidth_fn is_cluster_Width (by decide) k_runes k_cwidth
theorem k_sized:∀ w h,FnP gam Tryd.prog 46 [.int w,.int h] (.bool (szOk w h)):=sized_fn is_view_sized (by decide)
theorem k_glyph:∀ g:Gl,g.text.size≤1000→FnP gam Tryd.prog 47 [glA g] (.int (glyphC g)):=glyph_fn is_view_glyph (by decide) k_check k_width
theorem k_vw:∀ l:List Gl,FnP gam Tryd.prog 44 [.d (.sl eGl (glRows l))] (.int (widthN l)):=width_fn is_view_Width (by decide)
theorem k_vchk:VchkOk gam Tryd.prog 24:=fun v hs=>viewCheck_fn is_view_Check (by decide) k_sized k_glyph k_vw (blank_fn is_view_blank) v hs.txt
theorem k_trim:∀ l:List Gl,FnP gam Tryd.prog 73 [.d (.sl eGl (glRows l))] (.d (.sl eGl (glRows (trimGl l)))):=trim_fn is_view_Trim (by decide) is_view_blank is_slices_Clone_675 (by decide)
theorem k_cloneO:∀ l:List Gl,RowO Tryd.prog 51 (.d (.sl eGl (glRows l))) l:=cloneO_fn is_slices_Clone_675 (by decide)
theorem k_trimO:∀ l:List Gl,RowO Tryd.prog 73 (.d (.sl eGl (glRows l))) (trimGl l):=trimO_fn is_view_Trim_r (by decide) is_view_blank is_slices_Clone_675 (by decide)
theorem k_between:∀ n a b,FnP gam Tryd.prog 62 [.int n,.int a,.int b] (.bool (btw n a b)):=between_fn is_change_between (by decide)
theorem k_blank19:∀ c,FnP gam Tryd.prog 63 [cgA c] (.bool (blankG c)):=blank19_fn is_change_blank (by decide)
theorem k_proper:∀ g:Gl,g.text.size≤1000→FnP gam Tryd.prog 65 [glA g] (.int (glyphC g)):=proper_fn is_change_proper (by decide) k_check k_width k_between
theorem k_ranges:RangesOk gam.ctx Tryd.prog 64:=fun c ed _ sm hm _ _ _ _ hb e=>ranges_fn is_change_editor_ranges (by decide) k_between c ed sm hm hb e
theorem k_echeck:∀ {v:Vw} (c:Cg),Ed v→∀ {m:Nat},Sm v m→m≤100000→(∀ g∈c.gl,g.text.size≤1000)→∀ {h:Heap} {id k:Nat} {R:List (List A)},EdIs h id v k R→FnD gam.ctx Tryd.prog 42 [.ptr id 1 0 0,cgA c] h (.int (chgC v c)) h :=
 fun c ed _ sm hm hg _ _ _ _ e=>check19_fn is_change_editor_check (by decide) k_between k_blank19 k_ranges k_proper c ed sm hm hg (zI _) e
theorem k_growE:Enters Tryd.prog 88:=enters_ofE (by kernel_rfl)
theorem k_concatO:∀ ls:List (List Gl),ls.length≤1000→ls.flatten.length≤100000→RowO Tryd.prog 81 (.d (.sl eRw (rwRows ls))) ls.flatten:=fun ls h1 h2 Δ h hb =>
 concatO_fn is_slices_Concat_675 (by decide) (fun n hn h _=>growGl_fn Tryd.growR rfl k_growE (by kernel_rfl) n hn h) ls h1 h2 h hb
theorem k_size:EdStep gam.ctx Tryd.prog 66 (fun v c=>c.kind=1∧StepPre v c) stepV:=size_fn is_change_editor_size (by decide) k_vw k_trimO
theorem k_splice:EdStep gam.ctx Tryd.prog 68 (fun v c=>c.kind=3∧StepPre v c) stepV:=splice_fn is_change_editor_splice (by decide) k_concatO k_trimO
theorem k_cursor:EdStep gam.ctx Tryd.prog 69 (fun _ c=>c.kind=4) stepV:=cursor_fn is_change_editor_cursor (by decide)
theorem k_poss:∀ {Γ:Tabs} (n t b y:Int),n≤1000000000000000000→FnP Γ Tryd.prog 87 [.int n,.int t,.int b,.int y] (.bool (possB n t b y)):=fun n t b y h=>possible_fn is_scrolldiff_possible (by decide) n t b y h
theorem k_scroll:EdStep gam.ctx Tryd.prog 67 (fun v c=>c.kind=2∧StepPre v c) stepV:=scroll_fn is_change_editor_scroll (by decide)
 fun Δ' _ l t b y hp hl h hb=>scrRows_fn is_scrolldiff_Rows (by decide) k_poss k_cloneO (cloneN_fn is_slices_Clone_675 (by decide)) l t b y hp hl h hb
theorem k_apply1:EdStep gam.ctx Tryd.prog 43 StepPre stepV:=apply19_fn is_change_editor_apply (by decide) k_size k_scroll k_splice k_cursor
theorem k_openT:OpenTOk gam.ctx Tryd.prog 41:=fun w h1 h2 h=>open19T_fn is_change_open (by decide) (fun l hl h hb=>cloneRows_fn is_slices_Clone_164 (by decide) l hl h hb) k_cloneO w h1 h2 h (zI _)
theorem k_open:OpenOk gam.ctx Tryd.prog 41:=fun w h1 h2 h=>open19_fn is_change_open (by decide) (fun l hl h hb=>cloneRows_fn is_slices_Clone_164 (by decide) l hl h hb) k_cloneO w h1 h2 h (zI _)
theorem k_apN:ApNOk gam Tryd.prog 21:=fun v l hr hl=>applyN_fn (Δ:=gam.ctx) is_change_Apply (by decide) v l hr hl (k_vchk v hr.sm) (fun h1 h2 h=>k_open v h1 h2 h) k_echeck k_apply1 k_vw
theorem k_ap:ApOk gam Tryd.prog 21:=fun v l hr hl=>(k_apN v l hr hl).toP
theorem k_lens:∀ a b:List Gl,a.length≤50000→b.length≤50000→FnP gam Tryd.prog 94 [.d (.sl eGl (glRows a)),.d (.sl eGl (glRows b))] (.d (.sl eRw (lenD a b))):=lengths_fn is_editscript_lengths_365 (by decide)
theorem k_script:∀ a b:List Gl,a.length≤50000→b.length≤50000→FnP gam Tryd.prog 74 [.d (.sl eGl (glRows a)),.d (.sl eGl (glRows b))] (.d (.sl eEd (edsRows (scriptE a b)))):=fun a b ha hb =>
 script_fn (f1:=93) is_editscript_Script_365 (by decide) a b ha hb (walk_fn is_editscript_walk_365 (by decide) a b) (walk1_gen is_editscript_walk_365_1 (by decide) a b ha hb (k_lens a b ha hb))
theorem k_splices:∀ (row:Int) (a b:List Gl),a.length≤50000→b.length≤50000→FnP gam Tryd.prog 57 [.int row,.d (.sl eGl (glRows a)),.d (.sl eGl (glRows b))] (cgsA (splicesV row a b)):=fun row a b ha hb =>
 splices_fn is_rowdiff_Splices (by decide) k_trim row a b (eds_ok (Nat.le_trans (trim_len _) ha) (Nat.le_trans (trim_len _) hb)) (by omega) (k_script _ _ (Nat.le_trans (trim_len _) ha) (Nat.le_trans (trim_len _) hb))
  (fun l=>clone_fn is_slices_Clone_675 (by decide) _) (fun a b=>replace_fn is_rowdiff_Replace (by decide) k_trim row a b) (cost_fn is_rowdiff_Cost (by decide))
theorem k_greatV:∀ v:Vw,FnP gam Tryd.prog 45 [vwA v] (.bool (greatV v)):=great_fn is_ref15_Great (by decide) is_ref15_GreatRow (by decide)
theorem k_vsame:SameOk gam Tryd.prog 32:=same_fn is_ref15_Same (by decide) is_ref15_SameRow (by decide)
theorem k_vequal:SameOk gam Tryd.prog 14:=viewEqual_fn is_view_Equal (by decide) is_slices_EqualFunc_833 (by decide) is_slices_Equal_675 (by decide)
theorem k_sameRow:∀ a b:List Gl,FnP gam Tryd.prog 54 [.d (.sl eGl (glRows a)),.d (.sl eGl (glRows b))] (.bool (decide (a=b))):=sameRow_fn is_ref15_SameRow (by decide)
theorem k_rowEq:RowEqOk gam Tryd.prog 28:=equal_fn is_slices_Equal_675 (by decide)
theorem k_coll:CollOk gam Tryd.prog 36 56:=coll_ok is_slices_Collect_706 (by decide) is_slices_AppendSeq_772 (by decide) is_viewdiff_rest_1 (by decide) k_splices
theorem k_find:FindOk gam Tryd.prog 40:=find_ok is_scrolldiff_Find (by decide) is_scrolldiff_match (by decide) is_scrolldiff_gain (by decide) is_scrolldiff_candidate_better (by decide) is_scrolldiff_gain_1 (by decide) is_scrolldiff_gain_2 (by decide) is_scrolldiff_count (by decide) is_scrolldiff_equal (by decide) k_rowEq
theorem k_cost1:Cost1Ok gam Tryd.prog 58:=fun c hc=>by
 have:=cost_fn (Γ:=gam) is_rowdiff_Cost (by decide) [c] (by simp) (by simpa using hc)
 rw [costG_one] at this
 exact this
theorem k_cost20:CostOk gam Tryd.prog 39:=cost20_fn is_viewdiff_Cost (by decide) k_cost1
theorem k_diff:DiffOk gam Tryd.prog 20:=diff20_fn (f1:=56) is_viewdiff_Diff (by decide) k_vchk k_apN (fun x b=>rest_fn is_viewdiff_rest (by decide) x b) k_coll (fun l w hl hw h q hq=>diff1_fn is_viewdiff_Diff_1 (by decide) k_cost20 l w hl hw h q hq) k_find
theorem k_own:OwnOk gam Tryd.prog 26:=own_fn is_timeline_own (by decide) is_slices_Clone_164 (by decide) (fun rows=>clone_fn is_slices_Clone_675 (by decide) rows)
theorem k_copied:TCopyDOk gam Tryd.prog 30:=fun t h=>copied_fn (Δ:=gam.ctx) is_timeline_copied (by decide) k_own is_slices_Clone_424 (by decide) is_slices_Clone_772 (by decide) (fun rows=>clone_fn is_slices_Clone_675 (by decide) rows) t h (zI _)
theorem k_views:TViewsOk gam Tryd.prog 25 49:=⟨fun t=>views_fn is_timeline_views (by decide) t,fun t hok hf hl=>views1_gen is_timeline_views_1 (by decide) k_ap t hok hf hl⟩
theorem k_tcheck:TCheckOk gam Tryd.prog 11:=tcheck_fn is_timeline_Check (by decide) k_vchk k_ap
theorem k_tnew:TNewOk gam Tryd.prog 18:=tnew_fn is_timeline_New (by decide) k_vchk k_own
theorem k_tlast:TLastOk gam Tryd.prog 12:=tlast_fn is_timeline_Last (by decide)
theorem k_twhen:TWhenOk gam Tryd.prog 15:=twhen_fn is_timeline_When (by decide) k_tcheck
theorem k_final:TFinalOk gam Tryd.prog 29:=final_fn is_timeline_final (by decide) k_views
theorem k_drop:TDropOk gam Tryd.prog 31:=drop_fn is_timeline_drop (by decide) k_views
theorem k_tat:TAtOk gam Tryd.prog 13:=tat_fn is_timeline_At (by decide) k_tcheck k_views k_own
theorem k_tkeep:TKeepOk gam Tryd.prog 22:=tkeep_fn is_timeline_Keep (by decide) k_tcheck (tcopy_of k_copied) k_drop
theorem k_tadd:TAddOk gam Tryd.prog 16:=tadd_fn is_timeline_Add (by decide) k_tcheck k_vchk k_final k_copied k_vequal k_diff k_drop
theorem k_fine:FineOk gam Tryd.prog 23:=fine_fn is_law21_fine (by decide) k_greatV
theorem k_build:BuildOk gam Tryd.prog 9:=build_fn is_law21_build (by decide) k_fine k_vchk k_tnew k_tadd k_vequal
theorem aw_A:viewC awA=0:=by kernel_rfl
theorem aw_B:viewC awB=0:=by kernel_rfl
theorem awake_fn:FnP gam Tryd.prog 10 [] (.bool true):=awake21_fn is_law21_awake k_tnew k_tadd k_twhen k_tat k_tlast k_vequal aw_A aw_B
theorem li_V:viewC liV=0:=by kernel_rfl
theorem li_W:viewC liW=0:=by kernel_rfl
end Go.Proofs.YtlllnjhgjijnkaaDoor.Nx

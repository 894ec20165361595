/- The functions of this program are those of the definitions; the example that every statement checks. -/
import Derived.Test.YtigfbnglplbbpaaDoorNxCore
import Derived.Test.YtigfbnglplbbpaaDoorNxSound
import Derived.Test.YtigfbnglplbbpaaDoorNxSound2
import Derived.Test.YtigfbnglplbbpaaDoorNxSound4
import Derived.Test.YtigfbnglplbbpaaDoorNxSound6
import Derived.Test.YtigfbnglplbbpaaDoorNxComp
import Derived.Test.YtigfbnglplbbpaaDoorNxExec
import Derived.Test.YtigfbnglplbbpaaDoorNxDraw
import Derived.Test.YtigfbnglplbbpaaDoorNxStep
import Derived.Test.YtigfbnglplbbpaaDoorNxRegion
import Derived.Test.YtigfbnglplbbpaaDoorNxCode
import Derived.Test.YtigfbnglplbbpaaDoorNxFn
import Derived.Test.YtigfbnglplbbpaaDoorNxCheck
import Derived.Test.YtigfbnglplbbpaaDoorNxWalk
import Derived.Test.YtigfbnglplbbpaaDoorNxLink
import Derived.Test.YtigfbnglplbbpaaDoorNxEval
import Derived.Test.YtigfbnglplbbpaaDoorNxC1
import Derived.Test.YtigfbnglplbbpaaDoorNxV1
import Derived.Test.YtigfbnglplbbpaaDoorNxB0
import Derived.Test.YtigfbnglplbbpaaDoorNxP15a
import Derived.Test.YtigfbnglplbbpaaDoorNxP15i
import Derived.Test.YtigfbnglplbbpaaDoorNxG0
import Derived.Test.YtigfbnglplbbpaaDoorNxP15g
import Derived.Test.YtigfbnglplbbpaaDoorNxP15k
import Derived.Test.YtigfbnglplbbpaaDoorNxP15n
import Derived.Test.YtigfbnglplbbpaaDoorNxP15p
import Derived.Test.YtigfbnglplbbpaaDoorNxH0
import Derived.Test.YtigfbnglplbbpaaDoorNxE0
import Derived.Test.YtigfbnglplbbpaaDoorNxE2
import Derived.Test.YtigfbnglplbbpaaDoorNxW8
import Derived.Test.YtigfbnglplbbpaaDoorNxE6
import Derived.Test.YtigfbnglplbbpaaDoorNxE9
import Derived.Test.YtigfbnglplbbpaaDoorNxE13
import Derived.Test.YtigfbnglplbbpaaDoorNxE15
import Derived.Test.YtigfbnglplbbpaaDoorNxE19
import Derived.Test.YtigfbnglplbbpaaDoorNxE21
import Derived.Test.YtigfbnglplbbpaaDoorNxK3
import Derived.Test.YtigfbnglplbbpaaDoorNxT1
import Derived.Test.YtigfbnglplbbpaaDoorNxE30
import Derived.Test.YtigfbnglplbbpaaDoorNxI0
import Derived.Test.YtigfbnglplbbpaaDoorNxI2
import Derived.Test.YtigfbnglplbbpaaDoorNxI4
import Derived.Test.YtigfbnglplbbpaaDoorNxI6
import Derived.Test.YtigfbnglplbbpaaDoorNxE39
import Derived.Test.YtigfbnglplbbpaaDoorNxI8
import Derived.Test.YtigfbnglplbbpaaDoorNxI14
import Derived.Test.YtigfbnglplbbpaaDoorNxI10
import Derived.Test.YtigfbnglplbbpaaDoorNxC3
import Derived.Test.YtigfbnglplbbpaaDoorNxI17
import Derived.Test.YtigfbnglplbbpaaDoorNxDL
import Derived.Test.YtigfbnglplbbpaaDoorNxD15
import Derived.Test.YtigfbnglplbbpaaDoorRows
import Derived.KernelRfl
import Derived.Ground.NamesProg
import Derived.Shelf.Lay
import Derived.Shelf.Unicode.ValidAny
import Derived.Shelf.Spec.SlicesGrow
import Derived.Ground.Names7Prog
set_option linter.unusedSimpArgs false
set_option linter.unusedVariables false
set_option linter.unnecessarySimpa false
open Nat renaming zero_le → zI
open List renaming mem_cons_self → zW, mem_cons_of_mem → zZ
namespace Go.Proofs.YtigfbnglplbbpaaDoor
open Go.RowKit Go.Shelf Go.Lib
shelf_lay Lays.n196 Nm 196 at Tryd as Tryd.laysValid
end Go.Proofs.YtigfbnglplbbpaaDoor
namespace Go.Proofs.YtigfbnglplbbpaaDoor
open Go.RowKit Go.Shelf Go.Lib
shelf_lay_g Lays8.n4 Nm8 4 at Tryd 87 as Tryd.growR
end Go.Proofs.YtigfbnglplbbpaaDoor
namespace Go.Proofs.YtigfbnglplbbpaaDoor.Nx
open Go
theorem is_law20_ViewdiffUndone:FnIs Tryd.prog 9 44 [.t 4] (x_law20_ViewdiffUndone 10 11 13 24 12 14):=.of (by kernel_rfl)
theorem is_law20_small:FnIs Tryd.prog 10 23 [.t 4] (x_law20_small 15 25):=.of (by kernel_rfl)
theorem is_law20_awake:FnIs Tryd.prog 11 48 [.t 0] (x_law20_awake 26 13 17):=.of (by kernel_rfl)
theorem is_change_Apply:FnIs Tryd.prog 12 64 [.c 4 6 true,.t 5,.t 6] (x_change_Apply 27 28 29 30 31):=.of (by kernel_rfl)
theorem is_viewdiff_Diff:FnIs Tryd.prog 13 87 [.t 4] (x_viewdiff_Diff 27 12 33 32 34 35):=.of (by kernel_rfl)
theorem is_ref15_Same:FnIs Tryd.prog 14 67 [.t 4] (x_ref15_Same 36):=.of (by kernel_rfl)
theorem is_ref15_Great:FnIs Tryd.prog 15 32 [.t 2] (x_ref15_Great 37):=.of (by kernel_rfl)
theorem is_ref19_Great:FnIs Tryd.prog 16 19 [.t 2] (x_ref19_Great 37):=.of (by kernel_rfl)
theorem is_viewdiff_Cost:FnIs Tryd.prog 17 36 [.t 2] (x_viewdiff_Cost 22):=.of (by kernel_rfl)
theorem is_rowdiff_Cost:FnIs Tryd.prog 22 25 [.t 2] x_rowdiff_Cost:=.of (by kernel_rfl)
theorem is_rowdiff_Splices:FnIs Tryd.prog 23 64 [.t 6] (x_rowdiff_Splices 40 41 42 43 22):=.of (by kernel_rfl)
theorem is_change_Inverse:FnIs Tryd.prog 24 114 [.t 4,.t 5] (x_change_Inverse 12 28 30 23):=.of (by kernel_rfl)
theorem is_ref15_Check:FnIs Tryd.prog 25 84 [.t 2] (x_ref15_Check 44 45 46 47):=.of (by kernel_rfl)
theorem is_law20_column:FnIs Tryd.prog 26 26 [.c 2 6 true] x_law20_column:=.of (by kernel_rfl)
theorem is_view_Check:FnIs Tryd.prog 27 84 [.t 2] (x_view_Check 48 49 31 50):=.of (by kernel_rfl)
theorem is_change_open:FnIs Tryd.prog 28 27 [.t 2] (x_change_open 51 42):=.of (by kernel_rfl)
theorem is_change_editor_check:FnIs Tryd.prog 29 35 [.t 4] (x_change_editor_check 52 53 54 55):=.of (by kernel_rfl)
theorem is_change_editor_apply:FnIs Tryd.prog 30 14 [] (x_change_editor_apply 56 57 58 59):=.of (by kernel_rfl)
theorem is_view_Width:FnIs Tryd.prog 31 20 [.t 2] x_view_Width:=.of (by kernel_rfl)
theorem is_slices_Collect_706:FnIs Tryd.prog 32 5 [.t 2] (x_slices_Collect_706 60):=.of (by kernel_rfl)
theorem is_viewdiff_rest:FnIs Tryd.prog 33 6 [.t 4] (x_viewdiff_rest 61):=.of (by kernel_rfl)
theorem is_viewdiff_Diff_1:FnIs Tryd.prog 34 9 [.t 3] (x_viewdiff_Diff_1 17):=.of (by kernel_rfl)
theorem is_scrolldiff_Find:FnIs Tryd.prog 35 83 [.c 4 6 true,.t 5] (x_scrolldiff_Find 62 63 64):=.of (by kernel_rfl)
theorem is_ref15_SameRow:FnIs Tryd.prog 36 26 [.t 4] x_ref15_SameRow:=.of (by kernel_rfl)
theorem is_ref15_GreatRow:FnIs Tryd.prog 37 20 [.t 2] x_ref15_GreatRow:=.of (by kernel_rfl)
theorem is_slices_Equal_675:FnIs Tryd.prog 39 26 [.t 4] x_slices_Equal_675:=.of (by kernel_rfl)
theorem is_view_Trim:FnIs Tryd.prog 40 23 [.t 2] (x_view_Trim 50 42):=.of (by kernel_rfl)
theorem is_view_Trim_r:FnIs Tryd.prog 40 23 [.t 2] (x_view_Trim_r 50 42):=.of (by kernel_rfl)
theorem is_editscript_Script_365:FnIs Tryd.prog 41 57 [.t 4] (x_editscript_Script_365 65):=.of (by kernel_rfl)
theorem is_slices_Clone_675:FnIs Tryd.prog 42 8 [.t 2] x_slices_Clone_675:=.of (by kernel_rfl)
theorem is_rowdiff_Replace:FnIs Tryd.prog 43 14 [.c 6 6 true] (x_rowdiff_Replace 40):=.of (by kernel_rfl)
theorem is_ref15_Size:FnIs Tryd.prog 44 19 [.t 4] x_ref15_Size:=.of (by kernel_rfl)
theorem is_ref15_Glyph:FnIs Tryd.prog 45 34 [.t 2] (x_ref15_Glyph 66 67):=.of (by kernel_rfl)
theorem is_ref15_Width:FnIs Tryd.prog 46 21 [.t 2] x_ref15_Width:=.of (by kernel_rfl)
theorem is_ref15_blank:FnIs Tryd.prog 47 6 [.t 2] x_ref15_blank:=.of (by kernel_rfl)
theorem is_view_sized:FnIs Tryd.prog 48 19 [.t 4] x_view_sized:=.of (by kernel_rfl)
theorem is_view_glyph:FnIs Tryd.prog 49 34 [.t 2] (x_view_glyph 68 69):=.of (by kernel_rfl)
theorem is_view_blank:FnIs Tryd.prog 50 2 [.c 0 3 true] x_view_blank:=.of (by kernel_rfl)
theorem is_slices_Clone_164:FnIs Tryd.prog 51 8 [.t 2] x_slices_Clone_164:=.of (by kernel_rfl)
theorem is_change_between:FnIs Tryd.prog 52 15 [.t 6] x_change_between:=.of (by kernel_rfl)
theorem is_change_blank:FnIs Tryd.prog 53 46 [.t 2] x_change_blank:=.of (by kernel_rfl)
theorem is_change_editor_ranges:FnIs Tryd.prog 54 124 [.t 4] (x_change_editor_ranges 52):=.of (by kernel_rfl)
theorem is_change_proper:FnIs Tryd.prog 55 30 [.t 2] (x_change_proper 68 69 52):=.of (by kernel_rfl)
theorem is_change_editor_size:FnIs Tryd.prog 56 134 [] (x_change_editor_size 31 40):=.of (by kernel_rfl)
theorem is_change_editor_scroll:FnIs Tryd.prog 57 28 [] (x_change_editor_scroll 70):=.of (by kernel_rfl)
theorem is_change_editor_splice:FnIs Tryd.prog 58 47 [] (x_change_editor_splice 71 40):=.of (by kernel_rfl)
theorem is_change_editor_cursor:FnIs Tryd.prog 59 23 [] x_change_editor_cursor:=.of (by kernel_rfl)
theorem is_slices_AppendSeq_772:FnIs Tryd.prog 60 13 [.t 4] x_slices_AppendSeq_772:=.of (by kernel_rfl)
theorem is_viewdiff_rest_1:FnIs Tryd.prog 61 67 [] (x_viewdiff_rest_1 23):=.of (by kernel_rfl)
theorem is_scrolldiff_match:FnIs Tryd.prog 62 26 [.t 4] x_scrolldiff_match:=.of (by kernel_rfl)
theorem is_scrolldiff_gain:FnIs Tryd.prog 63 22 [.t 10] (x_scrolldiff_gain 73 72 75):=.of (by kernel_rfl)
theorem is_scrolldiff_candidate_better:FnIs Tryd.prog 64 72 [.t 4] x_scrolldiff_candidate_better:=.of (by kernel_rfl)
theorem is_editscript_walk_365:FnIs Tryd.prog 65 6 [.t 4] (x_editscript_walk_365 76):=.of (by kernel_rfl)
theorem is_ref03_Check:FnIs Tryd.prog 66 40 [.t 2] (x_ref03_Check 78 79 80 81):=.of (by kernel_rfl)
theorem is_ref03_Width:FnIs Tryd.prog 67 11 [.t 2] (x_ref03_Width 66 79 81):=.of (by kernel_rfl)
theorem is_cluster_Check:FnIs Tryd.prog 68 30 [.t 2] (x_cluster_Check 82 83 84):=.of (by kernel_rfl)
theorem is_cluster_Width:FnIs Tryd.prog 69 13 [.t 2] (x_cluster_Width 85 83):=.of (by kernel_rfl)
theorem is_scrolldiff_Rows:FnIs Tryd.prog 70 58 [.t 8,.t 9] (x_scrolldiff_Rows 86 42):=.of (by kernel_rfl)
theorem is_slices_Concat_675:FnIs Tryd.prog 71 36 [.t 2] (x_slices_Concat_675 87):=.of (by kernel_rfl)
theorem is_scrolldiff_count:FnIs Tryd.prog 72 21 [.t 6] x_scrolldiff_count:=.of (by kernel_rfl)
theorem is_scrolldiff_gain_1:FnIs Tryd.prog 73 38 [.t 7] (x_scrolldiff_gain_1 74):=.of (by kernel_rfl)
theorem is_scrolldiff_equal:FnIs Tryd.prog 74 8 [.t 4] (x_scrolldiff_equal 39):=.of (by kernel_rfl)
theorem is_scrolldiff_gain_2:FnIs Tryd.prog 75 16 [.t 4] (x_scrolldiff_gain_2 74):=.of (by kernel_rfl)
theorem is_editscript_walk_365_1:FnIs Tryd.prog 76 88 [] (x_editscript_walk_365_1 77):=.of (by kernel_rfl)
theorem is_editscript_lengths_365:FnIs Tryd.prog 77 90 [.t 4] x_editscript_lengths_365:=.of (by kernel_rfl)
theorem is_ref01_Valid:FnIs Tryd.prog 78 18 [.t 2] (x_ref01_Valid 88 89):=.of (by kernel_rfl)
theorem is_ref03_Characters:FnIs Tryd.prog 79 11 [.t 2] (x_ref03_Characters 88):=.of (by kernel_rfl)
theorem is_ref02_Mark:FnIs Tryd.prog 80 6 [.t 2] (x_ref02_Mark 91 90):=.of (by kernel_rfl)
theorem is_ref02_Width:FnIs Tryd.prog 81 21 [.t 2] (x_ref02_Width 80 92 90):=.of (by kernel_rfl)
theorem is_utf8stream_Valid:FnIs Tryd.prog 82 5 [.t 2] (x_utf8stream_Valid 93):=.of (by kernel_rfl)
theorem is_charwidth_Width:FnIs Tryd.prog 83 22 [.t 2] (x_charwidth_Width 94 96 95):=.of (by kernel_rfl)
theorem is_cluster_marked:FnIs Tryd.prog 84 15 [.t 2] (x_cluster_marked 94):=.of (by kernel_rfl)
theorem is_cluster_runes:FnIs Tryd.prog 85 8 [.t 2] (x_cluster_runes 68):=.of (by kernel_rfl)
theorem is_scrolldiff_possible:FnIs Tryd.prog 86 39 [.t 8] x_scrolldiff_possible:=.of (by kernel_rfl)
theorem is_ref01_Decode:FnIs Tryd.prog 88 96 [.t 4,.t 5] (x_ref01_Decode 97 98):=.of (by kernel_rfl)
theorem is_ref01_Encode:FnIs Tryd.prog 89 95 [.t 2] x_ref01_Encode:=.of (by kernel_rfl)
theorem is_ref02_in:FnIs Tryd.prog 90 28 [.t 4] x_ref02_in:=.of (by kernel_rfl)
theorem is_ref02_Marks:FnIs Tryd.prog 91 9 [.t 0] x_ref02_Marks:=.of (by kernel_rfl)
theorem is_ref02_Wide:FnIs Tryd.prog 92 16 [.t 0] x_ref02_Wide:=.of (by kernel_rfl)
theorem is_unicode_utf8_ValidString:FnIs Tryd.prog 93 169 [.t 2] (x_unicode_utf8_ValidString 99):=.of (by kernel_rfl)
theorem is_charwidth_Mark:FnIs Tryd.prog 94 7 [.t 2] (x_charwidth_Mark 100 95):=.of (by kernel_rfl)
theorem is_charwidth_finder:FnIs Tryd.prog 95 4 [.t 2] (x_charwidth_finder 101):=.of (by kernel_rfl)
theorem is_charwidth_Wide:FnIs Tryd.prog 96 16 [.t 0] x_charwidth_Wide:=.of (by kernel_rfl)
theorem is_ref01_limits:FnIs Tryd.prog 97 61 [.t 2,.t 3,.t 4] x_ref01_limits:=.of (by kernel_rfl)
theorem is_ref01_value:FnIs Tryd.prog 98 44 [.t 2] x_ref01_value:=.of (by kernel_rfl)
theorem is_unicode_utf8_word_69:FnIs Tryd.prog 99 59 [.t 2] x_unicode_utf8_word_69:=.of (by kernel_rfl)
theorem is_charwidth_marks:FnIs Tryd.prog 100 9 [.t 0] x_charwidth_marks:=.of (by kernel_rfl)
theorem is_charwidth_finder_1:FnIs Tryd.prog 101 39 [.t 3] x_charwidth_finder_1:=.of (by kernel_rfl)
def fnsE:List (FuncId × FnE):=[
  (11,⟨48,[.t 0],(x_law20_awake 26 13 17)⟩),
  (17,⟨36,[.t 2],(x_viewdiff_Cost 22)⟩),
  (22,⟨25,[.t 2],x_rowdiff_Cost⟩),
  (26,⟨26,[.c 2 6 true],x_law20_column⟩)]
theorem fnsE_ok:∀ p∈fnsE,FnIs Tryd.prog p.1 p.2.N p.2.res p.2.code:=by
  intro p hp
  simp only [fnsE,List.mem_cons,List.not_mem_nil,or_false] at hp
  rcases hp with rfl | rfl | rfl | rfl
  · exact is_law20_awake
  · exact is_viewdiff_Cost
  · exact is_rowdiff_Cost
  · exact is_law20_column
/-- The tables that the rows list. -/
def gam:Tabs:=[(1,tabAccept),(0,tabFirst)]
theorem gam_is : tabsOf Tryd.prog [("unicode/utf8.acceptRanges", Rows.laid_unicode_utf8_acceptRanges), ("unicode/utf8.first", Rows.laid_unicode_utf8_first)] = some gam := by kernel_rfl
def isTrue:Option A→Bool
  | some (.d (.sc (.bool true)))=>true
  | _=>false
theorem isTrue_some {x:Option A} (h:isTrue x=true):x=some (.bool true):=by
  unfold isTrue at h
  split at h
  · rfl
  · cases h
theorem k_vs:∀ s:ByteArray,s.size≤1000→FnP gam Tryd.prog 93 [.str s] (.bool (validS s)) :=
  validString_fn Tryd.laysValid rfl is_unicode_utf8_ValidString (by rw [show Tryd.laysValid_ren.g 3=0 from rfl];exact zZ _ (zW ..)) (by rw [show Tryd.laysValid_ren.g 4=1 from rfl];exact zW ..)
theorem k_mark:∀ r,FnP gam Tryd.prog 94 [.sc (.int .i32 r)] (.bool (markC r)):=mark_fn is_charwidth_Mark (by decide) is_charwidth_marks is_charwidth_finder (by decide) is_charwidth_finder_1 (by decide)
theorem k_cwidth:∀ r,FnP gam Tryd.prog 83 [.sc (.int .i32 r)] (.int (widthC r)):=widthC_fn is_charwidth_Width (by decide) is_charwidth_Mark (by decide) is_charwidth_marks is_charwidth_Wide is_charwidth_finder (by decide) is_charwidth_finder_1 (by decide)
theorem k_marked:∀ l:List Nat,FnP gam Tryd.prog 84 [.d (.sl eRn (rnRows l))] (.bool (l.all fun n=>markC n)):=marked_fn is_cluster_marked (by decide) k_mark
theorem k_valid:∀ s:ByteArray,s.size≤1000→FnP gam Tryd.prog 82 [.str s] (.bool (validS s)):=valid_fn is_utf8stream_Valid (by decide) k_vs
theorem k_check:∀ s:ByteArray,s.size≤1000→FnP gam Tryd.prog 68 [.str s] (.int (chkC s)):=check_fn is_cluster_Check (by decide) k_valid k_cwidth k_marked
theorem k_runes:∀ s:ByteArray,s.size≤1000→FnP gam Tryd.prog 85 [.str s] (.d (.sl eRn (rnRows (runesC s)))):=runes_fn is_cluster_runes (by decide) k_check
theorem k_width:∀ s:ByteArray,s.size≤1000→FnP gam Tryd.prog 69 [.str s] (.int (widC s)):=cwidth_fn is_cluster_Width (by decide) k_runes k_cwidth
theorem k_sized:∀ w h,FnP gam Tryd.prog 48 [.int w,.int h] (.bool (szOk w h)):=sized_fn is_view_sized (by decide)
theorem k_glyph:∀ g:Gl,g.text.size≤1000→FnP gam Tryd.prog 49 [glA g] (.int (glyphC g)):=glyph_fn is_view_glyph (by decide) k_check k_width
theorem k_vw:∀ l:List Gl,FnP gam Tryd.prog 31 [.d (.sl eGl (glRows l))] (.int (widthN l)):=width_fn is_view_Width (by decide)
theorem k_vchk:VchkOk gam Tryd.prog 27:=fun v hs=>viewCheck_fn is_view_Check (by decide) k_sized k_glyph k_vw (blank_fn is_view_blank) v hs.txt
theorem k_trim:∀ l:List Gl,FnP gam Tryd.prog 40 [.d (.sl eGl (glRows l))] (.d (.sl eGl (glRows (trimGl l)))):=trim_fn is_view_Trim (by decide) is_view_blank is_slices_Clone_675 (by decide)
theorem k_cloneO:∀ l:List Gl,RowO Tryd.prog 42 (.d (.sl eGl (glRows l))) l:=cloneO_fn is_slices_Clone_675 (by decide)
theorem k_trimO:∀ l:List Gl,RowO Tryd.prog 40 (.d (.sl eGl (glRows l))) (trimGl l):=trimO_fn is_view_Trim_r (by decide) is_view_blank is_slices_Clone_675 (by decide)
theorem k_between:∀ n a b,FnP gam Tryd.prog 52 [.int n,.int a,.int b] (.bool (btw n a b)):=between_fn is_change_between (by decide)
theorem k_blank19:∀ c,FnP gam Tryd.prog 53 [cgA c] (.bool (blankG c)):=blank19_fn is_change_blank (by decide)
theorem k_proper:∀ g:Gl,g.text.size≤1000→FnP gam Tryd.prog 55 [glA g] (.int (glyphC g)):=proper_fn is_change_proper (by decide) k_check k_width k_between
theorem k_ranges:RangesOk gam.ctx Tryd.prog 54:=fun c ed _ sm hm _ _ _ _ hb e=>ranges_fn is_change_editor_ranges (by decide) k_between c ed sm hm hb e
theorem k_echeck:∀ {v:Vw} (c:Cg),Ed v→∀ {m:Nat},Sm v m→m≤100000→(∀ g∈c.gl,g.text.size≤1000)→∀ {h:Heap} {id k:Nat} {R:List (List A)},EdIs h id v k R→FnD gam.ctx Tryd.prog 29 [.ptr id 1 0 0,cgA c] h (.int (chgC v c)) h :=
  fun c ed _ sm hm hg _ _ _ _ e=>check19_fn is_change_editor_check (by decide) k_between k_blank19 k_ranges k_proper c ed sm hm hg (zI _) e
theorem k_growE:Enters Tryd.prog 87:=enters_ofE (by kernel_rfl)
theorem k_concatO:∀ ls:List (List Gl),ls.length≤1000→ls.flatten.length≤100000→RowO Tryd.prog 71 (.d (.sl eRw (rwRows ls))) ls.flatten:=fun ls h1 h2 Δ h hb =>
  concatO_fn is_slices_Concat_675 (by decide) (fun n hn h _=>growGl_fn Tryd.growR rfl k_growE (by kernel_rfl) n hn h) ls h1 h2 h hb
theorem k_size:EdStep gam.ctx Tryd.prog 56 (fun v c=>c.kind=1∧StepPre v c) stepV:=size_fn is_change_editor_size (by decide) k_vw k_trimO
theorem k_splice:EdStep gam.ctx Tryd.prog 58 (fun v c=>c.kind=3∧StepPre v c) stepV:=splice_fn is_change_editor_splice (by decide) k_concatO k_trimO
theorem k_cursor:EdStep gam.ctx Tryd.prog 59 (fun _ c=>c.kind=4) stepV:=cursor_fn is_change_editor_cursor (by decide)
theorem k_poss:∀ {Γ:Tabs} (n t b y:Int),n≤1000000000000000000→FnP Γ Tryd.prog 86 [.int n,.int t,.int b,.int y] (.bool (possB n t b y)):=fun n t b y h=>possible_fn is_scrolldiff_possible (by decide) n t b y h
theorem k_scroll:EdStep gam.ctx Tryd.prog 57 (fun v c=>c.kind=2∧StepPre v c) stepV:=scroll_fn is_change_editor_scroll (by decide)
  fun Δ' _ l t b y hp hl h hb=>scrRows_fn is_scrolldiff_Rows (by decide) k_poss k_cloneO (cloneN_fn is_slices_Clone_675 (by decide)) l t b y hp hl h hb
theorem k_apply1:EdStep gam.ctx Tryd.prog 30 StepPre stepV:=apply19_fn is_change_editor_apply (by decide) k_size k_scroll k_splice k_cursor
theorem k_openT:OpenTOk gam.ctx Tryd.prog 28:=fun w h1 h2 h=>open19T_fn is_change_open (by decide) (fun l hl h hb=>cloneRows_fn is_slices_Clone_164 (by decide) l hl h hb) k_cloneO w h1 h2 h (zI _)
theorem k_open:OpenOk gam.ctx Tryd.prog 28:=fun w h1 h2 h=>open19_fn is_change_open (by decide) (fun l hl h hb=>cloneRows_fn is_slices_Clone_164 (by decide) l hl h hb) k_cloneO w h1 h2 h (zI _)
theorem k_apN:ApNOk gam Tryd.prog 12:=fun v l hr hl=>applyN_fn (Δ:=gam.ctx) is_change_Apply (by decide) v l hr hl (k_vchk v hr.sm) (fun h1 h2 h=>k_open v h1 h2 h) k_echeck k_apply1 k_vw
theorem k_ap:ApOk gam Tryd.prog 12:=fun v l hr hl=>(k_apN v l hr hl).toP
theorem k_lens:∀ a b:List Gl,a.length≤50000→b.length≤50000→FnP gam Tryd.prog 77 [.d (.sl eGl (glRows a)),.d (.sl eGl (glRows b))] (.d (.sl eRw (lenD a b))):=lengths_fn is_editscript_lengths_365 (by decide)
theorem k_script:∀ a b:List Gl,a.length≤50000→b.length≤50000→FnP gam Tryd.prog 41 [.d (.sl eGl (glRows a)),.d (.sl eGl (glRows b))] (.d (.sl eEd (edsRows (scriptE a b)))):=fun a b ha hb =>
  script_fn (f1:=76) is_editscript_Script_365 (by decide) a b ha hb (walk_fn is_editscript_walk_365 (by decide) a b) (walk1_gen is_editscript_walk_365_1 (by decide) a b ha hb (k_lens a b ha hb))
theorem k_splices:∀ (row:Int) (a b:List Gl),a.length≤50000→b.length≤50000→FnP gam Tryd.prog 23 [.int row,.d (.sl eGl (glRows a)),.d (.sl eGl (glRows b))] (cgsA (splicesV row a b)):=fun row a b ha hb =>
  splices_fn is_rowdiff_Splices (by decide) k_trim row a b (eds_ok (Nat.le_trans (trim_len _) ha) (Nat.le_trans (trim_len _) hb)) (by omega) (k_script _ _ (Nat.le_trans (trim_len _) ha) (Nat.le_trans (trim_len _) hb))
    (fun l=>clone_fn is_slices_Clone_675 (by decide) _) (fun a b=>replace_fn is_rowdiff_Replace (by decide) k_trim row a b) (cost_fn is_rowdiff_Cost (by decide))
theorem k_inv:InvOk gam Tryd.prog 24:=fun v l hr hl hw=>inverse_fn is_change_Inverse (by decide) v l hr.sm hw (k_ap v l hr hl) k_open k_apply1 k_splices
theorem k_great19:∀ l:List Cg,FnP gam Tryd.prog 16 [cgsA l] (.bool (greatL l)):=great19_fn is_ref19_Great (by decide) (greatRow_fn is_ref15_GreatRow (by decide))
theorem k_greatV:∀ v:Vw,FnP gam Tryd.prog 15 [vwA v] (.bool (greatV v)):=great_fn is_ref15_Great (by decide) is_ref15_GreatRow (by decide)
theorem k_vsame:SameOk gam Tryd.prog 14:=same_fn is_ref15_Same (by decide) is_ref15_SameRow (by decide)
theorem k_sameRow:∀ a b:List Gl,FnP gam Tryd.prog 36 [.d (.sl eGl (glRows a)),.d (.sl eGl (glRows b))] (.bool (decide (a=b))):=sameRow_fn is_ref15_SameRow (by decide)
theorem k_rowEq:RowEqOk gam Tryd.prog 39:=equal_fn is_slices_Equal_675 (by decide)
theorem k_coll:CollOk gam Tryd.prog 32 61:=coll_ok is_slices_Collect_706 (by decide) is_slices_AppendSeq_772 (by decide) is_viewdiff_rest_1 (by decide) k_splices
theorem k_find:FindOk gam Tryd.prog 35:=find_ok is_scrolldiff_Find (by decide) is_scrolldiff_match (by decide) is_scrolldiff_gain (by decide) is_scrolldiff_candidate_better (by decide) is_scrolldiff_gain_1 (by decide) is_scrolldiff_gain_2 (by decide) is_scrolldiff_count (by decide) is_scrolldiff_equal (by decide) k_rowEq
theorem k_cost1:Cost1Ok gam Tryd.prog 22:=fun c hc=>by
  have:=cost_fn (Γ:=gam) is_rowdiff_Cost (by decide) [c] (by simp) (by simpa using hc)
  rw [costG_one] at this
  exact this
theorem k_cost20:CostOk gam Tryd.prog 17:=cost20_fn is_viewdiff_Cost (by decide) k_cost1
theorem k_diff:DiffOk gam Tryd.prog 13:=diff20_fn (f1:=61) is_viewdiff_Diff (by decide) k_vchk k_apN (fun x b=>rest_fn is_viewdiff_rest (by decide) x b) k_coll (fun l w hl hw h q hq=>diff1_fn is_viewdiff_Diff_1 (by decide) k_cost20 l w hl hw h q hq) k_find
theorem k_dec:∀ s:ByteArray,s.size≤1000→FnP gam Tryd.prog 88 [.str ⟨#[]⟩,.str s] (decA (toN s.data.toList)):=decode_fn is_ref01_Decode (by decide) is_ref01_limits (by decide) is_ref01_value (by decide)
theorem k_enc:∀ l:List Int,l.length≤1000→FnP gam Tryd.prog 89 [.d (.sl eRu (irRows l))] (.str (numS (encL l))):=encode_fn is_ref01_Encode (by decide)
theorem k_rvalid:∀ s:ByteArray,s.size≤1000→FnP gam Tryd.prog 78 [.str s] (.bool (validS s)):=refValid_fn is_ref01_Valid (by decide) k_dec k_enc
theorem k_chars:∀ s:ByteArray,s.size≤1000→validS s=true→FnP gam Tryd.prog 79 [.str s] (.d (.sl eRn (rnRows (runesOf s)))):=refChars_fn is_ref03_Characters (by decide) k_dec
theorem k_mark2:∀ r,FnP gam Tryd.prog 80 [.sc (.int .i32 r)] (.bool (markC r)):=mark2_fn is_ref02_Mark (by decide) is_ref02_Marks is_ref02_in (by decide)
theorem k_width2:∀ r,FnP gam Tryd.prog 81 [.sc (.int .i32 r)] (.int (widthC r)):=width2_fn is_ref02_Width (by decide) is_ref02_Mark (by decide) is_ref02_Marks is_ref02_Wide is_ref02_in (by decide)
theorem k_check3:∀ s:ByteArray,s.size≤1000→FnP gam Tryd.prog 66 [.str s] (.int (chkC s)):=check3_fn is_ref03_Check (by decide) k_rvalid k_chars k_mark2 k_width2
theorem k_cw3:∀ s:ByteArray,s.size≤1000→FnP gam Tryd.prog 67 [.str s] (.int (widC s)):=cwidth3_fn is_ref03_Width (by decide) k_check3 k_chars k_width2
theorem k_rsz:∀ w h,FnP gam Tryd.prog 44 [.int w,.int h] (.bool (szOk w h)):=sized_fn is_ref15_Size (by decide)
theorem k_rgl:∀ g:Gl,g.text.size≤1000→FnP gam Tryd.prog 45 [glA g] (.int (glyphC g)):=glyph_fn (fc:=66) (fw:=67) is_ref15_Glyph (by decide) k_check3 k_cw3
theorem k_rwd:∀ l:List Gl,FnP gam Tryd.prog 46 [.d (.sl eGl (glRows l))] (.int (widthN l)):=refWidth_fn is_ref15_Width (by decide)
theorem k_rbl:∀ g,FnP gam Tryd.prog 47 [glA g] (.bool (decide (g=spaceGl))):=refBlankG_fn is_ref15_blank (by decide)
theorem k_rvchk:VchkOk gam Tryd.prog 25:=fun v hs=>refCheck_fn is_ref15_Check (by decide) k_rsz k_rgl k_rwd k_rbl v hs.txt
theorem k_small:SmallOk gam Tryd.prog 10:=small20_fn is_law20_small (by decide) k_greatV k_rvchk
def diffA (a b:Vw):A:=cgsA (diffV a b)
theorem ext_ok:∀ f args r,extVV 13 diffA f args=some r→FnP gam Tryd.prog f args r:=extVV_ok fun a b ha hb=>k_diff a b (greatV_sm ha).1 (greatV_sm hb).1
set_option maxRecDepth 100000 in
theorem awake_run:isTrue ((orcE fnsE (extVV 13 diffA) ⟨3,32⟩ (tabS gam) 300 30).pure 11 [])=true:=by kernel_rfl
theorem awake_fn:FnP gam Tryd.prog 11 [] (.bool true):=(orcE_ok fnsE_ok ext_ok 30).pure _ _ _ (isTrue_some awake_run)
/-! ### Arguments -/
def tGlyph:Ty:=.st [.str,.bool,.int .i64]
def tGlyphs:Ty:=.sl ⟨3,32⟩ tGlyph
theorem glyph_of {xs:List D} (h:WT tGlyph xs):∃ g:Gl,xs=g.row:=by
  obtain ⟨a,b,rfl,⟨s,rfl,_⟩,a2,b2,rfl,⟨w,rfl⟩,a3,b3,rfl,⟨n,rfl,_⟩,rfl⟩:=h
  exact ⟨⟨s,w,n⟩,rfl⟩
theorem rows_of:∀ {rows:List (List D)},(∀ r∈rows,WT tGlyph r)→∃ l:List Gl,rows=glRows l
  | [],_=>⟨[],rfl⟩
  | r::rows,h=>by
    obtain ⟨g,rfl⟩:=glyph_of (h r (zW ..))
    obtain ⟨l,rfl⟩:=rows_of fun r hr=>h r (zZ _ hr)
    exact ⟨g::l,rfl⟩
theorem glyphs_of {xs:List D} (h:WT tGlyphs xs):∃ l:List Gl,xs=[.sl eGl (glRows l)]:=by
  obtain ⟨rows,rfl,hr⟩:=h
  obtain ⟨l,rfl⟩:=rows_of hr
  exact ⟨l,rfl⟩
def tView:Ty:=.st [.int .i64,.int .i64,.sl ⟨1,24⟩ tGlyphs,.int .i64,.int .i64,.bool]
theorem vrows_of:∀ {rows:List (List D)},(∀ r∈rows,WT tGlyphs r)→∃ l:List (List Gl),rows=rwRows l
  | [],_=>⟨[],rfl⟩
  | r::rows,h=>by
    obtain ⟨g,rfl⟩:=glyphs_of (h r (zW ..))
    obtain ⟨l,rfl⟩:=vrows_of fun r hr=>h r (zZ _ hr)
    exact ⟨g::l,rfl⟩
theorem view_of {xs:List D} (h:WT tView xs):∃ v:Vw,xs=v.ds:=by
  obtain ⟨_,_,rfl,⟨w,rfl,_⟩,_,_,rfl,⟨h,rfl,_⟩,_,_,rfl,⟨rows,rfl,hr⟩,_,_,rfl,⟨r,rfl,_⟩,_,_,rfl,⟨c,rfl,_⟩,_,_,rfl,⟨b,rfl⟩,rfl⟩:=h
  obtain ⟨l,rfl⟩:=vrows_of hr
  exact ⟨⟨w,h,l,r,c,b⟩,rfl⟩
def tChange:Ty:=.st [.int .i64,.int .i64,.int .i64,.int .i64,.int .i64,tGlyphs]
def tChanges:Ty:=.sl ⟨6,64⟩ tChange
theorem change_of {xs:List D} (h:WT tChange xs):∃ c:Cg,xs=c.ds:=by
  obtain ⟨_,_,rfl,⟨a,rfl,_⟩,_,_,rfl,⟨b,rfl,_⟩,_,_,rfl,⟨c,rfl,_⟩,_,_,rfl,⟨d,rfl,_⟩,_,_,rfl,⟨e,rfl,_⟩,_,_,rfl,⟨rows,rfl,hr⟩,rfl⟩:=h
  obtain ⟨l,rfl⟩:=rows_of hr
  exact ⟨⟨a,b,c,d,e,l⟩,rfl⟩
theorem changes_of':∀ {rows:List (List D)},(∀ r∈rows,WT tChange r)→∃ l:List Cg,rows=cgRows l
  | [],_=>⟨[],rfl⟩
  | r::rows,h=>by
    obtain ⟨g,rfl⟩:=change_of (h r (zW ..))
    obtain ⟨l,rfl⟩:=changes_of' fun r hr=>h r (zZ _ hr)
    exact ⟨g::l,rfl⟩
theorem changes_of {xs:List D} (h:WT tChanges xs):∃ l:List Cg,xs=[.sl eCg (cgRows l)]:=by
  obtain ⟨rows,rfl,hr⟩:=h
  obtain ⟨l,rfl⟩:=changes_of' hr
  exact ⟨l,rfl⟩
end Go.Proofs.YtigfbnglplbbpaaDoor.Nx

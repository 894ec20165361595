/- The functions of this program are those of the definitions; the example that every statement checks. -/
import Derived.Test.YtknmhbbmopnfjaaDoorNxCore
import Derived.Test.YtknmhbbmopnfjaaDoorNxSound
import Derived.Test.YtknmhbbmopnfjaaDoorNxSound2
import Derived.Test.YtknmhbbmopnfjaaDoorNxSound4
import Derived.Test.YtknmhbbmopnfjaaDoorNxSound6
import Derived.Test.YtknmhbbmopnfjaaDoorNxComp
import Derived.Test.YtknmhbbmopnfjaaDoorNxExec
import Derived.Test.YtknmhbbmopnfjaaDoorNxDraw
import Derived.Test.YtknmhbbmopnfjaaDoorNxStep
import Derived.Test.YtknmhbbmopnfjaaDoorNxRegion
import Derived.Test.YtknmhbbmopnfjaaDoorNxCode
import Derived.Test.YtknmhbbmopnfjaaDoorNxFn
import Derived.Test.YtknmhbbmopnfjaaDoorNxCheck
import Derived.Test.YtknmhbbmopnfjaaDoorNxWalk
import Derived.Test.YtknmhbbmopnfjaaDoorNxLink
import Derived.Test.YtknmhbbmopnfjaaDoorNxEval
import Derived.Test.YtknmhbbmopnfjaaDoorNxC1
import Derived.Test.YtknmhbbmopnfjaaDoorNxV1
import Derived.Test.YtknmhbbmopnfjaaDoorNxB0
import Derived.Test.YtknmhbbmopnfjaaDoorNxP15a
import Derived.Test.YtknmhbbmopnfjaaDoorNxP15i
import Derived.Test.YtknmhbbmopnfjaaDoorNxG0
import Derived.Test.YtknmhbbmopnfjaaDoorNxP15g
import Derived.Test.YtknmhbbmopnfjaaDoorNxP15k
import Derived.Test.YtknmhbbmopnfjaaDoorNxP15n
import Derived.Test.YtknmhbbmopnfjaaDoorNxP15p
import Derived.Test.YtknmhbbmopnfjaaDoorNxH0
import Derived.Test.YtknmhbbmopnfjaaDoorNxE0
import Derived.Test.YtknmhbbmopnfjaaDoorNxE2
import Derived.Test.YtknmhbbmopnfjaaDoorNxW8
import Derived.Test.YtknmhbbmopnfjaaDoorNxE6
import Derived.Test.YtknmhbbmopnfjaaDoorNxE9
import Derived.Test.YtknmhbbmopnfjaaDoorNxE13
import Derived.Test.YtknmhbbmopnfjaaDoorNxE15
import Derived.Test.YtknmhbbmopnfjaaDoorNxE19
import Derived.Test.YtknmhbbmopnfjaaDoorNxE21
import Derived.Test.YtknmhbbmopnfjaaDoorNxK3
import Derived.Test.YtknmhbbmopnfjaaDoorNxT1
import Derived.Test.YtknmhbbmopnfjaaDoorNxT3
import Derived.Test.YtknmhbbmopnfjaaDoorNxE30
import Derived.Test.YtknmhbbmopnfjaaDoorNxE34
import Derived.Test.YtknmhbbmopnfjaaDoorNxE24
import Derived.Test.YtknmhbbmopnfjaaDoorNxE36
import Derived.Test.YtknmhbbmopnfjaaDoorNxE37
import Derived.Test.YtknmhbbmopnfjaaDoorNxE31
import Derived.Test.YtknmhbbmopnfjaaDoorNxE26
import Derived.Test.YtknmhbbmopnfjaaDoorNxE28
import Derived.Test.YtknmhbbmopnfjaaDoorNxE38
import Derived.Test.YtknmhbbmopnfjaaDoorNxC3
import Derived.Test.YtknmhbbmopnfjaaDoorNxDL
import Derived.Test.YtknmhbbmopnfjaaDoorNxD15
import Derived.Test.YtknmhbbmopnfjaaDoorRows
import Derived.KernelRfl
import Derived.Test.YtknmhbbmopnfjaaDoorTW
import Derived.Ground.NamesProg
import Derived.Shelf.Lay
import Derived.Shelf.Unicode.ValidAny
import Derived.Shelf.Spec.SlicesGrow
import Derived.Ground.Names7Prog
set_option linter.unusedSimpArgs false
set_option linter.unusedVariables false
set_option linter.unnecessarySimpa false
namespace Go.Proofs.YtknmhbbmopnfjaaDoor
open Go.RowKit Go.Shelf Go.Lib
shelf_lay Lays.n196 Nm 196 at Tryd as Tryd.laysValid
end Go.Proofs.YtknmhbbmopnfjaaDoor
namespace Go.Proofs.YtknmhbbmopnfjaaDoor
open Go.RowKit Go.Shelf Go.Lib
shelf_lay_g Lays8.n4 Nm8 4 at Tryd 87 as Tryd.growR
end Go.Proofs.YtknmhbbmopnfjaaDoor
namespace Go.Proofs.YtknmhbbmopnfjaaDoor.Nx
open Go
theorem is_law19_ChangeApply:FnIs Tryd.prog 7 54 [.t 4] (x_law19_ChangeApply 13 14 15 22 16 24 25 23):=.of (by kernel_rfl)
theorem is_law19_great:FnIs Tryd.prog 13 11 [.t 4] (x_law19_great 20 28):=.of (by kernel_rfl)
theorem is_law19_awake:FnIs Tryd.prog 14 98 [.t 0] (x_law19_awake 31 15 32 26 16):=.of (by kernel_rfl)
theorem is_change_Apply:FnIs Tryd.prog 15 64 [.c 4 6 true,.t 5,.t 6] (x_change_Apply 17 33 34 35 36):=.of (by kernel_rfl)
theorem is_ref15_Same:FnIs Tryd.prog 16 67 [.t 4] (x_ref15_Same 21):=.of (by kernel_rfl)
theorem is_view_Check:FnIs Tryd.prog 17 84 [.t 2] (x_view_Check 37 38 36 39):=.of (by kernel_rfl)
theorem is_change_Check:FnIs Tryd.prog 18 12 [.t 4] (x_change_Check 17 33 34):=.of (by kernel_rfl)
theorem is_ref15_Great:FnIs Tryd.prog 20 32 [.t 2] (x_ref15_Great 42):=.of (by kernel_rfl)
theorem is_ref15_SameRow:FnIs Tryd.prog 21 26 [.t 4] x_ref15_SameRow:=.of (by kernel_rfl)
theorem is_ref19_Apply:FnIs Tryd.prog 22 57 [.c 4 6 true,.t 5,.t 6] (x_ref19_Apply 40 41 43 44):=.of (by kernel_rfl)
theorem is_ref19_SameInts:FnIs Tryd.prog 23 26 [.t 4] x_ref19_SameInts:=.of (by kernel_rfl)
theorem is_change_Rows:FnIs Tryd.prog 24 49 [.t 4] (x_change_Rows 15 45):=.of (by kernel_rfl)
theorem is_ref19_Rows:FnIs Tryd.prog 25 50 [.t 4] (x_ref19_Rows 22 21):=.of (by kernel_rfl)
theorem is_change_Inverse:FnIs Tryd.prog 26 114 [.t 4,.t 5] (x_change_Inverse 15 33 35 46):=.of (by kernel_rfl)
theorem is_view_Equal:FnIs Tryd.prog 27 45 [.t 4] (x_view_Equal 47 45):=.of (by kernel_rfl)
theorem is_ref19_Great:FnIs Tryd.prog 28 19 [.t 2] (x_ref19_Great 42):=.of (by kernel_rfl)
theorem is_law19_awake_1:FnIs Tryd.prog 31 5 [.c 2 3 true] x_law19_awake_1:=.of (by kernel_rfl)
theorem is_view_Text:FnIs Tryd.prog 32 17 [.t 2] (x_view_Text 50 51):=.of (by kernel_rfl)
theorem is_change_open:FnIs Tryd.prog 33 27 [.t 2] (x_change_open 52 53):=.of (by kernel_rfl)
theorem is_change_editor_check:FnIs Tryd.prog 34 35 [.t 4] (x_change_editor_check 54 55 56 57):=.of (by kernel_rfl)
theorem is_change_editor_apply:FnIs Tryd.prog 35 14 [] (x_change_editor_apply 58 59 60 61):=.of (by kernel_rfl)
theorem is_view_Width:FnIs Tryd.prog 36 20 [.t 2] x_view_Width:=.of (by kernel_rfl)
theorem is_view_sized:FnIs Tryd.prog 37 19 [.t 4] x_view_sized:=.of (by kernel_rfl)
theorem is_view_glyph:FnIs Tryd.prog 38 34 [.t 2] (x_view_glyph 62 63):=.of (by kernel_rfl)
theorem is_view_blank:FnIs Tryd.prog 39 2 [.c 0 3 true] x_view_blank:=.of (by kernel_rfl)
theorem is_ref15_Check:FnIs Tryd.prog 40 84 [.t 2] (x_ref15_Check 64 65 44 66):=.of (by kernel_rfl)
theorem is_ref19_fits:FnIs Tryd.prog 41 125 [.t 4] (x_ref19_fits 67 68 64):=.of (by kernel_rfl)
theorem is_ref15_GreatRow:FnIs Tryd.prog 42 20 [.t 2] x_ref15_GreatRow:=.of (by kernel_rfl)
theorem is_ref19_step:FnIs Tryd.prog 43 135 [.c 4 6 true] (x_ref19_step 69 70):=.of (by kernel_rfl)
theorem is_ref15_Width:FnIs Tryd.prog 44 21 [.t 2] x_ref15_Width:=.of (by kernel_rfl)
theorem is_slices_Equal_675:FnIs Tryd.prog 45 26 [.t 4] x_slices_Equal_675:=.of (by kernel_rfl)
theorem is_rowdiff_Splices:FnIs Tryd.prog 46 64 [.t 6] (x_rowdiff_Splices 71 72 53 73 74):=.of (by kernel_rfl)
theorem is_slices_EqualFunc_833:FnIs Tryd.prog 47 32 [.t 6] x_slices_EqualFunc_833:=.of (by kernel_rfl)
theorem is_slices_Clone_164:FnIs Tryd.prog 52 8 [.t 2] x_slices_Clone_164:=.of (by kernel_rfl)
theorem is_slices_Clone_675:FnIs Tryd.prog 53 8 [.t 2] x_slices_Clone_675:=.of (by kernel_rfl)
theorem is_change_between:FnIs Tryd.prog 54 15 [.t 6] x_change_between:=.of (by kernel_rfl)
theorem is_change_blank:FnIs Tryd.prog 55 46 [.t 2] x_change_blank:=.of (by kernel_rfl)
theorem is_change_editor_ranges:FnIs Tryd.prog 56 124 [.t 4] (x_change_editor_ranges 54):=.of (by kernel_rfl)
theorem is_change_proper:FnIs Tryd.prog 57 30 [.t 2] (x_change_proper 62 63 54):=.of (by kernel_rfl)
theorem is_change_editor_size:FnIs Tryd.prog 58 134 [] (x_change_editor_size 36 71):=.of (by kernel_rfl)
theorem is_change_editor_scroll:FnIs Tryd.prog 59 28 [] (x_change_editor_scroll 76):=.of (by kernel_rfl)
theorem is_change_editor_splice:FnIs Tryd.prog 60 47 [] (x_change_editor_splice 77 71):=.of (by kernel_rfl)
theorem is_change_editor_cursor:FnIs Tryd.prog 61 23 [] x_change_editor_cursor:=.of (by kernel_rfl)
theorem is_cluster_Check:FnIs Tryd.prog 62 30 [.t 2] (x_cluster_Check 78 79 80):=.of (by kernel_rfl)
theorem is_cluster_Width:FnIs Tryd.prog 63 13 [.t 2] (x_cluster_Width 81 79):=.of (by kernel_rfl)
theorem is_ref15_Size:FnIs Tryd.prog 64 19 [.t 4] x_ref15_Size:=.of (by kernel_rfl)
theorem is_ref15_Glyph:FnIs Tryd.prog 65 34 [.t 2] (x_ref15_Glyph 82 83):=.of (by kernel_rfl)
theorem is_ref15_blank:FnIs Tryd.prog 66 6 [.t 2] x_ref15_blank:=.of (by kernel_rfl)
theorem is_ref19_splice:FnIs Tryd.prog 67 76 [.t 4] (x_ref19_splice 68 65):=.of (by kernel_rfl)
theorem is_ref19_in:FnIs Tryd.prog 68 15 [.t 6] x_ref19_in:=.of (by kernel_rfl)
theorem is_ref19_sized:FnIs Tryd.prog 69 69 [.c 6 6 true] (x_ref19_sized 44 70):=.of (by kernel_rfl)
theorem is_ref15_Trim:FnIs Tryd.prog 70 23 [.t 2] (x_ref15_Trim 66):=.of (by kernel_rfl)
theorem is_view_Trim:FnIs Tryd.prog 71 23 [.t 2] (x_view_Trim 39 53):=.of (by kernel_rfl)
theorem is_view_Trim_r:FnIs Tryd.prog 71 23 [.t 2] (x_view_Trim_r 39 53):=.of (by kernel_rfl)
theorem is_editscript_Script_365:FnIs Tryd.prog 72 57 [.t 4] (x_editscript_Script_365 84):=.of (by kernel_rfl)
theorem is_rowdiff_Replace:FnIs Tryd.prog 73 14 [.c 6 6 true] (x_rowdiff_Replace 71):=.of (by kernel_rfl)
theorem is_rowdiff_Cost:FnIs Tryd.prog 74 25 [.t 2] x_rowdiff_Cost:=.of (by kernel_rfl)
theorem is_scrolldiff_Rows:FnIs Tryd.prog 76 58 [.t 8,.t 9] (x_scrolldiff_Rows 86 53):=.of (by kernel_rfl)
theorem is_slices_Concat_675:FnIs Tryd.prog 77 36 [.t 2] (x_slices_Concat_675 87):=.of (by kernel_rfl)
theorem is_utf8stream_Valid:FnIs Tryd.prog 78 5 [.t 2] (x_utf8stream_Valid 88):=.of (by kernel_rfl)
theorem is_charwidth_Width:FnIs Tryd.prog 79 22 [.t 2] (x_charwidth_Width 89 91 90):=.of (by kernel_rfl)
theorem is_cluster_marked:FnIs Tryd.prog 80 15 [.t 2] (x_cluster_marked 89):=.of (by kernel_rfl)
theorem is_cluster_runes:FnIs Tryd.prog 81 8 [.t 2] (x_cluster_runes 62):=.of (by kernel_rfl)
theorem is_ref03_Check:FnIs Tryd.prog 82 40 [.t 2] (x_ref03_Check 92 93 94 95):=.of (by kernel_rfl)
theorem is_ref03_Width:FnIs Tryd.prog 83 11 [.t 2] (x_ref03_Width 82 93 95):=.of (by kernel_rfl)
theorem is_editscript_walk_365:FnIs Tryd.prog 84 6 [.t 4] (x_editscript_walk_365 96):=.of (by kernel_rfl)
theorem is_scrolldiff_possible:FnIs Tryd.prog 86 39 [.t 8] x_scrolldiff_possible:=.of (by kernel_rfl)
theorem is_unicode_utf8_ValidString:FnIs Tryd.prog 88 169 [.t 2] (x_unicode_utf8_ValidString 98):=.of (by kernel_rfl)
theorem is_charwidth_Mark:FnIs Tryd.prog 89 7 [.t 2] (x_charwidth_Mark 99 90):=.of (by kernel_rfl)
theorem is_charwidth_finder:FnIs Tryd.prog 90 4 [.t 2] (x_charwidth_finder 100):=.of (by kernel_rfl)
theorem is_charwidth_Wide:FnIs Tryd.prog 91 16 [.t 0] x_charwidth_Wide:=.of (by kernel_rfl)
theorem is_ref01_Valid:FnIs Tryd.prog 92 18 [.t 2] (x_ref01_Valid 101 102):=.of (by kernel_rfl)
theorem is_ref03_Characters:FnIs Tryd.prog 93 11 [.t 2] (x_ref03_Characters 101):=.of (by kernel_rfl)
theorem is_ref02_Mark:FnIs Tryd.prog 94 6 [.t 2] (x_ref02_Mark 104 103):=.of (by kernel_rfl)
theorem is_ref02_Width:FnIs Tryd.prog 95 21 [.t 2] (x_ref02_Width 94 105 103):=.of (by kernel_rfl)
theorem is_editscript_walk_365_1:FnIs Tryd.prog 96 88 [] (x_editscript_walk_365_1 97):=.of (by kernel_rfl)
theorem is_editscript_lengths_365:FnIs Tryd.prog 97 90 [.t 4] x_editscript_lengths_365:=.of (by kernel_rfl)
theorem is_unicode_utf8_word_69:FnIs Tryd.prog 98 59 [.t 2] x_unicode_utf8_word_69:=.of (by kernel_rfl)
theorem is_charwidth_marks:FnIs Tryd.prog 99 9 [.t 0] x_charwidth_marks:=.of (by kernel_rfl)
theorem is_charwidth_finder_1:FnIs Tryd.prog 100 39 [.t 3] x_charwidth_finder_1:=.of (by kernel_rfl)
theorem is_ref01_Decode:FnIs Tryd.prog 101 96 [.t 4,.t 5] (x_ref01_Decode 106 107):=.of (by kernel_rfl)
theorem is_ref01_Encode:FnIs Tryd.prog 102 95 [.t 2] x_ref01_Encode:=.of (by kernel_rfl)
theorem is_ref02_in:FnIs Tryd.prog 103 28 [.t 4] x_ref02_in:=.of (by kernel_rfl)
theorem is_ref02_Marks:FnIs Tryd.prog 104 9 [.t 0] x_ref02_Marks:=.of (by kernel_rfl)
theorem is_ref02_Wide:FnIs Tryd.prog 105 16 [.t 0] x_ref02_Wide:=.of (by kernel_rfl)
theorem is_ref01_limits:FnIs Tryd.prog 106 61 [.t 2,.t 3,.t 4] x_ref01_limits:=.of (by kernel_rfl)
theorem is_ref01_value:FnIs Tryd.prog 107 44 [.t 2] x_ref01_value:=.of (by kernel_rfl)
def fnsE:List (FuncId × FnE):=[
  (14,⟨98,[.t 0],(x_law19_awake 31 15 32 26 16)⟩),
  (16,⟨67,[.t 4],(x_ref15_Same 21)⟩),
  (21,⟨26,[.t 4],x_ref15_SameRow⟩),
  (31,⟨5,[.c 2 3 true],x_law19_awake_1⟩)]
theorem fnsE_ok:∀ p∈fnsE,FnIs Tryd.prog p.1 p.2.N p.2.res p.2.code:=by
  intro p hp
  simp only [fnsE,List.mem_cons,List.not_mem_nil,or_false] at hp
  rcases hp with rfl | rfl | rfl | rfl
  · exact is_law19_awake
  · exact is_ref15_Same
  · exact is_ref15_SameRow
  · exact is_law19_awake_1
/-- The tables that the rows list. -/
def gam:Tabs:=[(1,tabAccept),(0,tabFirst)]
theorem gam_is : tabsOf Tryd.prog [("unicode/utf8.acceptRanges", Rows.laid_unicode_utf8_acceptRanges), ("unicode/utf8.first", Rows.laid_unicode_utf8_first)] = some gam := by kernel_rfl
def isTrue:Option A→Bool
  | some (.d (.sc (.bool true)))=>true
  | _=>false
theorem isTrue_some {x:Option A} (h:isTrue x=true):x=some (.bool true):=by
  unfold isTrue at h
  split at h
  · rfl
  · cases h
theorem k_vs:∀ s:ByteArray,s.size≤1000→FnP gam Tryd.prog 88 [.str s] (.bool (validS s)) :=
  validString_fn Tryd.laysValid rfl is_unicode_utf8_ValidString (by rw [show Tryd.laysValid_ren.g 3=0 from rfl];exact List.mem_cons_of_mem _ (List.mem_cons_self ..)) (by rw [show Tryd.laysValid_ren.g 4=1 from rfl];exact List.mem_cons_self ..)
theorem k_mark:∀ r,FnP gam Tryd.prog 89 [.sc (.int .i32 r)] (.bool (markC r)):=mark_fn is_charwidth_Mark (by decide) is_charwidth_marks is_charwidth_finder (by decide) is_charwidth_finder_1 (by decide)
theorem k_cwidth:∀ r,FnP gam Tryd.prog 79 [.sc (.int .i32 r)] (.int (widthC r)):=widthC_fn is_charwidth_Width (by decide) is_charwidth_Mark (by decide) is_charwidth_marks is_charwidth_Wide is_charwidth_finder (by decide) is_charwidth_finder_1 (by decide)
theorem k_marked:∀ l:List Nat,FnP gam Tryd.prog 80 [.d (.sl eRn (rnRows l))] (.bool (l.all fun n=>markC n)):=marked_fn is_cluster_marked (by decide) k_mark
theorem k_valid:∀ s:ByteArray,s.size≤1000→FnP gam Tryd.prog 78 [.str s] (.bool (validS s)):=valid_fn is_utf8stream_Valid (by decide) k_vs
theorem k_check:∀ s:ByteArray,s.size≤1000→FnP gam Tryd.prog 62 [.str s] (.int (chkC s)):=check_fn is_cluster_Check (by decide) k_valid k_cwidth k_marked
theorem k_runes:∀ s:ByteArray,s.size≤1000→FnP gam Tryd.prog 81 [.str s] (.d (.sl eRn (rnRows (runesC s)))):=runes_fn is_cluster_runes (by decide) k_check
theorem k_width:∀ s:ByteArray,s.size≤1000→FnP gam Tryd.prog 63 [.str s] (.int (widC s)):=cwidth_fn is_cluster_Width (by decide) k_runes k_cwidth
theorem k_sized:∀ w h,FnP gam Tryd.prog 37 [.int w,.int h] (.bool (szOk w h)):=sized_fn is_view_sized (by decide)
theorem k_glyph:∀ g:Gl,g.text.size≤1000→FnP gam Tryd.prog 38 [glA g] (.int (glyphC g)):=glyph_fn is_view_glyph (by decide) k_check k_width
theorem k_vw:∀ l:List Gl,FnP gam Tryd.prog 36 [.d (.sl eGl (glRows l))] (.int (widthN l)):=width_fn is_view_Width (by decide)
theorem k_vchk:VchkOk gam Tryd.prog 17:=fun v hs=>viewCheck_fn is_view_Check (by decide) k_sized k_glyph k_vw (blank_fn is_view_blank) v hs.txt
theorem k_trim:∀ l:List Gl,FnP gam Tryd.prog 71 [.d (.sl eGl (glRows l))] (.d (.sl eGl (glRows (trimGl l)))):=trim_fn is_view_Trim (by decide) is_view_blank is_slices_Clone_675 (by decide)
theorem k_cloneO:∀ l:List Gl,RowO Tryd.prog 53 (.d (.sl eGl (glRows l))) l:=cloneO_fn is_slices_Clone_675 (by decide)
theorem k_trimO:∀ l:List Gl,RowO Tryd.prog 71 (.d (.sl eGl (glRows l))) (trimGl l):=trimO_fn is_view_Trim_r (by decide) is_view_blank is_slices_Clone_675 (by decide)
theorem k_between:∀ n a b,FnP gam Tryd.prog 54 [.int n,.int a,.int b] (.bool (btw n a b)):=between_fn is_change_between (by decide)
theorem k_blank19:∀ c,FnP gam Tryd.prog 55 [cgA c] (.bool (blankG c)):=blank19_fn is_change_blank (by decide)
theorem k_proper:∀ g:Gl,g.text.size≤1000→FnP gam Tryd.prog 57 [glA g] (.int (glyphC g)):=proper_fn is_change_proper (by decide) k_check k_width k_between
theorem k_ranges:RangesOk gam.ctx Tryd.prog 56:=fun c ed _ sm hm _ _ _ _ hb e=>ranges_fn is_change_editor_ranges (by decide) k_between c ed sm hm hb e
theorem k_echeck:∀ {v:Vw} (c:Cg),Ed v→∀ {m:Nat},Sm v m→m≤100000→(∀ g∈c.gl,g.text.size≤1000)→∀ {h:Heap} {id k:Nat} {R:List (List A)},EdIs h id v k R→FnD gam.ctx Tryd.prog 34 [.ptr id 1 0 0,cgA c] h (.int (chgC v c)) h :=
  fun c ed _ sm hm hg _ _ _ _ e=>check19_fn is_change_editor_check (by decide) k_between k_blank19 k_ranges k_proper c ed sm hm hg (Nat.zero_le _) e
theorem k_growE:Enters Tryd.prog 87:=enters_ofE (by kernel_rfl)
theorem k_concatO:∀ ls:List (List Gl),ls.length≤1000→ls.flatten.length≤100000→RowO Tryd.prog 77 (.d (.sl eRw (rwRows ls))) ls.flatten:=fun ls h1 h2 Δ h hb =>
  concatO_fn is_slices_Concat_675 (by decide) (fun n hn h _=>growGl_fn Tryd.growR rfl k_growE (by kernel_rfl) n hn h) ls h1 h2 h hb
theorem k_size:EdStep gam.ctx Tryd.prog 58 (fun v c=>c.kind=1∧StepPre v c) stepV:=size_fn is_change_editor_size (by decide) k_vw k_trimO
theorem k_splice:EdStep gam.ctx Tryd.prog 60 (fun v c=>c.kind=3∧StepPre v c) stepV:=splice_fn is_change_editor_splice (by decide) k_concatO k_trimO
theorem k_cursor:EdStep gam.ctx Tryd.prog 61 (fun _ c=>c.kind=4) stepV:=cursor_fn is_change_editor_cursor (by decide)
theorem k_poss:∀ {Γ:Tabs} (n t b y:Int),n≤1000000000000000000→FnP Γ Tryd.prog 86 [.int n,.int t,.int b,.int y] (.bool (possB n t b y)):=fun n t b y h=>possible_fn is_scrolldiff_possible (by decide) n t b y h
theorem k_scroll:EdStep gam.ctx Tryd.prog 59 (fun v c=>c.kind=2∧StepPre v c) stepV:=scroll_fn is_change_editor_scroll (by decide)
  fun Δ' _ l t b y hp hl h hb=>scrRows_fn is_scrolldiff_Rows (by decide) k_poss k_cloneO (cloneN_fn is_slices_Clone_675 (by decide)) l t b y hp hl h hb
theorem k_apply1:EdStep gam.ctx Tryd.prog 35 StepPre stepV:=apply19_fn is_change_editor_apply (by decide) k_size k_scroll k_splice k_cursor
theorem k_openT:OpenTOk gam.ctx Tryd.prog 33:=fun w h1 h2 h=>open19T_fn is_change_open (by decide) (fun l hl h hb=>cloneRows_fn is_slices_Clone_164 (by decide) l hl h hb) k_cloneO w h1 h2 h (Nat.zero_le _)
theorem k_open:OpenOk gam.ctx Tryd.prog 33:=fun w h1 h2 h=>open19_fn is_change_open (by decide) (fun l hl h hb=>cloneRows_fn is_slices_Clone_164 (by decide) l hl h hb) k_cloneO w h1 h2 h (Nat.zero_le _)
theorem k_ap:ApOk gam Tryd.prog 15:=fun v l hr hl=>apply_fn (Δ:=gam.ctx) is_change_Apply (by decide) v l hr hl (k_vchk v hr.sm) (fun h1 h2 h=>k_open v h1 h2 h) k_echeck k_apply1 k_vw
theorem k_lens:∀ a b:List Gl,a.length≤50000→b.length≤50000→FnP gam Tryd.prog 97 [.d (.sl eGl (glRows a)),.d (.sl eGl (glRows b))] (.d (.sl eRw (lenD a b))):=lengths_fn is_editscript_lengths_365 (by decide)
theorem k_script:∀ a b:List Gl,a.length≤50000→b.length≤50000→FnP gam Tryd.prog 72 [.d (.sl eGl (glRows a)),.d (.sl eGl (glRows b))] (.d (.sl eEd (edsRows (scriptE a b)))):=fun a b ha hb =>
  script_fn (f1:=96) is_editscript_Script_365 (by decide) a b ha hb (walk_fn is_editscript_walk_365 (by decide) a b) (walk1_gen is_editscript_walk_365_1 (by decide) a b ha hb (k_lens a b ha hb))
theorem k_splices:∀ (row:Int) (a b:List Gl),a.length≤50000→b.length≤50000→FnP gam Tryd.prog 46 [.int row,.d (.sl eGl (glRows a)),.d (.sl eGl (glRows b))] (cgsA (splicesV row a b)):=fun row a b ha hb =>
  splices_fn is_rowdiff_Splices (by decide) k_trim row a b (eds_ok (Nat.le_trans (trim_len _) ha) (Nat.le_trans (trim_len _) hb)) (by omega) (k_script _ _ (Nat.le_trans (trim_len _) ha) (Nat.le_trans (trim_len _) hb))
    (fun l=>clone_fn is_slices_Clone_675 (by decide) _) (fun a b=>replace_fn is_rowdiff_Replace (by decide) k_trim row a b) (cost_fn is_rowdiff_Cost (by decide))
theorem k_inv:InvOk gam Tryd.prog 26:=fun v l hr hl hw=>inverse_fn is_change_Inverse (by decide) v l hr.sm hw (k_ap v l hr hl) k_open k_apply1 k_splices
theorem k_great19:∀ l:List Cg,FnP gam Tryd.prog 28 [cgsA l] (.bool (greatL l)):=great19_fn is_ref19_Great (by decide) (greatRow_fn is_ref15_GreatRow (by decide))
theorem k_greatV:∀ v:Vw,FnP gam Tryd.prog 20 [vwA v] (.bool (greatV v)):=great_fn is_ref15_Great (by decide) is_ref15_GreatRow (by decide)
theorem k_grt:GrtOk gam Tryd.prog 13:=fun v l=>grt_fn is_law19_great (by decide) v l (k_greatV v) (k_great19 l)
theorem k_chk:ChkOk gam Tryd.prog 18:=fun v c hs hc=>change_check_fn is_change_Check (by decide) v c hs hc (k_vchk v hs) k_openT k_echeck
theorem k_vsame:SameOk gam Tryd.prog 16:=same_fn is_ref15_Same (by decide) is_ref15_SameRow (by decide)
theorem k_vequal:SameOk gam Tryd.prog 27:=viewEqual_fn is_view_Equal (by decide) is_slices_EqualFunc_833 (by decide) is_slices_Equal_675 (by decide)
theorem k_sameRow:∀ a b:List Gl,FnP gam Tryd.prog 21 [.d (.sl eGl (glRows a)),.d (.sl eGl (glRows b))] (.bool (decide (a=b))):=sameRow_fn is_ref15_SameRow (by decide)
theorem k_text:TextGOk gam Tryd.prog 32:=textG_fn is_view_Text Tryd.textG_walk
theorem ext_ok:∀ f args r,ext19 15 26 32 f args=some r→FnP gam Tryd.prog f args r:=ext19_ok k_ap k_inv k_text
set_option maxRecDepth 100000 in
theorem awake_run:isTrue ((orcE fnsE (ext19 15 26 32) ⟨3,32⟩ (tabS gam) 300 30).pure 14 [])=true:=by kernel_rfl
theorem awake_fn:FnP gam Tryd.prog 14 [] (.bool true):=(orcE_ok fnsE_ok ext_ok 30).pure _ _ _ (isTrue_some awake_run)
theorem k_dec:∀ s:ByteArray,s.size≤1000→FnP gam Tryd.prog 101 [.str ⟨#[]⟩,.str s] (decA (toN s.data.toList)):=decode_fn is_ref01_Decode (by decide) is_ref01_limits (by decide) is_ref01_value (by decide)
theorem k_enc:∀ l:List Int,l.length≤1000→FnP gam Tryd.prog 102 [.d (.sl eRu (irRows l))] (.str (numS (encL l))):=encode_fn is_ref01_Encode (by decide)
theorem k_rvalid:∀ s:ByteArray,s.size≤1000→FnP gam Tryd.prog 92 [.str s] (.bool (validS s)):=refValid_fn is_ref01_Valid (by decide) k_dec k_enc
theorem k_chars:∀ s:ByteArray,s.size≤1000→validS s=true→FnP gam Tryd.prog 93 [.str s] (.d (.sl eRn (rnRows (runesOf s)))):=refChars_fn is_ref03_Characters (by decide) k_dec
theorem k_mark2:∀ r,FnP gam Tryd.prog 94 [.sc (.int .i32 r)] (.bool (markC r)):=mark2_fn is_ref02_Mark (by decide) is_ref02_Marks is_ref02_in (by decide)
theorem k_width2:∀ r,FnP gam Tryd.prog 95 [.sc (.int .i32 r)] (.int (widthC r)):=width2_fn is_ref02_Width (by decide) is_ref02_Mark (by decide) is_ref02_Marks is_ref02_Wide is_ref02_in (by decide)
theorem k_check3:∀ s:ByteArray,s.size≤1000→FnP gam Tryd.prog 82 [.str s] (.int (chkC s)):=check3_fn is_ref03_Check (by decide) k_rvalid k_chars k_mark2 k_width2
theorem k_cw3:∀ s:ByteArray,s.size≤1000→FnP gam Tryd.prog 83 [.str s] (.int (widC s)):=cwidth3_fn is_ref03_Width (by decide) k_check3 k_chars k_width2
theorem k_rsz:∀ w h,FnP gam Tryd.prog 64 [.int w,.int h] (.bool (szOk w h)):=sized_fn is_ref15_Size (by decide)
theorem k_rgl:∀ g:Gl,g.text.size≤1000→FnP gam Tryd.prog 65 [glA g] (.int (glyphC g)):=glyph_fn (fc:=82) (fw:=83) is_ref15_Glyph (by decide) k_check3 k_cw3
theorem k_rwd:∀ l:List Gl,FnP gam Tryd.prog 44 [.d (.sl eGl (glRows l))] (.int (widthN l)):=refWidth_fn is_ref15_Width (by decide)
theorem k_rbl:∀ g,FnP gam Tryd.prog 66 [glA g] (.bool (decide (g=spaceGl))):=refBlankG_fn is_ref15_blank (by decide)
theorem k_rvchk:VchkOk gam Tryd.prog 40:=fun v hs=>refCheck_fn is_ref15_Check (by decide) k_rsz k_rgl k_rwd k_rbl v hs.txt
theorem k_rin:∀ n a b,FnP gam Tryd.prog 68 [.int n,.int a,.int b] (.bool (btw n a b)):=rin_fn is_ref19_in (by decide)
theorem k_fits:FitsOk gam Tryd.prog 41:=fun v c ed sm hg=>fits_fn is_ref19_fits (by decide) k_rin k_rsz v c ed fun hk =>
  rsplice_fn is_ref19_splice (by decide) k_rin k_rgl v c hk ed.len (szOk_iff.1 ed.sz).2 sm.row hg
theorem k_equal:∀ a b:List Gl,FnP gam Tryd.prog 45 [.d (.sl eGl (glRows a)),.d (.sl eGl (glRows b))] (.bool (decide (a=b))):=equal_fn is_slices_Equal_675 (by decide)
theorem k_rows:RowsOk gam Tryd.prog 24:=fun v l hr hl=>rows19_fn is_change_Rows (by decide) v l (rows_few v l) (k_ap v l hr hl) k_equal
theorem k_rtrim:∀ l:List Gl,l.length≤1000000→FnP gam Tryd.prog 70 [.d (.sl eGl (glRows l))] (.d (.sl eGl (glRows (trimGl l)))):=refTrimL_fn is_ref15_Trim (by decide) k_rbl
theorem k_rsized:SizedOk gam Tryd.prog 69:=rsized_fn is_ref19_sized (by decide) k_rwd k_rtrim
theorem k_rstep:RStepOk gam Tryd.prog 43:=rstep_fn is_ref19_step (by decide) k_rsized k_rtrim
theorem k_rap:ApOk gam Tryd.prog 22:=rapply_fn is_ref19_Apply (by decide) k_rvchk k_fits k_rstep k_rwd
theorem k_rrows:RowsOk gam Tryd.prog 25:=rrows19_fn is_ref19_Rows (by decide) k_rap k_sameRow
theorem k_ints:∀ a b:List Nat,FnP gam Tryd.prog 23 [insA a,insA b] (.bool (decide (a=b))):=sameInts_fn is_ref19_SameInts (by decide)
/-! ### Arguments -/
def tGlyph:Ty:=.st [.str,.bool,.int .i64]
def tGlyphs:Ty:=.sl ⟨3,32⟩ tGlyph
theorem glyph_of {xs:List D} (h:WT tGlyph xs):∃ g:Gl,xs=g.row:=by
  obtain ⟨a,b,rfl,⟨s,rfl,_⟩,a2,b2,rfl,⟨w,rfl⟩,a3,b3,rfl,⟨n,rfl,_⟩,rfl⟩:=h
  exact ⟨⟨s,w,n⟩,rfl⟩
theorem rows_of:∀ {rows:List (List D)},(∀ r∈rows,WT tGlyph r)→∃ l:List Gl,rows=glRows l
  | [],_=>⟨[],rfl⟩
  | r::rows,h=>by
    obtain ⟨g,rfl⟩:=glyph_of (h r (List.mem_cons_self ..))
    obtain ⟨l,rfl⟩:=rows_of fun r hr=>h r (List.mem_cons_of_mem _ hr)
    exact ⟨g::l,rfl⟩
theorem glyphs_of {xs:List D} (h:WT tGlyphs xs):∃ l:List Gl,xs=[.sl eGl (glRows l)]:=by
  obtain ⟨rows,rfl,hr⟩:=h
  obtain ⟨l,rfl⟩:=rows_of hr
  exact ⟨l,rfl⟩
def tView:Ty:=.st [.int .i64,.int .i64,.sl ⟨1,24⟩ tGlyphs,.int .i64,.int .i64,.bool]
theorem vrows_of:∀ {rows:List (List D)},(∀ r∈rows,WT tGlyphs r)→∃ l:List (List Gl),rows=rwRows l
  | [],_=>⟨[],rfl⟩
  | r::rows,h=>by
    obtain ⟨g,rfl⟩:=glyphs_of (h r (List.mem_cons_self ..))
    obtain ⟨l,rfl⟩:=vrows_of fun r hr=>h r (List.mem_cons_of_mem _ hr)
    exact ⟨g::l,rfl⟩
theorem view_of {xs:List D} (h:WT tView xs):∃ v:Vw,xs=v.ds:=by
  obtain ⟨_,_,rfl,⟨w,rfl,_⟩,_,_,rfl,⟨h,rfl,_⟩,_,_,rfl,⟨rows,rfl,hr⟩,_,_,rfl,⟨r,rfl,_⟩,_,_,rfl,⟨c,rfl,_⟩,_,_,rfl,⟨b,rfl⟩,rfl⟩:=h
  obtain ⟨l,rfl⟩:=vrows_of hr
  exact ⟨⟨w,h,l,r,c,b⟩,rfl⟩
def tChange:Ty:=.st [.int .i64,.int .i64,.int .i64,.int .i64,.int .i64,tGlyphs]
def tChanges:Ty:=.sl ⟨6,64⟩ tChange
theorem change_of {xs:List D} (h:WT tChange xs):∃ c:Cg,xs=c.ds:=by
  obtain ⟨_,_,rfl,⟨a,rfl,_⟩,_,_,rfl,⟨b,rfl,_⟩,_,_,rfl,⟨c,rfl,_⟩,_,_,rfl,⟨d,rfl,_⟩,_,_,rfl,⟨e,rfl,_⟩,_,_,rfl,⟨rows,rfl,hr⟩,rfl⟩:=h
  obtain ⟨l,rfl⟩:=rows_of hr
  exact ⟨⟨a,b,c,d,e,l⟩,rfl⟩
theorem changes_of':∀ {rows:List (List D)},(∀ r∈rows,WT tChange r)→∃ l:List Cg,rows=cgRows l
  | [],_=>⟨[],rfl⟩
  | r::rows,h=>by
    obtain ⟨g,rfl⟩:=change_of (h r (List.mem_cons_self ..))
    obtain ⟨l,rfl⟩:=changes_of' fun r hr=>h r (List.mem_cons_of_mem _ hr)
    exact ⟨g::l,rfl⟩
theorem changes_of {xs:List D} (h:WT tChanges xs):∃ l:List Cg,xs=[.sl eCg (cgRows l)]:=by
  obtain ⟨rows,rfl,hr⟩:=h
  obtain ⟨l,rfl⟩:=changes_of' hr
  exact ⟨l,rfl⟩
end Go.Proofs.YtknmhbbmopnfjaaDoor.Nx

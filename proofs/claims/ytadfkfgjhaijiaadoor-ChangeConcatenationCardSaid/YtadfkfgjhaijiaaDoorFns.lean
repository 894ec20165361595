/- The functions of this program are those of the definitions; the example that every statement checks. -/
import Derived.Test.YtadfkfgjhaijiaaDoorNxCore
import Derived.Test.YtadfkfgjhaijiaaDoorNxSound
import Derived.Test.YtadfkfgjhaijiaaDoorNxSound2
import Derived.Test.YtadfkfgjhaijiaaDoorNxSound4
import Derived.Test.YtadfkfgjhaijiaaDoorNxSound6
import Derived.Test.YtadfkfgjhaijiaaDoorNxComp
import Derived.Test.YtadfkfgjhaijiaaDoorNxExec
import Derived.Test.YtadfkfgjhaijiaaDoorNxDraw
import Derived.Test.YtadfkfgjhaijiaaDoorNxStep
import Derived.Test.YtadfkfgjhaijiaaDoorNxRegion
import Derived.Test.YtadfkfgjhaijiaaDoorNxCode
import Derived.Test.YtadfkfgjhaijiaaDoorNxFn
import Derived.Test.YtadfkfgjhaijiaaDoorNxCheck
import Derived.Test.YtadfkfgjhaijiaaDoorNxWalk
import Derived.Test.YtadfkfgjhaijiaaDoorNxLink
import Derived.Test.YtadfkfgjhaijiaaDoorNxEval
import Derived.Test.YtadfkfgjhaijiaaDoorNxC1
import Derived.Test.YtadfkfgjhaijiaaDoorNxV1
import Derived.Test.YtadfkfgjhaijiaaDoorNxB0
import Derived.Test.YtadfkfgjhaijiaaDoorNxP15a
import Derived.Test.YtadfkfgjhaijiaaDoorNxP15i
import Derived.Test.YtadfkfgjhaijiaaDoorNxG0
import Derived.Test.YtadfkfgjhaijiaaDoorNxP15g
import Derived.Test.YtadfkfgjhaijiaaDoorNxP15k
import Derived.Test.YtadfkfgjhaijiaaDoorNxP15n
import Derived.Test.YtadfkfgjhaijiaaDoorNxP15p
import Derived.Test.YtadfkfgjhaijiaaDoorNxH0
import Derived.Test.YtadfkfgjhaijiaaDoorNxE0
import Derived.Test.YtadfkfgjhaijiaaDoorNxE2
import Derived.Test.YtadfkfgjhaijiaaDoorNxW8
import Derived.Test.YtadfkfgjhaijiaaDoorNxE6
import Derived.Test.YtadfkfgjhaijiaaDoorNxE13
import Derived.Test.YtadfkfgjhaijiaaDoorNxE15
import Derived.Test.YtadfkfgjhaijiaaDoorNxE19
import Derived.Test.YtadfkfgjhaijiaaDoorNxE21
import Derived.Test.YtadfkfgjhaijiaaDoorNxK3
import Derived.Test.YtadfkfgjhaijiaaDoorNxT1
import Derived.Test.YtadfkfgjhaijiaaDoorNxT3
import Derived.Test.YtadfkfgjhaijiaaDoorNxE30
import Derived.Test.YtadfkfgjhaijiaaDoorNxI6
import Derived.Test.YtadfkfgjhaijiaaDoorNxE40
import Derived.Test.YtadfkfgjhaijiaaDoorNxDL
import Derived.Test.YtadfkfgjhaijiaaDoorNxD15
import Derived.Test.YtadfkfgjhaijiaaDoorRows
import Derived.KernelRfl
import Derived.Test.YtadfkfgjhaijiaaDoorTW
import Derived.Ground.NamesProg
import Derived.Shelf.Lay
import Derived.Shelf.Unicode.ValidAny
import Derived.Shelf.Spec.SlicesGrow
import Derived.Ground.Names7Prog
set_option linter.unusedSimpArgs false
set_option linter.unusedVariables false
set_option linter.unnecessarySimpa false
open Nat renaming zero_le → zI
open List renaming mem_cons_self → zW, mem_cons_of_mem → zZ
namespace Go.Proofs.YtadfkfgjhaijiaaDoor
open Go.RowKit Go.Shelf Go.Lib
shelf_lay Lays.n196 Nm 196 at Tryd as Tryd.laysValid
end Go.Proofs.YtadfkfgjhaijiaaDoor
namespace Go.Proofs.YtadfkfgjhaijiaaDoor
open Go.RowKit Go.Shelf Go.Lib
shelf_lay_g Lays8.n4 Nm8 4 at Tryd 55 as Tryd.growR
end Go.Proofs.YtadfkfgjhaijiaaDoor
namespace Go.Proofs.YtadfkfgjhaijiaaDoor.Nx
open Go
theorem is_law19_ChangeConcatenation:FnIs Tryd.prog 3 82 [.t 6] (x_law19_ChangeConcatenation 4 5 6 7 8):=.of (by kernel_rfl)
theorem is_law19_great:FnIs Tryd.prog 4 11 [.t 4] (x_law19_great 9 5):=.of (by kernel_rfl)
theorem is_ref19_Great:FnIs Tryd.prog 5 19 [.t 2] (x_ref19_Great 10):=.of (by kernel_rfl)
theorem is_law19_awake:FnIs Tryd.prog 6 98 [.t 0] (x_law19_awake 11 7 12 13 14):=.of (by kernel_rfl)
theorem is_change_Apply:FnIs Tryd.prog 7 64 [.c 4 6 true,.t 5,.t 6] (x_change_Apply 15 16 17 18 19):=.of (by kernel_rfl)
theorem is_view_Equal:FnIs Tryd.prog 8 45 [.t 4] (x_view_Equal 20 21):=.of (by kernel_rfl)
theorem is_ref15_Great:FnIs Tryd.prog 9 32 [.t 2] (x_ref15_Great 10):=.of (by kernel_rfl)
theorem is_ref15_GreatRow:FnIs Tryd.prog 10 20 [.t 2] x_ref15_GreatRow:=.of (by kernel_rfl)
theorem is_law19_awake_1:FnIs Tryd.prog 11 5 [.c 2 3 true] x_law19_awake_1:=.of (by kernel_rfl)
theorem is_view_Text:FnIs Tryd.prog 12 17 [.t 2] (x_view_Text 22 23):=.of (by kernel_rfl)
theorem is_change_Inverse:FnIs Tryd.prog 13 114 [.t 4,.t 5] (x_change_Inverse 7 16 18 24):=.of (by kernel_rfl)
theorem is_ref15_Same:FnIs Tryd.prog 14 67 [.t 4] (x_ref15_Same 25):=.of (by kernel_rfl)
theorem is_view_Check:FnIs Tryd.prog 15 84 [.t 2] (x_view_Check 26 27 19 28):=.of (by kernel_rfl)
theorem is_change_open:FnIs Tryd.prog 16 27 [.t 2] (x_change_open 29 30):=.of (by kernel_rfl)
theorem is_change_editor_check:FnIs Tryd.prog 17 35 [.t 4] (x_change_editor_check 31 32 33 34):=.of (by kernel_rfl)
theorem is_change_editor_apply:FnIs Tryd.prog 18 14 [] (x_change_editor_apply 35 36 37 38):=.of (by kernel_rfl)
theorem is_view_Width:FnIs Tryd.prog 19 20 [.t 2] x_view_Width:=.of (by kernel_rfl)
theorem is_slices_EqualFunc_833:FnIs Tryd.prog 20 32 [.t 6] x_slices_EqualFunc_833:=.of (by kernel_rfl)
theorem is_slices_Equal_675:FnIs Tryd.prog 21 26 [.t 4] x_slices_Equal_675:=.of (by kernel_rfl)
theorem is_rowdiff_Splices:FnIs Tryd.prog 24 64 [.t 6] (x_rowdiff_Splices 40 41 30 42 43):=.of (by kernel_rfl)
theorem is_ref15_SameRow:FnIs Tryd.prog 25 26 [.t 4] x_ref15_SameRow:=.of (by kernel_rfl)
theorem is_view_sized:FnIs Tryd.prog 26 19 [.t 4] x_view_sized:=.of (by kernel_rfl)
theorem is_view_glyph:FnIs Tryd.prog 27 34 [.t 2] (x_view_glyph 44 45):=.of (by kernel_rfl)
theorem is_view_blank:FnIs Tryd.prog 28 2 [.c 0 3 true] x_view_blank:=.of (by kernel_rfl)
theorem is_slices_Clone_164:FnIs Tryd.prog 29 8 [.t 2] x_slices_Clone_164:=.of (by kernel_rfl)
theorem is_slices_Clone_675:FnIs Tryd.prog 30 8 [.t 2] x_slices_Clone_675:=.of (by kernel_rfl)
theorem is_change_between:FnIs Tryd.prog 31 15 [.t 6] x_change_between:=.of (by kernel_rfl)
theorem is_change_blank:FnIs Tryd.prog 32 46 [.t 2] x_change_blank:=.of (by kernel_rfl)
theorem is_change_editor_ranges:FnIs Tryd.prog 33 124 [.t 4] (x_change_editor_ranges 31):=.of (by kernel_rfl)
theorem is_change_proper:FnIs Tryd.prog 34 30 [.t 2] (x_change_proper 44 45 31):=.of (by kernel_rfl)
theorem is_change_editor_size:FnIs Tryd.prog 35 134 [] (x_change_editor_size 19 40):=.of (by kernel_rfl)
theorem is_change_editor_scroll:FnIs Tryd.prog 36 28 [] (x_change_editor_scroll 46):=.of (by kernel_rfl)
theorem is_change_editor_splice:FnIs Tryd.prog 37 47 [] (x_change_editor_splice 47 40):=.of (by kernel_rfl)
theorem is_change_editor_cursor:FnIs Tryd.prog 38 23 [] x_change_editor_cursor:=.of (by kernel_rfl)
theorem is_view_Trim:FnIs Tryd.prog 40 23 [.t 2] (x_view_Trim 28 30):=.of (by kernel_rfl)
theorem is_view_Trim_r:FnIs Tryd.prog 40 23 [.t 2] (x_view_Trim_r 28 30):=.of (by kernel_rfl)
theorem is_editscript_Script_365:FnIs Tryd.prog 41 57 [.t 4] (x_editscript_Script_365 49):=.of (by kernel_rfl)
theorem is_rowdiff_Replace:FnIs Tryd.prog 42 14 [.c 6 6 true] (x_rowdiff_Replace 40):=.of (by kernel_rfl)
theorem is_rowdiff_Cost:FnIs Tryd.prog 43 25 [.t 2] x_rowdiff_Cost:=.of (by kernel_rfl)
theorem is_cluster_Check:FnIs Tryd.prog 44 30 [.t 2] (x_cluster_Check 50 51 52):=.of (by kernel_rfl)
theorem is_cluster_Width:FnIs Tryd.prog 45 13 [.t 2] (x_cluster_Width 53 51):=.of (by kernel_rfl)
theorem is_scrolldiff_Rows:FnIs Tryd.prog 46 58 [.t 8,.t 9] (x_scrolldiff_Rows 54 30):=.of (by kernel_rfl)
theorem is_slices_Concat_675:FnIs Tryd.prog 47 36 [.t 2] (x_slices_Concat_675 55):=.of (by kernel_rfl)
theorem is_editscript_walk_365:FnIs Tryd.prog 49 6 [.t 4] (x_editscript_walk_365 56):=.of (by kernel_rfl)
theorem is_utf8stream_Valid:FnIs Tryd.prog 50 5 [.t 2] (x_utf8stream_Valid 58):=.of (by kernel_rfl)
theorem is_charwidth_Width:FnIs Tryd.prog 51 22 [.t 2] (x_charwidth_Width 59 61 60):=.of (by kernel_rfl)
theorem is_cluster_marked:FnIs Tryd.prog 52 15 [.t 2] (x_cluster_marked 59):=.of (by kernel_rfl)
theorem is_cluster_runes:FnIs Tryd.prog 53 8 [.t 2] (x_cluster_runes 44):=.of (by kernel_rfl)
theorem is_scrolldiff_possible:FnIs Tryd.prog 54 39 [.t 8] x_scrolldiff_possible:=.of (by kernel_rfl)
theorem is_editscript_walk_365_1:FnIs Tryd.prog 56 88 [] (x_editscript_walk_365_1 57):=.of (by kernel_rfl)
theorem is_editscript_lengths_365:FnIs Tryd.prog 57 90 [.t 4] x_editscript_lengths_365:=.of (by kernel_rfl)
theorem is_unicode_utf8_ValidString:FnIs Tryd.prog 58 169 [.t 2] (x_unicode_utf8_ValidString 62):=.of (by kernel_rfl)
theorem is_charwidth_Mark:FnIs Tryd.prog 59 7 [.t 2] (x_charwidth_Mark 63 60):=.of (by kernel_rfl)
theorem is_charwidth_finder:FnIs Tryd.prog 60 4 [.t 2] (x_charwidth_finder 64):=.of (by kernel_rfl)
theorem is_charwidth_Wide:FnIs Tryd.prog 61 16 [.t 0] x_charwidth_Wide:=.of (by kernel_rfl)
theorem is_unicode_utf8_word_69:FnIs Tryd.prog 62 59 [.t 2] x_unicode_utf8_word_69:=.of (by kernel_rfl)
theorem is_charwidth_marks:FnIs Tryd.prog 63 9 [.t 0] x_charwidth_marks:=.of (by kernel_rfl)
theorem is_charwidth_finder_1:FnIs Tryd.prog 64 39 [.t 3] x_charwidth_finder_1:=.of (by kernel_rfl)
def fnsE:List (FuncId × FnE):=[
  (6,⟨98,[.t 0],(x_law19_awake 11 7 12 13 14)⟩),
  (11,⟨5,[.c 2 3 true],x_law19_awake_1⟩),
  (14,⟨67,[.t 4],(x_ref15_Same 25)⟩),
  (25,⟨26,[.t 4],x_ref15_SameRow⟩)]
theorem fnsE_ok:∀ p∈fnsE,FnIs Tryd.prog p.1 p.2.N p.2.res p.2.code:=by
  intro p hp
  simp only [fnsE,List.mem_cons,List.not_mem_nil,or_false] at hp
  rcases hp with rfl | rfl | rfl | rfl
  · exact is_law19_awake
  · exact is_law19_awake_1
  · exact is_ref15_Same
  · exact is_ref15_SameRow
/-- The tables that the rows list. -/
def gam:Tabs:=[(1,tabAccept),(0,tabFirst)]
theorem gam_is : tabsOf Tryd.prog [("unicode/utf8.acceptRanges", Rows.laid_unicode_utf8_acceptRanges), ("unicode/utf8.first", Rows.laid_unicode_utf8_first)] = some gam := by kernel_rfl
def isTrue:Option A→Bool
  | some (.d (.sc (.bool true)))=>true
  | _=>false
theorem isTrue_some {x:Option A} (h:isTrue x=true):x=some (.bool true):=by
  unfold isTrue at h
  split at h
  · rfl
  · cases h
theorem k_vs:∀ s:ByteArray,s.size≤1000→FnP gam Tryd.prog 58 [.str s] (.bool (validS s)) :=
  validString_fn Tryd.laysValid rfl is_unicode_utf8_ValidString (by rw [show Tryd.laysValid_ren.g 3=0 from rfl];exact zZ _ (zW ..)) (by rw [show Tryd.laysValid_ren.g 4=1 from rfl];exact zW ..)
theorem k_mark:∀ r,FnP gam Tryd.prog 59 [.sc (.int .i32 r)] (.bool (markC r)):=mark_fn is_charwidth_Mark (by decide) is_charwidth_marks is_charwidth_finder (by decide) is_charwidth_finder_1 (by decide)
theorem k_cwidth:∀ r,FnP gam Tryd.prog 51 [.sc (.int .i32 r)] (.int (widthC r)):=widthC_fn is_charwidth_Width (by decide) is_charwidth_Mark (by decide) is_charwidth_marks is_charwidth_Wide is_charwidth_finder (by decide) is_charwidth_finder_1 (by decide)
theorem k_marked:∀ l:List Nat,FnP gam Tryd.prog 52 [.d (.sl eRn (rnRows l))] (.bool (l.all fun n=>markC n)):=marked_fn is_cluster_marked (by decide) k_mark
theorem k_valid:∀ s:ByteArray,s.size≤1000→FnP gam Tryd.prog 50 [.str s] (.bool (validS s)):=valid_fn is_utf8stream_Valid (by decide) k_vs
theorem k_check:∀ s:ByteArray,s.size≤1000→FnP gam Tryd.prog 44 [.str s] (.int (chkC s)):=check_fn is_cluster_Check (by decide) k_valid k_cwidth k_marked
theorem k_runes:∀ s:ByteArray,s.size≤1000→FnP gam Tryd.prog 53 [.str s] (.d (.sl eRn (rnRows (runesC s)))):=runes_fn is_cluster_runes (by decide) k_check
theorem k_width:∀ s:ByteArray,s.size≤1000→FnP gam Tryd.prog 45 [.str s] (.int (widC s)):=cwidth_fn is_cluster_Width (by decide) k_runes k_cwidth
theorem k_sized:∀ w h,FnP gam Tryd.prog 26 [.int w,.int h] (.bool (szOk w h)):=sized_fn is_view_sized (by decide)
theorem k_glyph:∀ g:Gl,g.text.size≤1000→FnP gam Tryd.prog 27 [glA g] (.int (glyphC g)):=glyph_fn is_view_glyph (by decide) k_check k_width
theorem k_vw:∀ l:List Gl,FnP gam Tryd.prog 19 [.d (.sl eGl (glRows l))] (.int (widthN l)):=width_fn is_view_Width (by decide)
theorem k_vchk:VchkOk gam Tryd.prog 15:=fun v hs=>viewCheck_fn is_view_Check (by decide) k_sized k_glyph k_vw (blank_fn is_view_blank) v hs.txt
theorem k_trim:∀ l:List Gl,FnP gam Tryd.prog 40 [.d (.sl eGl (glRows l))] (.d (.sl eGl (glRows (trimGl l)))):=trim_fn is_view_Trim (by decide) is_view_blank is_slices_Clone_675 (by decide)
theorem k_cloneO:∀ l:List Gl,RowO Tryd.prog 30 (.d (.sl eGl (glRows l))) l:=cloneO_fn is_slices_Clone_675 (by decide)
theorem k_trimO:∀ l:List Gl,RowO Tryd.prog 40 (.d (.sl eGl (glRows l))) (trimGl l):=trimO_fn is_view_Trim_r (by decide) is_view_blank is_slices_Clone_675 (by decide)
theorem k_between:∀ n a b,FnP gam Tryd.prog 31 [.int n,.int a,.int b] (.bool (btw n a b)):=between_fn is_change_between (by decide)
theorem k_blank19:∀ c,FnP gam Tryd.prog 32 [cgA c] (.bool (blankG c)):=blank19_fn is_change_blank (by decide)
theorem k_proper:∀ g:Gl,g.text.size≤1000→FnP gam Tryd.prog 34 [glA g] (.int (glyphC g)):=proper_fn is_change_proper (by decide) k_check k_width k_between
theorem k_ranges:RangesOk gam.ctx Tryd.prog 33:=fun c ed _ sm hm _ _ _ _ hb e=>ranges_fn is_change_editor_ranges (by decide) k_between c ed sm hm hb e
theorem k_echeck:∀ {v:Vw} (c:Cg),Ed v→∀ {m:Nat},Sm v m→m≤100000→(∀ g∈c.gl,g.text.size≤1000)→∀ {h:Heap} {id k:Nat} {R:List (List A)},EdIs h id v k R→FnD gam.ctx Tryd.prog 17 [.ptr id 1 0 0,cgA c] h (.int (chgC v c)) h :=
  fun c ed _ sm hm hg _ _ _ _ e=>check19_fn is_change_editor_check (by decide) k_between k_blank19 k_ranges k_proper c ed sm hm hg (zI _) e
theorem k_growE:Enters Tryd.prog 55:=enters_ofE (by kernel_rfl)
theorem k_concatO:∀ ls:List (List Gl),ls.length≤1000→ls.flatten.length≤100000→RowO Tryd.prog 47 (.d (.sl eRw (rwRows ls))) ls.flatten:=fun ls h1 h2 Δ h hb =>
  concatO_fn is_slices_Concat_675 (by decide) (fun n hn h _=>growGl_fn Tryd.growR rfl k_growE (by kernel_rfl) n hn h) ls h1 h2 h hb
theorem k_size:EdStep gam.ctx Tryd.prog 35 (fun v c=>c.kind=1∧StepPre v c) stepV:=size_fn is_change_editor_size (by decide) k_vw k_trimO
theorem k_splice:EdStep gam.ctx Tryd.prog 37 (fun v c=>c.kind=3∧StepPre v c) stepV:=splice_fn is_change_editor_splice (by decide) k_concatO k_trimO
theorem k_cursor:EdStep gam.ctx Tryd.prog 38 (fun _ c=>c.kind=4) stepV:=cursor_fn is_change_editor_cursor (by decide)
theorem k_poss:∀ {Γ:Tabs} (n t b y:Int),n≤1000000000000000000→FnP Γ Tryd.prog 54 [.int n,.int t,.int b,.int y] (.bool (possB n t b y)):=fun n t b y h=>possible_fn is_scrolldiff_possible (by decide) n t b y h
theorem k_scroll:EdStep gam.ctx Tryd.prog 36 (fun v c=>c.kind=2∧StepPre v c) stepV:=scroll_fn is_change_editor_scroll (by decide)
  fun Δ' _ l t b y hp hl h hb=>scrRows_fn is_scrolldiff_Rows (by decide) k_poss k_cloneO (cloneN_fn is_slices_Clone_675 (by decide)) l t b y hp hl h hb
theorem k_apply1:EdStep gam.ctx Tryd.prog 18 StepPre stepV:=apply19_fn is_change_editor_apply (by decide) k_size k_scroll k_splice k_cursor
theorem k_openT:OpenTOk gam.ctx Tryd.prog 16:=fun w h1 h2 h=>open19T_fn is_change_open (by decide) (fun l hl h hb=>cloneRows_fn is_slices_Clone_164 (by decide) l hl h hb) k_cloneO w h1 h2 h (zI _)
theorem k_open:OpenOk gam.ctx Tryd.prog 16:=fun w h1 h2 h=>open19_fn is_change_open (by decide) (fun l hl h hb=>cloneRows_fn is_slices_Clone_164 (by decide) l hl h hb) k_cloneO w h1 h2 h (zI _)
theorem k_ap:ApOk gam Tryd.prog 7:=fun v l hr hl=>apply_fn (Δ:=gam.ctx) is_change_Apply (by decide) v l hr hl (k_vchk v hr.sm) (fun h1 h2 h=>k_open v h1 h2 h) k_echeck k_apply1 k_vw
theorem k_lens:∀ a b:List Gl,a.length≤50000→b.length≤50000→FnP gam Tryd.prog 57 [.d (.sl eGl (glRows a)),.d (.sl eGl (glRows b))] (.d (.sl eRw (lenD a b))):=lengths_fn is_editscript_lengths_365 (by decide)
theorem k_script:∀ a b:List Gl,a.length≤50000→b.length≤50000→FnP gam Tryd.prog 41 [.d (.sl eGl (glRows a)),.d (.sl eGl (glRows b))] (.d (.sl eEd (edsRows (scriptE a b)))):=fun a b ha hb =>
  script_fn (f1:=56) is_editscript_Script_365 (by decide) a b ha hb (walk_fn is_editscript_walk_365 (by decide) a b) (walk1_gen is_editscript_walk_365_1 (by decide) a b ha hb (k_lens a b ha hb))
theorem k_splices:∀ (row:Int) (a b:List Gl),a.length≤50000→b.length≤50000→FnP gam Tryd.prog 24 [.int row,.d (.sl eGl (glRows a)),.d (.sl eGl (glRows b))] (cgsA (splicesV row a b)):=fun row a b ha hb =>
  splices_fn is_rowdiff_Splices (by decide) k_trim row a b (eds_ok (Nat.le_trans (trim_len _) ha) (Nat.le_trans (trim_len _) hb)) (by omega) (k_script _ _ (Nat.le_trans (trim_len _) ha) (Nat.le_trans (trim_len _) hb))
    (fun l=>clone_fn is_slices_Clone_675 (by decide) _) (fun a b=>replace_fn is_rowdiff_Replace (by decide) k_trim row a b) (cost_fn is_rowdiff_Cost (by decide))
theorem k_inv:InvOk gam Tryd.prog 13:=fun v l hr hl hw=>inverse_fn is_change_Inverse (by decide) v l hr.sm hw (k_ap v l hr hl) k_open k_apply1 k_splices
theorem k_great19:∀ l:List Cg,FnP gam Tryd.prog 5 [cgsA l] (.bool (greatL l)):=great19_fn is_ref19_Great (by decide) (greatRow_fn is_ref15_GreatRow (by decide))
theorem k_greatV:∀ v:Vw,FnP gam Tryd.prog 9 [vwA v] (.bool (greatV v)):=great_fn is_ref15_Great (by decide) is_ref15_GreatRow (by decide)
theorem k_grt:GrtOk gam Tryd.prog 4:=fun v l=>grt_fn is_law19_great (by decide) v l (k_greatV v) (k_great19 l)
theorem k_vsame:SameOk gam Tryd.prog 14:=same_fn is_ref15_Same (by decide) is_ref15_SameRow (by decide)
theorem k_vequal:SameOk gam Tryd.prog 8:=viewEqual_fn is_view_Equal (by decide) is_slices_EqualFunc_833 (by decide) is_slices_Equal_675 (by decide)
theorem k_sameRow:∀ a b:List Gl,FnP gam Tryd.prog 25 [.d (.sl eGl (glRows a)),.d (.sl eGl (glRows b))] (.bool (decide (a=b))):=sameRow_fn is_ref15_SameRow (by decide)
theorem k_text:TextGOk gam Tryd.prog 12:=textG_fn is_view_Text Tryd.textG_walk
theorem ext_ok:∀ f args r,ext19 7 13 12 f args=some r→FnP gam Tryd.prog f args r:=ext19_ok k_ap k_inv k_text
set_option maxRecDepth 100000 in
theorem awake_run:isTrue ((orcE fnsE (ext19 7 13 12) ⟨3,32⟩ (tabS gam) 300 30).pure 6 [])=true:=by kernel_rfl
theorem awake_fn:FnP gam Tryd.prog 6 [] (.bool true):=(orcE_ok fnsE_ok ext_ok 30).pure _ _ _ (isTrue_some awake_run)
theorem k_apN:ApNOk gam Tryd.prog 7:=fun v l hr hl=>applyN_fn (Δ:=gam.ctx) is_change_Apply (by decide) v l hr hl (k_vchk v hr.sm) (fun h1 h2 h=>k_open v h1 h2 h) k_echeck k_apply1 k_vw
/-! ### Arguments -/
def tGlyph:Ty:=.st [.str,.bool,.int .i64]
def tGlyphs:Ty:=.sl ⟨3,32⟩ tGlyph
theorem glyph_of {xs:List D} (h:WT tGlyph xs):∃ g:Gl,xs=g.row:=by
  obtain ⟨a,b,rfl,⟨s,rfl,_⟩,a2,b2,rfl,⟨w,rfl⟩,a3,b3,rfl,⟨n,rfl,_⟩,rfl⟩:=h
  exact ⟨⟨s,w,n⟩,rfl⟩
theorem rows_of:∀ {rows:List (List D)},(∀ r∈rows,WT tGlyph r)→∃ l:List Gl,rows=glRows l
  | [],_=>⟨[],rfl⟩
  | r::rows,h=>by
    obtain ⟨g,rfl⟩:=glyph_of (h r (zW ..))
    obtain ⟨l,rfl⟩:=rows_of fun r hr=>h r (zZ _ hr)
    exact ⟨g::l,rfl⟩
theorem glyphs_of {xs:List D} (h:WT tGlyphs xs):∃ l:List Gl,xs=[.sl eGl (glRows l)]:=by
  obtain ⟨rows,rfl,hr⟩:=h
  obtain ⟨l,rfl⟩:=rows_of hr
  exact ⟨l,rfl⟩
def tView:Ty:=.st [.int .i64,.int .i64,.sl ⟨1,24⟩ tGlyphs,.int .i64,.int .i64,.bool]
theorem vrows_of:∀ {rows:List (List D)},(∀ r∈rows,WT tGlyphs r)→∃ l:List (List Gl),rows=rwRows l
  | [],_=>⟨[],rfl⟩
  | r::rows,h=>by
    obtain ⟨g,rfl⟩:=glyphs_of (h r (zW ..))
    obtain ⟨l,rfl⟩:=vrows_of fun r hr=>h r (zZ _ hr)
    exact ⟨g::l,rfl⟩
theorem view_of {xs:List D} (h:WT tView xs):∃ v:Vw,xs=v.ds:=by
  obtain ⟨_,_,rfl,⟨w,rfl,_⟩,_,_,rfl,⟨h,rfl,_⟩,_,_,rfl,⟨rows,rfl,hr⟩,_,_,rfl,⟨r,rfl,_⟩,_,_,rfl,⟨c,rfl,_⟩,_,_,rfl,⟨b,rfl⟩,rfl⟩:=h
  obtain ⟨l,rfl⟩:=vrows_of hr
  exact ⟨⟨w,h,l,r,c,b⟩,rfl⟩
def tChange:Ty:=.st [.int .i64,.int .i64,.int .i64,.int .i64,.int .i64,tGlyphs]
def tChanges:Ty:=.sl ⟨6,64⟩ tChange
theorem change_of {xs:List D} (h:WT tChange xs):∃ c:Cg,xs=c.ds:=by
  obtain ⟨_,_,rfl,⟨a,rfl,_⟩,_,_,rfl,⟨b,rfl,_⟩,_,_,rfl,⟨c,rfl,_⟩,_,_,rfl,⟨d,rfl,_⟩,_,_,rfl,⟨e,rfl,_⟩,_,_,rfl,⟨rows,rfl,hr⟩,rfl⟩:=h
  obtain ⟨l,rfl⟩:=rows_of hr
  exact ⟨⟨a,b,c,d,e,l⟩,rfl⟩
theorem changes_of':∀ {rows:List (List D)},(∀ r∈rows,WT tChange r)→∃ l:List Cg,rows=cgRows l
  | [],_=>⟨[],rfl⟩
  | r::rows,h=>by
    obtain ⟨g,rfl⟩:=change_of (h r (zW ..))
    obtain ⟨l,rfl⟩:=changes_of' fun r hr=>h r (zZ _ hr)
    exact ⟨g::l,rfl⟩
theorem changes_of {xs:List D} (h:WT tChanges xs):∃ l:List Cg,xs=[.sl eCg (cgRows l)]:=by
  obtain ⟨rows,rfl,hr⟩:=h
  obtain ⟨l,rfl⟩:=changes_of' hr
  exact ⟨l,rfl⟩
end Go.Proofs.YtadfkfgjhaijiaaDoor.Nx

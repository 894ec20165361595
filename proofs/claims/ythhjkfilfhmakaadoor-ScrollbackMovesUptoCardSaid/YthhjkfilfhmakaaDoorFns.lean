/- The functions of this program are those of the definitions; the example that every statement checks. -/
import Derived.Test.YthhjkfilfhmakaaDoorNxCore
import Derived.Test.YthhjkfilfhmakaaDoorNxSound
import Derived.Test.YthhjkfilfhmakaaDoorNxSound2
import Derived.Test.YthhjkfilfhmakaaDoorNxSound4
import Derived.Test.YthhjkfilfhmakaaDoorNxSound6
import Derived.Test.YthhjkfilfhmakaaDoorNxComp
import Derived.Test.YthhjkfilfhmakaaDoorNxExec
import Derived.Test.YthhjkfilfhmakaaDoorNxDraw
import Derived.Test.YthhjkfilfhmakaaDoorNxStep
import Derived.Test.YthhjkfilfhmakaaDoorNxRegion
import Derived.Test.YthhjkfilfhmakaaDoorNxCode
import Derived.Test.YthhjkfilfhmakaaDoorNxFn
import Derived.Test.YthhjkfilfhmakaaDoorNxCheck
import Derived.Test.YthhjkfilfhmakaaDoorNxWalk
import Derived.Test.YthhjkfilfhmakaaDoorNxLink
import Derived.Test.YthhjkfilfhmakaaDoorNxEval
import Derived.Test.YthhjkfilfhmakaaDoorNxC1
import Derived.Test.YthhjkfilfhmakaaDoorNxV1
import Derived.Test.YthhjkfilfhmakaaDoorNxB0
import Derived.Test.YthhjkfilfhmakaaDoorNxQ1
import Derived.Test.YthhjkfilfhmakaaDoorNxQ3
import Derived.Test.YthhjkfilfhmakaaDoorNxB4
import Derived.Test.YthhjkfilfhmakaaDoorNxS1
import Derived.Test.YthhjkfilfhmakaaDoorNxG0
import Derived.Test.YthhjkfilfhmakaaDoorNxS8
import Derived.Test.YthhjkfilfhmakaaDoorNxR1
import Derived.Test.YthhjkfilfhmakaaDoorNxG4
import Derived.Test.YthhjkfilfhmakaaDoorNxW8
import Derived.Test.YthhjkfilfhmakaaDoorNxS6
import Derived.Test.YthhjkfilfhmakaaDoorNxG11
import Derived.Test.YthhjkfilfhmakaaDoorNxS10
import Derived.Test.YthhjkfilfhmakaaDoorNxG13
import Derived.Test.YthhjkfilfhmakaaDoorNxS12
import Derived.Test.YthhjkfilfhmakaaDoorNxS7
import Derived.Test.YthhjkfilfhmakaaDoorNxS13
import Derived.Test.YthhjkfilfhmakaaDoorNxC3
import Derived.Test.YthhjkfilfhmakaaDoorNxC7
import Derived.Test.YthhjkfilfhmakaaDoorNxLink3
import Derived.Test.YthhjkfilfhmakaaDoorNxDL
import Derived.Test.YthhjkfilfhmakaaDoorNxD15
import Derived.Test.YthhjkfilfhmakaaDoorRows
import Derived.KernelRfl
import Derived.Ground.NamesProg
import Derived.Shelf.Lay
import Derived.Shelf.Unicode.ValidAny
import Derived.Shelf.Spec.SlicesGrow
import Derived.Ground.Names7Prog
set_option linter.unusedSimpArgs false
set_option linter.unusedVariables false
set_option linter.unnecessarySimpa false
open List renaming mem_cons_self → zW, mem_cons_of_mem → zZ, mem_cons → zp
namespace Go.Proofs.YthhjkfilfhmakaaDoor
open Go.RowKit Go.Shelf Go.Lib
shelf_lay Lays.n196 Nm 196 at Tryd as Tryd.laysValid
end Go.Proofs.YthhjkfilfhmakaaDoor
namespace Go.Proofs.YthhjkfilfhmakaaDoor
open Go.RowKit Go.Shelf Go.Lib
shelf_lay_g Lays8.n4 Nm8 4 at Tryd 55 as Tryd.growR
end Go.Proofs.YthhjkfilfhmakaaDoor
namespace Go.Proofs.YthhjkfilfhmakaaDoor.Nx
open Go
theorem is_law12_ScrollbackMoves:FnIs Tryd.prog 4 96 [.t 4] (x_law12_ScrollbackMoves 18 19 13 14 16 20 21 23 22):=.of (by kernel_rfl)
theorem is_ref12_Great:FnIs Tryd.prog 11 18 [.t 2] (x_ref12_Great 30):=.of (by kernel_rfl)
theorem is_ref08_Great:FnIs Tryd.prog 12 18 [.t 2] (x_ref08_Great 30):=.of (by kernel_rfl)
theorem is_law12_awake:FnIs Tryd.prog 13 50 [.t 0] (x_law12_awake 31 14 21):=.of (by kernel_rfl)
theorem is_scrollback_Window:FnIs Tryd.prog 14 55 [.c 6 3 true,.c 7 1 false] (x_scrollback_Window 17 32 33 34 35):=.of (by kernel_rfl)
theorem is_ref08_Same:FnIs Tryd.prog 16 24 [.t 4] (x_ref08_Same 21):=.of (by kernel_rfl)
theorem is_grid_Check:FnIs Tryd.prog 17 39 [.t 2] (x_grid_Check 38 33):=.of (by kernel_rfl)
theorem is_law12_proper:FnIs Tryd.prog 18 18 [.t 2] (x_law12_proper 37 11):=.of (by kernel_rfl)
theorem is_ref08_Right:FnIs Tryd.prog 19 12 [.t 2] (x_ref08_Right 12 36):=.of (by kernel_rfl)
theorem is_scrollback_Line:FnIs Tryd.prog 20 23 [.t 4,.t 5] (x_scrollback_Line 35):=.of (by kernel_rfl)
theorem is_ref08_SameRows:FnIs Tryd.prog 21 27 [.t 4] (x_ref08_SameRows 22):=.of (by kernel_rfl)
theorem is_ref07_Same:FnIs Tryd.prog 22 26 [.t 4] x_ref07_Same:=.of (by kernel_rfl)
theorem is_ref07_Fit:FnIs Tryd.prog 23 50 [.t 4] (x_ref07_Fit 37 39 40):=.of (by kernel_rfl)
theorem is_grid_Scroll:FnIs Tryd.prog 29 101 [.c 10 3 true,.t 11,.t 12] (x_grid_Scroll 44 45 46):=.of (by kernel_rfl)
theorem is_ref07_Great:FnIs Tryd.prog 30 20 [.t 2] x_ref07_Great:=.of (by kernel_rfl)
theorem is_law12_rows:FnIs Tryd.prog 31 23 [.t 2] x_law12_rows:=.of (by kernel_rfl)
theorem is_scrollback_visible:FnIs Tryd.prog 32 8 [.t 6] (x_scrollback_visible 47):=.of (by kernel_rfl)
theorem is_cellrow_Check:FnIs Tryd.prog 33 64 [.t 2] (x_cellrow_Check 48 49):=.of (by kernel_rfl)
theorem is_cellrow_Fit:FnIs Tryd.prog 34 52 [.t 4] (x_cellrow_Fit 33 35 50 51):=.of (by kernel_rfl)
theorem is_slices_Clone_750:FnIs Tryd.prog 35 8 [.t 2] x_slices_Clone_750:=.of (by kernel_rfl)
theorem is_ref08_Check:FnIs Tryd.prog 36 42 [.t 2] (x_ref08_Check 52 37):=.of (by kernel_rfl)
theorem is_ref07_Check:FnIs Tryd.prog 37 68 [.t 2] (x_ref07_Check 53 54):=.of (by kernel_rfl)
theorem is_grid_size:FnIs Tryd.prog 38 19 [.t 4] x_grid_size:=.of (by kernel_rfl)
theorem is_ref07_copied:FnIs Tryd.prog 39 6 [.t 2] x_ref07_copied:=.of (by kernel_rfl)
theorem is_ref07_blank:FnIs Tryd.prog 40 6 [.c 2 5 true] x_ref07_blank:=.of (by kernel_rfl)
theorem is_grid_ready:FnIs Tryd.prog 44 10 [.c 2 3 true,.t 3] (x_grid_ready 17 56):=.of (by kernel_rfl)
theorem is_grid_blanks:FnIs Tryd.prog 45 6 [.t 4] (x_grid_blanks 57):=.of (by kernel_rfl)
theorem is_slices_Clone_128:FnIs Tryd.prog 46 8 [.t 2] x_slices_Clone_128:=.of (by kernel_rfl)
theorem is_scrollback_visible_1:FnIs Tryd.prog 47 45 [] x_scrollback_visible_1:=.of (by kernel_rfl)
theorem is_cluster_Check:FnIs Tryd.prog 48 30 [.t 2] (x_cluster_Check 59 60 61):=.of (by kernel_rfl)
theorem is_cluster_Width:FnIs Tryd.prog 49 13 [.t 2] (x_cluster_Width 62 60):=.of (by kernel_rfl)
theorem is_cellrow_blanks:FnIs Tryd.prog 50 10 [.t 4] (x_cellrow_blanks 51 63):=.of (by kernel_rfl)
theorem is_cellrow_blank:FnIs Tryd.prog 51 6 [.c 2 5 true] x_cellrow_blank:=.of (by kernel_rfl)
theorem is_ref08_sized:FnIs Tryd.prog 52 19 [.t 4] x_ref08_sized:=.of (by kernel_rfl)
theorem is_ref03_Check:FnIs Tryd.prog 53 40 [.t 2] (x_ref03_Check 64 65 66 67):=.of (by kernel_rfl)
theorem is_ref03_Width:FnIs Tryd.prog 54 11 [.t 2] (x_ref03_Width 53 65 67):=.of (by kernel_rfl)
theorem is_grid_own:FnIs Tryd.prog 56 27 [.c 2 3 true] (x_grid_own 35):=.of (by kernel_rfl)
theorem is_grid_blanks_1:FnIs Tryd.prog 57 6 [.t 2] (x_grid_blanks_1 58):=.of (by kernel_rfl)
theorem is_cellrow_Blank:FnIs Tryd.prog 58 15 [.t 4] (x_cellrow_Blank 50):=.of (by kernel_rfl)
theorem is_utf8stream_Valid:FnIs Tryd.prog 59 5 [.t 2] (x_utf8stream_Valid 68):=.of (by kernel_rfl)
theorem is_charwidth_Width:FnIs Tryd.prog 60 22 [.t 2] (x_charwidth_Width 69 71 70):=.of (by kernel_rfl)
theorem is_cluster_marked:FnIs Tryd.prog 61 15 [.t 2] (x_cluster_marked 69):=.of (by kernel_rfl)
theorem is_cluster_runes:FnIs Tryd.prog 62 8 [.t 2] (x_cluster_runes 48):=.of (by kernel_rfl)
theorem is_slices_Repeat_750:FnIs Tryd.prog 63 48 [.t 4] (x_slices_Repeat_750 72):=.of (by kernel_rfl)
theorem is_ref01_Valid:FnIs Tryd.prog 64 18 [.t 2] (x_ref01_Valid 73 74):=.of (by kernel_rfl)
theorem is_ref03_Characters:FnIs Tryd.prog 65 11 [.t 2] (x_ref03_Characters 73):=.of (by kernel_rfl)
theorem is_ref02_Mark:FnIs Tryd.prog 66 6 [.t 2] (x_ref02_Mark 76 75):=.of (by kernel_rfl)
theorem is_ref02_Width:FnIs Tryd.prog 67 21 [.t 2] (x_ref02_Width 66 77 75):=.of (by kernel_rfl)
theorem is_unicode_utf8_ValidString:FnIs Tryd.prog 68 169 [.t 2] (x_unicode_utf8_ValidString 78):=.of (by kernel_rfl)
theorem is_charwidth_Mark:FnIs Tryd.prog 69 7 [.t 2] (x_charwidth_Mark 79 70):=.of (by kernel_rfl)
theorem is_charwidth_finder:FnIs Tryd.prog 70 4 [.t 2] (x_charwidth_finder 80):=.of (by kernel_rfl)
theorem is_charwidth_Wide:FnIs Tryd.prog 71 16 [.t 0] x_charwidth_Wide:=.of (by kernel_rfl)
theorem is_math_bits_Mul:FnIs Tryd.prog 72 30 [.t 4,.t 5] (x_math_bits_Mul 81 82):=.of (by kernel_rfl)
theorem is_ref01_Decode:FnIs Tryd.prog 73 96 [.t 4,.t 5] (x_ref01_Decode 83 84):=.of (by kernel_rfl)
theorem is_ref01_Encode:FnIs Tryd.prog 74 95 [.t 2] x_ref01_Encode:=.of (by kernel_rfl)
theorem is_ref02_in:FnIs Tryd.prog 75 28 [.t 4] x_ref02_in:=.of (by kernel_rfl)
theorem is_ref02_Marks:FnIs Tryd.prog 76 9 [.t 0] x_ref02_Marks:=.of (by kernel_rfl)
theorem is_ref02_Wide:FnIs Tryd.prog 77 16 [.t 0] x_ref02_Wide:=.of (by kernel_rfl)
theorem is_unicode_utf8_word_69:FnIs Tryd.prog 78 59 [.t 2] x_unicode_utf8_word_69:=.of (by kernel_rfl)
theorem is_charwidth_marks:FnIs Tryd.prog 79 9 [.t 0] x_charwidth_marks:=.of (by kernel_rfl)
theorem is_charwidth_finder_1:FnIs Tryd.prog 80 39 [.t 3] x_charwidth_finder_1:=.of (by kernel_rfl)
theorem is_math_bits_Mul32:FnIs Tryd.prog 81 17 [.t 4,.t 5] x_math_bits_Mul32:=.of (by kernel_rfl)
theorem is_math_bits_Mul64:FnIs Tryd.prog 82 51 [.t 4,.t 5] x_math_bits_Mul64:=.of (by kernel_rfl)
theorem is_ref01_limits:FnIs Tryd.prog 83 61 [.t 2,.t 3,.t 4] x_ref01_limits:=.of (by kernel_rfl)
theorem is_ref01_value:FnIs Tryd.prog 84 44 [.t 2] x_ref01_value:=.of (by kernel_rfl)
def fnsE:List (FuncId × FnE):=[
  (13,⟨50,[.t 0],(x_law12_awake 31 14 21)⟩),
  (17,⟨39,[.t 2],(x_grid_Check 38 33)⟩),
  (21,⟨27,[.t 4],(x_ref08_SameRows 22)⟩),
  (22,⟨26,[.t 4],x_ref07_Same⟩),
  (31,⟨23,[.t 2],x_law12_rows⟩),
  (33,⟨64,[.t 2],(x_cellrow_Check 48 49)⟩),
  (38,⟨19,[.t 4],x_grid_size⟩),
  (48,⟨30,[.t 2],(x_cluster_Check 59 60 61)⟩),
  (49,⟨13,[.t 2],(x_cluster_Width 62 60)⟩),
  (50,⟨10,[.t 4],(x_cellrow_blanks 51 63)⟩),
  (51,⟨6,[.c 2 5 true],x_cellrow_blank⟩),
  (59,⟨5,[.t 2],(x_utf8stream_Valid 68)⟩),
  (60,⟨22,[.t 2],(x_charwidth_Width 69 71 70)⟩),
  (61,⟨15,[.t 2],(x_cluster_marked 69)⟩),
  (62,⟨8,[.t 2],(x_cluster_runes 48)⟩),
  (63,⟨48,[.t 4],(x_slices_Repeat_750 72)⟩),
  (68,⟨169,[.t 2],(x_unicode_utf8_ValidString 78)⟩),
  (69,⟨7,[.t 2],(x_charwidth_Mark 79 70)⟩),
  (70,⟨4,[.t 2],(x_charwidth_finder 80)⟩),
  (71,⟨16,[.t 0],x_charwidth_Wide⟩),
  (72,⟨30,[.t 4,.t 5],(x_math_bits_Mul 81 82)⟩),
  (78,⟨59,[.t 2],x_unicode_utf8_word_69⟩),
  (79,⟨9,[.t 0],x_charwidth_marks⟩),
  (80,⟨39,[.t 3],x_charwidth_finder_1⟩),
  (81,⟨17,[.t 4,.t 5],x_math_bits_Mul32⟩),
  (82,⟨51,[.t 4,.t 5],x_math_bits_Mul64⟩)]
theorem fnsE_ok:∀ p∈fnsE,FnIs Tryd.prog p.1 p.2.N p.2.res p.2.code:=by
  intro p hp
  simp only [fnsE,zp,List.not_mem_nil,or_false] at hp
  rcases hp with rfl | rfl | rfl | rfl | rfl | rfl | rfl | rfl | rfl | rfl | rfl | rfl | rfl | rfl | rfl | rfl | rfl | rfl | rfl | rfl | rfl | rfl | rfl | rfl | rfl | rfl
  · exact is_law12_awake
  · exact is_grid_Check
  · exact is_ref08_SameRows
  · exact is_ref07_Same
  · exact is_law12_rows
  · exact is_cellrow_Check
  · exact is_grid_size
  · exact is_cluster_Check
  · exact is_cluster_Width
  · exact is_cellrow_blanks
  · exact is_cellrow_blank
  · exact is_utf8stream_Valid
  · exact is_charwidth_Width
  · exact is_cluster_marked
  · exact is_cluster_runes
  · exact is_slices_Repeat_750
  · exact is_unicode_utf8_ValidString
  · exact is_charwidth_Mark
  · exact is_charwidth_finder
  · exact is_charwidth_Wide
  · exact is_math_bits_Mul
  · exact is_unicode_utf8_word_69
  · exact is_charwidth_marks
  · exact is_charwidth_finder_1
  · exact is_math_bits_Mul32
  · exact is_math_bits_Mul64
/-- The tables that the rows list. -/
def gam:Tabs:=[(1,tabAccept),(0,tabFirst)]
theorem gam_is : tabsOf Tryd.prog [("unicode/utf8.acceptRanges", Rows.laid_unicode_utf8_acceptRanges), ("unicode/utf8.first", Rows.laid_unicode_utf8_first)] = some gam := by kernel_rfl
def isTrue:Option A→Bool
  | some (.d (.sc (.bool true)))=>true
  | _=>false
theorem isTrue_some {x:Option A} (h:isTrue x=true):x=some (.bool true):=by
  unfold isTrue at h
  split at h
  · rfl
  · cases h
theorem k_vs:∀ s:ByteArray,s.size≤1000→FnP gam Tryd.prog 68 [.str s] (.bool (validS s)) :=
  validString_fn Tryd.laysValid rfl is_unicode_utf8_ValidString (by rw [show Tryd.laysValid_ren.g 3=0 from rfl];exact zZ _ (zW ..)) (by rw [show Tryd.laysValid_ren.g 4=1 from rfl];exact zW ..)
theorem k_mark:∀ r,FnP gam Tryd.prog 69 [.sc (.int .i32 r)] (.bool (markC r)):=mark_fn is_charwidth_Mark (by decide) is_charwidth_marks is_charwidth_finder (by decide) is_charwidth_finder_1 (by decide)
theorem k_cwidth:∀ r,FnP gam Tryd.prog 60 [.sc (.int .i32 r)] (.int (widthC r)):=widthC_fn is_charwidth_Width (by decide) is_charwidth_Mark (by decide) is_charwidth_marks is_charwidth_Wide is_charwidth_finder (by decide) is_charwidth_finder_1 (by decide)
theorem k_marked:∀ l:List Nat,FnP gam Tryd.prog 61 [.d (.sl eRn (rnRows l))] (.bool (l.all fun n=>markC n)):=marked_fn is_cluster_marked (by decide) k_mark
theorem k_valid:∀ s:ByteArray,s.size≤1000→FnP gam Tryd.prog 59 [.str s] (.bool (validS s)):=valid_fn is_utf8stream_Valid (by decide) k_vs
theorem k_check:∀ s:ByteArray,s.size≤1000→FnP gam Tryd.prog 48 [.str s] (.int (chkC s)):=check_fn is_cluster_Check (by decide) k_valid k_cwidth k_marked
theorem k_runes:∀ s:ByteArray,s.size≤1000→FnP gam Tryd.prog 62 [.str s] (.d (.sl eRn (rnRows (runesC s)))):=runes_fn is_cluster_runes (by decide) k_check
theorem k_width:∀ s:ByteArray,s.size≤1000→FnP gam Tryd.prog 49 [.str s] (.int (widC s)):=cwidth_fn is_cluster_Width (by decide) k_runes k_cwidth
theorem k_dec:∀ s:ByteArray,s.size≤1000→FnP gam Tryd.prog 73 [.str ⟨#[]⟩,.str s] (decA (toN s.data.toList)):=decode_fn is_ref01_Decode (by decide) is_ref01_limits (by decide) is_ref01_value (by decide)
theorem k_enc:∀ l:List Int,l.length≤1000→FnP gam Tryd.prog 74 [.d (.sl eRu (irRows l))] (.str (numS (encL l))):=encode_fn is_ref01_Encode (by decide)
theorem k_rvalid:∀ s:ByteArray,s.size≤1000→FnP gam Tryd.prog 64 [.str s] (.bool (validS s)):=refValid_fn is_ref01_Valid (by decide) k_dec k_enc
theorem k_chars:∀ s:ByteArray,s.size≤1000→validS s=true→FnP gam Tryd.prog 65 [.str s] (.d (.sl eRn (rnRows (runesOf s)))):=refChars_fn is_ref03_Characters (by decide) k_dec
theorem k_mark2:∀ r,FnP gam Tryd.prog 66 [.sc (.int .i32 r)] (.bool (markC r)):=mark2_fn is_ref02_Mark (by decide) is_ref02_Marks is_ref02_in (by decide)
theorem k_width2:∀ r,FnP gam Tryd.prog 67 [.sc (.int .i32 r)] (.int (widthC r)):=width2_fn is_ref02_Width (by decide) is_ref02_Mark (by decide) is_ref02_Marks is_ref02_Wide is_ref02_in (by decide)
theorem k_check3:∀ s:ByteArray,s.size≤1000→FnP gam Tryd.prog 53 [.str s] (.int (chkC s)):=check3_fn is_ref03_Check (by decide) k_rvalid k_chars k_mark2 k_width2
theorem k_cw3:∀ s:ByteArray,s.size≤1000→FnP gam Tryd.prog 54 [.str s] (.int (widC s)):=cwidth3_fn is_ref03_Width (by decide) k_check3 k_chars k_width2
def o0:Orc:=orcE fnsE (fun _ _=>none) ⟨1,24⟩ (tabS gam) 300 30
theorem o0_ok:OrcOk (.all gam.ctx Tryd.prog) o0:=orcE_ok fnsE_ok (fun _ _ _ h=>by cases h) 30
set_option maxRecDepth 100000 in
theorem k_mul:∀ n:Nat,n≤132→FnP gam Tryd.prog 72 [.d (.sc (.int .u64 1)),.d (.sc (.int .u64 n))] (.tup [.d (.sc (.int .u64 0)),.d (.sc (.int .u64 n))]):=mul_of o0_ok (by kernel_rfl)
theorem k_row:CheckOk gam Tryd.prog 33:=rowCheck_fn is_cellrow_Check (by decide) k_check k_width
theorem k_rrow:CheckOk gam Tryd.prog 37:=refRow_fn is_ref07_Check (by decide) k_check3 k_cw3
theorem k_size:∀ w h,FnP gam Tryd.prog 38 [.int w,.int h] (.int (if szOk w h then 0 else 2)):=size8_fn is_grid_size (by decide)
theorem k_sized:∀ w h,FnP gam Tryd.prog 52 [.int w,.int h] (.bool (szOk w h)):=sized8_fn is_ref08_sized (by decide)
theorem k_gck:GCheckOk gam Tryd.prog 17:=fun g hg=>gcheck_fn is_grid_Check (by decide) k_size k_row g fun r hr=>(hg r hr).2
theorem k_rgck:GCheckOk gam Tryd.prog 36:=fun g hg=>rgcheck_fn is_ref08_Check (by decide) k_sized k_rrow g fun r hr=>(hg r hr).2
theorem k_clone:∀ rows,FnP gam Tryd.prog 35 [.d (.sl eCe rows)] (.d (.sl eCe rows)):=cloneC_fn is_slices_Clone_750 (by decide)
theorem k_ready:∀ g:Gd,g.small→∀ h:Heap,FnD gam.ctx Tryd.prog 44 [gdA g] h (readyA g h.length) (h++readyH g h.length):=fun g hg h =>
  ready_fn is_grid_ready (by decide) g (k_gck g hg) (fun h0 h hb=>own_fn is_grid_own (by decide) k_clone g (by have:=gridCk_h h0;omega) h hb) h (Nat.zero_le _)
theorem k_blanks:∀ (back:Int) (n:Nat),n≤132→FnP gam Tryd.prog 50 [.int n,.int back] (.d (.sl eCe (ceRows (List.replicate n (blankC back))))):=fun back n hn =>
  blanks_fn is_cellrow_blanks (by decide) is_cellrow_blank (by decide) back n fun c=>repeat_fn is_slices_Repeat_750 (by decide) c n hn (k_mul n hn)
theorem k_cBlank:∀ w a b c:Int,FnP gam Tryd.prog 58 [.int w,atA a b c] (.d (.sl eCe (ceRows (blankRow w b)))):=fun w a b c=>cBlank_fn is_cellrow_Blank (by decide) w a b c (k_blanks b)
theorem k_gblanks:∀ w a b c:Int,FnP gam Tryd.prog 45 [.int w,atA a b c] (.fn 57 [.iptr [.sc (.int .i64 w)],.iptr (atD a b c)]):=gblanks_fn is_grid_blanks (by decide)
theorem k_gblanks1:∀ w a b c:Int,FnP gam Tryd.prog 57 [.iptr [.sc (.int .i64 w)],.iptr (atD a b c)] (.d (.sl eCe (ceRows (blankRow w b)))):=fun w a b c=>gblanks1_fn is_grid_blanks_1 (by decide) w a b c (k_cBlank w a b c)
theorem k_scroll:ScrollOk gam Tryd.prog 29:=fun g hg top bottom by_ a b c =>
  scroll_fn is_grid_Scroll (by decide) g top bottom by_ a b c (k_ready g hg) (fun w=>k_gblanks w a b c) (fun w=>k_gblanks1 w a b c) is_slices_Clone_128 (by decide)
theorem k_great:Great10Ok gam Tryd.prog 12:=great10_fn is_ref08_Great (by decide) (greatC_fn is_ref07_Great (by decide))
theorem k_sameC:∀ a b:List Ce,FnP gam Tryd.prog 22 [.d (.sl eCe (ceRows a)),.d (.sl eCe (ceRows b))] (.bool (decide (a=b))):=sameC_fn is_ref07_Same (by decide)
theorem k_sameL:SameLOk gam Tryd.prog 21:=sameRows_fn is_ref08_SameRows (by decide) k_sameC
theorem k_same:SameGOk gam Tryd.prog 16:=same8_fn is_ref08_Same (by decide) k_sameL
theorem k_great12:GreatOk gam Tryd.prog 11:=great12_fn is_ref12_Great (by decide) (greatC_fn is_ref07_Great (by decide))
theorem k_len:∀ {r:List Ce},checkR r=0→1≤r.length∧r.length≤132:=fun {r} h=>by
  unfold checkR at h
  split at h
  · cases h
  · omega
theorem k_win:WinOk gam Tryd.prog 14:=fun b g back hbl hb hg =>
  window_fn (f1:=47) is_scrollback_Window (by decide) b g back (gridCk g) checkR (fun r=>fitR (checkR r) r g.w) (by omega) (fun h=>⟨(gridCk_h h).1,by have:=(gridCk_h h).2.1;omega⟩) (k_gck g hg)
    (visible_fn is_scrollback_visible (by decide) b g back) (fun w rows bk hbk hrl=>visible1_gen is_scrollback_visible_1 (by decide) b w rows bk hbk (by omega) hrl) (fun r hr=>k_row r (hb r hr).2)
    (fun r hr=>fit_fn is_cellrow_Fit (by decide) is_slices_Clone_750 (by decide) is_cellrow_blank (by decide) r g.w (checkR r) (k_row r (hb r hr).2) k_len fun n _ hn=>k_blanks (-1) n hn) k_clone
theorem ext_ok:∀ f args r,extWindow o0 14 17 33 50 f args=some r→FnP gam Tryd.prog f args r :=
  extWindow_ok o0_ok is_scrollback_Window (by decide) is_scrollback_visible (by decide) is_scrollback_visible_1 (by decide) is_slices_Clone_750 (by decide) is_cellrow_Fit (by decide) is_cellrow_blank (by decide)
set_option maxRecDepth 100000 in
theorem awake_run:isTrue ((orcE fnsE (extWindow o0 14 17 33 50) ⟨1,24⟩ (tabS gam) 300 30).pure 13 [])=true:=by kernel_rfl
theorem awake_fn:FnP gam Tryd.prog 13 [] (.bool true):=(orcE_ok fnsE_ok ext_ok 30).pure _ _ _ (isTrue_some awake_run)
theorem k_line:LineOk gam Tryd.prog 20:=line_fn is_scrollback_Line (by decide) k_clone
theorem k_sr:SRowsOk gam Tryd.prog 21:=sameRows_fn is_ref08_SameRows (by decide) k_sameC
theorem k_right:RightOk gam Tryd.prog 19:=right8_fn is_ref08_Right (by decide) k_great fun g hg=>rgcheck_fn is_ref08_Check (by decide) k_sized k_rrow g hg
theorem kL_dec:∀ s:ByteArray,s.size≤2000000→FnP gam Tryd.prog 73 [.str ⟨#[]⟩,.str s] (decA (toN s.data.toList)):=decodeL_fn is_ref01_Decode (by decide) is_ref01_limits (by decide) is_ref01_value (by decide)
theorem kL_enc:∀ l:List Int,l.length≤2000000→FnP gam Tryd.prog 74 [.d (.sl eRu (irRows l))] (.str (numS (encL l))):=encodeL_fn is_ref01_Encode (by decide)
theorem kL_rvalid:∀ s:ByteArray,s.size≤2000000→FnP gam Tryd.prog 64 [.str s] (.bool (validS s)):=refValidL_fn is_ref01_Valid (by decide) kL_dec kL_enc
theorem kL_chars:∀ s:ByteArray,s.size≤2000000→validS s=true→FnP gam Tryd.prog 65 [.str s] (.d (.sl eRn (rnRows (runesOf s)))):=refCharsL_fn is_ref03_Characters (by decide) kL_dec
theorem kL_check3:∀ s:ByteArray,s.size≤2000000→FnP gam Tryd.prog 53 [.str s] (.int (chkC s)):=check3L_fn is_ref03_Check (by decide) kL_rvalid kL_chars k_mark2 k_width2
theorem kL_cw3:∀ s:ByteArray,s.size≤2000000→FnP gam Tryd.prog 54 [.str s] (.int (widC s)):=cwidth3L_fn is_ref03_Width (by decide) kL_check3 kL_chars k_width2
theorem kL_row:∀ l:List Ce,(∀ c∈l,c.text.size≤2000000)→FnP gam Tryd.prog 37 [.d (.sl eCe (ceRows l))] (.int (checkR l)):=refRowL_fn is_ref07_Check (by decide) kL_check3 kL_cw3
theorem k_fit12:∀ l:List Ce,smallR l→∀ w:Int,FnP gam Tryd.prog 23 [.d (.sl eCe (ceRows l)),.int w] (.d (.sl eCe (ceRows (fitR (checkR l) l w)))):=fun l hl w=>rfit_fn is_ref07_Fit (by decide) is_ref07_copied (by decide) is_ref07_blank (by decide) l w (k_rrow l hl)
def tCells:Ty:=.sl ⟨5,48⟩ (.st [.str,.int .i64,.st [.int .i64,.int .i64,.int .i64]])
def tRows:Ty:=.sl ⟨1,24⟩ tCells
theorem cell_of {xs:List D} (h:WT (.st [.str,.int .i64,.st [.int .i64,.int .i64,.int .i64]]) xs):∃ c:Ce,xs=c.row:=by
  obtain ⟨_,_,rfl,⟨s,rfl,_⟩,_,_,rfl,⟨w,rfl,_⟩,_,_,rfl,⟨_,_,rfl,⟨a,rfl,_⟩,_,_,rfl,⟨b,rfl,_⟩,_,_,rfl,⟨c,rfl,_⟩,rfl⟩,rfl⟩:=h
  exact ⟨⟨s,w,a,b,c⟩,rfl⟩
theorem cells_of':∀ {rows:List (List D)},(∀ r∈rows,WT (.st [.str,.int .i64,.st [.int .i64,.int .i64,.int .i64]]) r)→∃ l:List Ce,rows=ceRows l
  | [],_=>⟨[],rfl⟩
  | r::rows,h=>by
    obtain ⟨g,rfl⟩:=cell_of (h r (zW ..))
    obtain ⟨l,rfl⟩:=cells_of' fun r hr=>h r (zZ _ hr)
    exact ⟨g::l,rfl⟩
theorem cells_of {xs:List D} (h:WT tCells xs):∃ l:List Ce,xs=[.sl eCe (ceRows l)]:=by
  obtain ⟨rows,rfl,hr⟩:=h
  obtain ⟨l,rfl⟩:=cells_of' hr
  exact ⟨l,rfl⟩
theorem crows_of:∀ {rows:List (List D)},(∀ r∈rows,WT tCells r)→∃ l:List (List Ce),rows=crRows l
  | [],_=>⟨[],rfl⟩
  | r::rows,h=>by
    obtain ⟨g,rfl⟩:=cells_of (h r (zW ..))
    obtain ⟨l,rfl⟩:=crows_of fun r hr=>h r (zZ _ hr)
    exact ⟨g::l,rfl⟩
def tGrid:Ty:=.st [.int .i64,.int .i64,.sl ⟨1,24⟩ (.sl ⟨5,48⟩ (.st [.str,.int .i64,.st [.int .i64,.int .i64,.int .i64]]))]
def tAttr:Ty:=.st [.int .i64,.int .i64,.int .i64]
theorem grid_of {xs:List D} (h:WT tGrid xs):∃ g:Gd,xs=g.ds:=by
  obtain ⟨_,_,rfl,⟨w,rfl,_⟩,_,_,rfl,⟨h,rfl,_⟩,_,_,rfl,⟨r,rfl,hr⟩,rfl⟩:=h
  obtain ⟨l,rfl⟩:=crows_of hr
  exact ⟨⟨w,h,l⟩,rfl⟩
theorem attr_of {xs:List D} (h:WT tAttr xs):∃ a b c:Int,xs=atD a b c:=by
  obtain ⟨_,_,rfl,⟨a,rfl,_⟩,_,_,rfl,⟨b,rfl,_⟩,_,_,rfl,⟨c,rfl,_⟩,rfl⟩:=h
  exact ⟨a,b,c,rfl⟩
theorem cell_ofB {xs:List D} (h:WTB 1048576 (.st [.str,.int .i64,.st [.int .i64,.int .i64,.int .i64]]) xs):∃ c:Ce,xs=c.row∧c.text.size≤2000000:=by
  obtain ⟨_,_,rfl,⟨s,rfl,_,hs⟩,_,_,rfl,⟨w,rfl,_⟩,_,_,rfl,⟨_,_,rfl,⟨a,rfl,_⟩,_,_,rfl,⟨b,rfl,_⟩,_,_,rfl,⟨c,rfl,_⟩,rfl⟩,rfl⟩:=h
  exact ⟨⟨s,w,a,b,c⟩,rfl,by simp only;omega⟩
theorem cells_ofB':∀ {rows:List (List D)},(∀ r∈rows,WTB 1048576 (.st [.str,.int .i64,.st [.int .i64,.int .i64,.int .i64]]) r)→∃ l:List Ce,rows=ceRows l∧∀ c∈l,c.text.size≤2000000
  | [],_=>⟨[],rfl,by simp⟩
  | r::rows,h=>by
    obtain ⟨g,rfl,hg⟩:=cell_ofB (h r (zW ..))
    obtain ⟨l,rfl,hl⟩:=cells_ofB' fun r hr=>h r (zZ _ hr)
    exact ⟨g::l,rfl,fun c hc=>by rcases zp.1 hc with rfl | hc;exact hg;exact hl c hc⟩
theorem cells_ofB {xs:List D} (h:WTB 1048576 tCells xs):∃ l:List Ce,xs=[.sl eCe (ceRows l)]∧∀ c∈l,c.text.size≤2000000:=by
  obtain ⟨rows,rfl,hr⟩:=h
  obtain ⟨l,rfl,hl⟩:=cells_ofB' hr
  exact ⟨l,rfl,hl⟩
theorem crows_ofB:∀ {rows:List (List D)},(∀ r∈rows,WTB 1048576 tCells r)→∃ l:List (List Ce),rows=crRows l∧∀ r∈l,∀ c∈r,c.text.size≤2000000
  | [],_=>⟨[],rfl,by simp⟩
  | r::rows,h=>by
    obtain ⟨g,rfl,hg⟩:=cells_ofB (h r (zW ..))
    obtain ⟨l,rfl,hl⟩:=crows_ofB fun r hr=>h r (zZ _ hr)
    exact ⟨g::l,rfl,fun r hr=>by rcases zp.1 hr with rfl | hr;exact hg;exact hl r hr⟩
theorem grid_ofB {xs:List D} (h:WTB 1048576 tGrid xs):∃ g:Gd,xs=g.ds:=by
  obtain ⟨_,_,rfl,⟨w,rfl,_⟩,_,_,rfl,⟨h,rfl,_⟩,_,_,rfl,⟨r,rfl,hr⟩,rfl⟩:=h
  obtain ⟨l,rfl,_⟩:=crows_ofB hr
  exact ⟨⟨w,h,l⟩,rfl⟩
mutual
theorem bulk1 {H:Type}:∀ d:DataW H,dBulk d=Rows.uptoBulk d
  | .lit l=>by cases l<;>simp only [dBulk,Rows.uptoBulk]
  | .nil=>by simp only [dBulk,Rows.uptoBulk]
  | .ptr d=>by simp only [dBulk,Rows.uptoBulk,bulk1 d]
  | .slice elems spare=>by simp only [dBulk,Rows.uptoBulk,bulkA elems,bulkA spare]
  | .agg parts=>by simp only [dBulk,Rows.uptoBulk,bulkA parts]
  | .iface _ d=>by simp only [dBulk,Rows.uptoBulk,bulk1 d]
  | .map entries=>by simp only [dBulk,Rows.uptoBulk,bulkE entries]
  | .held _=>by simp only [dBulk,Rows.uptoBulk]
theorem bulkA {H:Type}:∀ l:List (DataW H),dBulkAll l=Rows.uptoBulkAll l
  | []=>by simp only [dBulkAll,Rows.uptoBulkAll]
  | d::r=>by simp only [dBulkAll,Rows.uptoBulkAll,bulk1 d,bulkA r]
theorem bulkE {H:Type}:∀ l:List (Lit × DataW H),dBulkEntries l=Rows.uptoBulkEntries l
  | []=>by simp only [dBulkEntries,Rows.uptoBulkEntries]
  | x::r=>by simp only [dBulkEntries,Rows.uptoBulkEntries,bulkX x,bulkE r]
theorem bulkX {H:Type}:∀ x:Lit × DataW H,dBulkEntry x=Rows.uptoBulkEntry x
  | (l,d)=>by cases l<;>simp only [dBulkEntry,Rows.uptoBulkEntry,bulk1 d]
end
end Go.Proofs.YthhjkfilfhmakaaDoor.Nx

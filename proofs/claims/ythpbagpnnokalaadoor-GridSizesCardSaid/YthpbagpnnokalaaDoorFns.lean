/- The functions of this program are those of the definitions; the example that every statement checks. -/
import Derived.Test.YthpbagpnnokalaaDoorNxB0
import Derived.Test.YthpbagpnnokalaaDoorNxQ3
import Derived.Test.YthpbagpnnokalaaDoorNxQ1
import Derived.Test.YthpbagpnnokalaaDoorNxU1
import Derived.Test.YthpbagpnnokalaaDoorNxC1
import Derived.Test.YthpbagpnnokalaaDoorNxV1
import Derived.Test.YthpbagpnnokalaaDoorNxC3
import Derived.Test.YthpbagpnnokalaaDoorNxR1
import Derived.Test.YthpbagpnnokalaaDoorNxG0
import Derived.Test.YthpbagpnnokalaaDoorNxG7
import Derived.Test.YthpbagpnnokalaaDoorNxG11
import Derived.Test.YthpbagpnnokalaaDoorNxG13
import Derived.Test.YthpbagpnnokalaaDoorNxG15
import Derived.Test.YthpbagpnnokalaaDoorNxEval
import Derived.Test.YthpbagpnnokalaaDoorNxLink2
import Derived.Test.YthpbagpnnokalaaDoorRows
import Derived.KernelRfl
import Derived.Ground.NamesProg
import Derived.Shelf.Lay
import Derived.Shelf.Unicode.ValidAny
namespace Go.Proofs.YthpbagpnnokalaaDoor
open Go.RowKit Go.Shelf Go.Lib
shelf_lay Lays.n196 Nm 196 at Tryd as Tryd.laysValid
end Go.Proofs.YthpbagpnnokalaaDoor
namespace Go.Proofs.YthpbagpnnokalaaDoor.Nx
set_option linter.unusedSimpArgs false
set_option linter.unusedVariables false
set_option linter.unnecessarySimpa false
open Go

theorem is_law08_GridSizes : FnIs Tryd.prog 9 127 [.t 10] (x_law08_GridSizes 17 12 27 15) := .of (by kernel_rfl)
theorem is_ref08_Great : FnIs Tryd.prog 11 18 [.t 2] (x_ref08_Great 30) := .of (by kernel_rfl)
theorem is_law08_awake : FnIs Tryd.prog 12 52 [.t 0] (x_law08_awake 31 13 15 16) := .of (by kernel_rfl)
theorem is_grid_Scroll : FnIs Tryd.prog 13 101 [.c 10 3 true, .t 11, .t 12] (x_grid_Scroll 32 33 34) := .of (by kernel_rfl)
theorem is_ref08_Same : FnIs Tryd.prog 15 24 [.t 4] (x_ref08_Same 16) := .of (by kernel_rfl)
theorem is_ref08_SameRows : FnIs Tryd.prog 16 27 [.t 4] (x_ref08_SameRows 37) := .of (by kernel_rfl)
theorem is_ref08_Right : FnIs Tryd.prog 17 12 [.t 2] (x_ref08_Right 11 22) := .of (by kernel_rfl)
theorem is_law08_part : FnIs Tryd.prog 18 25 [.t 6, .t 7] x_law08_part := .of (by kernel_rfl)
theorem is_grid_Check : FnIs Tryd.prog 21 39 [.t 2] (x_grid_Check 38 41) := .of (by kernel_rfl)
theorem is_ref08_Check : FnIs Tryd.prog 22 42 [.t 2] (x_ref08_Check 40 42) := .of (by kernel_rfl)
theorem is_grid_Resize : FnIs Tryd.prog 27 64 [.c 6 3 true, .t 7] (x_grid_Resize 32 38 39 33 44) := .of (by kernel_rfl)
theorem is_ref07_Great : FnIs Tryd.prog 30 20 [.t 2] x_ref07_Great := .of (by kernel_rfl)
theorem is_law08_column : FnIs Tryd.prog 31 27 [.c 2 3 true] x_law08_column := .of (by kernel_rfl)
theorem is_grid_ready : FnIs Tryd.prog 32 10 [.c 2 3 true, .t 3] (x_grid_ready 21 46) := .of (by kernel_rfl)
theorem is_grid_blanks : FnIs Tryd.prog 33 6 [.t 4] (x_grid_blanks 47) := .of (by kernel_rfl)
theorem is_slices_Clone_128 : FnIs Tryd.prog 34 8 [.t 2] x_slices_Clone_128 := .of (by kernel_rfl)
theorem is_ref07_Blank : FnIs Tryd.prog 35 25 [.t 4] (x_ref07_Blank 49) := .of (by kernel_rfl)
theorem is_ref08_copied : FnIs Tryd.prog 36 22 [.t 2] x_ref08_copied := .of (by kernel_rfl)
theorem is_ref07_Same : FnIs Tryd.prog 37 26 [.t 4] x_ref07_Same := .of (by kernel_rfl)
theorem is_grid_size : FnIs Tryd.prog 38 19 [.t 4] x_grid_size := .of (by kernel_rfl)
theorem is_grid_standard : FnIs Tryd.prog 39 2 [.c 0 3 true] x_grid_standard := .of (by kernel_rfl)
theorem is_ref08_sized : FnIs Tryd.prog 40 19 [.t 4] x_ref08_sized := .of (by kernel_rfl)
theorem is_cellrow_Check : FnIs Tryd.prog 41 64 [.t 2] (x_cellrow_Check 50 51) := .of (by kernel_rfl)
theorem is_ref07_Check : FnIs Tryd.prog 42 68 [.t 2] (x_ref07_Check 52 53) := .of (by kernel_rfl)
theorem is_slices_Clone_750 : FnIs Tryd.prog 43 8 [.t 2] x_slices_Clone_750 := .of (by kernel_rfl)
theorem is_cellrow_Fit : FnIs Tryd.prog 44 52 [.t 4] (x_cellrow_Fit 41 43 54 55) := .of (by kernel_rfl)
theorem is_grid_own : FnIs Tryd.prog 46 27 [.c 2 3 true] (x_grid_own 43) := .of (by kernel_rfl)
theorem is_grid_blanks_1 : FnIs Tryd.prog 47 6 [.t 2] (x_grid_blanks_1 48) := .of (by kernel_rfl)
theorem is_cellrow_Blank : FnIs Tryd.prog 48 15 [.t 4] (x_cellrow_Blank 54) := .of (by kernel_rfl)
theorem is_ref07_blank : FnIs Tryd.prog 49 6 [.c 2 5 true] x_ref07_blank := .of (by kernel_rfl)
theorem is_cluster_Check : FnIs Tryd.prog 50 30 [.t 2] (x_cluster_Check 57 58 59) := .of (by kernel_rfl)
theorem is_cluster_Width : FnIs Tryd.prog 51 13 [.t 2] (x_cluster_Width 60 58) := .of (by kernel_rfl)
theorem is_ref03_Check : FnIs Tryd.prog 52 40 [.t 2] (x_ref03_Check 61 62 63 64) := .of (by kernel_rfl)
theorem is_ref03_Width : FnIs Tryd.prog 53 11 [.t 2] (x_ref03_Width 52 62 64) := .of (by kernel_rfl)
theorem is_cellrow_blanks : FnIs Tryd.prog 54 10 [.t 4] (x_cellrow_blanks 55 65) := .of (by kernel_rfl)
theorem is_cellrow_blank : FnIs Tryd.prog 55 6 [.c 2 5 true] x_cellrow_blank := .of (by kernel_rfl)
theorem is_utf8stream_Valid : FnIs Tryd.prog 57 5 [.t 2] (x_utf8stream_Valid 66) := .of (by kernel_rfl)
theorem is_charwidth_Width : FnIs Tryd.prog 58 22 [.t 2] (x_charwidth_Width 67 69 68) := .of (by kernel_rfl)
theorem is_cluster_marked : FnIs Tryd.prog 59 15 [.t 2] (x_cluster_marked 67) := .of (by kernel_rfl)
theorem is_cluster_runes : FnIs Tryd.prog 60 8 [.t 2] (x_cluster_runes 50) := .of (by kernel_rfl)
theorem is_ref01_Valid : FnIs Tryd.prog 61 18 [.t 2] (x_ref01_Valid 70 71) := .of (by kernel_rfl)
theorem is_ref03_Characters : FnIs Tryd.prog 62 11 [.t 2] (x_ref03_Characters 70) := .of (by kernel_rfl)
theorem is_ref02_Mark : FnIs Tryd.prog 63 6 [.t 2] (x_ref02_Mark 73 72) := .of (by kernel_rfl)
theorem is_ref02_Width : FnIs Tryd.prog 64 21 [.t 2] (x_ref02_Width 63 74 72) := .of (by kernel_rfl)
theorem is_slices_Repeat_750 : FnIs Tryd.prog 65 48 [.t 4] (x_slices_Repeat_750 75) := .of (by kernel_rfl)
theorem is_unicode_utf8_ValidString : FnIs Tryd.prog 66 169 [.t 2] (x_unicode_utf8_ValidString 76) := .of (by kernel_rfl)
theorem is_charwidth_Mark : FnIs Tryd.prog 67 7 [.t 2] (x_charwidth_Mark 77 68) := .of (by kernel_rfl)
theorem is_charwidth_finder : FnIs Tryd.prog 68 4 [.t 2] (x_charwidth_finder 78) := .of (by kernel_rfl)
theorem is_charwidth_Wide : FnIs Tryd.prog 69 16 [.t 0] x_charwidth_Wide := .of (by kernel_rfl)
theorem is_ref01_Decode : FnIs Tryd.prog 70 96 [.t 4, .t 5] (x_ref01_Decode 79 80) := .of (by kernel_rfl)
theorem is_ref01_Encode : FnIs Tryd.prog 71 95 [.t 2] x_ref01_Encode := .of (by kernel_rfl)
theorem is_ref02_in : FnIs Tryd.prog 72 28 [.t 4] x_ref02_in := .of (by kernel_rfl)
theorem is_ref02_Marks : FnIs Tryd.prog 73 9 [.t 0] x_ref02_Marks := .of (by kernel_rfl)
theorem is_ref02_Wide : FnIs Tryd.prog 74 16 [.t 0] x_ref02_Wide := .of (by kernel_rfl)
theorem is_math_bits_Mul : FnIs Tryd.prog 75 30 [.t 4, .t 5] (x_math_bits_Mul 81 82) := .of (by kernel_rfl)
theorem is_unicode_utf8_word_69 : FnIs Tryd.prog 76 59 [.t 2] x_unicode_utf8_word_69 := .of (by kernel_rfl)
theorem is_charwidth_marks : FnIs Tryd.prog 77 9 [.t 0] x_charwidth_marks := .of (by kernel_rfl)
theorem is_charwidth_finder_1 : FnIs Tryd.prog 78 39 [.t 3] x_charwidth_finder_1 := .of (by kernel_rfl)
theorem is_ref01_limits : FnIs Tryd.prog 79 61 [.t 2, .t 3, .t 4] x_ref01_limits := .of (by kernel_rfl)
theorem is_ref01_value : FnIs Tryd.prog 80 44 [.t 2] x_ref01_value := .of (by kernel_rfl)
theorem is_math_bits_Mul32 : FnIs Tryd.prog 81 17 [.t 4, .t 5] x_math_bits_Mul32 := .of (by kernel_rfl)
theorem is_math_bits_Mul64 : FnIs Tryd.prog 82 51 [.t 4, .t 5] x_math_bits_Mul64 := .of (by kernel_rfl)

def fnsE : List (FuncId × FnE) := [
  (12, ⟨52, [.t 0], (x_law08_awake 31 13 15 16)⟩),
  (15, ⟨24, [.t 4], (x_ref08_Same 16)⟩),
  (16, ⟨27, [.t 4], (x_ref08_SameRows 37)⟩),
  (31, ⟨27, [.c 2 3 true], x_law08_column⟩),
  (37, ⟨26, [.t 4], x_ref07_Same⟩),
  (75, ⟨30, [.t 4, .t 5], (x_math_bits_Mul 81 82)⟩),
  (81, ⟨17, [.t 4, .t 5], x_math_bits_Mul32⟩),
  (82, ⟨51, [.t 4, .t 5], x_math_bits_Mul64⟩)]

theorem fnsE_ok : ∀ p ∈ fnsE, FnIs Tryd.prog p.1 p.2.N p.2.res p.2.code := by
  intro p hp
  simp only [fnsE, List.mem_cons, List.not_mem_nil, or_false] at hp
  rcases hp with rfl | rfl | rfl | rfl | rfl | rfl | rfl | rfl
  · exact is_law08_awake
  · exact is_ref08_Same
  · exact is_ref08_SameRows
  · exact is_law08_column
  · exact is_ref07_Same
  · exact is_math_bits_Mul
  · exact is_math_bits_Mul32
  · exact is_math_bits_Mul64

/-- The tables that the rows list. -/
def gam : Tabs := [(1, tabAccept), (0, tabFirst)]
theorem gam_is : tabsOf Tryd.prog [("unicode/utf8.acceptRanges", Rows.laid_unicode_utf8_acceptRanges), ("unicode/utf8.first", Rows.laid_unicode_utf8_first)] = some gam := by kernel_rfl

def isTrue : Option A → Bool
  | some (.d (.sc (.bool true))) => true
  | _ => false
theorem isTrue_some {x : Option A} (h : isTrue x = true) : x = some (.bool true) := by
  unfold isTrue at h
  split at h
  · rfl
  · cases h

theorem k_vs : ∀ s : ByteArray, s.size ≤ 1000 → FnP gam Tryd.prog 66 [.str s] (.bool (validS s)) :=
  validString_fn Tryd.laysValid rfl is_unicode_utf8_ValidString (by rw [show Tryd.laysValid_ren.g 3 = 0 from rfl]; exact List.mem_cons_of_mem _ (List.mem_cons_self ..)) (by rw [show Tryd.laysValid_ren.g 4 = 1 from rfl]; exact List.mem_cons_self ..)
theorem k_mark : ∀ r, FnP gam Tryd.prog 67 [.sc (.int .i32 r)] (.bool (markC r)) := mark_fn is_charwidth_Mark (by decide) is_charwidth_marks is_charwidth_finder (by decide) is_charwidth_finder_1 (by decide)
theorem k_cwidth : ∀ r, FnP gam Tryd.prog 58 [.sc (.int .i32 r)] (.int (widthC r)) := widthC_fn is_charwidth_Width (by decide) is_charwidth_Mark (by decide) is_charwidth_marks is_charwidth_Wide is_charwidth_finder (by decide) is_charwidth_finder_1 (by decide)
theorem k_marked : ∀ l : List Nat, FnP gam Tryd.prog 59 [.d (.sl eRn (rnRows l))] (.bool (l.all fun n => markC n)) := marked_fn is_cluster_marked (by decide) k_mark
theorem k_valid : ∀ s : ByteArray, s.size ≤ 1000 → FnP gam Tryd.prog 57 [.str s] (.bool (validS s)) := valid_fn is_utf8stream_Valid (by decide) k_vs
theorem k_check : ∀ s : ByteArray, s.size ≤ 1000 → FnP gam Tryd.prog 50 [.str s] (.int (chkC s)) := check_fn is_cluster_Check (by decide) k_valid k_cwidth k_marked
theorem k_runes : ∀ s : ByteArray, s.size ≤ 1000 → FnP gam Tryd.prog 60 [.str s] (.d (.sl eRn (rnRows (runesC s)))) := runes_fn is_cluster_runes (by decide) k_check
theorem k_width : ∀ s : ByteArray, s.size ≤ 1000 → FnP gam Tryd.prog 51 [.str s] (.int (widC s)) := cwidth_fn is_cluster_Width (by decide) k_runes k_cwidth

theorem k_dec : ∀ s : ByteArray, s.size ≤ 1000 → FnP gam Tryd.prog 70 [.str ⟨#[]⟩, .str s] (decA (toN s.data.toList)) := decode_fn is_ref01_Decode (by decide) is_ref01_limits (by decide) is_ref01_value (by decide)
theorem k_enc : ∀ l : List Int, l.length ≤ 1000 → FnP gam Tryd.prog 71 [.d (.sl eRu (irRows l))] (.str (numS (encL l))) := encode_fn is_ref01_Encode (by decide)
theorem k_rvalid : ∀ s : ByteArray, s.size ≤ 1000 → FnP gam Tryd.prog 61 [.str s] (.bool (validS s)) := refValid_fn is_ref01_Valid (by decide) k_dec k_enc
theorem k_chars : ∀ s : ByteArray, s.size ≤ 1000 → validS s = true → FnP gam Tryd.prog 62 [.str s] (.d (.sl eRn (rnRows (runesOf s)))) := refChars_fn is_ref03_Characters (by decide) k_dec
theorem k_mark2 : ∀ r, FnP gam Tryd.prog 63 [.sc (.int .i32 r)] (.bool (markC r)) := mark2_fn is_ref02_Mark (by decide) is_ref02_Marks is_ref02_in (by decide)
theorem k_width2 : ∀ r, FnP gam Tryd.prog 64 [.sc (.int .i32 r)] (.int (widthC r)) := width2_fn is_ref02_Width (by decide) is_ref02_Mark (by decide) is_ref02_Marks is_ref02_Wide is_ref02_in (by decide)
theorem k_check3 : ∀ s : ByteArray, s.size ≤ 1000 → FnP gam Tryd.prog 52 [.str s] (.int (chkC s)) := check3_fn is_ref03_Check (by decide) k_rvalid k_chars k_mark2 k_width2
theorem k_cw3 : ∀ s : ByteArray, s.size ≤ 1000 → FnP gam Tryd.prog 53 [.str s] (.int (widC s)) := cwidth3_fn is_ref03_Width (by decide) k_check3 k_chars k_width2

def o0 : Orc := orcE fnsE (fun _ _ => none) ⟨1, 24⟩ (tabS gam) 300 30
theorem o0_ok : OrcOk (.all gam.ctx Tryd.prog) o0 := orcE_ok fnsE_ok (fun _ _ _ h => by cases h) 30
set_option maxRecDepth 100000 in
theorem k_mul : ∀ n : Nat, n ≤ 132 → FnP gam Tryd.prog 75 [.d (.sc (.int .u64 1)), .d (.sc (.int .u64 n))] (.tup [.d (.sc (.int .u64 0)), .d (.sc (.int .u64 n))]) := mul_of o0_ok (by kernel_rfl)

theorem k_row : CheckOk gam Tryd.prog 41 := rowCheck_fn is_cellrow_Check (by decide) k_check k_width
theorem k_rrow : CheckOk gam Tryd.prog 42 := refRow_fn is_ref07_Check (by decide) k_check3 k_cw3
theorem k_size : ∀ w h, FnP gam Tryd.prog 38 [.int w, .int h] (.int (if szOk w h then 0 else 2)) := size8_fn is_grid_size (by decide)
theorem k_sized : ∀ w h, FnP gam Tryd.prog 40 [.int w, .int h] (.bool (szOk w h)) := sized8_fn is_ref08_sized (by decide)
theorem k_gck : GCheckOk gam Tryd.prog 21 := fun g hg => gcheck_fn is_grid_Check (by decide) k_size k_row g fun r hr => (hg r hr).2
theorem k_rgck : GCheckOk gam Tryd.prog 22 := fun g hg => rgcheck_fn is_ref08_Check (by decide) k_sized k_rrow g fun r hr => (hg r hr).2
theorem k_clone : ∀ rows, FnP gam Tryd.prog 43 [.d (.sl eCe rows)] (.d (.sl eCe rows)) := cloneC_fn is_slices_Clone_750 (by decide)
theorem k_ready : ∀ g : Gd, g.small → ∀ h : Heap, FnD gam.ctx Tryd.prog 32 [gdA g] h (readyA g h.length) (h ++ readyH g h.length) := fun g hg h =>
  ready_fn is_grid_ready (by decide) g (k_gck g hg) (fun h0 h hb => own_fn is_grid_own (by decide) k_clone g (by have := gridCk_h h0; omega) h hb) h (Nat.zero_le _)
theorem k_blanks : ∀ (back : Int) (n : Nat), n ≤ 132 → FnP gam Tryd.prog 54 [.int n, .int back] (.d (.sl eCe (ceRows (List.replicate n (blankC back))))) := fun back n hn =>
  blanks_fn is_cellrow_blanks (by decide) is_cellrow_blank (by decide) back n fun c => repeat_fn is_slices_Repeat_750 (by decide) c n hn (k_mul n hn)
theorem k_cBlank : ∀ w a b c : Int, FnP gam Tryd.prog 48 [.int w, atA a b c] (.d (.sl eCe (ceRows (blankRow w b)))) := fun w a b c => cBlank_fn is_cellrow_Blank (by decide) w a b c (k_blanks b)
theorem k_gblanks : ∀ w a b c : Int, FnP gam Tryd.prog 33 [.int w, atA a b c] (.fn 47 [.iptr [.sc (.int .i64 w)], .iptr (atD a b c)]) := gblanks_fn is_grid_blanks (by decide)
theorem k_gblanks1 : ∀ w a b c : Int, FnP gam Tryd.prog 47 [.iptr [.sc (.int .i64 w)], .iptr (atD a b c)] (.d (.sl eCe (ceRows (blankRow w b)))) := fun w a b c => gblanks1_fn is_grid_blanks_1 (by decide) w a b c (k_cBlank w a b c)
theorem k_scroll : ScrollOk gam Tryd.prog 13 := fun g hg top bottom by_ a b c =>
  scroll_fn is_grid_Scroll (by decide) g top bottom by_ a b c (k_ready g hg) (fun w => k_gblanks w a b c) (fun w => k_gblanks1 w a b c) is_slices_Clone_128 (by decide)
theorem k_rBlank : ∀ w a b c : Int, FnP gam Tryd.prog 35 [.int w, atA a b c] (.d (.sl eCe (ceRows (blankRow w b)))) := rBlank_fn is_ref07_Blank (by decide) is_ref07_blank (by decide)
theorem k_copied8 : ∀ l : List (List Ce), l.length ≤ 100000 → (∀ r ∈ l, r.length ≤ 100000) → FnP gam Tryd.prog 36 [.d (.sl eRw (crRows l))] (.d (.sl eRw (crRows l))) := copied8_fn is_ref08_copied (by decide)
theorem k_great : Great10Ok gam Tryd.prog 11 := great10_fn is_ref08_Great (by decide) (greatC_fn is_ref07_Great (by decide))
theorem k_sameC : ∀ a b : List Ce, FnP gam Tryd.prog 37 [.d (.sl eCe (ceRows a)), .d (.sl eCe (ceRows b))] (.bool (decide (a = b))) := sameC_fn is_ref07_Same (by decide)
theorem k_sameL : SameLOk gam Tryd.prog 16 := sameRows_fn is_ref08_SameRows (by decide) k_sameC
theorem k_same : SameGOk gam Tryd.prog 15 := same8_fn is_ref08_Same (by decide) k_sameL

theorem ext_ok : ∀ f args r, extScroll 13 f args = some r → FnP gam Tryd.prog f args r := extScroll_ok k_scroll

set_option maxRecDepth 100000 in
theorem awake_run : isTrue ((orcE fnsE (extScroll 13) ⟨1, 24⟩ (tabS gam) 300 30).pure 12 []) = true := by kernel_rfl

theorem awake_fn : FnP gam Tryd.prog 12 [] (.bool true) := (orcE_ok fnsE_ok ext_ok 30).pure _ _ _ (isTrue_some awake_run)

theorem k_right : RightOk gam Tryd.prog 17 := right8_fn is_ref08_Right (by decide) k_great fun g hg => rgcheck_fn is_ref08_Check (by decide) k_sized k_rrow g hg
theorem k_part : PartOk gam Tryd.prog 18 := part_fn is_law08_part (by decide)
theorem natOf {m : Int} (h : 0 ≤ m ∧ m ≤ 255) : ∃ u : Nat, m = u ∧ u ≤ 255 := ⟨m.toNat, by omega, by omega⟩

theorem k_standard : FnP gam Tryd.prog 39 [] (atA (-1) (-1) 0) := standard_fn is_grid_standard (by decide)

theorem k_resize : ResizeOk gam Tryd.prog 27 := fun g hg w h => resize_fn is_grid_Resize (by decide) g w h (k_ready g hg) k_size k_standard k_gblanks k_gblanks1
  fun h0 r hr => fit_fn is_cellrow_Fit (by decide) is_slices_Clone_750 (by decide) is_cellrow_blank (by decide) r w (checkR r) (k_row r (hg r hr).2) (fun _ => by have := (gridCk_rows h0 r hr).1; have := gridCk_h h0; omega) fun n _ hn => k_blanks (-1) n hn

def tCells : Ty := .sl ⟨5, 48⟩ (.st [.str, .int .i64, .st [.int .i64, .int .i64, .int .i64]])
def tRows : Ty := .sl ⟨1, 24⟩ tCells
theorem cell_of {xs : List D} (h : WT (.st [.str, .int .i64, .st [.int .i64, .int .i64, .int .i64]]) xs) : ∃ c : Ce, xs = c.row := by
  obtain ⟨_, _, rfl, ⟨s, rfl, _⟩, _, _, rfl, ⟨w, rfl, _⟩, _, _, rfl, ⟨_, _, rfl, ⟨a, rfl, _⟩, _, _, rfl, ⟨b, rfl, _⟩, _, _, rfl, ⟨c, rfl, _⟩, rfl⟩, rfl⟩ := h
  exact ⟨⟨s, w, a, b, c⟩, rfl⟩
theorem cells_of' : ∀ {rows : List (List D)}, (∀ r ∈ rows, WT (.st [.str, .int .i64, .st [.int .i64, .int .i64, .int .i64]]) r) → ∃ l : List Ce, rows = ceRows l
  | [], _ => ⟨[], rfl⟩
  | r :: rows, h => by
    obtain ⟨g, rfl⟩ := cell_of (h r (List.mem_cons_self ..))
    obtain ⟨l, rfl⟩ := cells_of' fun r hr => h r (List.mem_cons_of_mem _ hr)
    exact ⟨g :: l, rfl⟩
theorem cells_of {xs : List D} (h : WT tCells xs) : ∃ l : List Ce, xs = [.sl eCe (ceRows l)] := by
  obtain ⟨rows, rfl, hr⟩ := h
  obtain ⟨l, rfl⟩ := cells_of' hr
  exact ⟨l, rfl⟩
theorem crows_of : ∀ {rows : List (List D)}, (∀ r ∈ rows, WT tCells r) → ∃ l : List (List Ce), rows = crRows l
  | [], _ => ⟨[], rfl⟩
  | r :: rows, h => by
    obtain ⟨g, rfl⟩ := cells_of (h r (List.mem_cons_self ..))
    obtain ⟨l, rfl⟩ := crows_of fun r hr => h r (List.mem_cons_of_mem _ hr)
    exact ⟨g :: l, rfl⟩

def tGrid : Ty := .st [.int .i64, .int .i64, .sl ⟨1, 24⟩ (.sl ⟨5, 48⟩ (.st [.str, .int .i64, .st [.int .i64, .int .i64, .int .i64]]))]
def tAttr : Ty := .st [.int .i64, .int .i64, .int .i64]
theorem grid_of {xs : List D} (h : WT tGrid xs) : ∃ g : Gd, xs = g.ds := by
  obtain ⟨_, _, rfl, ⟨w, rfl, _⟩, _, _, rfl, ⟨h, rfl, _⟩, _, _, rfl, ⟨r, rfl, hr⟩, rfl⟩ := h
  obtain ⟨l, rfl⟩ := crows_of hr
  exact ⟨⟨w, h, l⟩, rfl⟩
theorem attr_of {xs : List D} (h : WT tAttr xs) : ∃ a b c : Int, xs = atD a b c := by
  obtain ⟨_, _, rfl, ⟨a, rfl, _⟩, _, _, rfl, ⟨b, rfl, _⟩, _, _, rfl, ⟨c, rfl, _⟩, rfl⟩ := h
  exact ⟨a, b, c, rfl⟩

end Go.Proofs.YthpbagpnnokalaaDoor.Nx

/- The functions of this program are those of the definitions; the example that every statement checks. -/
import Derived.Test.YtckglkbbdbmdkaaDoorNxB0
import Derived.Test.YtckglkbbdbmdkaaDoorNxQ1
import Derived.Test.YtckglkbbdbmdkaaDoorNxU1
import Derived.Test.YtckglkbbdbmdkaaDoorNxC1
import Derived.Test.YtckglkbbdbmdkaaDoorNxV1
import Derived.Test.YtckglkbbdbmdkaaDoorNxC3
import Derived.Test.YtckglkbbdbmdkaaDoorNxR1
import Derived.Test.YtckglkbbdbmdkaaDoorNxQ3
import Derived.Test.YtckglkbbdbmdkaaDoorNxK0
import Derived.Test.YtckglkbbdbmdkaaDoorNxK3
import Derived.Test.YtckglkbbdbmdkaaDoorNxK6
import Derived.Test.YtckglkbbdbmdkaaDoorNxK8
import Derived.Test.YtckglkbbdbmdkaaDoorNxT1
import Derived.Test.YtckglkbbdbmdkaaDoorNxK10
import Derived.Test.YtckglkbbdbmdkaaDoorNxK15
import Derived.Test.YtckglkbbdbmdkaaDoorNxK14
import Derived.Test.YtckglkbbdbmdkaaDoorNxEval
import Derived.Test.YtckglkbbdbmdkaaDoorNxLink2
import Derived.Test.YtckglkbbdbmdkaaDoorRows
import Derived.KernelRfl
import Derived.Test.YtckglkbbdbmdkaaDoorTW
import Derived.Ground.NamesProg
import Derived.Shelf.Lay
import Derived.Shelf.Unicode.ValidAny
import Derived.Shelf.Spec.SlicesGrow
import Derived.Ground.Names7Prog
namespace Go.Proofs.YtckglkbbdbmdkaaDoor
open Go.RowKit Go.Shelf Go.Lib
shelf_lay Lays.n196 Nm 196 at Tryd as Tryd.laysValid
end Go.Proofs.YtckglkbbdbmdkaaDoor
namespace Go.Proofs.YtckglkbbdbmdkaaDoor
open Go.RowKit Go.Shelf Go.Lib
shelf_lay_g Lays8.n4 Nm8 4 at Tryd 60 as Tryd.growR
end Go.Proofs.YtckglkbbdbmdkaaDoor
namespace Go.Proofs.YtckglkbbdbmdkaaDoor.Nx
set_option linter.unusedSimpArgs false
set_option linter.unusedVariables false
set_option linter.unnecessarySimpa false
open Go

theorem is_law07_CellrowPutReads : FnIs Tryd.prog 5 159 [.t 8] (x_law07_CellrowPutReads 12 13 21 23) := .of (by kernel_rfl)
theorem is_ref07_Great : FnIs Tryd.prog 12 20 [.t 2] x_ref07_Great := .of (by kernel_rfl)
theorem is_law07_awake : FnIs Tryd.prog 13 88 [.t 0] (x_law07_awake 19 21 16 24) := .of (by kernel_rfl)
theorem is_cellrow_Check : FnIs Tryd.prog 14 64 [.t 2] (x_cellrow_Check 33 23) := .of (by kernel_rfl)
theorem is_ref07_Check : FnIs Tryd.prog 15 68 [.t 2] (x_ref07_Check 34 35) := .of (by kernel_rfl)
theorem is_cellrow_Text : FnIs Tryd.prog 16 17 [.t 2] (x_cellrow_Text 36 37) := .of (by kernel_rfl)
theorem is_ref07_Text : FnIs Tryd.prog 17 19 [.t 2] x_ref07_Text := .of (by kernel_rfl)
theorem is_ref07_Same : FnIs Tryd.prog 18 26 [.t 4] x_ref07_Same := .of (by kernel_rfl)
theorem is_cellrow_Blank : FnIs Tryd.prog 19 15 [.t 4] (x_cellrow_Blank 38) := .of (by kernel_rfl)
theorem is_ref07_Blank : FnIs Tryd.prog 20 25 [.t 4] (x_ref07_Blank 39) := .of (by kernel_rfl)
theorem is_cellrow_Put : FnIs Tryd.prog 21 64 [.t 8, .t 9] (x_cellrow_Put 40 33 23 41) := .of (by kernel_rfl)
theorem is_ref07_Put : FnIs Tryd.prog 22 64 [.t 8, .t 9] (x_ref07_Put 15 34 35 42 43) := .of (by kernel_rfl)
theorem is_cluster_Width : FnIs Tryd.prog 23 13 [.t 2] (x_cluster_Width 44 45) := .of (by kernel_rfl)
theorem is_cellrow_Insert : FnIs Tryd.prog 24 80 [.t 8, .t 9] (x_cellrow_Insert 40 41 38 46 47) := .of (by kernel_rfl)
theorem is_ref07_Insert : FnIs Tryd.prog 25 85 [.t 8, .t 9] (x_ref07_Insert 15 42 43 39) := .of (by kernel_rfl)
theorem is_cellrow_Delete : FnIs Tryd.prog 26 62 [.t 8, .t 9] (x_cellrow_Delete 40 41 38 46) := .of (by kernel_rfl)
theorem is_ref07_Delete : FnIs Tryd.prog 27 68 [.t 8, .t 9] (x_ref07_Delete 15 42 43 39) := .of (by kernel_rfl)
theorem is_cellrow_Fit : FnIs Tryd.prog 28 52 [.t 4] (x_cellrow_Fit 14 48 38 47) := .of (by kernel_rfl)
theorem is_cellrow_Erase : FnIs Tryd.prog 29 61 [.t 8, .t 9] (x_cellrow_Erase 40 41 38 46) := .of (by kernel_rfl)
theorem is_ref07_Erase : FnIs Tryd.prog 30 53 [.t 8, .t 9] (x_ref07_Erase 15 42 43 39) := .of (by kernel_rfl)
theorem is_ref07_Fit : FnIs Tryd.prog 31 50 [.t 4] (x_ref07_Fit 15 42 39) := .of (by kernel_rfl)
theorem is_cluster_Check : FnIs Tryd.prog 33 30 [.t 2] (x_cluster_Check 49 45 50) := .of (by kernel_rfl)
theorem is_ref03_Check : FnIs Tryd.prog 34 40 [.t 2] (x_ref03_Check 51 52 53 54) := .of (by kernel_rfl)
theorem is_ref03_Width : FnIs Tryd.prog 35 11 [.t 2] (x_ref03_Width 34 52 54) := .of (by kernel_rfl)
theorem is_cellrow_blanks : FnIs Tryd.prog 38 10 [.t 4] (x_cellrow_blanks 47 56) := .of (by kernel_rfl)
theorem is_ref07_blank : FnIs Tryd.prog 39 6 [.c 2 5 true] x_ref07_blank := .of (by kernel_rfl)
theorem is_cellrow_open : FnIs Tryd.prog 40 20 [.t 6, .t 7] (x_cellrow_open 14 48) := .of (by kernel_rfl)
theorem is_cellrow_halve : FnIs Tryd.prog 41 38 [] (x_cellrow_halve 47) := .of (by kernel_rfl)
theorem is_ref07_copied : FnIs Tryd.prog 42 6 [.t 2] x_ref07_copied := .of (by kernel_rfl)
theorem is_ref07_separate : FnIs Tryd.prog 43 42 [] (x_ref07_separate 39) := .of (by kernel_rfl)
theorem is_cluster_runes : FnIs Tryd.prog 44 8 [.t 2] (x_cluster_runes 33) := .of (by kernel_rfl)
theorem is_charwidth_Width : FnIs Tryd.prog 45 22 [.t 2] (x_charwidth_Width 57 59 58) := .of (by kernel_rfl)
theorem is_slices_Concat_750 : FnIs Tryd.prog 46 36 [.t 2] (x_slices_Concat_750 60) := .of (by kernel_rfl)
theorem is_cellrow_blank : FnIs Tryd.prog 47 6 [.c 2 5 true] x_cellrow_blank := .of (by kernel_rfl)
theorem is_slices_Clone_750 : FnIs Tryd.prog 48 8 [.t 2] x_slices_Clone_750 := .of (by kernel_rfl)
theorem is_utf8stream_Valid : FnIs Tryd.prog 49 5 [.t 2] (x_utf8stream_Valid 61) := .of (by kernel_rfl)
theorem is_cluster_marked : FnIs Tryd.prog 50 15 [.t 2] (x_cluster_marked 57) := .of (by kernel_rfl)
theorem is_ref01_Valid : FnIs Tryd.prog 51 18 [.t 2] (x_ref01_Valid 62 63) := .of (by kernel_rfl)
theorem is_ref03_Characters : FnIs Tryd.prog 52 11 [.t 2] (x_ref03_Characters 62) := .of (by kernel_rfl)
theorem is_ref02_Mark : FnIs Tryd.prog 53 6 [.t 2] (x_ref02_Mark 65 64) := .of (by kernel_rfl)
theorem is_ref02_Width : FnIs Tryd.prog 54 21 [.t 2] (x_ref02_Width 53 66 64) := .of (by kernel_rfl)
theorem is_slices_Repeat_750 : FnIs Tryd.prog 56 48 [.t 4] (x_slices_Repeat_750 68) := .of (by kernel_rfl)
theorem is_charwidth_Mark : FnIs Tryd.prog 57 7 [.t 2] (x_charwidth_Mark 69 58) := .of (by kernel_rfl)
theorem is_charwidth_finder : FnIs Tryd.prog 58 4 [.t 2] (x_charwidth_finder 70) := .of (by kernel_rfl)
theorem is_charwidth_Wide : FnIs Tryd.prog 59 16 [.t 0] x_charwidth_Wide := .of (by kernel_rfl)
theorem is_unicode_utf8_ValidString : FnIs Tryd.prog 61 169 [.t 2] (x_unicode_utf8_ValidString 71) := .of (by kernel_rfl)
theorem is_ref01_Decode : FnIs Tryd.prog 62 96 [.t 4, .t 5] (x_ref01_Decode 72 73) := .of (by kernel_rfl)
theorem is_ref01_Encode : FnIs Tryd.prog 63 95 [.t 2] x_ref01_Encode := .of (by kernel_rfl)
theorem is_ref02_in : FnIs Tryd.prog 64 28 [.t 4] x_ref02_in := .of (by kernel_rfl)
theorem is_ref02_Marks : FnIs Tryd.prog 65 9 [.t 0] x_ref02_Marks := .of (by kernel_rfl)
theorem is_ref02_Wide : FnIs Tryd.prog 66 16 [.t 0] x_ref02_Wide := .of (by kernel_rfl)
theorem is_math_bits_Mul : FnIs Tryd.prog 68 30 [.t 4, .t 5] (x_math_bits_Mul 74 75) := .of (by kernel_rfl)
theorem is_charwidth_marks : FnIs Tryd.prog 69 9 [.t 0] x_charwidth_marks := .of (by kernel_rfl)
theorem is_charwidth_finder_1 : FnIs Tryd.prog 70 39 [.t 3] x_charwidth_finder_1 := .of (by kernel_rfl)
theorem is_unicode_utf8_word_69 : FnIs Tryd.prog 71 59 [.t 2] x_unicode_utf8_word_69 := .of (by kernel_rfl)
theorem is_ref01_limits : FnIs Tryd.prog 72 61 [.t 2, .t 3, .t 4] x_ref01_limits := .of (by kernel_rfl)
theorem is_ref01_value : FnIs Tryd.prog 73 44 [.t 2] x_ref01_value := .of (by kernel_rfl)
theorem is_math_bits_Mul32 : FnIs Tryd.prog 74 17 [.t 4, .t 5] x_math_bits_Mul32 := .of (by kernel_rfl)
theorem is_math_bits_Mul64 : FnIs Tryd.prog 75 51 [.t 4, .t 5] x_math_bits_Mul64 := .of (by kernel_rfl)

def fnsE : List (FuncId × FnE) := [
  (13, ⟨88, [.t 0], (x_law07_awake 19 21 16 24)⟩),
  (19, ⟨15, [.t 4], (x_cellrow_Blank 38)⟩),
  (38, ⟨10, [.t 4], (x_cellrow_blanks 47 56)⟩),
  (47, ⟨6, [.c 2 5 true], x_cellrow_blank⟩),
  (56, ⟨48, [.t 4], (x_slices_Repeat_750 68)⟩),
  (68, ⟨30, [.t 4, .t 5], (x_math_bits_Mul 74 75)⟩),
  (74, ⟨17, [.t 4, .t 5], x_math_bits_Mul32⟩),
  (75, ⟨51, [.t 4, .t 5], x_math_bits_Mul64⟩)]

theorem fnsE_ok : ∀ p ∈ fnsE, FnIs Tryd.prog p.1 p.2.N p.2.res p.2.code := by
  intro p hp
  simp only [fnsE, List.mem_cons, List.not_mem_nil, or_false] at hp
  rcases hp with rfl | rfl | rfl | rfl | rfl | rfl | rfl | rfl
  · exact is_law07_awake
  · exact is_cellrow_Blank
  · exact is_cellrow_blanks
  · exact is_cellrow_blank
  · exact is_slices_Repeat_750
  · exact is_math_bits_Mul
  · exact is_math_bits_Mul32
  · exact is_math_bits_Mul64

/-- The tables that the rows list. -/
def gam : Tabs := [(1, tabAccept), (0, tabFirst)]
theorem gam_is : tabsOf Tryd.prog [("unicode/utf8.acceptRanges", Rows.laid_unicode_utf8_acceptRanges), ("unicode/utf8.first", Rows.laid_unicode_utf8_first)] = some gam := by kernel_rfl

def isTrue : Option A → Bool
  | some (.d (.sc (.bool true))) => true
  | _ => false
theorem isTrue_some {x : Option A} (h : isTrue x = true) : x = some (.bool true) := by
  unfold isTrue at h
  split at h
  · rfl
  · cases h

theorem k_vs : ∀ s : ByteArray, s.size ≤ 1000 → FnP gam Tryd.prog 61 [.str s] (.bool (validS s)) :=
  validString_fn Tryd.laysValid rfl is_unicode_utf8_ValidString (by rw [show Tryd.laysValid_ren.g 3 = 0 from rfl]; exact List.mem_cons_of_mem _ (List.mem_cons_self ..)) (by rw [show Tryd.laysValid_ren.g 4 = 1 from rfl]; exact List.mem_cons_self ..)
theorem k_mark : ∀ r, FnP gam Tryd.prog 57 [.sc (.int .i32 r)] (.bool (markC r)) := mark_fn is_charwidth_Mark (by decide) is_charwidth_marks is_charwidth_finder (by decide) is_charwidth_finder_1 (by decide)
theorem k_cwidth : ∀ r, FnP gam Tryd.prog 45 [.sc (.int .i32 r)] (.int (widthC r)) := widthC_fn is_charwidth_Width (by decide) is_charwidth_Mark (by decide) is_charwidth_marks is_charwidth_Wide is_charwidth_finder (by decide) is_charwidth_finder_1 (by decide)
theorem k_marked : ∀ l : List Nat, FnP gam Tryd.prog 50 [.d (.sl eRn (rnRows l))] (.bool (l.all fun n => markC n)) := marked_fn is_cluster_marked (by decide) k_mark
theorem k_valid : ∀ s : ByteArray, s.size ≤ 1000 → FnP gam Tryd.prog 49 [.str s] (.bool (validS s)) := valid_fn is_utf8stream_Valid (by decide) k_vs
theorem k_check : ∀ s : ByteArray, s.size ≤ 1000 → FnP gam Tryd.prog 33 [.str s] (.int (chkC s)) := check_fn is_cluster_Check (by decide) k_valid k_cwidth k_marked
theorem k_runes : ∀ s : ByteArray, s.size ≤ 1000 → FnP gam Tryd.prog 44 [.str s] (.d (.sl eRn (rnRows (runesC s)))) := runes_fn is_cluster_runes (by decide) k_check
theorem k_width : ∀ s : ByteArray, s.size ≤ 1000 → FnP gam Tryd.prog 23 [.str s] (.int (widC s)) := cwidth_fn is_cluster_Width (by decide) k_runes k_cwidth

theorem k_dec : ∀ s : ByteArray, s.size ≤ 1000 → FnP gam Tryd.prog 62 [.str ⟨#[]⟩, .str s] (decA (toN s.data.toList)) := decode_fn is_ref01_Decode (by decide) is_ref01_limits (by decide) is_ref01_value (by decide)
theorem k_enc : ∀ l : List Int, l.length ≤ 1000 → FnP gam Tryd.prog 63 [.d (.sl eRu (irRows l))] (.str (numS (encL l))) := encode_fn is_ref01_Encode (by decide)
theorem k_rvalid : ∀ s : ByteArray, s.size ≤ 1000 → FnP gam Tryd.prog 51 [.str s] (.bool (validS s)) := refValid_fn is_ref01_Valid (by decide) k_dec k_enc
theorem k_chars : ∀ s : ByteArray, s.size ≤ 1000 → validS s = true → FnP gam Tryd.prog 52 [.str s] (.d (.sl eRn (rnRows (runesOf s)))) := refChars_fn is_ref03_Characters (by decide) k_dec
theorem k_mark2 : ∀ r, FnP gam Tryd.prog 53 [.sc (.int .i32 r)] (.bool (markC r)) := mark2_fn is_ref02_Mark (by decide) is_ref02_Marks is_ref02_in (by decide)
theorem k_width2 : ∀ r, FnP gam Tryd.prog 54 [.sc (.int .i32 r)] (.int (widthC r)) := width2_fn is_ref02_Width (by decide) is_ref02_Mark (by decide) is_ref02_Marks is_ref02_Wide is_ref02_in (by decide)
theorem k_check3 : ∀ s : ByteArray, s.size ≤ 1000 → FnP gam Tryd.prog 34 [.str s] (.int (chkC s)) := check3_fn is_ref03_Check (by decide) k_rvalid k_chars k_mark2 k_width2
theorem k_cw3 : ∀ s : ByteArray, s.size ≤ 1000 → FnP gam Tryd.prog 35 [.str s] (.int (widC s)) := cwidth3_fn is_ref03_Width (by decide) k_check3 k_chars k_width2

def o0 : Orc := orcE fnsE (fun _ _ => none) ⟨1, 24⟩ (tabS gam) 300 30
theorem o0_ok : OrcOk (.all gam.ctx Tryd.prog) o0 := orcE_ok fnsE_ok (fun _ _ _ h => by cases h) 30
set_option maxRecDepth 100000 in
theorem k_mul : ∀ n : Nat, n ≤ 132 → FnP gam Tryd.prog 68 [.d (.sc (.int .u64 1)), .d (.sc (.int .u64 n))] (.tup [.d (.sc (.int .u64 0)), .d (.sc (.int .u64 n))]) := mul_of o0_ok (by kernel_rfl)

theorem k_row : RowOk gam Tryd.prog 14 := rowCheck_fn is_cellrow_Check (by decide) k_check k_width
theorem k_rrow : RowOk gam Tryd.prog 15 := refRow_fn is_ref07_Check (by decide) k_check3 k_cw3
theorem k_blanks : BlanksOk gam Tryd.prog 38 := fun back n hn =>
  blanks_fn is_cellrow_blanks (by decide) is_cellrow_blank (by decide) back n fun c => repeat_fn is_slices_Repeat_750 (by decide) c n hn (k_mul n hn)
theorem k_cBlank : BlankOk gam Tryd.prog 19 := fun w a b c => cBlank_fn is_cellrow_Blank (by decide) w a b c (k_blanks b)
theorem k_rBlank : BlankOk gam Tryd.prog 20 := rBlank_fn is_ref07_Blank (by decide) is_ref07_blank (by decide)
theorem k_great : GreatCOk gam Tryd.prog 12 := greatC_fn is_ref07_Great (by decide)
theorem k_same : SameCOk gam Tryd.prog 18 := sameC_fn is_ref07_Same (by decide)
theorem k_cblank : ∀ b, FnP gam Tryd.prog 47 [.int b] (ceA (blankC b)) := cblank_fn is_cellrow_blank (by decide)
theorem k_rblank : ∀ b, FnP gam Tryd.prog 39 [.int b] (ceA (blankC b)) := rblank_fn is_ref07_blank (by decide)
theorem k_open : OpenOk gam Tryd.prog 40 := fun l hs col last h => open_fn is_cellrow_open (by decide) is_slices_Clone_750 (by decide) l (k_row l hs) col last h (Nat.zero_le _)
theorem k_halve : HalveOk gam Tryd.prog 41 := fun l _ c hl hc id h hh => halve_fn is_cellrow_halve (by decide) k_cblank l c hl hc id h (Nat.zero_le _) hh
theorem k_sep : HalveOk gam Tryd.prog 43 := fun l ho c hl hc id h hh => separate_fn is_ref07_separate (by decide) k_rblank l ho c hl hc id h (Nat.zero_le _) hh
theorem k_copied : CopyOk gam Tryd.prog 42 := fun l hl h => copiedD_fn is_ref07_copied (by decide) l hl h (Nat.zero_le _)
theorem k_put : PutOk gam Tryd.prog 21 := put_fn is_cellrow_Put (by decide) k_open k_halve k_check k_width
theorem k_rput : PutOk gam Tryd.prog 22 := rput_fn is_ref07_Put (by decide) k_rrow k_copied k_sep k_check3 k_cw3
theorem k_growE : Enters Tryd.prog 60 := enters_ofE (by kernel_rfl)
theorem k_grow : ∀ n : Nat, 0 < n → n ≤ 100000 → ∀ h, FnD gam.ctx Tryd.prog 60 [.nil, .int n] h (.ref h.length 0 0 0 true) (h ++ [.cells eCe []]) := fun n hn hl h => growE_fn Tryd.growR rfl k_growE (by kernel_rfl) (by decide) (by decide) n hn hl h
theorem k_concat : ConcatOk gam Tryd.prog 46 := concatC_fn is_slices_Concat_750 (by decide) (growE0_fn Tryd.growR rfl k_growE) k_grow
theorem k_concatD : ConcatDOk gam Tryd.prog 46 := fun ls h1 h2 h0 h => concatD_fn is_slices_Concat_750 (by decide) k_grow ls h1 h2 h0 h (Nat.zero_le _)
theorem k_insert : ShiftOk insR gam Tryd.prog 24 := insert_fn is_cellrow_Insert (by decide) k_open k_halve k_blanks k_concatD k_cblank
theorem k_delete : ShiftOk delR gam Tryd.prog 26 := delete_fn is_cellrow_Delete (by decide) k_open k_halve k_blanks k_concat
theorem k_erase : ShiftOk eraR gam Tryd.prog 29 := erase_fn is_cellrow_Erase (by decide) k_open k_halve k_blanks k_concat
theorem k_rinsert : ShiftOk insR gam Tryd.prog 25 := rinsert_fn is_ref07_Insert (by decide) k_rrow k_copied k_sep k_rblank
theorem k_rdelete : ShiftOk delR gam Tryd.prog 27 := rdelete_fn is_ref07_Delete (by decide) k_rrow k_copied k_sep k_rblank
theorem k_rerase : ShiftOk eraR gam Tryd.prog 30 := rerase_fn is_ref07_Erase (by decide) k_rrow k_copied k_sep k_rblank
theorem k_fit : FitOk gam Tryd.prog 28 := fun l hs w => fit_fn is_cellrow_Fit (by decide) is_slices_Clone_750 (by decide) is_cellrow_blank (by decide) l w _ (k_row l hs) (fun h => ⟨(ck_pos h).1, (ck_pos h).2.1⟩) (fun n _ hn => k_blanks (-1) n hn)
theorem k_rfit : FitOk gam Tryd.prog 31 := fun l hs w => rfit_fn is_ref07_Fit (by decide) is_ref07_copied (by decide) is_ref07_blank (by decide) l w (k_rrow l hs)
theorem k_text : TextOk gam Tryd.prog 16 := text_fn is_cellrow_Text Tryd.text_walk
theorem k_rtext : TextOk gam Tryd.prog 17 := rtext_fn is_ref07_Text (by decide)

theorem ext_ok : ∀ f args r, ext7 16 24 21 f args = some r → FnP gam Tryd.prog f args r := ext7_ok k_text k_insert k_put

set_option maxRecDepth 100000 in
theorem awake_run : isTrue ((orcE fnsE (ext7 16 24 21) ⟨1, 24⟩ (tabS gam) 300 30).pure 13 []) = true := by kernel_rfl

theorem awake_fn : FnP gam Tryd.prog 13 [] (.bool true) := (orcE_ok fnsE_ok ext_ok 30).pure _ _ _ (isTrue_some awake_run)

def tCells : Ty := .sl ⟨5, 48⟩ (.st [.str, .int .i64, .st [.int .i64, .int .i64, .int .i64]])
def tRows : Ty := .sl ⟨1, 24⟩ tCells
theorem cell_of {xs : List D} (h : WT (.st [.str, .int .i64, .st [.int .i64, .int .i64, .int .i64]]) xs) : ∃ c : Ce, xs = c.row := by
  obtain ⟨_, _, rfl, ⟨s, rfl, _⟩, _, _, rfl, ⟨w, rfl, _⟩, _, _, rfl, ⟨_, _, rfl, ⟨a, rfl, _⟩, _, _, rfl, ⟨b, rfl, _⟩, _, _, rfl, ⟨c, rfl, _⟩, rfl⟩, rfl⟩ := h
  exact ⟨⟨s, w, a, b, c⟩, rfl⟩
theorem cells_of' : ∀ {rows : List (List D)}, (∀ r ∈ rows, WT (.st [.str, .int .i64, .st [.int .i64, .int .i64, .int .i64]]) r) → ∃ l : List Ce, rows = ceRows l
  | [], _ => ⟨[], rfl⟩
  | r :: rows, h => by
    obtain ⟨g, rfl⟩ := cell_of (h r (List.mem_cons_self ..))
    obtain ⟨l, rfl⟩ := cells_of' fun r hr => h r (List.mem_cons_of_mem _ hr)
    exact ⟨g :: l, rfl⟩
theorem cells_of {xs : List D} (h : WT tCells xs) : ∃ l : List Ce, xs = [.sl eCe (ceRows l)] := by
  obtain ⟨rows, rfl, hr⟩ := h
  obtain ⟨l, rfl⟩ := cells_of' hr
  exact ⟨l, rfl⟩
theorem crows_of : ∀ {rows : List (List D)}, (∀ r ∈ rows, WT tCells r) → ∃ l : List (List Ce), rows = crRows l
  | [], _ => ⟨[], rfl⟩
  | r :: rows, h => by
    obtain ⟨g, rfl⟩ := cells_of (h r (List.mem_cons_self ..))
    obtain ⟨l, rfl⟩ := crows_of fun r hr => h r (List.mem_cons_of_mem _ hr)
    exact ⟨g :: l, rfl⟩

def tAttr : Ty := .st [.int .i64, .int .i64, .int .i64]
theorem attr_of {xs : List D} (h : WT tAttr xs) : ∃ a b c : Int, xs = atD a b c := by
  obtain ⟨_, _, rfl, ⟨a, rfl, _⟩, _, _, rfl, ⟨b, rfl, _⟩, _, _, rfl, ⟨c, rfl, _⟩, rfl⟩ := h
  exact ⟨a, b, c, rfl⟩

end Go.Proofs.YtckglkbbdbmdkaaDoor.Nx

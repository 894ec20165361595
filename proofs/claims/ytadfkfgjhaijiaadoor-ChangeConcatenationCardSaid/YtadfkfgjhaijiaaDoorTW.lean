/- The walk through functions Text, which write into a strings.Builder: their code calls two functions of the library by their contracts. -/
import Derived.Shelf.Lay
import Derived.Shelf.Strings.BuilderK
import Derived.WalkKit
import Derived.BigCall
import Derived.KernelRfl
import Derived.Test.YtadfkfgjhaijiaaDoorNxT3
import Derived.Test.YtadfkfgjhaijiaaDoorProg
namespace Go.Proofs.YtadfkfgjhaijiaaDoor
open Go.Shelf Go.RowKit
def Tryd.renB : Ren := { f := fun | 166 => 22 | 169 => 23 | 240 => 39 | 276 => 48 | n => n, t := fun | 0 => 0 | 3 => 3 | 4 => 4 | 5 => 5 | 9 => 9 | 20 => 20 | 37 => 56 | 70 => 55 | 72 => 58 | 75 => 60 | 80 => 63 | 127 => 74 | 164 => 86 | n => n, g := fun n => n }
theorem Tryd.lays166 : Lays.n166 Tryd.prog Tryd.renB where
  mixed := by kernel_rfl
  f166 := Tryd.func22.trans (congrArg some (by kernel_rfl))
  f240 := Tryd.func39.trans (congrArg some (by kernel_rfl))
  f276 := Tryd.func48.trans (congrArg some (by kernel_rfl))
  t0 := Tryd.underlying0
  a0 := Tryd.isAgg0
  z0 := Tryd.sizeOf0
  v0 := Tryd.zeroValue0
  t3 := Tryd.underlying3
  a3 := Tryd.isAgg3
  z3 := Tryd.sizeOf3
  v3 := Tryd.zeroValue3
  t4 := Tryd.underlying4
  a4 := Tryd.isAgg4
  z4 := Tryd.sizeOf4
  v4 := Tryd.zeroValue4
  t9 := Tryd.underlying9
  a9 := Tryd.isAgg9
  z9 := Tryd.sizeOf9
  v9 := Tryd.zeroValue9
  t20 := Tryd.underlying20
  a20 := Tryd.isAgg20
  z20 := Tryd.sizeOf20
  v20 := Tryd.zeroValue20
  t37 := Tryd.underlying56
  a37 := Tryd.isAgg56
  z37 := Tryd.sizeOf56
  v37 := Tryd.zeroValue56
  t70 := Tryd.underlying55
  a70 := Tryd.isAgg55
  z70 := Tryd.sizeOf55
  v70 := Tryd.zeroValue55
  t72 := Tryd.underlying58
  a72 := Tryd.isAgg58
  z72 := Tryd.sizeOf58
  v72 := Tryd.zeroValue58
  t75 := Tryd.underlying60
  a75 := Tryd.isAgg60
  z75 := Tryd.sizeOf60
  v75 := Tryd.zeroValue60
  t164 := Tryd.underlying86
  a164 := Tryd.isAgg86
  z164 := Tryd.sizeOf86
  v164 := Tryd.zeroValue86
theorem Tryd.lays169 : Lays.n169 Tryd.prog Tryd.renB where
  mixed := by kernel_rfl
  f169 := Tryd.func23.trans (congrArg some (by kernel_rfl))
  t0 := Tryd.underlying0
  a0 := Tryd.isAgg0
  z0 := Tryd.sizeOf0
  v0 := Tryd.zeroValue0
  t3 := Tryd.underlying3
  a3 := Tryd.isAgg3
  z3 := Tryd.sizeOf3
  v3 := Tryd.zeroValue3
  t9 := Tryd.underlying9
  a9 := Tryd.isAgg9
  z9 := Tryd.sizeOf9
  v9 := Tryd.zeroValue9
  t37 := Tryd.underlying56
  a37 := Tryd.isAgg56
  z37 := Tryd.sizeOf56
  v37 := Tryd.zeroValue56
  t70 := Tryd.underlying55
  a70 := Tryd.isAgg55
  z70 := Tryd.sizeOf55
  v70 := Tryd.zeroValue55
  t72 := Tryd.underlying58
  a72 := Tryd.isAgg58
  z72 := Tryd.sizeOf58
  v72 := Tryd.zeroValue58
  t127 := Tryd.underlying74
  a127 := Tryd.isAgg74
  z127 := Tryd.sizeOf74
  v127 := Tryd.zeroValue74
theorem Tryd.bxB : Builder.Extra Tryd.prog Tryd.renB where
  sizeBuilder := by kernel_rfl
  liesBuilder := by kernel_rfl
  t5 := Tryd.underlying5
  a5 := Tryd.isAgg5
  z5 := Tryd.sizeOf5
  v5 := Tryd.zeroValue5
  infoByte := by kernel_rfl
  cellsByte := by kernel_rfl
  sizeByte := by kernel_rfl
  neB5 := by decide
theorem Tryd.kWriteString (B b : Nat) (bs : List Value) (s : ByteArray) (w : World) (h : Lib.IsBuilderF 58 5 B b bs w) (hlen : bs.length + s.size ≤ 140737488355328) (hBw : B ≤ w.heap.size) :
    Calls Tryd.prog 22 #[.pointer (some ⟨b, 0, none⟩), .string s] w fun e w' => e = .returned (.tuple #[.int .i64 s.size, .nilIface]) ∧ (Lib.BuilderAtF 58 5 B b (.pointer (some ⟨b, 0, none⟩)) (bs ++ Lib.strCells s) w' ∧ Below B w w' ∧ Lib.OthersKept 5 (some b) w w') := Any.Builder_WriteString_k Tryd.lays166 Tryd.bxB B b bs s w h hlen hBw
theorem Tryd.kString (B b : Nat) (l : List UInt8) (w : World) (h : Lib.IsBuilderF 58 5 B b (Lib.byteCells l) w) (hBw : B ≤ w.heap.size) :
    Calls Tryd.prog 23 #[.pointer (some ⟨b, 0, none⟩)] w fun e w' => e = .returned (.string ⟨l.toArray⟩) ∧ (Lib.IsBuilderF 58 5 B b (Lib.byteCells l) w' ∧ Below B w w' ∧ Lib.OthersKept 5 (some b) w w') := Any.Builder_String_any_k Tryd.lays169 Tryd.bxB B b l w h hBw
set_option maxHeartbeats 4000000 in
set_option maxRecDepth 1000000 in
theorem Tryd.textG_walk : Nx.TextWalkG Tryd.prog 12 := by
  intro l ao cap w hn hs hc
  go_enter Tryd.func12, Tryd.ntmps12
  go_wp2
  go_loopw [8] (fun v8 wr => ∃ i acc, v8 = .int .i64 (i : Nat) ∧ i ≤ l.length ∧ Lib.IsBuilderF 58 5 w.heap.size w.heap.size (Lib.byteCells acc) wr ∧ Below w.heap.size w wr ∧ acc = Nx.txt (l.take i) ∧ acc.length ≤ 1000 * i) (fun v8 wr => l.length - (intOf v8).toNat)
  case atStart =>
    refine ⟨0, [], rfl, Nat.zero_le _, (Lib.IsBuilderF.of (Lib.fresh_isBuilder 58 5 w)), (Below.refl _ w).alloc (Nat.le_refl _) _, rfl, by simp⟩
  case round =>
    obtain ⟨i, acc, rfl, hi, hI, hbw, hacc, hal⟩ := hrel
    by_cases hp : i < l.length
    · obtain ⟨a, rfl, hab, h0, v1, v2, h1, h2⟩ := hc i hp
      have kc : ∀ x : Addr, x.block = a.block → wr.cell? x = w.cell? x := fun x hx => by simp only [World.cell?, hx, hbw.block _ hab]
      have ke : ∀ k, 1 ≤ k → (⟨(a.add (i * 3)).block, (a.add (i * 3)).off + k, none⟩ : Addr) = a.add (i * 3 + k) := by
        intro k hk
        unfold Addr.add
        rw [if_neg (show ¬ i * 3 + k = 0 by omega)]
        split <;> simp <;> omega
      have kb : ∀ k, (a.add k).block = a.block := by intro k; unfold Addr.add; split <;> rfl
      have h0 := (kc _ (kb _)).trans h0
      have h1 := ((kc _ (kb _)).trans h1); rw [← ke 1 (by omega)] at h1
      have h2 := ((kc _ (kb _)).trans h2); rw [← ke 2 (by omega)] at h2
      clear kc ke kb
      have hlt : ((i : Int) < (l.length : Int)) := by omega
      have hsz : l[i].size ≤ 1000 := hs _ (List.getElem_mem hp)
      have hblen : (Lib.byteCells acc).length + l[i].size ≤ 140737488355328 := by rw [Lib.byteCells_length]; omega
      have hws : w.heap.size ≤ wr.heap.size := hbw.size
      go_wp2_with (go_at_call 22; refine (Tryd.kWriteString w.heap.size w.heap.size _ l[i] _ (hI.alloc _) hblen (by simp; omega)).mono ?_)
      rintro e W1 ⟨rfl, k1, b1, _⟩
      go_wp2
      go_roundw
      case rel =>
        refine ⟨i + 1, acc ++ l[i].data.toList, ?_, by omega, ?_, (hbw.alloc (by omega) _).trans b1, ?_, ?_⟩
        · simp
        · rw [Lib.byteCells_append]; exact Or.inr k1
        · rw [hacc, Nx.txt_succ hp]
        · have : l[i].data.toList.length = l[i].size := rfl
          rw [List.length_append, this]; omega
      case measure =>
        show l.length - ((i : Int) + 1).toNat < l.length - (i : Int).toNat
        omega
    · have hle : i = l.length := by omega
      subst hle
      go_wp2_with (go_at_call 23; refine (Tryd.kString w.heap.size w.heap.size acc _ hI hbw.size).mono ?_)
      rintro e W1 ⟨rfl, _, b1, _⟩
      go_wp2
      go_ret
      rw [List.take_length] at hacc
      subst hacc
      exact ⟨rfl, hbw.trans b1⟩
end Go.Proofs.YtadfkfgjhaijiaaDoor

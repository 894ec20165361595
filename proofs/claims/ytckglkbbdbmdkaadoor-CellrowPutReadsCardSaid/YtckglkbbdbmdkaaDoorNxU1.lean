/- UTF-8, plainly: the bytes of scalars, what Go's decoder and the reference's make of them. -/
import Derived.Test.YtckglkbbdbmdkaaDoorNxOps
import Derived.Lib.ValidAsc
namespace Go.Proofs.YtckglkbbdbmdkaaDoor.Nx
set_option linter.unusedSimpArgs false
set_option linter.unusedVariables false
set_option linter.unnecessarySimpa false
open Go Go.Lib

def scalar (r : Nat) : Prop := r < 55296 ∨ (57344 ≤ r ∧ r ≤ 1114111)
instance (r : Nat) : Decidable (scalar r) := by unfold scalar; infer_instance

/-- The numbers of the bytes of a scalar. -/
def encN (r : Nat) : List Nat :=
  if r < 128 then [r] else if r < 2048 then [192 + r / 64, 128 + r % 64] else if r < 65536 then [224 + r / 4096, 128 + r / 64 % 64, 128 + r % 64]
  else [240 + r / 262144, 128 + r / 4096 % 64, 128 + r / 64 % 64, 128 + r % 64]
def enc (r : Nat) : List UInt8 := (encN r).map UInt8.ofNat
def encs (l : List Nat) : List UInt8 := l.flatMap enc

theorem encN_lt {r : Nat} (h : r ≤ 1114111) : ∀ b ∈ encN r, b < 256 := by
  intro b hb
  unfold encN at hb
  split at hb
  · simp at hb; omega
  · split at hb
    · simp at hb; omega
    · split at hb
      · simp at hb; omega
      · simp at hb; omega
theorem scalar_le {r : Nat} (h : scalar r) : r ≤ 1114111 := by unfold scalar at h; omega

theorem enc_nat {r : Nat} (h : r ≤ 1114111) : (enc r).map UInt8.toNat = encN r := by
  have hlt := encN_lt h
  unfold enc
  rw [List.map_map]
  conv => rhs; rw [← List.map_id (encN r)]
  refine List.map_congr_left fun b hb => ?_
  have := hlt b hb
  simp [Function.comp, UInt8.toNat_ofNat']
  omega
theorem encN_ne (r : Nat) : encN r ≠ [] := by
  unfold encN
  split
  · simp
  · split
    · simp
    · split <;> simp
theorem enc_ne (r : Nat) : enc r ≠ [] := by simp [enc, encN_ne]

/-- The number of a byte of a list, 0 behind its end. -/
def nb (l : List UInt8) (i : Nat) : Nat := (l.getD i 0).toNat
theorem nb_lt (l : List UInt8) (i : Nat) : nb l i < 256 := (l.getD i 0).toNat_lt
theorem nb_app {a b : List UInt8} {i : Nat} (h : i < a.length) : nb (a ++ b) i = nb a i := by
  unfold nb; rw [List.getD_eq_getElem?_getD, List.getD_eq_getElem?_getD, List.getElem?_append_left h]
theorem nb_map {l : List UInt8} {i : Nat} (h : i < l.length) : nb l i = (l.map UInt8.toNat).getD i 0 := by
  unfold nb; rw [List.getD_eq_getElem?_getD, List.getD_eq_getElem?_getD, List.getElem?_map, List.getElem?_eq_getElem h]; rfl

theorem dec_N (l : List UInt8) : decodeL l = decodeN l.length (nb l 0) (nb l 1) (nb l 2) (nb l 3) := decodeL_N l

theorem enc_len {r : Nat} : (enc r).length = (encN r).length := by simp [enc]

set_option maxHeartbeats 1000000 in
theorem dec_enc {r : Nat} (h : scalar r) (t : List UInt8) : decodeL (enc r ++ t) = (r, (enc r).length) := by
  have hle := scalar_le h
  have hn := enc_nat hle
  rw [dec_N]
  have g : ∀ i, i < (encN r).length → nb (enc r ++ t) i = (encN r).getD i 0 := fun i hi => by
    rw [nb_app (by rw [enc_len]; exact hi), nb_map (by rw [enc_len]; exact hi), hn]
  have hl : (enc r ++ t).length = (encN r).length + t.length := by rw [List.length_append, enc_len]
  rw [enc_len, hl]
  unfold scalar at h
  by_cases c1 : r < 128
  · have e : encN r = [r] := by simp [encN, c1]
    rw [e] at g ⊢
    have g0 := g 0 (by simp)
    simp only [List.getD_cons_zero] at g0
    rw [g0]
    unfold decodeN
    rw [if_pos c1]; rfl
  · by_cases c2 : r < 2048
    · have e : encN r = [192 + r / 64, 128 + r % 64] := by simp [encN, c1, c2]
      rw [e] at g ⊢
      have g0 := g 0 (by simp)
      have g1 := g 1 (by simp)
      simp only [List.getD_cons_zero, List.getD_cons_succ] at g0 g1
      rw [g0, g1]
      simp only [List.length_cons, List.length_nil]
      unfold decodeN
      rw [if_neg (by omega), if_pos ⟨by omega, by omega, by omega⟩, if_pos (by omega)]
      refine Prod.ext ?_ rfl
      simp only
      omega
    · by_cases c3 : r < 65536
      · have e : encN r = [224 + r / 4096, 128 + r / 64 % 64, 128 + r % 64] := by simp [encN, c1, c2, c3]
        rw [e] at g ⊢
        have g0 := g 0 (by simp)
        have g1 := g 1 (by simp)
        have g2 := g 2 (by simp)
        simp only [List.getD_cons_zero, List.getD_cons_succ] at g0 g1 g2
        rw [g0, g1, g2]
        simp only [List.length_cons, List.length_nil]
        unfold decodeN
        rw [if_neg (by omega), if_neg (by omega), if_pos ⟨by omega, ⟨by omega, by omega⟩, by omega, by omega⟩, if_pos (by omega)]
        refine Prod.ext ?_ rfl
        simp only
        omega
      · have e : encN r = [240 + r / 262144, 128 + r / 4096 % 64, 128 + r / 64 % 64, 128 + r % 64] := by simp [encN, c1, c2, c3]
        rw [e] at g ⊢
        have g0 := g 0 (by simp)
        have g1 := g 1 (by simp)
        have g2 := g 2 (by simp)
        have g3 := g 3 (by simp)
        simp only [List.getD_cons_zero, List.getD_cons_succ] at g0 g1 g2 g3
        rw [g0, g1, g2, g3]
        simp only [List.length_cons, List.length_nil]
        unfold decodeN
        rw [if_neg (by omega), if_neg (by omega), if_neg (by omega), if_pos ⟨by omega, ⟨by omega, by omega⟩, ⟨by omega, by omega⟩, by omega, by omega⟩, if_pos (by omega)]
        refine Prod.ext ?_ rfl
        simp only
        omega

/-- What the decoder reads is a scalar's bytes, or bad. -/
theorem decN_cases {n b0 b1 b2 b3 r k : Nat} (hn : 1 ≤ n) (h0 : b0 < 256) (h1 : b1 < 256) (h2 : b2 < 256) (h3 : b3 < 256) (h : decodeN n b0 b1 b2 b3 = (r, k)) (hb : ¬(r = 65533 ∧ k = 1)) :
    scalar r ∧ ((k = 1 ∧ encN r = [b0]) ∨ (k = 2 ∧ 2 ≤ n ∧ encN r = [b0, b1]) ∨ (k = 3 ∧ 3 ≤ n ∧ encN r = [b0, b1, b2]) ∨ (k = 4 ∧ 4 ≤ n ∧ encN r = [b0, b1, b2, b3])) := by
  unfold decodeN at h
  split at h
  · cases h
    refine ⟨.inl (by omega), .inl ⟨rfl, ?_⟩⟩
    rw [encN, if_pos (by omega)]
  · split at h
    · split at h
      · obtain ⟨rfl, rfl⟩ := Prod.mk.inj h
        refine ⟨by unfold scalar; omega, .inr (.inl ⟨rfl, by omega, ?_⟩)⟩
        rw [encN, if_neg (by omega), if_pos (by omega)]
        congr 1
        · omega
        · congr 1; omega
      · cases h; exact absurd ⟨rfl, rfl⟩ hb
    · split at h
      · split at h
        · obtain ⟨rfl, rfl⟩ := Prod.mk.inj h
          refine ⟨by unfold scalar; omega, .inr (.inr (.inl ⟨rfl, by omega, ?_⟩))⟩
          rw [encN, if_neg (by omega), if_neg (by omega), if_pos (by omega)]
          congr 1
          · omega
          · congr 1
            · omega
            · congr 1; omega
        · cases h; exact absurd ⟨rfl, rfl⟩ hb
      · split at h
        · split at h
          · obtain ⟨rfl, rfl⟩ := Prod.mk.inj h
            refine ⟨by unfold scalar; omega, .inr (.inr (.inr ⟨rfl, by omega, ?_⟩))⟩
            rw [encN, if_neg (by omega), if_neg (by omega), if_neg (by omega)]
            congr 1
            · omega
            · congr 1
              · omega
              · congr 1
                · omega
                · congr 1; omega
          · cases h; exact absurd ⟨rfl, rfl⟩ hb
        · cases h; exact absurd ⟨rfl, rfl⟩ hb

theorem ofNat_nb (l : List UInt8) (i : Nat) : UInt8.ofNat (nb l i) = l.getD i 0 := by simp [nb]

theorem take_nb : ∀ (k : Nat) (l : List UInt8), k ≤ l.length → l.take k = (List.range k).map fun i => UInt8.ofNat (nb l i)
  | k, l, h => by
    refine List.ext_getElem (by simp; omega) fun i h1 h2 => ?_
    simp only [List.getElem_take, List.getElem_map, List.getElem_range, ofNat_nb]
    have hi : i < l.length := by simp at h1; omega
    rw [List.getD_eq_getElem?_getD, List.getElem?_eq_getElem hi]; rfl

theorem enc_dec {l : List UInt8} {r k : Nat} (hne : l ≠ []) (h : decodeL l = (r, k)) (hb : ¬(r = 65533 ∧ k = 1)) : scalar r ∧ l = enc r ++ l.drop k := by
  rw [dec_N] at h
  have hl : 0 < l.length := List.length_pos_iff.2 hne
  obtain ⟨hs, hc⟩ := decN_cases hl (nb_lt _ _) (nb_lt _ _) (nb_lt _ _) (nb_lt _ _) h hb
  refine ⟨hs, ?_⟩
  have key : k ≤ l.length → encN r = (List.range k).map (nb l) → l = enc r ++ l.drop k := fun hk he => by
    conv => lhs; rw [← List.take_append_drop k l]
    congr 1
    rw [take_nb k l hk, enc, he, List.map_map]; rfl
  rcases hc with ⟨rfl, he⟩ | ⟨rfl, hn, he⟩ | ⟨rfl, hn, he⟩ | ⟨rfl, hn, he⟩
  · exact key hl he
  · exact key hn he
  · exact key hn he
  · exact key hn he

theorem valid_app {r : Nat} (h : scalar r) (t : List UInt8) : validD (enc r ++ t) = validD t := by
  rw [validD_step _ (by simp [enc_ne]), dec_enc h t]
  rw [if_neg]
  · rw [List.drop_left]
  · rintro ⟨h1, h2⟩
    simp only at h1 h2
    subst h1
    revert h2; decide
theorem valid_encs : ∀ {l : List Nat}, (∀ r ∈ l, scalar r) → validD (encs l) = true
  | [], _ => rfl
  | r :: l, h => by
    rw [encs, List.flatMap_cons, valid_app (h r (List.mem_cons_self ..))]
    exact valid_encs fun r hr => h r (List.mem_cons_of_mem _ hr)
theorem encs_valid : ∀ (n : Nat) (l : List UInt8), l.length ≤ n → validD l = true → ∃ rs, (∀ r ∈ rs, scalar r) ∧ l = encs rs
  | 0, l, hn, _ => ⟨[], by simp, List.eq_nil_of_length_eq_zero (by omega)⟩
  | n + 1, l, hn, h => by
    by_cases hne : l = []
    · exact ⟨[], by simp, hne⟩
    rw [validD_step l hne] at h
    split at h
    · cases h
    rename_i hb
    obtain ⟨hs, he⟩ := enc_dec hne (show decodeL l = ((decodeL l).1, (decodeL l).2) from rfl) hb
    have hw := decodeL_width l
    have hl : 0 < l.length := List.length_pos_iff.2 hne
    obtain ⟨rs, hrs, hd⟩ := encs_valid n (l.drop (decodeL l).2) (by rw [List.length_drop]; omega) h
    refine ⟨(decodeL l).1 :: rs, fun r hr => ?_, ?_⟩
    · rcases List.mem_cons.1 hr with rfl | hr
      · exact hs
      · exact hrs r hr
    · rw [encs, List.flatMap_cons]
      conv => lhs; rw [he, hd]
      rfl

theorem bytes_size (s : ByteArray) : s.size = s.data.toList.length := by rw [Array.length_toList]; rfl

/-! ### The characters of a string -/
theorem runesGo_encs (s : ByteArray) : ∀ (b i : Nat) (rs : List Nat), (∀ r ∈ rs, scalar r) → s.data.toList.drop i = encs rs → i ≤ s.size → s.size - i ≤ b → runesGo s b i = rs
  | 0, i, rs, hs, h, hi, hb => by
    have hsz := bytes_size s
    have : s.data.toList.drop i = [] := List.drop_eq_nil_of_le (by omega)
    rw [this] at h
    cases rs with
    | nil => rfl
    | cons r rs => rw [encs, List.flatMap_cons] at h; exact absurd h.symm (by simp [enc_ne])
  | b + 1, i, rs, hs, h, hi, hb => by
    have hsz := bytes_size s
    unfold runesGo
    cases rs with
    | nil =>
      have : i = s.size := by
        have := congrArg List.length h
        rw [List.length_drop] at this
        simp [encs] at this; omega
      rw [if_neg (by omega)]
    | cons r rs =>
      have hlen := congrArg List.length h
      rw [encs, List.flatMap_cons, List.length_drop, List.length_append] at hlen
      have hpos : 0 < (enc r).length := List.length_pos_iff.2 (enc_ne r)
      rw [if_pos (by omega), ← decodeL_drop, h, encs, List.flatMap_cons, dec_enc (hs r (List.mem_cons_self ..))]
      congr 1
      refine runesGo_encs s b _ rs (fun r hr => hs r (List.mem_cons_of_mem _ hr)) ?_ (by omega) (by omega)
      rw [← List.drop_drop, h, encs, List.flatMap_cons, List.drop_left]; rfl
theorem runesOf_encs {s : ByteArray} {rs : List Nat} (hs : ∀ r ∈ rs, scalar r) (h : s.data.toList = encs rs) : runesOf s = rs :=
  runesGo_encs s s.size 0 rs hs (by simpa using h) (Nat.zero_le _) (by omega)

/-! ### The reference's decoder -/
def sizeN (p : Nat) : Nat := if 194 ≤ p ∧ p ≤ 223 then 2 else if 224 ≤ p ∧ p ≤ 239 then 3 else if 240 ≤ p ∧ p ≤ 244 then 4 else 0
def lowN : List Nat → Nat
  | [] => 0
  | [p] => if p = 224 then 160 else if p = 240 then 144 else 128
  | _ => 128
def highN : List Nat → Nat
  | [] => 255
  | [p] => if p = 237 then 159 else if p = 244 then 143 else 191
  | _ => 191
def baseN : List Nat → Int
  | [p, _] => p - 192
  | [p, _, _] => p - 224
  | [p, _, _, _] => p - 240
  | _ => 0
def valN (l : List Nat) : Int := (l.drop 1).foldl (fun (n : Int) (b : Nat) => n * 64 + b - 128) (baseN l)
def dstart (out : List Int) (b : Nat) : List Int × List Nat := if b < 128 then (out ++ [(b : Int)], []) else if 0 < sizeN b then (out, [b]) else (out ++ [65533], [])
def dstep : List Int × List Nat → Nat → List Int × List Nat
  | (out, []), b => dstart out b
  | (out, p :: l), b => if b < lowN (p :: l) ∨ highN (p :: l) < b then dstart (out ++ [65533]) b else if (p :: l ++ [b]).length = sizeN p then (out ++ [valN (p :: l ++ [b])], []) else (out, p :: l ++ [b])
def drun (l : List Nat) : List Int × List Nat := l.foldl dstep ([], [])

set_option maxHeartbeats 1000000 in
theorem dstep_enc {r : Nat} (h : scalar r) (out : List Int) : (encN r).foldl dstep (out, []) = (out ++ [(r : Int)], []) := by
  unfold scalar at h
  by_cases c1 : r < 128
  · have e : encN r = [r] := by simp [encN, c1]
    rw [e]
    simp [dstep, dstart, c1]
  · by_cases c2 : r < 2048
    · have e : encN r = [192 + r / 64, 128 + r % 64] := by simp [encN, c1, c2]
      rw [e]
      have hp : 194 ≤ 192 + r / 64 ∧ 192 + r / 64 ≤ 223 := by omega
      have hz : sizeN (192 + r / 64) = 2 := by rw [sizeN, if_pos hp]
      have hlo : lowN [192 + r / 64] = 128 := by rw [lowN, if_neg (by omega), if_neg (by omega)]
      have hhi : highN [192 + r / 64] = 191 := by rw [highN, if_neg (by omega), if_neg (by omega)]
      simp only [List.foldl_cons, List.foldl_nil, dstep, dstart, hz]
      rw [if_neg (by omega), if_pos (by decide)]
      simp only [dstep, hz, hlo, hhi]
      rw [if_neg (by omega), if_pos (by simp)]
      simp only [valN, baseN, List.cons_append, List.nil_append, List.drop_succ_cons, List.drop_zero, List.foldl_cons, List.foldl_nil, Prod.mk.injEq, and_true]
      congr 2; omega
    · by_cases c3 : r < 65536
      · have e : encN r = [224 + r / 4096, 128 + r / 64 % 64, 128 + r % 64] := by simp [encN, c1, c2, c3]
        rw [e]
        have hz : sizeN (224 + r / 4096) = 3 := by rw [sizeN, if_neg (by omega), if_pos (by omega)]
        have hlo : lowN [224 + r / 4096] = if r / 4096 = 0 then 160 else 128 := by
          rw [lowN]; split
          · rw [if_pos (by omega)]
          · rw [if_neg (by omega), if_neg (by omega)]
        have hhi : highN [224 + r / 4096] = if r / 4096 = 13 then 159 else 191 := by
          rw [highN]; split
          · rw [if_pos (by omega)]
          · rw [if_neg (by omega), if_neg (by omega)]
        simp only [List.foldl_cons, List.foldl_nil, dstep, dstart, hz]
        rw [if_neg (by omega), if_pos (by decide)]
        simp only [dstep, hz, hlo, hhi]
        rw [if_neg (by split <;> split <;> omega), if_neg (by simp)]
        simp only [dstep, hz, lowN, highN, List.cons_append, List.nil_append]
        rw [if_neg (by omega), if_pos (by simp)]
        simp only [valN, baseN, List.cons_append, List.nil_append, List.drop_succ_cons, List.drop_zero, List.foldl_cons, List.foldl_nil, Prod.mk.injEq, and_true]
        congr 2; omega
      · have e : encN r = [240 + r / 262144, 128 + r / 4096 % 64, 128 + r / 64 % 64, 128 + r % 64] := by simp [encN, c1, c2, c3]
        rw [e]
        have hz : sizeN (240 + r / 262144) = 4 := by rw [sizeN, if_neg (by omega), if_neg (by omega), if_pos (by omega)]
        have hlo : lowN [240 + r / 262144] = if r / 262144 = 0 then 144 else 128 := by
          rw [lowN]; rw [if_neg (by omega)]; split
          · rw [if_pos (by omega)]
          · rw [if_neg (by omega)]
        have hhi : highN [240 + r / 262144] = if r / 262144 = 4 then 143 else 191 := by
          rw [highN]; rw [if_neg (by omega)]; split
          · rw [if_pos (by omega)]
          · rw [if_neg (by omega)]
        simp only [List.foldl_cons, List.foldl_nil, dstep, dstart, hz]
        rw [if_neg (by omega), if_pos (by decide)]
        simp only [dstep, hz, hlo, hhi]
        rw [if_neg (by split <;> split <;> omega), if_neg (by simp)]
        simp only [dstep, hz, lowN, highN, List.cons_append, List.nil_append]
        rw [if_neg (by omega), if_neg (by simp)]
        simp only [dstep, hz, lowN, highN, List.cons_append, List.nil_append]
        rw [if_neg (by omega), if_pos (by simp)]
        simp only [valN, baseN, List.cons_append, List.nil_append, List.drop_succ_cons, List.drop_zero, List.foldl_cons, List.foldl_nil, Prod.mk.injEq, and_true]
        congr 2; omega

def toN (l : List UInt8) : List Nat := l.map UInt8.toNat
theorem toN_encs : ∀ {rs : List Nat}, (∀ r ∈ rs, scalar r) → toN (encs rs) = rs.flatMap encN
  | [], _ => rfl
  | r :: rs, h => by
    have := toN_encs fun r hr => h r (List.mem_cons_of_mem _ hr)
    rw [encs, toN] at *
    rw [List.flatMap_cons, List.map_append, this, enc_nat (scalar_le (h r (List.mem_cons_self ..))), List.flatMap_cons]
theorem dsteps_encs : ∀ {rs : List Nat}, (∀ r ∈ rs, scalar r) → ∀ out, (rs.flatMap encN).foldl dstep (out, []) = (out ++ rs.map fun (r : Nat) => (r : Int), [])
  | [], _, out => by simp
  | r :: rs, h, out => by
    rw [List.flatMap_cons, List.foldl_append, dstep_enc (h r (List.mem_cons_self ..)), dsteps_encs fun r hr => h r (List.mem_cons_of_mem _ hr)]
    simp
theorem drun_encs {rs : List Nat} (h : ∀ r ∈ rs, scalar r) : drun (toN (encs rs)) = (rs.map fun (r : Nat) => (r : Int), []) := by
  rw [toN_encs h, drun, dsteps_encs h]; simp

/-- What the reference's encoder makes of a number. -/
def san (n : Int) : Nat := if n < 0 ∨ 1114111 < n ∨ (55296 ≤ n ∧ n ≤ 57343) then 65533 else n.toNat
theorem san_scalar (n : Int) : scalar (san n) := by
  unfold san scalar; split <;> omega
theorem san_of {r : Nat} (h : scalar r) : san (r : Int) = r := by
  unfold scalar at h
  unfold san
  rw [if_neg (by omega)]; simp
def sans (l : List Int) : List UInt8 := encs (l.map san)

/-- What the reference's Valid answers. -/
def refValid (l : List UInt8) : Bool := decide ((drun (toN l)).2 = []) && decide (sans (drun (toN l)).1 = l)
theorem refValid_eq (l : List UInt8) : refValid l = validD l := by
  rw [Bool.eq_iff_iff]
  constructor
  · intro h
    simp only [refValid, Bool.and_eq_true, decide_eq_true_eq] at h
    rw [← h.2]
    refine valid_encs fun r hr => ?_
    obtain ⟨n, _, rfl⟩ := List.mem_map.1 hr
    exact san_scalar n
  · intro h
    obtain ⟨rs, hs, rfl⟩ := encs_valid l.length l (Nat.le_refl _) h
    simp only [refValid, drun_encs hs, decide_true, Bool.true_and, decide_eq_true_eq, sans, List.map_map]
    congr 1
    conv => rhs; rw [← List.map_id rs]
    exact List.map_congr_left fun r hr => san_of (hs r hr)
/-- Of valid strings the reference's characters are Go's. -/
theorem refRunes {s : ByteArray} (h : validD s.data.toList = true) : drun (toN s.data.toList) = ((runesOf s).map fun (r : Nat) => (r : Int), []) := by
  obtain ⟨rs, hs, he⟩ := encs_valid _ s.data.toList (Nat.le_refl _) h
  rw [runesOf_encs hs he, he, drun_encs hs]
theorem runes_scalar {s : ByteArray} (h : validD s.data.toList = true) : ∀ r ∈ runesOf s, scalar r := by
  obtain ⟨rs, hs, he⟩ := encs_valid _ s.data.toList (Nat.le_refl _) h
  rw [runesOf_encs hs he]; exact hs
theorem runes_ne {s : ByteArray} (h : validD s.data.toList = true) (h0 : 0 < s.size) : runesOf s ≠ [] := by
  obtain ⟨rs, hs, he⟩ := encs_valid _ s.data.toList (Nat.le_refl _) h
  rw [runesOf_encs hs he]
  rintro rfl
  have := bytes_size s
  rw [he] at this
  have h2 : (encs ([] : List Nat)).length = 0 := rfl
  omega
theorem runesGo_len (s : ByteArray) : ∀ b i, (runesGo s b i).length ≤ b
  | 0, _ => Nat.le_refl _
  | b + 1, i => by
    unfold runesGo
    split
    · have := runesGo_len s b (i + (Utf8.decode s i).2)
      simp; omega
    · simp
theorem runesOf_len (s : ByteArray) : (runesOf s).length ≤ s.size := runesGo_len s _ _

end Go.Proofs.YtckglkbbdbmdkaaDoor.Nx

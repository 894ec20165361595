/- What the abstract machine does, the model does: slices, strings, small operations. -/
import Derived.Test.YtckglkbbdbmdkaaDoorNxSound3
namespace Go.Proofs.YtckglkbbdbmdkaaDoor.Nx
set_option linter.unusedSimpArgs false
set_option linter.unusedVariables false
set_option linter.unnecessarySimpa false
open Go

variable {P : Program} {w w' : World} {M : Nat → Prop} {ρ ρ' : Phys} {h h' : Heap}

theorem nil_inv {v : Value} (hx : RepA w M ρ h .nil v) : v = .slice none 0 0 := by cases hx; rfl

theorem d_inv {x : D} {v : Value} (hx : RepA w M ρ h (.d x) v) : RepD w (Own M ρ) x v := by cases hx; assumption

theorem nn_inv {e : Elt} {rows : List (List D)} {v : Value} (hx : RepA w M ρ h (.nn e rows) v) : RepD w (Own M ρ) (.sl e rows) v ∧ ∃ a n cap, v = .slice (some a) n cap := by
  cases hx with
  | nn hx => exact ⟨hx, _, _, _, rfl⟩

theorem does_sidx {t : TypeId} {s : ByteArray} {k : IntKind} {n : Int} {u u' : Value} (S : SimH w M ρ h) (hu : P.underlying t = some .string) (hx : RepA w M ρ h (.str s) u) (hy : RepA w M ρ h (.sc (.int k n)) u') (h0 : 0 ≤ n) (h1 : n < s.size) :
    Does P (do pure (.value (← Instr.index t u u'))) w M ρ h (.sc (.int .u8 (s.data.toList.getD n.toNat 0).toNat)) h := by
  obtain ⟨rfl, -⟩ := sc_inv hx
  obtain ⟨rfl, -⟩ := sc_inv hy
  obtain ⟨m, rfl⟩ := Int.eq_ofNat_of_zero_le h0
  have hm : m < s.size := by omega
  have hb : s[m]? = some (s.data.toList.getD m 0) := by
    have hm' : m < s.data.size := hm
    rw [getElem?_pos s m hm]
    have e : s.data.toList[m]? = some (s.data[m]'hm') := by simp [hm']
    show some (s.data[m]'hm') = _
    rw [List.getD, e]; rfl
  refine .pure (v := .int .u8 (s.data.toList.getD m 0).toNat) ?_ (.d (.sc ?_)) S
  · simp [Instr.index, asIntOf, run_underlying hu, hb]
  · have := (s.data.toList.getD m 0).toNat_lt
    show IntKind.u8.min ≤ ((s.data.toList.getD m 0).toNat : Int) ∧ ((s.data.toList.getD m 0).toNat : Int) ≤ IntKind.u8.max
    simp only [IntKind.min, IntKind.max, IntKind.bits, IntKind.signed, Bool.false_eq_true, if_false]
    omega

theorem does_eqnil {neg : Bool} {t et : TypeId} {x y : Operand} {a : A} {u : Value} {K : A → Heap → Prop} (S : SimH w M ρ h) (hu : P.underlying t = some (.slice et)) (hx : RepA w M ρ h a u)
    (hK : match (generalizing := false) a with
      | .nil => K (.bool (!neg)) h
      | .nn _ _ => K (.bool neg) h
      | .d (.sl _ rows) => rows ≠ [] ∧ K (.bool neg) h
      | .ref id N _ _ _ => match (generalizing := false) h[id]? with
        | some (.cells _ rows) => N = rows.length ∧ 0 < N ∧ K (.bool neg) h
        | _ => False
      | _ => False) :
    ∃ r h', K r h' ∧ Does P (do let r ← (do eqGuard (if neg then .neq else .eql) t x y u (.slice none 0 0); binOp (if neg then .neq else .eql) t u (.slice none 0 0)); pure (.value r)) w M ρ h r h' := by
  have run : ∀ (b : Option Addr) n c, u = .slice b n c → (do let r ← (do eqGuard (if neg then .neq else .eql) t x y u (.slice none 0 0); binOp (if neg then .neq else .eql) t u (.slice none 0 0)); pure (.value r) : Sem Next).run P w = .ok (.value (.bool (if neg then !b.isNone else b.isNone))) w := by
    intro b n c he
    subst he
    have hg := run_eqGuard_sc (P := P) (w := w) (op := if neg then .neq else .eql) (t := t) (x := x) (y := y) (a := .slice b n c) (b := .slice none 0 0) (by simp) (by simp)
    have he' : ∀ d, (Op.equalIn (d + 1) t (.slice b n c) (.slice none 0 0)).run P w = .ok b.isNone w := by
      intro d
      cases b <;> simp only [Op.equalIn, Sem.run_bind, run_underlying hu, Result.andThen_ok, Sem.run_pure, Option.isNone]
    have he : (Op.equal t (.slice b n c) (.slice none 0 0)).run P w = .ok b.isNone w := he' 9999
    simp only [Sem.run_bind, hg, Result.andThen_ok]
    cases neg
    · simp only [Bool.false_eq_true, if_false, binOp, Sem.run_bind, he, Result.andThen_ok, Sem.run_pure]
    · simp only [if_true, binOp, Sem.run_bind, he, Result.andThen_ok, Sem.run_pure]
  cases a with
  | nil =>
    have := nil_inv hx
    refine ⟨_, _, hK, .pure (run _ _ _ this) ?_ S⟩
    cases neg <;> exact .d (.sc trivial)
  | nn e rows =>
    obtain ⟨_, a, n, c, hv⟩ := nn_inv hx
    refine ⟨_, _, hK, .pure (run _ _ _ hv) ?_ S⟩
    cases neg <;> exact .d (.sc trivial)
  | d x =>
    cases x with
    | sc v => exact hK.elim
    | sl e rows =>
      obtain ⟨hne, hK⟩ := hK
      obtain ⟨a, cap, hv, _, _, _, _, hc⟩ := sl_inv (d_inv hx)
      cases rows with
      | nil => exact absurd rfl hne
      | cons r rows =>
        obtain ⟨a0, rfl, _⟩ := hc 0 r rfl
        refine ⟨_, _, hK, .pure (run _ _ _ hv) ?_ S⟩
        cases neg <;> exact .d (.sc trivial)
  | ref id N off len full =>
    dsimp only at hK
    generalize hh : h[id]? = o at hK
    rcases o with _ | (⟨e, rows⟩ | _ | _)
    · exact hK.elim
    · obtain ⟨hN, h0, hK⟩ := hK
      rcases ref_inv hx hh hN with ⟨_, hz, _⟩ | ⟨b, p, o, cap, hp, rfl, _⟩
      · subst hz; simp at hN; omega
      · refine ⟨_, _, hK, .pure (run _ _ _ rfl) ?_ S⟩
        cases neg <;> exact .d (.sc trivial)
    · exact hK.elim
    · exact hK.elim
  | _ => exact hK.elim

theorem does_un {op : UnOp} {a v u : Value} (S : SimH w M ρ h) (hx : RepA w M ρ h (.sc a) u) (hr : unRes op a = some v) :
    Does P (do pure (.value (← Op.unary op u))) w M ρ h (.sc v) h := by
  obtain ⟨rfl, ha⟩ := sc_inv hx
  unfold unRes at hr
  split at hr <;> cases hr
  · refine .pure ?_ (.d (.sc (scOk_wrap ..))) S
    simp [Op.unary, Op.intArith]
  · refine .pure ?_ (.d (.sc trivial)) S
    simp [Op.unary]

theorem does_conv {src dst : TypeId} {k k' : IntKind} {n : Int} {u : Value} {ds : TypeDesc} (S : SimH w M ρ h) (hs : P.underlying src = some ds) (hd : P.underlying dst = some (.int k)) (hx : RepA w M ρ h (.sc (.int k' n)) u) :
    Does P (do pure (.value (← convert src dst u))) w M ρ h (.sc (.int k (k.wrap n))) h := by
  obtain ⟨rfl, ha⟩ := sc_inv hx
  refine .pure (v := .int k (k.wrap n)) ?_ (.d (.sc (scOk_wrap ..))) S
  unfold convert
  simp only [Sem.run_bind, run_underlying hs, run_underlying hd, Result.andThen_ok, Conv.intToInt, Sem.run_pure]

theorem has_i64 {n : Nat} (hn : n ≤ maxLen) : scOk (.int .i64 n) := by
  show IntKind.i64.min ≤ _ ∧ _ ≤ IntKind.i64.max
  simp only [IntKind.min, IntKind.max, IntKind.bits, IntKind.signed, if_true]
  unfold maxLen at hn
  omega

theorem does_len {t : TypeId} {ty : TypeId} {str : Bool} {a : A} {u : Value} {K : A → Heap → Prop} (S : SimH w M ρ h) (hu : if str then P.underlying t = some .string else ∃ et, P.underlying t = some (.slice et)) (hx : RepA w M ρ h a u)
    (hK : match (generalizing := false) a with
      | .nil => str = false ∧ K (.int 0) h
      | .d (.sl _ rows) => str = false ∧ K (.int rows.length) h
      | .nn _ rows => str = false ∧ K (.int rows.length) h
      | .ref id N _ len _ => match h[id]? with
        | some (.cells _ rows) => str = false ∧ N = rows.length ∧ K (.int len) h
        | _ => False
      | .d (.sc (.string s)) => str = true ∧ K (.int s.size) h
      | _ => False) :
    ∃ r h', K r h' ∧ Does P (do pure (.value (← Builtin.len_ #[t] ty #[u]))) w M ρ h r h' := by
  have run : str = false → ∀ (b : Option Addr) n c, u = .slice b n c → (do pure (.value (← Builtin.len_ #[t] ty #[u])) : Sem Next).run P w = .ok (.value (.int .i64 n)) w := by
    rintro rfl b n c rfl
    obtain ⟨et, hu⟩ := hu
    simp [Builtin.len_, run_underlying hu, goInt]
  cases a with
  | nil =>
    obtain ⟨hs, hK⟩ := hK
    exact ⟨_, _, hK, .pure (run hs _ _ _ (nil_inv hx)) (.d (.sc (has_i64 (n := 0) (by simp [maxLen])))) S⟩
  | nn e rows =>
    obtain ⟨hs, hK⟩ := hK
    obtain ⟨hd, _⟩ := nn_inv hx
    obtain ⟨a, cap, hv, h1, h2, _⟩ := sl_inv hd
    exact ⟨_, _, hK, .pure (run hs _ _ _ hv) (.d (.sc (has_i64 (by omega)))) S⟩
  | ref id N off len full =>
    dsimp only at hK
    split at hK
    · rename_i e rows hid
      obtain ⟨hs, hN, hK⟩ := hK
      rcases ref_inv hx hid hN with ⟨hv, _, _, rfl, _⟩ | ⟨b, p, o, cap, hp, hv, hlen, hcap, hm, ho, hphys, hfull⟩
      · exact ⟨_, _, hK, .pure (run hs _ _ _ hv) (.d (.sc (has_i64 (n := 0) (by simp [maxLen])))) S⟩
      · exact ⟨_, _, hK, .pure (run hs _ _ _ hv) (.d (.sc (has_i64 (by omega)))) S⟩
    · exact hK.elim
  | d x =>
    cases x with
    | sc v =>
      cases v <;> try (exact hK.elim)
      rename_i s
      obtain ⟨rfl, hK⟩ := hK
      obtain ⟨rfl, hs⟩ := sc_inv hx
      simp only [if_true] at hu
      refine ⟨_, _, hK, .pure (v := .int .i64 s.size) ?_ (.d (.sc (has_i64 hs))) S⟩
      simp [Builtin.len_, run_underlying hu, goInt]
    | sl e rows =>
      obtain ⟨hs, hK⟩ := hK
      obtain ⟨a, cap, hv, h1, h2, _⟩ := sl_inv (d_inv hx)
      exact ⟨_, _, hK, .pure (run hs _ _ _ hv) (.d (.sc (has_i64 (by omega)))) S⟩
  | _ => exact hK.elim

theorem does_extract {i : Nat} {l : List A} {a : A} {u : Value} (S : SimH w M ρ h) (hx : RepA w M ρ h (.tup l) u) (hi : l[i]? = some a) :
    Does P (do pure (.value (← Instr.extract u i))) w M ρ h a h := by
  cases hx with
  | tup hl hr =>
    rename_i cs
    have hlt : i < cs.size := by rw [hl]; exact (List.getElem?_eq_some_iff.1 hi).1
    have hs := getD_some hlt
    have hrep := hr i a hi
    generalize cs.getD i undef = v at hs hrep
    exact .pure (by simp [Instr.extract, hs]) hrep S

theorem does_mkfn {f : FuncId} {caps : List A} {vs : Array Value} (S : SimH w M ρ h) (hl : vs.size = caps.length) (hr : ∀ (j : Nat) (x : A), caps[j]? = some x → RepA w M ρ h x (vs.getD j undef)) :
    Does P (do pure (.value (← Instr.makeFunc (.func f) #[] vs))) w M ρ h (.fn f caps) h :=
  .pure (by simp [Instr.makeFunc]) (.fn hl hr) S

/-! ### Cutting slices -/
theorem run_slice' {t et : TypeId} {ti : TypeInfo} {a : Option Addr} {n cap : Nat} {lo hi mx : Option Value} {l u m : Int} (hu : P.underlying t = some (.slice et)) (hi' : P.info? et = some ti)
    (hlo : (lo = none ∧ l = 0) ∨ ∃ k, lo = some (.int k l)) (hhi : (hi = none ∧ u = n ∧ mx = none) ∨ ∃ k, hi = some (.int k u)) (hmx : (mx = none ∧ m = cap) ∨ ∃ k, mx = some (.int k m))
    (h0 : 0 ≤ l) (h1 : l ≤ u) (h2 : u ≤ m) (h3 : m ≤ cap) :
    (Instr.slice t (.slice a n cap) lo hi mx).run P w = .ok (.slice (if m.toNat = l.toNat then a else a.map (·.add (l.toNat * ti.size))) (u.toNat - l.toNat) (m.toNat - l.toNat)) w := by
  have hb : (Instr.sliceBounds true n cap lo hi mx).run P w = .ok (l.toNat, u.toNat, m.toNat) w := by
    unfold Instr.sliceBounds
    have el : (l.toNat : Int) = l := by omega
    have eu : (u.toNat : Int) = u := by omega
    have em : (m.toNat : Int) = m := by omega
    rcases hmx with ⟨rfl, rfl⟩ | ⟨km, rfl⟩
    · rcases hhi with ⟨rfl, rfl, _⟩ | ⟨kh, rfl⟩
      · rcases hlo with ⟨rfl, rfl⟩ | ⟨kl, rfl⟩
        · simp
        · simp [run_sliceBound w kl l n _ h0 h1]
      · rcases hlo with ⟨rfl, rfl⟩ | ⟨kl, rfl⟩
        · simp [run_sliceBound w kh u cap _ (by omega) h2]
        · simp [run_sliceBound w kh u cap _ (by omega) h2, run_sliceBound w kl l u.toNat _ h0 (by omega)]
    · rcases hhi with ⟨rfl, rfl, hm⟩ | ⟨kh, rfl⟩
      · cases hm
      · rcases hlo with ⟨rfl, rfl⟩ | ⟨kl, rfl⟩
        · simp [run_sliceBound w km m cap _ (by omega) h3, run_sliceBound w kh u m.toNat _ (by omega) (by omega)]
        · simp [run_sliceBound w km m cap _ (by omega) h3, run_sliceBound w kh u m.toNat _ (by omega) (by omega), run_sliceBound w kl l u.toNat _ h0 (by omega)]
  unfold Instr.slice
  simp only [Sem.run_bind, run_underlying hu, Result.andThen_ok, hb, run_sizeOf hi', Sem.run_pure]

end Go.Proofs.YtckglkbbdbmdkaaDoor.Nx

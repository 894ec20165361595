/- From a function's walk to its contract. -/
import Derived.Test.YtckglkbbdbmdkaaDoorNxCode
namespace Go.Proofs.YtckglkbbdbmdkaaDoor.Nx
set_option linter.unusedSimpArgs false
set_option linter.unusedVariables false
set_option linter.unnecessarySimpa false
open Go

variable {P : Program} {w w' : World} {M : Nat → Prop} {ρ ρ' : Phys} {h h' : Heap} {N n0 : Nat}

/-! ### Own blocks become data that nobody writes any more -/
inductive FrzD (k : Nat) (h : Heap) : A → D → Prop
  | d (x : D) : FrzD k h (.d x) x
  | nil (e : Elt) : FrzD k h .nil (.sl e [])
  | nn (e : Elt) (rows : List (List D)) : FrzD k h (.nn e rows) (.sl e rows)
  | ref {id off len : Nat} {full : Bool} {e : Elt} {rows : List (List A)} {rowsD : List (List D)} (hk : k ≤ id) (hh : h[id]? = some (.cells e rows)) (hl : rowsD.length = len)
      (hr : ∀ i r, rowsD[i]? = some r → (rows.getD (off + i) []).length = r.length)
      (hc : ∀ i r j d, rowsD[i]? = some r → r[j]? = some d → FrzD k h ((rows.getD (off + i) []).getD j .any) d) : FrzD k h (.ref id rows.length off len full) (.sl e rowsD)

inductive FrzA (k : Nat) (h : Heap) : A → A → Prop
  | same {x : A} (hu : x.under k = true) : FrzA k h x x
  | any {x : A} : FrzA k h x .any
  | d {x : A} {y : D} (hx : FrzD k h x y) : FrzA k h x (.d y)
  | agg {l l' : List A} (hl : l'.length = l.length) (hr : ∀ j y, l'[j]? = some y → FrzA k h (l.getD j .any) y) : FrzA k h (.agg l) (.agg l')
  | tup {l l' : List A} (hl : l'.length = l.length) (hr : ∀ j y, l'[j]? = some y → FrzA k h (l.getD j .any) y) : FrzA k h (.tup l) (.tup l')
  | fn {f : FuncId} {l l' : List A} (hl : l'.length = l.length) (hr : ∀ j y, l'[j]? = some y → FrzA k h (l.getD j .any) y) : FrzA k h (.fn f l) (.fn f l')
  | iptr {id i off : Nat} {e : Elt} {rows : List (List A)} {r : List A} {cs : List D} (hk : k ≤ id) (hh : h[id]? = some (.cells e rows)) (hi : rows[i]? = some r)
      (hc : ∀ j d, cs[j]? = some d → off + j < r.length ∧ FrzD k h (r.getD (off + j) .any) d) : FrzA k h (.ptr id rows.length i off) (.iptr cs)

theorem own_take {k b : Nat} (ho : ¬ Own M ρ b) : ¬ Own M (ρ.take k) b := by
  rintro (hm | ⟨id, p, hp⟩)
  · exact ho (.inl hm)
  · rw [List.getElem?_take] at hp
    split at hp
    · exact ho (.inr ⟨id, p, hp⟩)
    · cases hp

theorem RepD.take {k : Nat} {x : D} {v : Value} (hx : RepD w (Own M ρ) x v) : RepD w (Own M (ρ.take k)) x v :=
  hx.move fun _ _ hn hc => ⟨hc, own_take hn⟩

theorem listD_some {α : Type} {l : List α} {j : Nat} (x : α) (hj : j < l.length) : l[j]? = some (l.getD j x) := by
  rw [List.getD_eq_getElem?_getD, List.getElem?_eq_getElem hj]; rfl

theorem FrzD.rep (S : SimH w M ρ h) {k : Nat} {x : A} {d : D} (hf : FrzD k h x d) : ∀ {v : Value}, RepA w M ρ h x v → RepD w (Own M (ρ.take k)) d v := by
  induction hf with
  | d x => intro v hr; cases hr with
    | d hx => exact hx.take
  | nil e => intro v hr; cases hr with
    | nil => exact .nil (Nat.zero_le _) (fun _ => rfl)
  | nn e rows => intro v hr; cases hr with
    | nn hx => exact hx.take
  | @ref id off len full e rows rowsD hk hh hl hr hc ih =>
    intro v hv
    obtain ⟨_, q2, q3, q4, q5⟩ := S.cells id e rows hh
    subst hl
    generalize hN : rows.length = n at hv
    generalize hL : rowsD.length = m at hv
    cases hv with
    | stale hh' hlt _ => rw [hh] at hh'; cases hh'; omega
    | ref0 hh' _ =>
      have : rowsD = [] := List.eq_nil_of_length_eq_zero hL
      subst this
      exact .nil (Nat.zero_le _) (fun _ => rfl)
    | @ref _ _ _ o cap _ e' rows' b p hh' hp hlen hcap hm ho hphys hfull =>
      rw [hh] at hh'
      injection hh' with hh'
      injection hh' with e1 e2
      subst e1 e2
      cases hD : rowsD with
      | nil => rw [hD] at hL; subst hL; exact .nil hm (fun h => by cases h)
      | cons r0 rest =>
        rw [← hD]
        have hpos : 0 < rowsD.length := by rw [hD]; simp
        have ho' : o = off * e.sz := by
          rcases ho with h0 | h0
          · omega
          · exact h0
        subst ho'
        have hown : ¬ Own M (ρ.take k) b := by
          rintro (hm' | ⟨i, p', hp'⟩)
          · exact S.notM hp hm'
          · rw [List.getElem?_take] at hp'
            split at hp'
            · have := S.inj i id b p' p hp' hp; omega
            · cases hp'
        have key : ∀ i r j d, rowsD[i]? = some r → r[j]? = some d → ∃ u, w.cell? (⟨b, off * e.sz + (i * e.sz + j), none⟩ : Addr) = some u ∧ RepD w (Own M (ρ.take k)) d u := by
          intro i r j d hi hj
          have hilt : i < rowsD.length := (List.getElem?_eq_some_iff.1 hi).1
          have hrow : rows[off + i]? = some (rows.getD (off + i) []) := by
            have hlt : off + i < rows.length := by omega
            simp [List.getD_eq_getElem?_getD, List.getElem?_eq_getElem hlt]
          have hjlt : j < (rows.getD (off + i) []).length := by rw [hr i r hi]; exact (List.getElem?_eq_some_iff.1 hj).1
          have hcells := own_cells S hh hp hrow 0
          have hget : ((rows.getD (off + i) []).drop 0)[j]? = some ((rows.getD (off + i) []).getD j .any) := by
            rw [List.drop_zero]; exact listD_some _ hjlt
          obtain ⟨u, h1, _, h3⟩ := hcells j _ hget
          rw [add_off] at h1
          refine ⟨u, ?_, ih i r j d hi hj h3⟩
          have : off * e.sz + (i * e.sz + j) = (off + i) * e.sz + 0 + j := by rw [Nat.add_mul]; omega
          rw [this]
          exact h1
        have hex : ∀ i j, ∃ u, ∀ r d, rowsD[i]? = some r → r[j]? = some d → w.cell? (⟨b, off * e.sz + (i * e.sz + j), none⟩ : Addr) = some u ∧ RepD w (Own M (ρ.take k)) d u := by
          intro i j
          cases hi : rowsD[i]? with
          | none => exact ⟨undef, fun r d hr' => by cases hr'⟩
          | some r =>
            cases hj : r[j]? with
            | none => exact ⟨undef, fun r' d hr' hd => by cases hr'; rw [hj] at hd; cases hd⟩
            | some d =>
              obtain ⟨u, h1, h2⟩ := key i r j d hi hj
              exact ⟨u, fun r' d' hr' hd => by cases hr'; rw [hj] at hd; cases hd; exact ⟨h1, h2⟩⟩
        rw [← hL]
        refine .sl (fun i j => Classical.choose (hex i j)) (by omega) hm ?_ (fun r hr' => ?_) (fun i r j d hi hj => ?_) (fun i r j d hi hj => ?_)
        · refine Nat.le_trans (Nat.mul_le_mul_right _ ?_) q2
          omega
        · obtain ⟨i, hi⟩ := List.mem_iff_getElem?.1 hr'
          have hilt : i < rowsD.length := (List.getElem?_eq_some_iff.1 hi).1
          rw [← hr i r hi]
          have hlt : off + i < rows.length := by omega
          refine q4 _ ?_
          simp [List.getD_eq_getElem?_getD, List.getElem?_eq_getElem hlt]
        · have := Classical.choose_spec (hex i j) r d hi hj
          rw [add_off]
          exact ⟨this.1, hown⟩
        · exact (Classical.choose_spec (hex i j) r d hi hj).2

theorem FrzA.rep (S : SimH w M ρ h) {k : Nat} (hk : k ≤ h.length) {x y : A} (hf : FrzA k h x y) : ∀ {v : Value}, RepA w M ρ h x v → RepA w M (ρ.take k) (h.take k) y v := by
  induction hf with
  | same hu => intro v hr; exact (Evo.take (n0 := k) (Nat.le_refl _) hk).rep hr hu
  | any => intro v hr; exact .any
  | d hx => intro v hr; exact .d (hx.rep S hr)
  | @agg l l' hl _ ih =>
    intro v hr
    cases hr with
    | agg hs ho hr =>
      refine .agg (by omega) ho fun j y hj => ih j y hj ?_
      have hlt : j < l.length := by rw [← hl]; exact (List.getElem?_eq_some_iff.1 hj).1
      rw [List.getD_eq_getElem?_getD, List.getElem?_eq_getElem hlt]
      exact hr j _ (List.getElem?_eq_getElem hlt)
  | @tup l l' hl _ ih =>
    intro v hr
    cases hr with
    | tup hs hr =>
      refine .tup (by omega) fun j y hj => ih j y hj ?_
      have hlt : j < l.length := by rw [← hl]; exact (List.getElem?_eq_some_iff.1 hj).1
      rw [List.getD_eq_getElem?_getD, List.getElem?_eq_getElem hlt]
      exact hr j _ (List.getElem?_eq_getElem hlt)
  | @fn f l l' hl _ ih =>
    intro v hr
    cases hr with
    | fn hs hr =>
      refine .fn (by omega) fun j y hj => ih j y hj ?_
      have hlt : j < l.length := by rw [← hl]; exact (List.getElem?_eq_some_iff.1 hj).1
      rw [List.getD_eq_getElem?_getD, List.getElem?_eq_getElem hlt]
      exact hr j _ (List.getElem?_eq_getElem hlt)
  | @iptr id i off e rows r cs hkid hh hi hc =>
    intro v hr
    obtain ⟨b, p, hp, rfl⟩ := ptr_inv hr hh rfl
    have hown : ¬ Own M (ρ.take k) b := by
      rintro (hm' | ⟨i', p', hp'⟩)
      · exact S.notM hp hm'
      · rw [List.getElem?_take] at hp'
        split at hp'
        · have := S.inj i' id b p' p hp' hp; omega
        · cases hp'
    have hcells := own_cells S hh hp hi off
    have hex : ∀ j, ∃ u, ∀ d, cs[j]? = some d → w.cell? ((⟨b, i * e.sz + off, none⟩ : Addr).add j) = some u ∧ RepD w (Own M (ρ.take k)) d u := by
      intro j
      cases hj : cs[j]? with
      | none => exact ⟨undef, fun d hd => by cases hd⟩
      | some d =>
        obtain ⟨h1, h2⟩ := hc j d hj
        have hget : (r.drop off)[j]? = some (r.getD (off + j) .any) := by rw [List.getElem?_drop]; exact listD_some _ h1
        obtain ⟨u, k1, _, k3⟩ := hcells j _ hget
        exact ⟨u, fun d' hd => by cases hd; exact ⟨k1, h2.rep S k3⟩⟩
    refine .iptr (fun j => Classical.choose (hex j)) (fun j d hj => ⟨(Classical.choose_spec (hex j) d hj).1, hown⟩) (fun j d hj => (Classical.choose_spec (hex j) d hj).2)

/-! ### Results -/
inductive XR where
  | t (n : Nat)
  | c (p n : Nat) (agg : Bool)

def compR (P : Program) : ResultVar → Option XR
  | .tmp t => if t < tabBase then some (.t t) else none
  | .cell p ty => match P.info? ty with
    | some i => if known P ty && decide (p < tabBase) then some (.c p i.size (aggB P ty)) else none
    | none => none

def readR (s : St) : XR → (A → Prop) → Prop
  | .t n, K => K (s.slots n)
  | .c p n g, K => match s.slots p with
    | .ptr id N i off => match s.heap[id]? with
      | some (.cells _ rows) => N = rows.length ∧ match rows[i]? with
        | some r => loadsTo n g (r.drop off) K
        | none => False
      | _ => False
    | _ => False

def readRs (s : St) : List XR → (List A → Prop) → Prop
  | [], K => K []
  | x :: l, K => readR s x fun a => readRs s l fun as => K (a :: as)

def single : List A → A
  | [x] => x
  | l => .tup l

abbrev runR (P : Program) (tmps : Array Value) : ResultVar → Sem Value
  | .tmp t => pure (tmps.getD t undef)
  | .cell a t => do loadVar t (← asAddr (tmps.getD a undef))

theorem readR_run {z : Still} {s : St} {a : Act} (S : Sim z w M ρ s a) {x : ResultVar} {y : XR} (hc : compR P x = some y) {K : A → Prop} (hK : readR s y K) : ∃ r v, K r ∧ (runR P a.tmps x).run P w = .ok v w ∧ RepA w M ρ s.heap r v := by
  cases x with
  | tmp t =>
    simp only [compR] at hc
    split at hc
    · rename_i hlt
      injection hc with hc
      subst hc
      have := S.slots t
      rw [valAt, if_pos hlt] at this
      exact ⟨_, _, hK, rfl, this⟩
    · cases hc
  | cell p ty =>
    simp only [compR] at hc
    split at hc
    · rename_i i hi
      split at hc
      · rename_i hkn
        injection hc with hc
        subst hc
        simp only [Bool.and_eq_true, decide_eq_true_eq] at hkn
        obtain ⟨hkn, hplt⟩ := hkn
        simp only [readR] at hK
        have hp := S.slots p
        rw [valAt, if_pos hplt] at hp
        generalize s.slots p = X at hK hp
        cases X with
        | ptr id N i' off =>
          dsimp only at hK
          split at hK
          · rename_i e rows hid
            obtain ⟨hN, hK⟩ := hK
            split at hK
            · rename_i r hrow
              obtain ⟨b, q, hρ, hv⟩ := ptr_inv hp hid hN
              obtain ⟨r', v, k1, k2, k3⟩ := run_loadVar (P := P) hkn hi (own_cells S.sim hid hρ hrow off) hK
              refine ⟨r', v, k1, ?_, k3⟩
              simp only [runR]
              rw [hv]
              simpa [asAddr] using k2
            · exact hK.elim
          · exact hK.elim
        | _ => exact hK.elim
      · cases hc
    · cases hc

theorem readRs_run {z : Still} {s : St} {a : Act} (S : Sim z w M ρ s a) : ∀ {xs : List ResultVar} {ys : List XR}, xs.mapM (compR P) = some ys → ∀ {K : List A → Prop}, readRs s ys K →
    ∃ rs vs, K rs ∧ (xs.mapM (runR P a.tmps)).run P w = .ok vs w ∧ rs.length = vs.length ∧ ∀ j r, rs[j]? = some r → RepA w M ρ s.heap r (vs.getD j undef) := by
  intro xs
  induction xs with
  | nil =>
    intro ys hm K hK
    simp at hm
    subst hm
    exact ⟨[], [], hK, by simp, rfl, fun j r hj => by simp at hj⟩
  | cons x xs ih =>
    intro ys hm K hK
    simp only [List.mapM_cons, Option.bind_eq_bind, Option.pure_def, Option.bind_eq_some_iff, Option.some.injEq] at hm
    obtain ⟨y, hy, ys', hys, rfl⟩ := hm
    obtain ⟨r, v, h1, h2, h3⟩ := readR_run S hy hK
    obtain ⟨rs, vs, k1, k2, k3, k4⟩ := ih hys h1
    refine ⟨r :: rs, v :: vs, k1, by simp [List.mapM_cons, Sem.run_bind, h2, k2], by simp [k3], fun j r' hj => ?_⟩
    cases j with
    | zero => simp at hj; subst hj; exact h3
    | succ j => simp at hj; simpa using k4 j r' hj

end Go.Proofs.YtckglkbbdbmdkaaDoor.Nx

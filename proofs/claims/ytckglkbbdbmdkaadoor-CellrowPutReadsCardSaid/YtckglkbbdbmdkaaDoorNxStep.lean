/- A region's operations, one after another; which may change places. -/
import Derived.Test.YtckglkbbdbmdkaaDoorNxDraw2
namespace Go.Proofs.YtckglkbbdbmdkaaDoor.Nx
set_option linter.unusedSimpArgs false
set_option linter.unusedVariables false
set_option linter.unnecessarySimpa false
open Go

structure XOper where
  dst : Option Nat
  op : XOp
  guard : Option (Nat × Bool) := none
  pl : Option Nat := none

structure St where
  slots : Nat → A
  heap : Heap

abbrev undefA : A := .tup []

def upd (s : Nat → A) (d : Nat) (r : A) (n : Nat) : A := if n = d then r else s n

def put (d : Option Nat) (r : A) (s : Nat → A) : Nat → A :=
  match d with
  | some d => upd s d r
  | none => s

/-- The operation, or, where its guard says no, none. -/
def XOper.live (o : XOper) (sl : Nat → A) : Option XOp :=
  match o.guard with
  | none => some o.op
  | some (g, b) => match sl g with
    | .d (.sc (.bool c)) => if c = b then some o.op else some (.mov (.k undefA))
    | .tup [] => some (.mov (.k undefA))
    | _ => none

def stepX (F : Fns) (base : Nat) (o : XOper) (s : St) (K : St → Prop) : Prop :=
  match o.live s.slots with
  | some op => exec F (o.pl.map (base + ·)) op (ev s.slots) s.heap fun r h => K ⟨put o.dst r s.slots, h⟩
  | none => False

def runX (F : Fns) (base : Nat) : List XOper → St → (St → Prop) → Prop
  | [], s, K => K s
  | o :: os, s, K => stepX F base o s fun s' => runX F base os s' K

def XOp.heapFree (op : XOp) : Bool := op.hx.isEmpty && !op.pushes && !op.isCalle

/-- A call that leaves the own heap's blocks; an operation that changes nothing. -/
def XOp.isR : XOp → Bool
  | .callr _ _ => true
  | _ => false
def XOp.still (op : XOp) : Bool := !op.writes && !op.pushes && !op.isCalle

/-- 'sep': what the two look into is known to be different blocks. -/
def classOk (sep : Bool) (p q : XOp) : Bool :=
  p.heapFree || q.heapFree || (p.isR && q.still) || (p.still && q.isR) || (!p.isCalle && !q.isCalle && (!p.writes || q.hx.isEmpty || (sep && !q.pushes)) && (!q.writes || p.hx.isEmpty || (sep && !p.pushes)))

theorem hx_writes {op : XOp} (h : op.hx = []) : op.writes = false := by
  cases op <;> first | rfl | simp [XOp.hx] at h

theorem exec_eff {F : Fns} {pl : Option Nat} {op : XOp} {ev : XO → A} {h : Heap} {K : A → Heap → Prop} (hK : exec F pl op ev h K) : ∃ r h', K r h' ∧ OneSet op pl ev h h h' h' ∧ exec F pl op ev h (fun a b => a = r ∧ b = h') := by
  have := exec_agree (h1 := h) (K' := fun a b => K a b ∧ OneSet op pl ev h h b b) (fun _ => rfl) (fun _ _ _ _ => rfl) (fun _ => ⟨fun _ _ => rfl, fun _ => rfl⟩) (fun r h' h1' o hr => by have e := o.same; subst e; exact ⟨hr, o⟩) hK
  obtain ⟨r, h', a, b⟩ := exec_wit this
  exact ⟨r, h', a.1, a.2, b⟩

theorem exec_free {F : Fns} {pl : Option Nat} {op : XOp} {ev : XO → A} {h h1 : Heap} {K K' : A → Heap → Prop} (hf : op.heapFree = true) (hk : ∀ r, K r h → K' r h1) (hK : exec F pl op ev h K) : exec F pl op ev h1 K' := by
  simp only [XOp.heapFree, Bool.and_eq_true, List.isEmpty_iff, Bool.not_eq_true'] at hf
  obtain ⟨⟨h1, h2⟩, h3⟩ := hf
  refine exec_agree (fun hc => by rw [h3] at hc; cases hc) (fun x hx => by rw [h1] at hx; cases hx) (fun hp => by rw [h2] at hp; cases hp) (fun r h' h1' o hr => ?_) hK
  rcases o with ⟨rfl, rfl⟩ | ⟨id, X, hid, _⟩ | ⟨hp, _⟩ | ⟨hc, _⟩
  · exact hk _ hr
  · rcases hid with ⟨hw, _⟩ | ⟨hp, _⟩
    · rw [hx_writes h1] at hw; cases hw
    · rw [h2] at hp; cases hp
  · rw [h2] at hp; cases hp
  · rw [h3] at hc; cases hc

theorem exec_still {F : Fns} {pl : Option Nat} {op : XOp} {ev : XO → A} {h h1 : Heap} {K K' : A → Heap → Prop} (hf : op.still = true) (hx : ∀ x ∈ op.hx, ∀ id, (ev x).touch = some id → h1[id]? = h[id]?) (hk : ∀ r, K r h → K' r h1) (hK : exec F pl op ev h K) : exec F pl op ev h1 K' := by
  simp only [XOp.still, Bool.and_eq_true, Bool.not_eq_true'] at hf
  obtain ⟨⟨h0, h2⟩, h3⟩ := hf
  refine exec_agree (fun hc => by rw [h3] at hc; cases hc) hx (fun hp => by rw [h2] at hp; cases hp) (fun r h' h1' o hr => ?_) hK
  rcases o with ⟨rfl, rfl⟩ | ⟨id, X, hid, _⟩ | ⟨hp, _⟩ | ⟨hc, _⟩
  · exact hk _ hr
  · rcases hid with ⟨hw, _⟩ | ⟨hp, _⟩
    · rw [h0] at hw; cases hw
    · rw [h2] at hp; cases hp
  · rw [h2] at hp; cases hp
  · rw [h3] at hc; cases hc

theorem exec_isR {F : Fns} {pl : Option Nat} {op : XOp} {ev : XO → A} {h : Heap} {K : A → Heap → Prop} (hf : op.isR = true) (hK : exec F pl op ev h K) : ∃ r t, K r (h ++ t) ∧ exec F pl op ev h fun a b => a = r ∧ b = h ++ t := by
  cases op <;> first | (cases hf; done) | skip
  simp only [exec] at hK ⊢
  split at hK
  · obtain ⟨r, t, hr, hk⟩ := hK
    exact ⟨r, t, hk, r, t, hr, rfl, rfl⟩
  · exact hK.elim

/-- An operation that looks nowhere and makes a block makes it at its place. -/
theorem exec_pl {F : Fns} {b : Nat} {op : XOp} {ev : XO → A} {h : Heap} {K : A → Heap → Prop} (hp : op.pushes = true) (hx : op.hx = []) (hK : exec F (some b) op ev h K) : h[b]? = some .res := by
  have place1 : ∀ {B : HB} {K : Nat → Heap → Prop}, place (some b) h B K → h[b]? = some .res := fun hk => hk.1
  have rows1 : ∀ {n : Nat} (l : List (Nat × A)) (rows : List (List A)) {K : List (List A) → Prop}, rowsTo n rows l K → ∃ rows', K rows' := fun l rows K hk => let ⟨r, a, _⟩ := rowsTo_wit l rows hk; ⟨r, a⟩
  cases op <;> first | (cases hp; done) | skip
  · simp only [exec] at hK; exact place1 hK
  · simp only [exec] at hK; exact place1 hK.2.2
  · simp only [exec] at hK; obtain ⟨_, hK⟩ := rows1 _ _ hK; exact place1 hK
  · simp [XOp.hx] at hx
  · simp only [exec] at hK
    split at hK
    · exact place1 hK.2.2.2.2
    · exact hK.elim
  · simp only [exec] at hK
    split at hK
    · exact place1 hK
    · exact hK.elim

theorem ev_put {d : Option Nat} {r : A} {l : Nat → A} {x : XO} (h : ∀ n, d = some n → n ∉ x.slots) : ev (put d r l) x = ev l x := by
  cases d with
  | none => rfl
  | some d =>
    cases x with
    | t n =>
      have : d ≠ n := fun e => h d rfl (by simp [XO.slots, e])
      simp [ev, put, upd, Ne.symm this]
    | k _ => rfl
    | f _ => rfl

theorem exec_put {F : Fns} {pl : Option Nat} {op : XOp} {d : Option Nat} {r : A} {l : Nat → A} {h : Heap} {K : A → Heap → Prop} (hd : ∀ n, d = some n → n ∉ op.slots) : exec F pl op (ev (put d r l)) h K = exec F pl op (ev l) h K :=
  exec_ev fun x hx => ev_put fun n hn hc => hd n hn (hx n hc)

theorem put_comm {d e : Option Nat} {r t : A} {l : Nat → A} (h : ∀ n, d = some n → e ≠ some n) : put d r (put e t l) = put e t (put d r l) := by
  cases d with
  | none => rfl
  | some d => cases e with
    | none => rfl
    | some e =>
      have : d ≠ e := fun hh => h d rfl (by rw [hh])
      funext n
      simp only [put, upd]
      by_cases h1 : n = d
      · subst h1; simp [this]
      · simp [h1]

theorem exec_swap {F : Fns} {plp plq : Option Nat} {p q : XOp} {sl : Nat → A} {h : Heap} {dp dq : Option Nat} {K : St → Prop} {sep : Bool} (hc : classOk sep p q = true) (hs : sep = true → (∀ x ∈ p.tg, ∀ y ∈ q.hx, ∀ id, (ev sl x).touch = some id → (ev sl y).touch ≠ some id) ∧ (∀ x ∈ p.hx, ∀ y ∈ q.tg, ∀ id, (ev sl x).touch = some id → (ev sl y).touch ≠ some id))
    (h1 : ∀ n, dq = some n → n ∉ p.slots) (h2 : ∀ n, dp = some n → n ∉ q.slots) (h3 : ∀ n, dp = some n → dq ≠ some n)
    (hpp : p.pushes = true → plp.isSome = true) (hpq : q.pushes = true → plq.isSome = true) (hne : p.pushes = true → q.pushes = true → plp ≠ plq)
    (T : ∀ x ∈ q.hx, ∀ id, (ev sl x).touch = some id → ∃ B, h[id]? = some B ∧ B ≠ .res)
    (H : exec F plp p (ev sl) h fun r1 ha => exec F plq q (ev (put dp r1 sl)) ha fun r2 hb => K ⟨put dq r2 (put dp r1 sl), hb⟩) :
    exec F plq q (ev sl) h fun r2 hb => exec F plp p (ev (put dq r2 sl)) hb fun r1 hc => K ⟨put dp r1 (put dq r2 sl), hc⟩ := by
  obtain ⟨r1, ha, H1, op, Hp⟩ := exec_eff H
  rw [exec_put h2] at H1
  obtain ⟨r2, hb, HK, oq, Hq⟩ := exec_eff H1
  rw [← put_comm h3] at HK
  have hcase : p.heapFree = true ∨ q.heapFree = true ∨ (p.isR = true ∧ q.still = true) ∨ (p.still = true ∧ q.isR = true) ∨ (p.isCalle = false ∧ q.isCalle = false ∧ (p.writes = true → q.hx = [] ∨ (sep = true ∧ q.pushes = false)) ∧ (q.writes = true → p.hx = [] ∨ (sep = true ∧ p.pushes = false))) := by
    simp only [classOk, Bool.or_eq_true, Bool.and_eq_true, Bool.not_eq_true', List.isEmpty_iff] at hc
    rcases hc with (((hc | hc) | hc) | hc) | ⟨⟨⟨a, b⟩, c⟩, d⟩
    · exact .inl hc
    · exact .inr (.inl hc)
    · exact .inr (.inr (.inl hc))
    · exact .inr (.inr (.inr (.inl hc)))
    · refine .inr (.inr (.inr (.inr ⟨a, b, fun hw => ?_, fun hw => ?_⟩)))
      · rcases c with (c | c) | c
        · rw [hw] at c; cases c
        · exact .inl c
        · exact .inr c
      · rcases d with (c | c) | c
        · rw [hw] at c; cases c
        · exact .inl c
        · exact .inr c
  rcases hcase with hf | hf | ⟨hf, hg⟩ | ⟨hf, hg⟩ | ⟨cp, cq, wp, wq⟩
  · have hh : ha = h := by
      have := exec_free (K' := fun _ b => h = b) (h1 := h) hf (fun r hr => rfl) Hp
      obtain ⟨_, b, e, _, Hx⟩ := exec_eff Hp
      have := exec_free (K' := fun _ _ => ha = h) (h1 := h) hf (fun r hr => hr.2.symm) Hp
      obtain ⟨_, _, e, _⟩ := exec_eff this
      exact e
    subst hh
    refine exec_mono (fun a b hab => ?_) Hq
    obtain ⟨rfl, rfl⟩ := hab
    rw [exec_put h1]
    exact exec_free hf (fun r hr => by obtain ⟨rfl, _⟩ := hr; exact HK) Hp
  · have hh : hb = ha := by
      have := exec_free (K' := fun _ _ => hb = ha) (h1 := h) hf (fun r hr => hr.2.symm) Hq
      obtain ⟨_, _, e, _⟩ := exec_eff this
      exact e
    subst hh
    refine exec_free hf (fun r hr => ?_) Hq
    obtain ⟨rfl, _⟩ := hr
    rw [exec_put h1]
    exact exec_mono (fun a b hab => by obtain ⟨rfl, rfl⟩ := hab; exact HK) Hp
  · -- p is a call that leaves all blocks
    obtain ⟨r1', t, ⟨rfl, rfl⟩, Hp'⟩ := exec_isR hf Hp
    have hh : hb = h ++ t := by
      have := exec_still (K' := fun _ _ => hb = h ++ t) (h1 := h ++ t) hg (fun _ _ _ _ => rfl) (fun r hr => hr.2.symm) Hq
      obtain ⟨_, _, e, _⟩ := exec_eff this
      exact e
    subst hh
    refine exec_still hg (fun x hx id hid => ?_) (fun r hr => ?_) Hq
    · obtain ⟨B, hB, _⟩ := T x hx id hid
      rw [List.getElem?_append_left (List.getElem?_eq_some_iff.1 hB).1]
    · obtain ⟨rfl, _⟩ := hr
      rw [exec_put h1]
      exact exec_mono (fun a b hab => by obtain ⟨rfl, rfl⟩ := hab; exact HK) Hp
  · -- q is
    have hh : ha = h := by
      have := exec_still (K' := fun _ _ => ha = h) (h1 := h) hf (fun _ _ _ _ => rfl) (fun r hr => hr.2.symm) Hp
      obtain ⟨_, _, e, _⟩ := exec_eff this
      exact e
    subst hh
    obtain ⟨r2', t, ⟨rfl, rfl⟩, Hq'⟩ := exec_isR hg Hq
    refine exec_mono (fun a b hab => ?_) Hq
    obtain ⟨rfl, rfl⟩ := hab
    rw [exec_put h1]
    refine exec_still hf (fun x hx id hid => ?_) (fun r hr => ?_) Hp
    · obtain ⟨e0, rows, hcell⟩ := exec_hx Hp x hx id hid
      rw [List.getElem?_append_left (List.getElem?_eq_some_iff.1 hcell).1]
    · obtain ⟨rfl, _⟩ := hr
      exact HK
  · -- what p changed
    have effp : ∀ {ha' : Heap}, OneSet p plp (ev sl) h h ha' ha' → ha' = h ∨ ∃ id X, Hit p plp (ev sl) h id ∧ X ≠ HB.res ∧ ha' = h.set id X := by
      intro ha' o
      rcases o with ⟨a, _⟩ | ⟨id, X, a, b, c, _⟩ | ⟨a, b, _⟩ | ⟨a, _⟩
      · exact .inl a
      · exact .inr ⟨id, X, a, b, c⟩
      · have := hpp a; rw [b] at this; cases this
      · rw [cp] at a; cases a
    -- a block that p changed is none that q looks into, nor q's place
    have sepHx : ∀ idp, Hit p plp (ev sl) h idp → ∀ x ∈ q.hx, ∀ id, (ev sl x).touch = some id → idp ≠ id := by
      intro idp hit x hx id hid e
      subst e
      rcases hit with ⟨hw, x', hx', hid'⟩ | ⟨_, _, hr⟩
      · rcases wp hw with e | ⟨e, _⟩
        · rw [e] at hx; cases hx
        · exact (hs e).1 x' hx' x hx _ hid' hid
      · obtain ⟨B, hB, hn⟩ := T x hx _ hid
        rw [hr] at hB; cases hB; exact hn rfl
    have sepPl : ∀ idp, Hit p plp (ev sl) h idp → q.pushes = true → plq ≠ some idp := by
      intro idp hit hq e
      rcases hit with ⟨hw, x, hx, hid⟩ | ⟨hp, hpl, _⟩
      · have hnil : q.hx = [] := by
          rcases wp hw with e' | ⟨_, e'⟩
          · exact e'
          · rw [hq] at e'; cases e'
        have hr : ha[idp]? = some .res := exec_pl hq hnil (by rw [e] at Hq; exact Hq)
        obtain ⟨e0, rows, hcell⟩ := exec_hx Hp x (tg_hx hx) idp hid
        rcases effp op with rfl | ⟨id, X, _, hX, rfl⟩
        · rw [hr] at hcell; cases hcell
        · rw [List.getElem?_set] at hr
          split at hr
          · split at hr
            · exact hX (by injection hr)
            · cases hr
          · rw [hr] at hcell; cases hcell
      · exact hne hp hq (by rw [hpl, e])
    have agq : ∀ id, (∀ idp, Hit p plp (ev sl) h idp → idp ≠ id) → h[id]? = ha[id]? := by
      intro id hs
      rcases effp op with rfl | ⟨idp, X, hit, _, rfl⟩
      · rfl
      · rw [List.getElem?_set, if_neg (hs idp hit)]
    refine exec_agree (h := ha) (fun hc => by rw [cq] at hc; cases hc) (fun x hx id hid => agq id fun idp hit => sepHx idp hit x hx id hid)
      (fun hq => ⟨fun b hb => agq b fun idp hit e => sepPl idp hit hq (by rw [hb, e]), fun hn => by have := hpq hq; rw [hn] at this; cases this⟩) (fun a hb' h2' o hr => ?_) Hq
    obtain ⟨rfl, rfl⟩ := hr
    rw [exec_put h1]
    -- what q changed
    have effq : hb' = ha ∧ h2' = h ∨ ∃ id X, Hit q plq (ev sl) ha id ∧ X ≠ HB.res ∧ hb' = ha.set id X ∧ h2' = h.set id X := by
      rcases o with ⟨a, b⟩ | ⟨id, X, a, b, c, d⟩ | ⟨a, b, _⟩ | ⟨a, _⟩
      · exact .inl ⟨a, b⟩
      · exact .inr ⟨id, X, a, b, c, d⟩
      · have := hpq a; rw [b] at this; cases this
      · rw [cq] at a; cases a
    have sepHx' : ∀ idq, Hit q plq (ev sl) ha idq → ∀ x ∈ p.hx, ∀ id, (ev sl x).touch = some id → idq ≠ id := by
      intro idq hit x hx id hid e
      subst e
      rcases hit with ⟨hw, x', hx', hid'⟩ | ⟨_, _, hr⟩
      · rcases wq hw with e | ⟨e, _⟩
        · rw [e] at hx; cases hx
        · exact (hs e).2 x hx x' hx' _ hid hid'
      · obtain ⟨e0, rows, hcell⟩ := exec_hx Hp x hx _ hid
        rcases effp op with rfl | ⟨id, X, _, hX, rfl⟩
        · rw [hr] at hcell; cases hcell
        · rw [List.getElem?_set] at hr
          split at hr
          · split at hr
            · exact hX (by injection hr)
            · cases hr
          · rw [hr] at hcell; cases hcell
    have sepPl' : ∀ idq, Hit q plq (ev sl) ha idq → p.pushes = true → plp ≠ some idq := by
      intro idq hit hp e
      rcases hit with ⟨hw, x, hx, hid⟩ | ⟨hq, hpl, _⟩
      · have hnil : p.hx = [] := by
          rcases wq hw with e' | ⟨_, e'⟩
          · exact e'
          · rw [hp] at e'; cases e'
        obtain ⟨B, hB, hn⟩ := T x (tg_hx hx) _ hid
        rw [exec_pl hp hnil (by rw [e] at Hp; exact Hp)] at hB; cases hB; exact hn rfl
      · exact hne hp hq (by rw [e, hpl])
    have agp : ∀ id, (∀ idq, Hit q plq (ev sl) ha idq → idq ≠ id) → h2'[id]? = h[id]? := by
      intro id hs
      rcases effq with ⟨_, rfl⟩ | ⟨idq, X, hit, _, _, rfl⟩
      · rfl
      · rw [List.getElem?_set, if_neg (hs idq hit)]
    refine exec_agree (h := h) (fun hc => by rw [cp] at hc; cases hc) (fun x hx id hid => agp id fun idq hit => sepHx' idq hit x hx id hid)
      (fun hp => ⟨fun b hb => agp b fun idq hit e => sepPl' idq hit hp (by rw [hb, e]), fun hn => by have := hpp hp; rw [hn] at this; cases this⟩) (fun a ha' h3 o' hr => ?_) Hp
    obtain ⟨rfl, rfl⟩ := hr
    have effp' : ha' = h ∧ h3 = h2' ∨ ∃ id X, Hit p plp (ev sl) h id ∧ X ≠ HB.res ∧ ha' = h.set id X ∧ h3 = h2'.set id X := by
      rcases o' with ⟨a, b⟩ | ⟨id, X, a, b, c, d⟩ | ⟨a, b, _⟩ | ⟨a, _⟩
      · exact .inl ⟨a, b⟩
      · exact .inr ⟨id, X, a, b, c, d⟩
      · have := hpp a; rw [b] at this; cases this
      · rw [cp] at a; cases a
    have : h3 = hb' := by
      rcases effq with ⟨e1, e2⟩ | ⟨idq, Y, hitq, hY, e1, e2⟩
      · rcases effp' with ⟨e3, e4⟩ | ⟨idp, X, hitp, hX, e3, e4⟩
        · rw [e4, e2, e1, e3]
        · rw [e4, e2, e1, e3]
      · rcases effp' with ⟨e3, e4⟩ | ⟨idp, X, hitp, hX, e3, e4⟩
        · rw [e4, e2, e1, e3]
        · have hsep : idp ≠ idq := by
            intro e
            subst e
            rcases hitq with ⟨hw, x, hx, hid⟩ | ⟨hq, hpl, _⟩
            · exact sepHx _ hitp x (tg_hx hx) _ hid rfl
            · exact sepPl _ hitp hq hpl
          rw [e4, e2, e1, e3, List.set_comm _ _ hsep]
    rw [this]
    exact HK

end Go.Proofs.YtckglkbbdbmdkaaDoor.Nx

/- Which operations may change places: for regions whose order Go leaves open. -/
import Derived.Test.YtckglkbbdbmdkaaDoorNxExec
namespace Go.Proofs.YtckglkbbdbmdkaaDoor.Nx
set_option linter.unusedSimpArgs false
set_option linter.unusedVariables false
set_option linter.unnecessarySimpa false
open Go

def XO.slots : XO → List Nat
  | .t n => [n]
  | _ => []

def optSlots : Option XO → List Nat
  | some x => x.slots
  | none => []

/-- The slots that an operation reads. -/
def XOp.slots : XOp → List Nat
  | .mov x | .box _ x | .load _ _ x | .faddr _ x | .field _ _ _ x | .nilck x | .eqnil _ x | .un _ x | .conv _ x | .len _ x | .extract _ x | .cap x | .s2r _ x | .b2s x | .i2s x | .iter x | .next x => x.slots
  | .pick c a b => c.slots ++ a.slots ++ b.slots
  | .alloc _ _ => []
  | .build _ ps => ps.flatMap fun p => p.2.2.slots
  | .bslice _ _ _ ps => ps.flatMap fun p => p.2.slots
  | .store _ x y | .iaddr _ x y | .aaddr _ _ x y | .aidx _ _ _ x y | .sidx x y | .bin _ x y | .eqb _ x y | .eqs _ _ _ x y | .append _ x y | .copy _ x y | .make _ _ x y => x.slots ++ y.slots
  | .slice _ x lo hi mx => x.slots ++ optSlots lo ++ optSlots hi ++ optSlots mx
  | .sslice x lo hi => x.slots ++ optSlots lo ++ optSlots hi
  | .mkfn _ cs => cs.flatMap XO.slots
  | .call f as | .calle f as | .callr f as => f.slots ++ as.flatMap XO.slots
  | .minmax _ as => as.flatMap XO.slots

/-- The operands through which an operation looks into the own heap. -/
def XOp.hx : XOp → List XO
  | .load _ _ x | .faddr _ x | .nilck x | .eqnil _ x | .len _ x | .slice _ x _ _ _ | .store _ x _ | .iaddr _ x _ | .aaddr _ _ x _ | .b2s x => [x]
  | .append _ x y | .copy _ x y => [x, y]
  | _ => []

/-- The operand whose block an operation changes. -/
def XOp.tg : XOp → List XO
  | .store _ x _ | .append _ x _ | .copy _ x _ => [x]
  | _ => []

theorem tg_hx {op : XOp} {x : XO} (h : x ∈ op.tg) : x ∈ op.hx := by
  cases op <;> simp [XOp.tg] at h <;> simp [XOp.hx, h]

def XOp.pushes : XOp → Bool
  | .alloc _ _ | .box _ _ | .bslice _ _ _ _ | .make _ _ _ _ | .append _ _ _ | .iter _ => true
  | _ => false

def XOp.writes : XOp → Bool
  | .store _ _ _ | .append _ _ _ | .copy _ _ _ => true
  | _ => false

/-- What is never moved. -/
def XOp.isCalle : XOp → Bool
  | .calle _ _ | .callr _ _ | .next _ => true
  | _ => false

def A.touch : A → Option Nat
  | .ptr id _ _ _ | .ref id _ _ _ _ => some id
  | _ => none

/-- The block that an operation changes: one that it points to, or the one reserved for it. -/
def Hit (op : XOp) (pl : Option Nat) (ev : XO → A) (h : Heap) (id : Nat) : Prop :=
  (op.writes = true ∧ ∃ x ∈ op.tg, (ev x).touch = some id) ∨ (op.pushes = true ∧ pl = some id ∧ h[id]? = some .res)

/-- The heap behind a step: as it was, or one block set, or one more. -/
def OneSet (op : XOp) (pl : Option Nat) (ev : XO → A) (h h1 h' h1' : Heap) : Prop :=
  (h' = h ∧ h1' = h1) ∨ (∃ id X, Hit op pl ev h id ∧ X ≠ HB.res ∧ h' = h.set id X ∧ h1' = h1.set id X) ∨ (op.pushes = true ∧ pl = none ∧ ∃ X, h' = h ++ [X] ∧ h1' = h1 ++ [X]) ∨ (op.isCalle = true ∧ h' = h1')

theorem OneSet.same {op : XOp} {pl : Option Nat} {ev : XO → A} {h h' h1' : Heap} (o : OneSet op pl ev h h h' h1') : h' = h1' := by
  rcases o with ⟨a, b⟩ | ⟨id, X, _, _, a, b⟩ | ⟨_, _, X, a, b⟩ | ⟨_, a⟩ <;> simp [*]

theorem loadsTo_imp {n : Nat} {g : Bool} {l : List A} {K K' : A → Prop} (hk : ∀ a, K a → K' a) (h : loadsTo n g l K) : loadsTo n g l K' := loadsTo_mono hk h

theorem fillTo_imp : ∀ (l : List (Nat × Nat × A)) (cs : List A) {K K' : List A → Prop}, (∀ a, K a → K' a) → fillTo cs l K → fillTo cs l K'
  | [], cs, K, K', hk, h => hk _ h
  | (_, _, _) :: l, cs, K, K', hk, h => ⟨h.1, h.2.1, h.2.2.1, fillTo_imp l _ hk h.2.2.2⟩

theorem rowsTo_imp {n : Nat} : ∀ (l : List (Nat × A)) (rows : List (List A)) {K K' : List (List A) → Prop}, (∀ a, K a → K' a) → rowsTo n rows l K → rowsTo n rows l K'
  | [], rows, K, K', hk, h => hk _ h
  | (_, _) :: l, rows, K, K', hk, h => ⟨h.1, h.2.1, h.2.2.1, rowsTo_imp l _ hk h.2.2.2⟩

theorem srcRows_agree {e : Elt} {h h1 : Heap} {x : A} (hx : ∀ id, x.touch = some id → h1[id]? = h[id]?) : srcRows e h1 x = srcRows e h x := by
  cases x with
  | ref id N off len full => simp only [srcRows]; rw [hx _ rfl]
  | d x => cases x with
    | sc v => cases v <;> rfl
    | sl e' rows => rfl
  | _ => rfl

theorem sliceRows_agree {e : Elt} {h h1 : Heap} {x : A} (hx : ∀ id, x.touch = some id → h1[id]? = h[id]?) : sliceRows e h1 x = sliceRows e h x := by
  unfold sliceRows
  split
  · rfl
  · exact srcRows_agree hx

theorem place_agree {op : XOp} {ev : XO → A} {pl : Option Nat} {h h1 : Heap} {B : HB} {K K' : Nat → Heap → Prop} (hp : op.pushes = true) (hB : B ≠ .res) (hpl : op.pushes = true → (∀ b, pl = some b → h1[b]? = h[b]?) ∧ (pl = none → h1.length = h.length))
    (hk : ∀ b h' h1', OneSet op pl ev h h1 h' h1' → K b h' → K' b h1') (h0 : place pl h B K) : place pl h1 B K' := by
  cases pl with
  | none =>
    simp only [place] at h0 ⊢
    rw [(hpl hp).2 rfl]
    exact hk _ _ _ (.inr (.inr (.inl ⟨hp, rfl, _, rfl, rfl⟩))) h0
  | some b => exact ⟨by rw [(hpl hp).1 b rfl]; exact h0.1, hk b _ _ (.inr (.inl ⟨b, B, .inr ⟨hp, rfl, h0.1⟩, hB, rfl, rfl⟩)) h0.2⟩

/-- An operation sees no more of the own heap than the blocks that its operands point to. -/
theorem exec_agree {F : Fns} {pl : Option Nat} {op : XOp} {ev : XO → A} {h h1 : Heap} {K K' : A → Heap → Prop} (hcal : op.isCalle = true → h1 = h)
    (ht : ∀ x ∈ op.hx, ∀ id, (ev x).touch = some id → h1[id]? = h[id]?) (hpl : op.pushes = true → (∀ b, pl = some b → h1[b]? = h[b]?) ∧ (pl = none → h1.length = h.length))
    (hk : ∀ r h' h1', OneSet op pl ev h h1 h' h1' → K r h' → K' r h1') (hK : exec F pl op ev h K) :
    exec F pl op ev h1 K' := by
  have same : ∀ r, K r h → K' r h1 := fun r hr => hk r h h1 (.inl ⟨rfl, rfl⟩) hr
  cases op with
  | mov x => exact same _ hK
  | pick c a b =>
    simp only [exec] at hK ⊢
    split at hK
    · split at hK
      · rw [if_pos ‹_›]; exact same _ hK
      · rw [if_neg ‹_›]; exact same _ hK
    · exact hK
  | alloc e z =>
    simp only [exec] at hK ⊢
    exact place_agree rfl (by simp) hpl (fun b h' h1' o hK => hk _ _ _ o hK) hK
  | box e x =>
    simp only [exec] at hK ⊢
    exact ⟨hK.1, hK.2.1, place_agree rfl (by simp) hpl (fun b h' h1' o hK => hk _ _ _ o hK) hK.2.2⟩
  | build z ps => exact fillTo_imp _ _ (fun a ha => same _ ha) hK
  | bslice e z n ps =>
    simp only [exec] at hK ⊢
    exact rowsTo_imp _ _ (fun a ha => place_agree rfl (by simp) hpl (fun b h' h1' o hK => hk _ _ _ o hK) ha) hK
  | load n g x =>
    have htx := ht x (by simp [XOp.hx])
    simp only [exec] at hK ⊢
    generalize ev x = X at *
    cases X <;> try exact hK
    · exact loadsTo_imp (fun a ha => same _ ha) hK
    · rename_i id N i off
      dsimp only at hK ⊢
      rw [htx id rfl]
      split at hK
      · refine ⟨hK.1, ?_⟩
        have hK := hK.2
        split at hK
        · exact loadsTo_imp (fun a ha => same _ ha) hK
        · exact hK
      · exact hK
  | store n x y =>
    have htx := ht x (by simp [XOp.hx])
    have hids : ∀ id, (ev x).touch = some id → Hit (XOp.store n x y) pl ev h id := fun id hid => .inl ⟨rfl, x, by simp [XOp.tg], hid⟩
    simp only [exec] at hK ⊢
    generalize ev x = X at *
    cases X <;> try exact hK
    rename_i id N i off
    dsimp only at hK ⊢
    rw [htx id rfl]
    split at hK
    · refine ⟨hK.1, hK.2.1, hK.2.2.1, ?_⟩
      have hK := hK.2.2.2
      split at hK
      · exact ⟨hK.1, hk _ _ _ (.inr (.inl ⟨id, _, hids id rfl, by simp, rfl, rfl⟩)) hK.2⟩
      · exact hK
    · exact hK
  | faddr off x =>
    have htx := ht x (by simp [XOp.hx])
    simp only [exec] at hK ⊢
    generalize ev x = X at *
    cases X <;> try exact hK
    · exact same _ hK
    · rename_i id N i o
      dsimp only at hK ⊢
      rw [htx id rfl]
      split at hK
      · exact ⟨hK.1, same _ hK.2⟩
      · exact hK
  | field off n g x =>
    simp only [exec] at hK ⊢
    split at hK
    · exact loadsTo_imp (fun a ha => same _ ha) hK
    · exact hK
  | iaddr e x i =>
    have htx := ht x (by simp [XOp.hx])
    simp only [exec] at hK ⊢
    split at hK
    · exact ⟨hK.1, hK.2.1, hK.2.2.1, same _ hK.2.2.2⟩
    · exact ⟨hK.1, hK.2.1, hK.2.2.1, same _ hK.2.2.2⟩
    · rename_i heq _
      rw [htx _ (by rw [heq]; rfl)]
      split at hK
      · exact ⟨hK.1, hK.2.1, hK.2.2.1, hK.2.2.2.1, same _ hK.2.2.2.2⟩
      · exact hK
    · exact hK
  | aaddr e n x i =>
    have htx := ht x (by simp [XOp.hx])
    simp only [exec] at hK ⊢
    split at hK
    · rename_i heq _
      rw [htx _ (by rw [heq]; rfl)]
      split at hK
      · exact ⟨hK.1, hK.2.1, hK.2.2.1, same _ hK.2.2.2⟩
      · exact hK
    · exact ⟨hK.1, hK.2.1, same _ hK.2.2⟩
    · exact hK
  | aidx len n g x i =>
    simp only [exec] at hK ⊢
    split at hK
    · exact ⟨hK.1, hK.2.1, loadsTo_imp (fun a ha => same _ ha) hK.2.2⟩
    · exact hK
  | sidx x i =>
    simp only [exec] at hK ⊢
    split at hK
    · exact ⟨hK.1, hK.2.1, same _ hK.2.2⟩
    · exact hK
  | nilck x =>
    have htx := ht x (by simp [XOp.hx])
    simp only [exec] at hK ⊢
    split at hK
    · rename_i heq
      rw [htx _ (by rw [heq]; rfl)]
      split at hK
      · exact ⟨hK.1, same _ hK.2⟩
      · exact hK
    · exact same _ hK
    · exact same _ hK
    · exact hK
  | bin op x y =>
    simp only [exec] at hK ⊢
    split at hK
    · split at hK
      · exact same _ hK
      · exact hK
    · exact hK
  | eqb neg x y =>
    simp only [exec] at hK ⊢
    split at hK
    · exact same _ hK
    · exact hK
  | eqs neg n ks x y =>
    simp only [exec] at hK ⊢
    split at hK
    · refine ⟨hK.1, hK.2.1, ?_⟩
      have hK := hK.2.2
      split at hK
      · exact same _ hK
      · exact hK
    · exact hK
  | eqnil neg x =>
    have htx := ht x (by simp [XOp.hx])
    simp only [exec] at hK ⊢
    generalize ev x = X at *
    rcases X with _ | _ | (v | ⟨e, rows⟩) | ⟨e, rows⟩ | _ | _ | _ | _ | ⟨id, N, off, len, full⟩ | _ | _
    · exact hK
    · exact same _ hK
    · exact hK
    · exact ⟨hK.1, same _ hK.2⟩
    · exact same _ hK
    · exact hK
    · exact hK
    · exact hK
    · exact hK
    · dsimp only at hK ⊢
      rw [htx id rfl]
      split at hK
      · exact ⟨hK.1, hK.2.1, same _ hK.2.2⟩
      · exact hK
    · exact hK
    · exact hK
  | un op x =>
    simp only [exec] at hK ⊢
    split at hK
    · split at hK
      · exact same _ hK
      · exact hK
    · exact hK
  | conv k x =>
    simp only [exec] at hK ⊢
    split at hK
    · exact same _ hK
    · exact hK
  | len str x =>
    have htx := ht x (by simp [XOp.hx])
    simp only [exec] at hK ⊢
    split at hK
    · exact ⟨hK.1, same _ hK.2⟩
    · exact ⟨hK.1, same _ hK.2⟩
    · exact ⟨hK.1, same _ hK.2⟩
    · rename_i heq
      rw [htx _ (by rw [heq]; rfl)]
      split at hK
      · exact ⟨hK.1, hK.2.1, same _ hK.2.2⟩
      · exact hK
    · exact ⟨hK.1, same _ hK.2⟩
    · exact hK
  | slice e x lo hi mx =>
    have htx := ht x (by simp [XOp.hx])
    simp only [exec] at hK ⊢
    split at hK
    · exact ⟨hK.1, hK.2.1, hK.2.2.1, same _ hK.2.2.2⟩
    · split at hK
      · exact ⟨hK.1, hK.2.1, hK.2.2.1, hK.2.2.2.1, hK.2.2.2.2.1, same _ hK.2.2.2.2.2⟩
      · exact hK
    · split at hK
      · exact ⟨hK.1, hK.2.1, hK.2.2.1, hK.2.2.2.1, hK.2.2.2.2.1, same _ hK.2.2.2.2.2⟩
      · exact hK
    · rename_i heq
      rw [htx _ (by rw [heq]; rfl)]
      split at hK
      · split at hK
        · exact ⟨hK.1, hK.2.1, hK.2.2.1, hK.2.2.2.1, hK.2.2.2.2.1, hK.2.2.2.2.2.1, same _ hK.2.2.2.2.2.2⟩
        · exact hK
      · exact hK
    · exact hK
  | sslice x lo hi =>
    simp only [exec] at hK ⊢
    split at hK
    · split at hK
      · exact ⟨hK.1, hK.2.1, hK.2.2.1, same _ hK.2.2.2⟩
      · exact hK
    · exact hK
  | append e x y =>
    have htx := ht x (by simp [XOp.hx])
    have hty := ht y (by simp [XOp.hx])
    have hids : ∀ id, (ev x).touch = some id → Hit (XOp.append e x y) pl ev h id := fun id hid => .inl ⟨rfl, x, by simp [XOp.tg], hid⟩
    simp only [exec] at hK ⊢
    rw [srcRows_agree hty]
    split at hK
    · split at hK
      · split at hK
        · rw [if_pos ‹_›]; exact same _ hK
        · rw [if_neg ‹_›]
          exact ⟨hK.1, hK.2.1, place_agree rfl (by simp) hpl (fun b h' h1' o hK => hk _ _ _ o hK) hK.2.2⟩
      · rename_i heq
        have hid := hids _ (by rw [heq]; rfl)
        rw [htx _ (by rw [heq]; rfl)]
        split at hK
        · refine ⟨hK.1, hK.2.1, hK.2.2.1, hK.2.2.2.1, hK.2.2.2.2.1, ?_⟩
          have hK := hK.2.2.2.2.2
          split at hK
          · rw [if_pos ‹_›]; exact hk _ _ _ (.inr (.inl ⟨_, _, hid, by simp, rfl, rfl⟩)) hK
          · rw [if_neg ‹_›]; exact ⟨hK.1, hK.2.1, hk _ _ _ (.inr (.inl ⟨_, _, hid, by simp, rfl, rfl⟩)) hK.2.2⟩
        · exact hK
      · exact hK
    · exact hK
  | copy e x y =>
    have htx := ht x (by simp [XOp.hx])
    have hty := ht y (by simp [XOp.hx])
    have hids : ∀ id, (ev x).touch = some id → Hit (XOp.copy e x y) pl ev h id := fun id hid => .inl ⟨rfl, x, by simp [XOp.tg], hid⟩
    simp only [exec] at hK ⊢
    rw [srcRows_agree hty]
    split at hK
    · split at hK
      · rename_i heq
        have hid := hids _ (by rw [heq]; rfl)
        rw [htx _ (by rw [heq]; rfl)]
        split at hK
        · exact ⟨hK.1, hK.2.1, hk _ _ _ (.inr (.inl ⟨_, _, hid, by simp, rfl, rfl⟩)) hK.2.2⟩
        · exact hK
      · exact hK
    · exact hK
  | make e z n c =>
    simp only [exec] at hK ⊢
    split at hK
    · exact ⟨hK.1, hK.2.1, hK.2.2.1, hK.2.2.2.1, place_agree rfl (by simp) hpl (fun b h' h1' o hK => hk _ _ _ o hK) hK.2.2.2.2⟩
    · exact hK
  | extract i x =>
    simp only [exec] at hK ⊢
    split at hK
    · split at hK
      · exact same _ hK
      · exact hK
    · exact hK
  | mkfn f cs => exact same _ hK
  | call f as =>
    simp only [exec] at hK ⊢
    split at hK
    · obtain ⟨h0, r, hr, hk⟩ := hK
      exact ⟨h0, r, hr, same _ hk⟩
    · exact hK
  | calle f as =>
    have hh := hcal rfl
    subst hh
    have same' : ∀ r h', K r h' → K' r h' := fun r h' hr => hk r h' h' (.inr (.inr (.inr ⟨rfl, rfl⟩))) hr
    simp only [exec] at hK ⊢
    split at hK
    · obtain ⟨r, h', hr, hk⟩ := hK
      exact ⟨r, h', hr, same' _ _ hk⟩
    · obtain ⟨r, h', hr, hk⟩ := hK
      exact ⟨r, h', hr, same' _ _ hk⟩
    · exact hK
  | callr f as =>
    have hh := hcal rfl
    subst hh
    have same' : ∀ r h', K r h' → K' r h' := fun r h' hr => hk r h' h' (.inr (.inr (.inr ⟨rfl, rfl⟩))) hr
    simp only [exec] at hK ⊢
    split at hK
    · obtain ⟨r, h', hr, hk⟩ := hK
      exact ⟨r, h', hr, same' _ _ hk⟩
    · exact hK
  | minmax g as =>
    simp only [exec] at hK ⊢
    split at hK
    · split at hK
      · exact ⟨hK.1, same _ hK.2⟩
      · exact hK
    · split at hK
      · exact ⟨hK.1, hK.2.1, same _ hK.2.2⟩
      · exact hK
    · exact hK
  | cap x =>
    simp only [exec] at hK ⊢
    split at hK
    · exact same _ hK
    · exact hK
  | s2r e x =>
    simp only [exec] at hK ⊢
    split at hK
    · exact ⟨hK.1, same _ hK.2⟩
    · exact hK
  | b2s x =>
    have htx := ht x (by simp [XOp.hx])
    simp only [exec] at hK ⊢
    rw [sliceRows_agree htx]
    split at hK
    · split at hK
      · exact ⟨hK.1, same _ hK.2⟩
      · exact hK
    · exact hK
  | i2s x =>
    simp only [exec] at hK ⊢
    split at hK
    · exact same _ hK
    · exact hK
  | iter x =>
    simp only [exec] at hK ⊢
    split at hK
    · exact place_agree rfl (by simp) hpl (fun b h' h1' o hK => hk _ _ _ o hK) hK
    · exact hK
  | next x =>
    have hh := hcal rfl
    subst hh
    have same' : ∀ r h', K r h' → K' r h' := fun r h' hr => hk r h' h' (.inr (.inr (.inr ⟨rfl, rfl⟩))) hr
    simp only [exec] at hK ⊢
    split at hK
    · split at hK
      · refine ⟨hK.1, ?_⟩
        have hK := hK.2
        unfold nextStr at hK ⊢
        split at hK
        · rw [if_pos ‹_›]; exact same' _ _ hK
        · rw [if_neg ‹_›]; exact same' _ _ hK
      · exact hK
    · exact hK

end Go.Proofs.YtckglkbbdbmdkaaDoor.Nx

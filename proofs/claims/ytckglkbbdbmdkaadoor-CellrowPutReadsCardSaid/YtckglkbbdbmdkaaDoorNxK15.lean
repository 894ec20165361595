/- Layer 7: Text and Insert at closed arguments. -/
import Derived.Test.YtckglkbbdbmdkaaDoorNxK6
import Derived.Test.YtckglkbbdbmdkaaDoorNxT1
namespace Go.Proofs.YtckglkbbdbmdkaaDoor.Nx
set_option linter.unusedSimpArgs false
set_option linter.unusedVariables false
set_option linter.unnecessarySimpa false
open Go

/-- Insert at closed arguments. -/
def extIns (fI : FuncId) (f : FuncId) (args : List A) : Option A :=
  if f = fI then match args with
    | [.d x, .d (.sc (.int .i64 col)), .d (.sc (.int .i64 n)), .agg [.d (.sc (.int .i64 _)), .d (.sc (.int .i64 b)), .d (.sc (.int .i64 _))]] => match crOf [x] with
      | some l => if ∀ c ∈ l, c.text.size ≤ 1000 then some (ceE (insR l col n b)) else none
      | none => none
    | _ => none
  else none
theorem extIns_ok {Γ : Tabs} {P : Program} {fI : FuncId} (H : ShiftOk insR Γ P fI) : ∀ f args r, extIns fI f args = some r → FnP Γ P f args r := by
  intro f args r h
  unfold extIns at h
  split at h
  · rename_i hf; subst hf
    split at h
    · split at h
      · rename_i l hl
        split at h
        · rename_i hs
          cases h
          have := crOf_ok hl
          simp only [List.cons.injEq, and_true] at this
          rw [this]
          exact H l hs _ _ _ _ _
        · cases h
      · cases h
    · cases h
  · cases h
/-- Put at closed arguments. -/
def extPut (fP : FuncId) (f : FuncId) (args : List A) : Option A :=
  if f = fP then match args with
    | [.d x, .d (.sc (.int .i64 col)), .d (.sc (.string s)), .agg [.d (.sc (.int .i64 a)), .d (.sc (.int .i64 b)), .d (.sc (.int .i64 c))]] => match crOf [x] with
      | some l => if (∀ c ∈ l, c.text.size ≤ 1000) ∧ s.size ≤ 1000 then some (ceE (putR l col ⟨s, widC s, a, b, c⟩)) else none
      | none => none
    | _ => none
  else none
theorem extPut_ok {Γ : Tabs} {P : Program} {fP : FuncId} (H : PutOk Γ P fP) : ∀ f args r, extPut fP f args = some r → FnP Γ P f args r := by
  intro f args r h
  unfold extPut at h
  split at h
  · rename_i hf; subst hf
    split at h
    · split at h
      · rename_i l hl
        split at h
        · rename_i hs
          cases h
          have := crOf_ok hl
          simp only [List.cons.injEq, and_true] at this
          rw [this]
          exact H l hs.1 _ _ hs.2 _ _ _
        · cases h
      · cases h
    · cases h
  · cases h
def ext7 (fT fI fP : FuncId) (f : FuncId) (args : List A) : Option A := match extText fT f args with
  | some r => some r
  | none => match extIns fI f args with
    | some r => some r
    | none => extPut fP f args
theorem ext7_ok {Γ : Tabs} {P : Program} {fT fI fP : FuncId} (H : TextOk Γ P fT) (HI : ShiftOk insR Γ P fI) (HP : PutOk Γ P fP) : ∀ f args r, ext7 fT fI fP f args = some r → FnP Γ P f args r := by
  intro f args r h
  unfold ext7 at h
  split at h
  · rename_i r' hr; cases h; exact extText_ok H _ _ _ hr
  · split at h
    · rename_i r' hr; cases h; exact extIns_ok HI _ _ _ hr
    · exact extPut_ok HP _ _ _ h

end Go.Proofs.YtckglkbbdbmdkaaDoor.Nx

/- Reading rows of cells from data. -/
import Derived.Test.YtmagahmklndcgaaDoorNxB0
import Derived.Test.YtmagahmklndcgaaDoorNxEval
namespace Go.Proofs.YtmagahmklndcgaaDoor.Nx
set_option linter.unusedSimpArgs false
set_option linter.unusedVariables false
set_option linter.unnecessarySimpa false
open Go

def crOf : List D → Option (List Ce)
  | [.sl e rows] => if e = eCe then rows.mapM ceOf else none
  | _ => none
theorem crOf_ok {r : List D} {l : List Ce} (h : crOf r = some l) : r = [.sl eCe (ceRows l)] := by
  unfold crOf at h
  split at h
  · split at h
    · rename_i he; subst he; rw [ceOfs_ok h]
    · cases h
  · cases h
theorem crOfs_ok : ∀ {rows : List (List D)} {l : List (List Ce)}, rows.mapM crOf = some l → rows = crRows l
  | [], l, h => by simp at h; subst h; rfl
  | r :: rows, l, h => by
    simp only [List.mapM_cons, Option.bind_eq_bind, Option.pure_def, Option.bind_eq_some_iff, Option.some.injEq] at h
    obtain ⟨c, hc, l', hl, rfl⟩ := h
    rw [crOf_ok hc, crOfs_ok hl]; rfl

end Go.Proofs.YtmagahmklndcgaaDoor.Nx


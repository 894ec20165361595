/- Layer 15: what the evaluator is told of slices.Collect. -/
import Derived.Test.YtmagahmklndcgaaDoorNxP15e
import Derived.Test.YtmagahmklndcgaaDoorNxEval
namespace Go.Proofs.YtmagahmklndcgaaDoor.Nx
set_option linter.unusedSimpArgs false
set_option linter.unusedVariables false
set_option linter.unnecessarySimpa false
open Go

variable {P : Program} {N : Nat} {Γ : Tabs}

def ceOf : List D → Option Ce
  | [.sc (.string t), .sc (.int .i64 w), .sc (.int .i64 a), .sc (.int .i64 b), .sc (.int .i64 c)] => some ⟨t, w, a, b, c⟩
  | _ => none

theorem ceOf_ok {r : List D} {c : Ce} (h : ceOf r = some c) : r = c.row := by
  unfold ceOf at h
  split at h
  · cases h; rfl
  · cases h

theorem ceOfs_ok : ∀ {rows : List (List D)} {l : List Ce}, rows.mapM ceOf = some l → rows = ceRows l
  | [], l, h => by simp at h; subst h; rfl
  | r :: rows, l, h => by
    simp only [List.mapM_cons, Option.bind_eq_bind, Option.pure_def, Option.bind_eq_some_iff, Option.some.injEq] at h
    obtain ⟨c, hc, l', hl, rfl⟩ := h
    rw [ceOf_ok hc, ceOfs_ok hl]; rfl

def extCollect (fc fG : FuncId) (f : FuncId) (args : List A) : Option A :=
  if f = fc then match args with
    | [.fn g [.iptr [.sl e rows]]] => if g = fG ∧ e = eCe then match rows.mapM ceOf with
      | some l => if (glyphsOf l).length * 32 ≤ room then some (.d (.sl eGl (glRows (glyphsOf l)))) else none
      | none => none
      else none
    | _ => none
    else none

theorem extCollect_ok {fc fA fG fst : FuncId} {Nc NA NG Ns : Nat} (H : FnIs P fc Nc [.t 2] (x_slices_Collect_365 fA)) (hN : 1 ≤ Nc) (HA : FnIs P fA NA [.t 4] x_slices_AppendSeq_675) (hNA : 2 ≤ NA)
    (HG : FnIs P fG NG [] (x_view_glyphs_1 fst)) (hNG : 2 ≤ NG) (Hs : FnIs P fst Ns [.t 2] x_attr_Style) (hNs : 1 ≤ Ns) : ∀ f args r, extCollect fc fG f args = some r → FnP Γ P f args r := by
  intro f args r h
  unfold extCollect at h
  split at h
  · rename_i hf
    subst hf
    split at h
    · split at h
      · rename_i hc
        obtain ⟨rfl, rfl⟩ := hc
        split at h
        · rename_i l hl
          split at h
          · rename_i hroom
            cases h
            rw [ceOfs_ok hl]
            exact collect_fn H hN HA hNA _ (glyphs1_gen HG hNG Hs hNs l) rfl hroom
          · cases h
        · cases h
      · cases h
    · cases h
  · cases h

end Go.Proofs.YtmagahmklndcgaaDoor.Nx

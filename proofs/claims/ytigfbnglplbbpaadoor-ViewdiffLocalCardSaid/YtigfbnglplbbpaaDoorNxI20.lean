import Derived.Test.YtigfbnglplbbpaaDoorNxI10
set_option linter.unusedSimpArgs false
set_option linter.unusedVariables false
set_option linter.unnecessarySimpa false
namespace Go.Proofs.YtigfbnglplbbpaaDoor.Nx
open Go
variable {P:Program} {N:Nat} {Γ:Tabs}
theorem diff_len {a b:Vw} (sa:Sm a 140) (sb:Sm b 140):(diffV a b).length≤200001 * b.rows.length+3:=by
  unfold diffV
  split
  · rename_i hab
    obtain ⟨ha,hb⟩:=hab
    have hp:(pre20 a b).length≤1:=by unfold pre20;split<;>simp
    have sm:Sm (m20 a b) 140:=m20_sm sa
    have hm:=(m20_ok ha hb).1
    have hw:(way20 (m20 a b) b).length≤200001 * b.rows.length+2:=by
      generalize m20 a b=m at *
      have h0:=rest_len (sm.mono (show 140≤50000 by omega)) (sb.mono (show 140≤50000 by omega))
      unfold way20
      split
      · rename_i h
        have hk:=(findV_form h.1).1
        have he:=h.2.1
        have hc:chgC m (findV m b).1=0:=by
          rw [applyV,if_pos hm,runV] at he
          split at he
          · assumption
          · rename_i hc;exact absurd he hc
        have hst:(applyV m [(findV m b).1]).1=stepV m (findV m b).1:=by rw [apply_one hm hc,wide_step hm hc (by omega)];rfl
        have h1:=rest_len ((scroll_sm hk sm).mono (show 140≤50000 by omega)) (sb.mono (show 140≤50000 by omega))
        rw [oth20,hst,List.length_cons];omega
      · omega
    rw [List.length_append];omega
  · simp
theorem diff_few {a b:Vw} (sa:Sm a 140) (sb:Sm b 140) (hb:b.rows.length≤60):Few (diffV a b) :=
  ⟨by have:=diff_len sa sb;omega,fun c hc=>by have:=(diff_ok (a:=a) sb c hc).len;omega⟩
end Go.Proofs.YtigfbnglplbbpaaDoor.Nx

import Derived.Test.YtigfbnglplbbpaaGreatDoorNxE19
set_option linter.unusedSimpArgs false
set_option linter.unusedVariables false
set_option linter.unnecessarySimpa false
open Nat renaming zero_le → zI
namespace Go.Proofs.YtigfbnglplbbpaaGreatDoor.Nx
open Go
variable {P:Program} {N:Nat} {Γ:Tabs}
def inRows (l:List Nat):List (List D):=l.map fun (n:Nat)=>[.sc (.int .i64 (n:Int))]
theorem inRows_len {l:List Nat}:(inRows l).length=l.length:=by simp [inRows]
theorem inRows_get {l:List Nat} {i:Nat} (hi:i<l.length):(inRows l).getD i []=[.sc (.int .i64 l[i])]:=by
 rw [inRows,List.getD_eq_getElem?_getD,List.getElem?_map,List.getElem?_eq_getElem hi];rfl
theorem inRows_app {a b:List Nat}:inRows (a++b)=inRows a++inRows b:=by simp [inRows]
abbrev insA (l:List Nat):A:=.d (.sl eInt (inRows l))
abbrev inLB (l:List Nat):HB:=.cells eInt ((inRows l).map fun r=>r.map A.d)
theorem cg_eq {a b:Cg}:(((((decide (a.kind=b.kind)&&decide (a.row=b.row))&&decide (a.col=b.col))&&decide (a.count=b.count))&&decide (a.upto=b.upto))&&decide (a.gl=b.gl))=decide (a=b):=by
 rw [Bool.eq_iff_iff]
 cases a;cases b
 simp [and_assoc]
end Go.Proofs.YtigfbnglplbbpaaGreatDoor.Nx
namespace Go.Proofs.YtigfbnglplbbpaaGreatDoor.Nx
open Go
theorem greatRow_small {l:List Gl} (h:greatRow l=false):l.length≤140∧∀ g∈l,g.text.size≤40:=by
 simp only [greatRow,Bool.or_eq_false_iff,decide_eq_false_iff_not,List.any_eq_false,decide_eq_true_eq] at h
 exact ⟨by omega,fun g hg=>by have:=h.2 g hg;omega⟩
theorem Sm.mono {v:Vw} {m n:Nat} (h:Sm v m) (hm:m≤n):Sm v n:=⟨fun r hr=>Nat.le_trans (h.row r hr) hm,h.txt⟩
theorem cutW_len {w:Int} {l:List Gl}:(cutW w l).length≤l.length:=by
 obtain ⟨n,hn⟩:=cutW_pre w l
 rw [hn,List.length_take];omega
theorem sizeR_len {w:Int} {l:List Gl}:(sizeR w l).length≤l.length:=Nat.le_trans (trim_len _) cutW_len
theorem rowAt_len {rows:List (List Gl)} {m:Int} {n:Nat} (h:∀ r∈rows,r.length≤n):(rowAt rows m).length≤n:=by
 unfold rowAt
 rcases getD_mem (rows:=rows) (n:=m.toNat) with h1 | h1
 ·rw [h1];exact zI _
 ·exact h _ h1
theorem greatV_sm {v:Vw} (h:greatV v=false):Sm v 140∧v.rows.length≤12:=by
 have h0:=h
 simp only [greatV,Bool.or_eq_false_iff,decide_eq_false_iff_not,List.any_eq_false] at h
 refine ⟨⟨fun r hr=>(greatRow_small (by simpa using h.2 r hr)).1,fun r hr g hg=>greatV_small h0 r hr g hg⟩,by have:=h.1.1;omega⟩
theorem sizeV_sm {v:Vw} {h w:Int} {n:Nat} (s:Sm v n):Sm (sizeV v h w) n:=by
 refine ⟨fun r hr=>?_,fun r hr g hg=>?_⟩
 ·obtain ⟨l,hl',rfl⟩:=sizeV_rows hr
  have:=sizeR_len (w:=w) (l:=l)
  rcases hl' with rfl | hl'
  ·rw [List.length_nil] at this;omega
  ·have:=s.row l hl';omega
 ·obtain ⟨l,hl',rfl⟩:=sizeV_rows hr
  have:=sizeR_mem hg
  rcases hl' with rfl | hl'
  ·simp at this
  ·exact s.txt l hl' g this
theorem splices_mem {row:Int} {a b:List Gl} {c:Cg} (h:c∈splicesV row a b):∀ g∈c.gl,g∈b:=by
 have hok:=script_ok (A:=trimGl a) (B:=trimGl b) _ _ _ 0 0 none (Nat.le_refl _) rfl rfl (zI _) (zI _) trivial
 have hin:∀ {A B:List Gl} {es:List Edt} {i j:Nat},okE A B i j es→∀ e∈es,∀ g∈e.ins,g∈B:=by
  intro A B es
  induction es with
  | nil=>intro i j _ e he;simp at he
  | cons e0 es ih =>
   intro i j h e he g hg
   rw [okE] at h
   obtain ⟨j1,h1,h2,h3,h4,h5,h6,h7,h8⟩:=h
   rcases List.mem_cons.1 he with rfl | he
   ·rw [h5] at hg;exact List.mem_of_mem_drop (List.mem_of_mem_take hg)
   ·exact ih h8 e he g hg
 unfold splicesV at h
 simp only at h
 split at h
 ·simp only [List.mem_singleton] at h
  subst h
  intro g hg
  exact trim_mem (trim_mem hg)
 ·obtain ⟨e,he,hc⟩:=cgsE_gl h
  rw [hc]
  intro g hg
  exact trim_mem (hin hok e he g hg)
theorem splices_gl {row:Int} {a b:List Gl} {c:Cg} (h:c∈splicesV row a b):c.gl.length≤b.length:=by
 have hok:=script_ok (A:=trimGl a) (B:=trimGl b) _ _ _ 0 0 none (Nat.le_refl _) rfl rfl (zI _) (zI _) trivial
 have hb:=trim_len b
 unfold splicesV at h
 simp only at h
 split at h
 ·simp only [List.mem_singleton] at h
  subst h
  have:=trim_len (trimGl b)
  show (trimGl (trimGl b)).length≤_
  omega
 ·obtain ⟨e,he,hc⟩:=cgsE_gl h
  have:=(okE_mem hok e he).2
  rw [hc];omega
theorem splicesTo_mem {x b:Vw} {c:Cg}:∀ {n:Nat},c∈splicesTo x b n→∃ i<n,c∈splicesV i (x.rows.getD i []) (b.rows.getD i [])
 | 0,h=>by simp [splicesTo] at h
 | n+1,h=>by
  rw [splicesTo,List.mem_append] at h
  rcases h with h | h
  ·obtain ⟨i,h1,h2⟩:=splicesTo_mem h
   exact ⟨i,by omega,h2⟩
  ·exact ⟨n,by omega,h⟩
end Go.Proofs.YtigfbnglplbbpaaGreatDoor.Nx
namespace Go.Proofs.YtigfbnglplbbpaaGreatDoor.Nx
open Go
variable {P:Program} {N:Nat} {Γ:Tabs}
abbrev ApOk (Γ:Tabs) (P:Program) (f:FuncId):Prop:=∀ (v:Vw) (l:List Cg),RunOk v l→(∀ c∈l,CgOk c)→FnP Γ P f [vwA v,cgsA l] (apA (applyV v l))
abbrev VchkOk (Γ:Tabs) (P:Program) (f:FuncId):Prop:=∀ v:Vw,Sm v 50000→FnP Γ P f [vwA v] (.int (viewC v))
end Go.Proofs.YtigfbnglplbbpaaGreatDoor.Nx

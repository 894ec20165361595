import Derived.Test.YtadfkfgjhaijiaaDoorNxT1
import Derived.Test.YtadfkfgjhaijiaaDoorNxP15a
set_option linter.unusedSimpArgs false
set_option linter.unusedVariables false
set_option linter.unnecessarySimpa false
namespace Go.Proofs.YtadfkfgjhaijiaaDoor.Nx
open Go Go.RowKit
def TextWalkG (P:Program) (f:FuncId):Prop:=∀ (l:List ByteArray) (ao:Option Addr) (cap:Nat) (w:World),l.length≤100000→(∀ s∈l,s.size≤1000) →
    (∀ i (hi:i<l.length),∃ a:Addr,ao=some a∧a.block<w.heap.size∧w.cell? (a.add (i * 3))=some (.string l[i])∧∃ (v1:Bool) (v2:Int),w.cell? (a.add (i * 3+1))=some (.bool v1)∧w.cell? (a.add (i * 3+2))=some (.int .i64 v2)) →
    Calls P f #[.slice ao l.length cap] w fun e w'=>e = .returned (.string ⟨(txt l).toArray⟩)∧Below w.heap.size w w'
def textG (l:List Gl):ByteArray:=⟨(txt (l.map Gl.text)).toArray⟩
abbrev TextGOk (Γ:Tabs) (P:Program) (f:FuncId):Prop:=∀ l:List Gl,l.length≤1000→(∀ c∈l,c.text.size≤1000)→FnP Γ P f [.d (.sl eGl (glRows l))] (.str (textG l))
theorem textG_size {l:List Gl} (h:∀ c∈l,c.text.size≤1000):(textG l).size≤1000 * l.length:=by
  have:=txt_len (l.map Gl.text) (by simpa using h)
  rw [List.length_map] at this
  simpa [textG,ByteArray.size] using this
theorem textG_fn {P:Program} {f:FuncId} {Γ:Tabs} {N:Nat} {res:List XR} {x:XC} (H:FnIs P f N res x) (W:TextWalkG P f):TextGOk Γ P f:=by
  intro l hl hs
  refine ⟨H.enters,fun M w vs bnd T hargs=>?_⟩
  obtain ⟨h1,h2⟩:=hargs
  have h3:=h2 0 _ rfl
  have hvs:vs = #[vs.getD 0 undef]:=by
    rcases vs with ⟨q⟩
    match q,h1 with
    | [a],_=>rfl
  generalize vs.getD 0 undef=y at h3 hvs
  subst hvs
  have key:∃ ao cap,y = .slice ao l.length cap∧∀ i (hi:i<(l.map Gl.text).length),∃ a:Addr,ao=some a∧a.block<w.heap.size∧w.cell? (a.add (i * 3))=some (.string (l.map Gl.text)[i])∧∃ (v1:Bool) (v2:Int),w.cell? (a.add (i * 3+1))=some (.bool v1)∧w.cell? (a.add (i * 3+2))=some (.int .i64 v2):=by
    cases h3 with
    | d hx =>
      generalize hq:glRows l=q at hx
      cases hx with
      | nil =>
        have:l=[]:=by simpa [glRows] using hq
        subst this
        exact ⟨_,_,rfl,fun i hi=>absurd hi (by simp)⟩
      | sl u hl2 hm hb hsz hc hr =>
        subst hq
        refine ⟨_,_,by rw [show (glRows l).length=l.length by simp [glRows]],fun i hi=>?_⟩
        have hi':i<l.length:=by simpa using hi
        have hrow:(glRows l)[i]? = some l[i].row:=by rw [glRows,List.getElem?_map,List.getElem?_eq_getElem hi'];rfl
        have c0:=(hc i _ 0 _ hrow rfl).1
        have c1:=(hc i _ 1 _ hrow rfl).1
        have c2:=(hc i _ 2 _ hrow rfl).1
        have r0:=hr i _ 0 _ hrow rfl
        have r1:=hr i _ 1 _ hrow rfl
        have r2:=hr i _ 2 _ hrow rfl
        generalize u i 0=x0 at c0 r0
        generalize u i 1=x1 at c1 r1
        generalize u i 2=x2 at c2 r2
        cases r0;cases r1;cases r2
        refine ⟨_,rfl,?_,?_,_,_,c1,c2⟩
        · have:=cell_lt c0
          unfold Addr.add at this
          split at this<;>exact this
        · simpa using c0
  obtain ⟨ao,cap,rfl,hk⟩:=key
  have:=W (l.map Gl.text) ao cap w (by simp;omega) (by simpa using hs) hk
  rw [List.length_map] at this
  refine this.mono fun e w' ⟨he,hb⟩=>?_
  have hz:=textG_size hs
  refine ⟨_,he,.d (.sc (show (textG l).size≤maxLen from Nat.le_trans hz (by unfold maxLen;omega))),hb.os,hb.tape,hb.output,hb.size,fun b hlt _=>hb.block b hlt,fun id b p h=>by simp at h,Nat.le_refl _,fun id B h=>by omega⟩
end Go.Proofs.YtadfkfgjhaijiaaDoor.Nx

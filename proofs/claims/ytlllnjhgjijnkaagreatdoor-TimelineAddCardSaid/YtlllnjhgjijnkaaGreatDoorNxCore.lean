import Derived.WalkKit
import Derived.OrdersIn
import Derived.RangeFuncIn
import Derived.Laws.BytesArg
set_option linter.all false
open List renaming getElem?_eq_some_iff → zA, getElem?_eq_getElem → zB, getElem?_append_left → zF, getElem?_set_ne → zM, getElem?_set_self → zN, mem_of_getElem? → zY
open Nat renaming le_refl → zL, lt_irrefl → zv
open Bool renaming and_eq_true → zf
open List renaming replicate → aA, getElem?_append → aC, mem_replicate → aD
open Nat renaming lt_of_lt_of_le → aB, le_trans → aE, lt_or_ge → aF, le_antisymm → aG
namespace Go.Proofs.YtlllnjhgjijnkaaGreatDoor.Nx
open Go
section
structure Elt where
 sz:Nat
 bytes:Nat
def dL:Nat:=140737488355328
inductive D where
 | sc (v:Value)
 | sl (e:Elt) (rows:List (List D))
inductive A where
 | any
 | nil
 | d (x:D)
 | nn (e:Elt) (rows:List (List D))
 | agg (l:List A)
 | tup (l:List A)
 | iptr (cs:List D)
 | ptr (id N i off:Nat)
 | ref (id N off len:Nat) (full:Bool)
 | fn (f:FuncId) (caps:List A)
 | yld (id:Nat)
 | fd (e:Elt) (rows:List (List D))
inductive HB where
 | cells (e:Elt) (rows:List (List A))
 | obj (o:Obj)
 | res
abbrev cM:=List HB
abbrev fJ:=List (Option (Nat × Nat))
def vH(M:Nat→Prop)(ρ:fJ)(b:Nat):Prop:=M b∨∃ id p:Nat,ρ[id]? = some (some (b,p))
def Iq:Value→Prop
 | .int k n=>k.min≤n∧n≤k.max
 | .string s=>s.size≤maxLen
 | .agg _ | .tuple _=>False
 | _=>True
inductive RepD (w:World) (X:Nat→Prop):D→Value→Prop
 | sc {v:Value} (h:Iq v):RepD w X (.sc v) v
 | nil {e:Elt} {a:Option Addr} {cap:Nat} (hm:cap≤maxLen) (h0:a=none→cap=0):RepD w X (.sl e []) (.slice a 0 cap)
 | sl {e:Elt} {rows:List (List D)} {a:Addr} {cap:Nat} (u:Nat→Nat→Value)
   (hl:rows.length≤cap) (hm:cap≤maxLen) (hb:rows.length * e.bytes≤dL) (mB:∀ r∈rows,r.length=e.sz)
   (hc:∀ i r j d,rows[i]? = some r→r[j]? = some d→w.cell? (a.add (i * e.sz+j))=some (u i j)∧¬ X a.block)
   (hr:∀ i r j d,rows[i]? = some r→r[j]? = some d→RepD w X d (u i j)) :
   RepD w X (.sl e rows) (.slice (some a) rows.length cap)
inductive RepA (w:World) (M:Nat→Prop) (ρ:fJ) (h:cM):A→Value→Prop
 | any {v:Value}:RepA w M ρ h .any v
 | nil:RepA w M ρ h .nil (.slice none 0 0)
 | d {x:D} {v:Value} (hx:RepD w (vH M ρ) x v):RepA w M ρ h (.d x) v
 | nn {e:Elt} {rows:List (List D)} {a:Addr} {n cap:Nat} (hx:RepD w (vH M ρ) (.sl e rows) (.slice (some a) n cap)):RepA w M ρ h (.nn e rows) (.slice (some a) n cap)
 | agg {l:List A} {cs:Array Value} (hl:cs.size=l.length) (ho:∀ v∈cs.toList,v.oneCell'=true)
   (hr:∀ j x,l[j]? = some x→RepA w M ρ h x (cs.getD j undef)):RepA w M ρ h (.agg l) (.agg cs)
 | tup {l:List A} {cs:Array Value} (hl:cs.size=l.length)
   (hr:∀ j x,l[j]? = some x→RepA w M ρ h x (cs.getD j undef)):RepA w M ρ h (.tup l) (.tuple cs)
 | iptr {cs:List D} {a:Addr} (u:Nat→Value) (hc:∀ j d,cs[j]? = some d→w.cell? (a.add j)=some (u j)∧¬ vH M ρ a.block)
   (hr:∀ j d,cs[j]? = some d→RepD w (vH M ρ) d (u j)):RepA w M ρ h (.iptr cs) (.pointer (some a))
 | ptr {id i off:Nat} {e:Elt} {rows:List (List A)} {b p:Nat} (hh:h[id]? = some (.cells e rows)) (hp:ρ[id]? = some (some (b,p))) :
   RepA w M ρ h (.ptr id rows.length i off) (.pointer (some ⟨b,i * e.sz+off,none⟩))
 | pstale {id N i off:Nat} {e:Elt} {rows:List (List A)} {v:Value} (hh:h[id]? = some (.cells e rows)) (hN:N<rows.length) (ho:v.oneCell'=true) :
   RepA w M ρ h (.ptr id N i off) v
 | obj {id:Nat} {o:Obj} {b p:Nat} (hh:h[id]? = some (.obj o)) (hp:ρ[id]? = some (some (b,p))) :
   RepA w M ρ h (.ptr id 0 0 0) (.pointer (some ⟨b,0,none⟩))
 | stale {id N off len:Nat} {full:Bool} {e:Elt} {rows:List (List A)} {v:Value} (hh:h[id]? = some (.cells e rows)) (hN:N<rows.length) (ho:v.oneCell'=true) :
   RepA w M ρ h (.ref id N off len full) v
 | ref0 {id:Nat} {full:Bool} {e:Elt} (hh:h[id]? = some (.cells e [])) (hp:ρ[id]? = some none):RepA w M ρ h (.ref id 0 0 0 full) (.slice none 0 0)
 | ref {id off len o cap:Nat} {full:Bool} {e:Elt} {rows:List (List A)} {b p:Nat} (hh:h[id]? = some (.cells e rows)) (hp:ρ[id]? = some (some (b,p)))
   (eG:off+len≤rows.length) (hcap:len≤cap) (hm:cap≤maxLen) (ho:cap=0∨o=off * e.sz) (hphys:(off+cap) * e.sz≤p) (hfull:full=true→rows.length≤off+cap) :
   RepA w M ρ h (.ref id rows.length off len full) (.slice (some ⟨b,o,none⟩) len cap)
 | fn {f:FuncId} {l:List A} {cs:Array Value} (hl:cs.size=l.length) (hr:∀ j x,l[j]? = some x→RepA w M ρ h x (cs.getD j undef)) :
   RepA w M ρ h (.fn f l) (.func (.func f) #[] cs)
 | yld {id:Nat} {o:Obj} {b p:Nat} (hh:h[id]? = some (.obj o)) (hp:ρ[id]? = some (some (b,p))):RepA w M ρ h (.yld id) (.func (.yield b) #[] #[])
 | fd {e:Elt} {rows:List (List D)} {a:Addr} {n:Nat} (hx:RepD w (vH M ρ) (.sl e rows) (.slice (some a) n n)):RepA w M ρ h (.fd e rows) (.slice (some a) n n)
def aEL(w:World)(M:Nat→Prop)(ρ:fJ)(h:cM)(id:Nat)(e:Elt)(rows:List (List A)):Prop :=
 0<e.sz∧rows.length * e.bytes≤dL∧rows.length≤maxLen∧(∀ r∈rows,r.length=e.sz) ∧
  ((ρ[id]? = some none∧rows=[]) ∨
   ∃ (b p:Nat) (cs:Array Value) (t:TypeId),ρ[id]? = some (some (b,p))∧¬ M b∧w.heap[b]? = some (.cells cs t (0,0))∧cs.size=p∧rows.length * e.sz≤p ∧
    ∀ i r j x,rows[i]? = some r→r[j]? = some x→∃ v,cs[i * e.sz+j]? = some v∧v.oneCell'=true∧RepA w M ρ h x v)
def aLY(w:World)(M:Nat→Prop)(ρ:fJ)(id:Nat)(o:Obj):Prop :=
 ∃ b p:Nat,ρ[id]? = some (some (b,p))∧¬ M b∧w.heap[b]? = some o∧∀ c t f,o ≠ .cells c t f
structure SimH(w:World)(M:Nat→Prop)(ρ:fJ)(h:cM):Prop where
 len:ρ.length=h.length
 cells:∀ id e rows,h[id]? = some (.cells e rows)→aEL w M ρ h id e rows
 obj:∀ id o,h[id]? = some (.obj o)→aLY w M ρ id o
 res:∀ id:Nat,h[id]? = some .res→ρ[id]? = some none
 inj:∀ i j b p q:Nat,ρ[i]? = some (some (b,p))→ρ[j]? = some (some (b,q))→i=j
def Qg(h':cM)(ρ ρ':fJ)(id:Nat):HB→Prop
 | .cells e rows=>∃ rows',h'[id]? = some (.cells e rows')∧rows.length≤rows'.length∧(rows'.length=rows.length→ρ'[id]? = ρ[id]?)
 | .obj _=>(∃ o',h'[id]? = some (.obj o'))∧ρ'[id]? = ρ[id]?
 | .res=>True
structure Evo(n0:Nat)(h:cM)(ρ:fJ)(w:World)(h':cM)(ρ':fJ)(w':World):Prop where
 os:w'.os=w.os
 tape:w'.tape=w.tape
 output:w'.output=w.output
 size:w.heap.size≤w'.heap.size
 old:∀ b,b<w.heap.size→(∀ id p:Nat,ρ[id]? ≠ some (some (b,p)))→w'.heap[b]? = w.heap[b]?
 fresh:∀ id b p:Nat,ρ'[id]? = some (some (b,p))→w.heap.size≤b∨∃ i q:Nat,ρ[i]? = some (some (b,q))
 len:n0≤h'.length
 keep:∀ id B,id<n0→h[id]? = some B→Qg h' ρ ρ' id B
theorem Qg.refl{h:cM}{ρ:fJ}{id:Nat}{B:HB}(hb:h[id]? = some B):Qg h ρ ρ id B:=by
 cases B with
 | cells e rows=>exact⟨rows,hb,zL _,fun _=>rfl⟩
 | obj o=>exact⟨⟨o,hb⟩,rfl⟩
 | res=>trivial
theorem Evo.refl(n0:Nat)(h:cM)(ρ:fJ)(w:World)(hn:n0≤h.length):Evo n0 h ρ w h ρ w :=
 ⟨rfl,rfl,rfl,zL _,fun _ _ _=>rfl,fun id _ p hb=>.inr ⟨id,p,hb⟩,hn,fun _ _ _ hb=>.refl hb⟩
theorem Evo.trans{n0:Nat}{h h1 h2:cM}{ρ ρ1 ρ2:fJ}{w w1 w2:World}(a:Evo n0 h ρ w h1 ρ1 w1)(b:Evo n0 h1 ρ1 w1 h2 ρ2 w2):Evo n0 h ρ w h2 ρ2 w2 where
 os:=b.os.trans a.os
 tape:=b.tape.trans a.tape
 output:=b.output.trans a.output
 size:=aE a.size b.size
 old k hk hn:=by
  rw[b.old k (aB hk a.size) ?_,a.old k hk hn];intro id p hp;rcases a.fresh id k p hp with hf | ⟨i,q,hq⟩
  ·omega
  ·exact hn i q hq
 fresh id k p hp:=by
  rcases b.fresh id k p hp with hf | ⟨i,q,hq⟩
  ·exact .inl (aE a.size hf)
  ·exact a.fresh i k q hq
 len:=b.len
 keep id B hid hB:=by
  have k1:=a.keep id B hid hB;cases B with
  | cells e rows =>
   obtain⟨rows1,g1,l1,r1⟩:=k1;obtain⟨rows2,g2,l2,r2⟩:=b.keep id _ hid g1;exact⟨rows2,g2,aE l1 l2,fun he=>by rw[r2 (by omega),r1 (by omega)]⟩
  | obj o =>
   obtain⟨⟨o1,g1⟩,r1⟩:=k1;obtain⟨⟨o2,g2⟩,r2⟩:=b.keep id _ hid g1;exact⟨⟨o2,g2⟩,r2.trans r1⟩
  | res=>trivial
theorem Evo.mono{n0 n1:Nat}{h h':cM}{ρ ρ':fJ}{w w':World}(a:Evo n0 h ρ w h' ρ' w')(hn:n1≤n0):Evo n1 h ρ w h' ρ' w' :=
 ⟨a.os,a.tape,a.output,a.size,a.old,a.fresh,aE hn a.len,fun id B hid hB=>a.keep id B (aB hid hn) hB⟩
theorem lD(a:Addr)(n:Nat):(a.add n).block=a.block:=by unfold Addr.add;split<;>rfl
theorem kM(b o n:Nat):(⟨b,o,none⟩:Addr).add n=⟨b,o+n,none⟩:=by unfold Addr.add;split<;>simp_all
theorem aKd{w:World}{a:Addr}{u:Value}(h:w.cell? a=some u):a.block<w.heap.size:=by
 unfold World.cell? at h;cases hb:w.heap[a.block]? with
 | none=>simp[hb] at h
 | some o=>exact(Array.getElem?_eq_some_iff.1 hb).1
theorem RepD.move{w w':World}{X Y:Nat→Prop}(hm:∀ a u,¬ X a.block→w.cell? a=some u→w'.cell? a=some u∧¬ Y a.block){x:D}{v:Value}(h:RepD w X x v):RepD w' Y x v:=by
 induction h with
 | sc h=>exact .sc h
 | nil hm h0=>exact .nil hm h0
 | sl u hl hm' hb mB hc _ ih =>
  refine .sl u hl hm' hb mB (fun i r j d hi hj=>?_) (fun i r j d hi hj=>ih i r j d hi hj);obtain⟨h1,h2⟩:=hc i r j d hi hj;have:=hm _ _ (by rw[lD];exact h2) h1;rw[lD] at this;exact this
theorem Evo.cell{n0:Nat}{h h':cM}{ρ ρ':fJ}{w w':World}{M:Nat→Prop}(g:Evo n0 h ρ w h' ρ' w') :
  ∀ a u,¬ vH M ρ a.block→w.cell? a=some u→w'.cell? a=some u∧¬ vH M ρ' a.block:=by
 intro a u hx hc;have cY:=aKd hc;refine⟨?_,?_⟩
 ·have:=g.old a.block cY (fun id p hp=>hx (.inr ⟨id,p,hp⟩));rw[World.cell?_of_block this];exact hc
 ·rintro(hM | ⟨id,p,hp⟩)
  ·exact hx (.inl hM)
  ·rcases g.fresh id _ p hp with hf | ⟨i,q,hq⟩
   ·omega
   ·exact hx (.inr ⟨i,q,hq⟩)
mutual
def A.under(n:Nat):A→Bool
 | .agg l=>A.underL n l
 | .tup l=>A.underL n l
 | .fn _ l=>A.underL n l
 | .ptr id _ _ _=>decide (id<n)
 | .ref id _ _ _ _=>decide (id<n)
 | .yld id=>decide (id<n)
 | _=>true
def A.underL(n:Nat):List A→Bool
 | []=>true
 | x::xs=>A.under n x&&A.underL n xs
end
mutual
theorem A.under_mono{n m:Nat}:∀ {x:A},x.under n=true→n≤m→x.under m=true
 | .agg l,h,hm=>A.underL_mono (l:=l) h hm
 | .tup l,h,hm=>A.underL_mono (l:=l) h hm
 | .fn _ l,h,hm=>A.underL_mono (l:=l) h hm
 | .ptr _ _ _ _,h,hm=>decide_eq_true (aB (of_decide_eq_true h) hm)
 | .ref _ _ _ _ _,h,hm=>decide_eq_true (aB (of_decide_eq_true h) hm)
 | .yld _,h,hm=>decide_eq_true (aB (of_decide_eq_true h) hm)
 | .any,_,_=>rfl
 | .nil,_,_=>rfl
 | .d _,_,_=>rfl
 | .nn _ _,_,_=>rfl
 | .fd _ _,_,_=>rfl
 | .iptr _,_,_=>rfl
theorem A.underL_mono{n m:Nat}:∀ {l:List A},A.underL n l=true→n≤m→A.underL m l=true
 | [],_,_=>rfl
 | x::l,h,hm=>by
  simp only[A.underL,zf] at h ⊢;exact⟨A.under_mono h.1 hm,A.underL_mono h.2 hm⟩
end
theorem A.underL_get{n:Nat}{l:List A}(h:A.underL n l=true){j:Nat}{x:A}(hj:l[j]? = some x):x.under n=true:=by
 induction l generalizing j with
 | nil=>simp at hj
 | cons y ys ih =>
  simp only[A.underL,zf] at h;cases j with
  | zero=>simp at hj;exact hj ▸ h.1
  | succ j=>simp at hj;exact ih h.2 hj
theorem A.underL_of{n:Nat}{l:List A}(h:∀ (j:Nat) (x:A),l[j]? = some x→x.under n=true):A.underL n l=true:=by
 induction l with
 | nil=>rfl
 | cons y ys ih =>
  simp only[A.underL,zf];exact⟨h 0 y rfl,ih fun j x hj=>h (j+1) x (by simpa using hj)⟩
theorem RepA.under{w:World}{M:Nat→Prop}{ρ:fJ}{h:cM}{x:A}{v:Value}(hr:RepA w M ρ h x v):x.under h.length=true:=by
 have lt {id:Nat} {B:HB} (hh:h[id]? = some B):id<h.length:=(zA.1 hh).1
 induction hr with
 | agg _ _ _ ih=>simp only[A.under];exact A.underL_of ih
 | tup _ _ ih=>simp only[A.under];exact A.underL_of ih
 | fn _ _ ih=>simp only[A.under];exact A.underL_of ih
 | ptr hh _=>simp[A.under,lt hh]
 | pstale hh _ _=>simp[A.under,lt hh]
 | obj hh _=>simp[A.under,lt hh]
 | stale hh _ _=>simp[A.under,lt hh]
 | ref0 hh _=>simp[A.under,lt hh]
 | ref hh _ _ _ _ _ _ _=>simp[A.under,lt hh]
 | yld hh _=>simp[A.under,lt hh]
 | _=>rfl
theorem RepA.move{n0:Nat}{w w':World}{M M':Nat→Prop}{ρ ρ':fJ}{h h':cM}
  (hm:∀ a u,¬ vH M ρ a.block→w.cell? a=some u→w'.cell? a=some u∧¬ vH M' ρ' a.block)
  (hk:∀ id B,id<n0→h[id]? = some B→Qg h' ρ ρ' id B) {x:A} {v:Value} (hr:RepA w M ρ h x v) (hb:x.under n0=true):RepA w' M' ρ' h' x v:=by
 induction hr with
 | any=>exact .any
 | nil=>exact .nil
 | d hx=>exact .d (hx.move hm)
 | nn hx=>exact .nn (hx.move hm)
 | fd hx=>exact .fd (hx.move hm)
 | agg hl ho _ ih=>exact .agg hl ho fun j x hj=>ih j x hj (A.underL_get hb hj)
 | tup hl _ ih=>exact .tup hl fun j x hj=>ih j x hj (A.underL_get hb hj)
 | fn hl _ ih=>exact .fn hl fun j x hj=>ih j x hj (A.underL_get hb hj)
 | iptr u hc hr =>
  refine .iptr u (fun j d hj=>?_) (fun j d hj=>(hr j d hj).move hm);obtain⟨h1,h2⟩:=hc j d hj;have:=hm _ _ (by rw[lD];exact h2) h1;rw[lD] at this;exact this
 | ptr hh hp =>
  obtain⟨rows',h1,h2,h3⟩:=hk _ _ (of_decide_eq_true hb) hh;rcases aF _ rows'.length with cY | vX
  ·exact .pstale h1 cY rfl
  ·have he:rows'.length=_:=aG vX h2;rw[← he];exact .ptr h1 ((h3 he).trans hp)
 | pstale hh hN ho =>
  obtain⟨rows',h1,h2,h3⟩:=hk _ _ (of_decide_eq_true hb) hh;exact .pstale h1 (by omega) ho
 | obj hh hp =>
  obtain⟨⟨o',h1⟩,h2⟩:=hk _ _ (of_decide_eq_true hb) hh;exact .obj h1 (h2.trans hp)
 | yld hh hp =>
  obtain⟨⟨o',h1⟩,h2⟩:=hk _ _ (of_decide_eq_true hb) hh;exact .yld h1 (h2.trans hp)
 | stale hh hN ho =>
  obtain⟨rows',h1,h2,h3⟩:=hk _ _ (of_decide_eq_true hb) hh;exact .stale h1 (by omega) ho
 | ref0 hh hp =>
  obtain⟨rows',h1,h2,h3⟩:=hk _ _ (of_decide_eq_true hb) hh;rcases aF 0 rows'.length with cY | vX
  ·exact .stale h1 cY rfl
  ·have he:rows'=[]:=List.eq_nil_of_length_eq_zero (by omega);subst he;exact .ref0 h1 ((h3 rfl).trans hp)
 | ref hh hp eG hcap hm' ho hphys hfull =>
  obtain⟨rows',h1,h2,h3⟩:=hk _ _ (of_decide_eq_true hb) hh;rcases aF _ rows'.length with cY | vX
  ·exact .stale h1 cY rfl
  ·have he:rows'.length=_:=aG vX h2;rw[← he];exact .ref h1 ((h3 he).trans hp) (by omega) hcap hm' ho hphys (fun hf=>by have:=hfull hf;omega)
end
section
variable {w w':World}{M:Nat→Prop}{ρ ρ':fJ}{h h':cM}
theorem Evo.rep{n0:Nat}(g:Evo n0 h ρ w h' ρ' w'){x:A}{v:Value}(hr:RepA w M ρ h x v)(hb:x.under n0=true):RepA w' M ρ' h' x v :=
 hr.move g.cell g.keep hb
theorem Evo.rep'(g:Evo h.length h ρ w h' ρ' w'){x:A}{v:Value}(hr:RepA w M ρ h x v):RepA w' M ρ' h' x v :=
 g.rep hr hr.under
theorem SimH.lt(S:SimH w M ρ h){id b p:Nat}(hp:ρ[id]? = some (some (b,p))):b<w.heap.size:=by
 have hid:id<h.length:=by rw[← S.len];exact(zA.1 hp).1
 obtain⟨B,hB⟩:∃ B,h[id]? = some B:=⟨_,zB hid⟩;cases B with
 | cells e rows =>
  obtain⟨_,_,_,_,h5⟩:=S.cells id e rows hB;rcases h5 with⟨h5,_⟩ | ⟨b',p',cs,t,h5,_,h6,_⟩
  ·rw[hp] at h5;cases h5
  ·rw[hp] at h5;cases h5;exact(Array.getElem?_eq_some_iff.1 h6).1
 | obj o =>
  obtain⟨b',p',h5,_,h6,_⟩:=S.obj id o hB;rw[hp] at h5;cases h5;exact(Array.getElem?_eq_some_iff.1 h6).1
 | res=>rw[S.res id hB] at hp;cases hp
theorem SimH.notM(S:SimH w M ρ h){id b p:Nat}(hp:ρ[id]? = some (some (b,p))):¬ M b:=by
 have hid:id<h.length:=by rw[← S.len];exact(zA.1 hp).1
 obtain⟨B,hB⟩:∃ B,h[id]? = some B:=⟨_,zB hid⟩;cases B with
 | cells e rows =>
  obtain⟨_,_,_,_,h5⟩:=S.cells id e rows hB;rcases h5 with⟨h5,_⟩ | ⟨b',p',cs,t,h5,h6,_⟩
  ·rw[hp] at h5;cases h5
  ·rw[hp] at h5;cases h5;exact h6
 | obj o =>
  obtain⟨b',p',h5,h6,_⟩:=S.obj id o hB;rw[hp] at h5;cases h5;exact h6
 | res=>rw[S.res id hB] at hp;cases hp
theorem SimH.same(S:SimH w M ρ h)(g:Evo h.length h ρ w h ρ w')(ho:∀ id b p:Nat,ρ[id]? = some (some (b,p))→w'.heap[b]? = w.heap[b]?):SimH w' M ρ h where
 len:=S.len
 cells id e rows hB:=by
  obtain⟨h1,h2,h3,h4,h5⟩:=S.cells id e rows hB;refine⟨h1,h2,h3,h4,?_⟩;rcases h5 with h5 | ⟨b,p,cs,t,h5,h6,h7,h8,h9,Ve⟩
  ·exact .inl h5
  ·refine .inr ⟨b,p,cs,t,h5,h6,(ho _ _ _ h5).trans h7,h8,h9,fun i r j x hi hj=>?_⟩;obtain⟨v,k1,k2,k3⟩:=Ve i r j x hi hj;exact⟨v,k1,k2,g.rep' k3⟩
 obj id o hB:=by
  obtain⟨b,p,h1,h2,h3,h4⟩:=S.obj id o hB;exact⟨b,p,h1,h2,(ho _ _ _ h1).trans h3,h4⟩
 res:=S.res
 inj:=S.inj
theorem Evo.drew(n:Nat)(hn:n≤h.length):Evo n h ρ w h ρ w.drew :=
 ⟨rfl,rfl,rfl,zL _,fun _ _ _=>rfl,fun id _ p hb=>.inr ⟨id,p,hb⟩,hn,fun _ _ _ hb=>.refl hb⟩
theorem SimH.drew(S:SimH w M ρ h):SimH w.drew M ρ h:=S.same (.drew _ (zL _)) fun _ _ _ _=>rfl
theorem lE(w:World)(o:Obj){b:Nat}(hb:b<w.heap.size):(w.alloc o).heap[b]? = w.heap[b]? := by
 show(w.heap.push o)[b]? = _;rw[Array.getElem?_push,if_neg (by omega)]
theorem vZ(w:World)(o:Obj):(w.alloc o).heap[w.heap.size]? = some o:=by
 show(w.heap.push o)[w.heap.size]? = _;simp
theorem Fh(w:World)(o:Obj):w.heap.size≤(w.alloc o).heap.size:=by
 show _≤(w.heap.push o).size;simp
theorem aA5{α:Type}{l:List α}{x y:α}{i:Nat}(hi:(l++[x])[i]? = some y):l[i]? = some y∨(i=l.length∧y=x):=by
 rw[aC] at hi;split at hi
 ·exact .inl hi
 ·rename_i vX;have:i-l.length=0:=by
   have:=(zA.1 hi).1;simp at this;omega
  rw[this] at hi;simp at hi;exact .inr ⟨by omega,hi.symm⟩
theorem aKe{α:Type}{l:List α}{x y:α}{i:Nat}(hi:l[i]? = some y):(l++[x])[i]? = some y:=by
 rw[zF (zA.1 hi).1];exact hi
theorem jV{α:Type}{l:List α}{x y:α}{i j:Nat}(hi:(l.set i x)[j]? = some y):(j=i∧y=x)∨(j≠i∧l[j]? = some y):=by
 rw[List.getElem?_set] at hi;split at hi
 ·rename_i he;split at hi
  ·cases hi;exact .inl ⟨he.symm,rfl⟩
  ·cases hi
 ·rename_i fM;exact .inr ⟨fun e=>fM e.symm,hi⟩
inductive NewAt (h:cM) (ρ:fJ) (B:HB) (x:Option (Nat × Nat)):Option Nat→Nat→cM→fJ→Prop
 | push:NewAt h ρ B x none h.length (h++[B]) (ρ++[x])
 | set {id:Nat} (hr:h[id]? = some .res):NewAt h ρ B x (some id) id (h.set id B) (ρ.set id x)
section
variable {B:HB}{x:Option (Nat × Nat)}{pl:Option Nat}{id:Nat}{h1:cM}{ρ1:fJ}
theorem NewAt.heap(n:NewAt h ρ B x pl id h1 ρ1):h1[id]? = some B:=by
 cases n with
 | push=>simp
 | set hr=>exact zN (zA.1 hr).1
theorem NewAt.phys(n:NewAt h ρ B x pl id h1 ρ1)(hl:ρ.length=h.length):ρ1[id]? = some x:=by
 cases n with
 | push=>rw[← hl];simp
 | set hr=>exact zN (by rw[hl];exact(zA.1 hr).1)
theorem NewAt.len(n:NewAt h ρ B x pl id h1 ρ1)(hl:ρ.length=h.length):ρ1.length=h1.length∧h.length≤h1.length:=by
 cases n with
 | push=>simp[hl]
 | set hr=>simp[hl]
theorem NewAt.of_heap(n:NewAt h ρ B x pl id h1 ρ1){i:Nat}{C:HB}(hi:h1[i]? = some C):(i=id∧C=B)∨(i≠id∧h[i]? = some C):=by
 cases n with
 | push =>
  rcases aA5 hi with hi | ⟨rfl,rfl⟩
  ·have:=(zA.1 hi).1;exact .inr ⟨by omega,hi⟩
  ·exact .inl ⟨rfl,rfl⟩
 | set hr=>exact jV hi
theorem NewAt.of_phys(n:NewAt h ρ B x pl id h1 ρ1)(hl:ρ.length=h.length){i:Nat}{y:Option (Nat × Nat)}(hi:ρ1[i]? = some y):(i=id∧y=x)∨(i≠id∧ρ[i]? = some y):=by
 cases n with
 | push =>
  rcases aA5 hi with hi | ⟨rfl,rfl⟩
  ·have:=(zA.1 hi).1;exact .inr ⟨by omega,hi⟩
  ·exact .inl ⟨hl,rfl⟩
 | set hr=>exact jV hi
theorem NewAt.keep_heap(n:NewAt h ρ B x pl id h1 ρ1){i:Nat}{C:HB}(hi:h[i]? = some C)(hc:C ≠ .res):i≠id∧h1[i]? = some C:=by
 cases n with
 | push =>
  have:=(zA.1 hi).1;exact⟨by omega,aKe hi⟩
 | set hr =>
  have fM:i≠id:=by rintro rfl;rw[hr] at hi;exact hc (Option.some.inj hi).symm
  exact⟨fM,by rw[zM (fun e=>fM e.symm)];exact hi⟩
theorem NewAt.keep_phys(n:NewAt h ρ B x pl id h1 ρ1)(hl:ρ.length=h.length){i:Nat}(hi:i<h.length)(fM:i≠id):ρ1[i]? = ρ[i]? := by
 cases n with
 | push=>exact zF (by omega)
 | set hr=>exact zM (fun e=>fM e.symm)
theorem Evo.atNew(n:NewAt h ρ B x pl id h1 ρ1)(hl:ρ.length=h.length){w1:World}(hos:w1.os=w.os)(ht:w1.tape=w.tape)(ho:w1.output=w.output)(mB:w.heap.size≤w1.heap.size)(pF:∀ b,b<w.heap.size→w1.heap[b]? = w.heap[b]?)
  (hx:∀ b p:Nat,x=some (b,p)→w.heap.size≤b):Evo h.length h ρ w h1 ρ1 w1 where
 os:=hos
 tape:=ht
 output:=ho
 size:=mB
 old b hb _:=pF b hb
 fresh i b q hb:=by
  rcases n.of_phys hl hb with⟨_,he⟩ | ⟨_,hb⟩
  ·exact .inl (hx b q he.symm)
  ·exact .inr ⟨i,q,hb⟩
 len:=(n.len hl).2
 keep i C hi hC:=by
  cases C with
  | cells e rows =>
   obtain⟨fM,h2⟩:=n.keep_heap hC (by simp);exact⟨rows,h2,zL _,fun _=>n.keep_phys hl hi fM⟩
  | obj o' =>
   obtain⟨fM,h2⟩:=n.keep_heap hC (by simp);exact⟨⟨o',h2⟩,n.keep_phys hl hi fM⟩
  | res=>trivial
theorem SimH.newAny(S:SimH w M ρ h)(n:NewAt h ρ B x pl id h1 ρ1){w1:World}(g:Evo h.length h ρ w h1 ρ1 w1)(pF:∀ b,b<w.heap.size→w1.heap[b]? = w.heap[b]?)(hx:∀ b p:Nat,x=some (b,p)→w.heap.size≤b)
  (hc:∀ e rows,B = .cells e rows→aEL w1 M ρ1 h1 id e rows) (hob:∀ o',B = .obj o'→aLY w1 M ρ1 id o') (aEI:B ≠ .res):SimH w1 M ρ1 h1 where
 len:=(n.len S.len).1
 cells i e rows hB:=by
  rcases n.of_heap hB with⟨rfl,rfl⟩ | ⟨fM,hB⟩
  ·exact hc e rows rfl
  ·obtain⟨q1,q2,q3,q4,q5⟩:=S.cells i e rows hB;have hρ:=n.keep_phys S.len (zA.1 hB).1 fM;refine⟨q1,q2,q3,q4,?_⟩;rcases q5 with⟨h5,h6⟩ | ⟨b,q,cs,t,h5,h6,h7,h8,h9,Ve⟩
   ·exact .inl ⟨hρ.trans h5,h6⟩
   ·refine .inr ⟨b,q,cs,t,hρ.trans h5,h6,(pF _ (S.lt h5)).trans h7,h8,h9,fun i r j x hi hj=>?_⟩;obtain⟨v,k1,k2,k3⟩:=Ve i r j x hi hj;exact⟨v,k1,k2,g.rep' k3⟩
 obj i o' hB:=by
  rcases n.of_heap hB with⟨rfl,rfl⟩ | ⟨fM,hB⟩
  ·exact hob o' rfl
  ·obtain⟨b,q,q1,q2,q3,q4⟩:=S.obj i o' hB;have hρ:=n.keep_phys S.len (zA.1 hB).1 fM;exact⟨b,q,hρ.trans q1,q2,(pF _ (S.lt q1)).trans q3,q4⟩
 res i hB:=by
  rcases n.of_heap hB with⟨_,he⟩ | ⟨fM,hB⟩
  ·exact absurd he.symm aEI
  ·rw[n.keep_phys S.len (zA.1 hB).1 fM];exact S.res i hB
 inj i j b q q' hi hj:=by
  rcases n.of_phys S.len hi with⟨ei,hi⟩ | ⟨ei,hi⟩<;>rcases n.of_phys S.len hj with⟨ej,hj⟩ | ⟨ej,hj⟩
  ·omega
  ·have:=hx b q hi.symm;have:=S.lt hj;omega
  ·have:=hx b q' hj.symm;have:=S.lt hi;omega
  ·exact S.inj i j b q q' hi hj
theorem Evo.newAlloc{o:Obj}{p:Nat}(n:NewAt h ρ B (some (w.heap.size,p)) pl id h1 ρ1)(hl:ρ.length=h.length):Evo h.length h ρ w h1 ρ1 (w.alloc o) :=
 .atNew n hl rfl rfl rfl (Fh w o) (fun _ hb=>lE w o hb) (fun b q he=>by cases he;exact zL _)
theorem SimH.newCells(S:SimH w M ρ h)(bnd:∀ b,M b→b<w.heap.size){e:Elt}{rows:List (List A)}{cs:Array Value}(t:TypeId)(n:NewAt h ρ (.cells e rows) (some (w.heap.size,cs.size)) pl id h1 ρ1)(q1:0<e.sz)
  (q2:rows.length * e.bytes≤dL) (q3:rows.length≤maxLen) (q4:∀ r∈rows,r.length=e.sz) (q5:rows.length * e.sz≤cs.size)
  (q6:∀ i r j x,rows[i]? = some r→r[j]? = some x→∃ v,cs[i * e.sz+j]? = some v∧v.oneCell'=true∧RepA w M ρ h x v) :
  SimH (w.alloc (.cells cs t)) M ρ1 h1:=by
 have g:=Evo.newAlloc (o:=.cells cs t) n S.len;refine S.newAny n g (fun _ hb=>lE w _ hb) (fun b q he=>by cases he;exact zL _) (fun e' rows' he=>?_) (fun o' he=>by cases he) (by simp);cases he;refine⟨q1,q2,q3,q4,.inr ⟨w.heap.size,cs.size,cs,t,n.phys S.len,fun hM=>absurd (bnd _ hM) (zv _),vZ w _,rfl,q5,fun i r j x hi hj=>?_⟩⟩;obtain⟨v,k1,k2,k3⟩:=q6 i r j x hi hj;exact⟨v,k1,k2,g.rep' k3⟩
theorem SimH.newObj(S:SimH w M ρ h)(bnd:∀ b,M b→b<w.heap.size){o:Obj}{p:Nat}(n:NewAt h ρ (.obj o) (some (w.heap.size,p)) pl id h1 ρ1)(ho:∀ c t f,o ≠ .cells c t f):SimH (w.alloc o) M ρ1 h1:=by
 have g:=Evo.newAlloc (o:=o) n S.len;refine S.newAny n g (fun _ hb=>lE w _ hb) (fun b q he=>by cases he;exact zL _) (fun e' rows' he=>by cases he) (fun o' he=>?_) (by simp);cases he;exact⟨w.heap.size,p,n.phys S.len,fun hM=>absurd (bnd _ hM) (zv _),vZ w _,ho⟩
theorem Evo.newNil{e:Elt}(n:NewAt h ρ (.cells e []) none pl id h1 ρ1)(hl:ρ.length=h.length):Evo h.length h ρ w h1 ρ1 w :=
 .atNew n hl rfl rfl rfl (zL _) (fun _ _=>rfl) (fun b q he=>by cases he)
theorem SimH.newNil(S:SimH w M ρ h){e:Elt}(he:0<e.sz)(n:NewAt h ρ (.cells e []) none pl id h1 ρ1):SimH w M ρ1 h1:=by
 refine S.newAny n (.newNil n S.len) (fun _ _=>rfl) (fun b q he=>by cases he) (fun e' rows' hh=>?_) (fun o' he=>by cases he) (by simp);cases hh;exact⟨he,by simp,by simp,by simp,.inl ⟨n.phys S.len,rfl⟩⟩
theorem Evo.reserve(k:Nat)(hl:ρ.length=h.length):Evo h.length h ρ w (h++aA k .res) (ρ++aA k none) w where
 os:=rfl
 tape:=rfl
 output:=rfl
 size:=zL _
 old _ _ _:=rfl
 fresh i b q hb:=by
  rw[aC] at hb;split at hb
  ·exact .inr ⟨i,q,hb⟩
  ·have:=zY hb;rw[aD] at this;cases this.2
 len:=by simp
 keep i C hi hC:=by
  have e1:(h++aA k HB.res)[i]? = h[i]? := zF hi;have e2:(ρ++aA k none)[i]? = ρ[i]? := zF (by omega);cases C with
  | cells e rows=>exact⟨rows,e1.trans hC,zL _,fun _=>e2⟩
  | obj o'=>exact⟨⟨o',e1.trans hC⟩,e2⟩
  | res=>trivial
theorem SimH.reserve(S:SimH w M ρ h)(k:Nat):SimH w M (ρ++aA k none) (h++aA k .res):=by
 have g:=Evo.reserve (w:=w) k S.len;have Bt:∀ (i:Nat) (C:HB),(h++aA k HB.res)[i]? = some C→(h[i]? = some C∧(ρ++aA k none)[i]? = ρ[i]?)∨(C = .res∧(ρ++aA k none)[i]? = some none):=by
  intro i C hi;have cY:=(zA.1 hi).1;simp at cY;rw[aC] at hi;split at hi
  ·exact .inl ⟨hi,zF (by rw[S.len];assumption)⟩
  ·have:=zY hi;rw[aD] at this;refine .inr ⟨this.2,?_⟩;rw[List.getElem?_append_right (by rw[S.len];omega),S.len];exact List.getElem?_replicate_of_lt (by omega)
 refine⟨by simp[S.len],fun i e rows hB=>?_,fun i o hB=>?_,fun i hB=>?_,fun i j b p q hi hj=>?_⟩
 ·rcases Bt i _ hB with⟨hB,hρ⟩ | ⟨he,_⟩
  ·obtain⟨q1,q2,q3,q4,q5⟩:=S.cells i e rows hB;refine⟨q1,q2,q3,q4,?_⟩;rcases q5 with⟨h5,h6⟩ | ⟨b,q,cs,t,h5,h6,h7,h8,h9,Ve⟩
   ·exact .inl ⟨hρ.trans h5,h6⟩
   ·refine .inr ⟨b,q,cs,t,hρ.trans h5,h6,h7,h8,h9,fun i r j x hi hj=>?_⟩;obtain⟨v,k1,k2,k3⟩:=Ve i r j x hi hj;exact⟨v,k1,k2,g.rep' k3⟩
  ·cases he
 ·rcases Bt i _ hB with⟨hB,hρ⟩ | ⟨he,_⟩
  ·obtain⟨b,q,q1,q2,q3,q4⟩:=S.obj i o hB;exact⟨b,q,hρ.trans q1,q2,q3,q4⟩
  ·cases he
 ·rcases Bt i _ hB with⟨hB,hρ⟩ | ⟨_,hρ⟩
  ·rw[hρ];exact S.res i hB
  ·exact hρ
 ·have aHy:∀ {i b p:Nat},(ρ++aA k none)[i]? = some (some (b,p))→ρ[i]? = some (some (b,p)):=by
   intro i b p hb;rw[aC] at hb;split at hb
   ·exact hb
   ·have:=zY hb;rw[aD] at this;cases this.2
  exact S.inj i j b p q (aHy hi) (aHy hj)
end
structure Differs(b:Nat)(w w':World):Prop where
 os:w'.os=w.os
 tape:w'.tape=w.tape
 output:w'.output=w.output
 size:w'.heap.size=w.heap.size
 other:∀ k,k≠b→w'.heap[k]? = w.heap[k]?
theorem Evo.put{id b p:Nat}{e:Elt}{rows rows':List (List A)}(hid:h[id]? = some (.cells e rows))(hρ:ρ[id]? = some (some (b,p)))(hw:Differs b w w')
  (gZ:rows.length≤rows'.length):Evo h.length h ρ w (h.set id (.cells e rows')) ρ w' where
 os:=hw.os
 tape:=hw.tape
 output:=hw.output
 size:=by rw[hw.size];exact zL _
 old k hk hn:=hw.other k fun he=>hn id p (he ▸ hρ)
 fresh i b' p' hb:=.inr ⟨i,p',hb⟩
 len:=by simp
 keep i B hi hB:=by
  have Kv:id<h.length:=(zA.1 hid).1
  by_cases he:i=id
  ·subst he;rw[hid] at hB;cases hB;exact⟨rows',by simp[Kv],gZ,fun _=>rfl⟩
  ·have h1:(h.set id (.cells e rows'))[i]? = some B:=by rw[zM (fun e=>he e.symm)];exact hB
   cases B with
   | cells e1 r1=>exact⟨r1,h1,zL _,fun _=>rfl⟩
   | obj o1=>exact⟨⟨o1,h1⟩,rfl⟩
   | res=>trivial
theorem SimH.put(S:SimH w M ρ h){id b p:Nat}{e:Elt}{rows rows':List (List A)}{cs:Array Value}{t:TypeId}(hid:h[id]? = some (.cells e rows))(hρ:ρ[id]? = some (some (b,p)))
  (hw:Differs b w w') (gZ:rows.length≤rows'.length) (Il:w'.heap[b]? = some (.cells cs t (0,0))) (hp:cs.size=p)
  (h2:rows'.length * e.bytes≤dL) (h3:rows'.length≤maxLen) (h4:∀ r∈rows',r.length=e.sz) (h5:rows'.length * e.sz≤p)
  (h6:∀ i r j x,rows'[i]? = some r→r[j]? = some x→∃ v,cs[i * e.sz+j]? = some v∧v.oneCell'=true∧RepA w M ρ h x v) :
  SimH w' M ρ (h.set id (.cells e rows')) where
 len:=by simp[S.len]
 cells i e1 r1 hB:=by
  have g:=Evo.put (rows':=rows') hid hρ hw gZ;rcases jV hB with⟨rfl,he⟩ | ⟨fM,hB⟩
  ·cases he;refine⟨(S.cells _ _ _ hid).1,h2,h3,h4,.inr ⟨b,p,cs,t,hρ,S.notM hρ,Il,hp,h5,fun i r j x hi hj=>?_⟩⟩;obtain⟨v,k1,k2,k3⟩:=h6 i r j x hi hj;exact⟨v,k1,k2,g.rep' k3⟩
  ·obtain⟨k1,k2,k3,k4,k5⟩:=S.cells i e1 r1 hB;refine⟨k1,k2,k3,k4,?_⟩;rcases k5 with k5 | ⟨b1,p1,cs1,t1,k5,k6,k7,k8,k9,k10⟩
   ·exact .inl k5
   ·have hb:b1≠b:=fun he=>fM (S.inj _ _ _ _ _ k5 (he ▸ hρ));refine .inr ⟨b1,p1,cs1,t1,k5,k6,(hw.other _ hb).trans k7,k8,k9,fun i r j x hi hj=>?_⟩;obtain⟨v,q1,q2,q3⟩:=k10 i r j x hi hj;exact⟨v,q1,q2,g.rep' q3⟩
 obj i o hB:=by
  rcases jV hB with⟨rfl,he⟩ | ⟨fM,hB⟩
  ·cases he
  ·obtain⟨b1,p1,k1,k2,k3,k4⟩:=S.obj i o hB;have hb:b1≠b:=fun he=>fM (S.inj _ _ _ _ _ k1 (he ▸ hρ));exact⟨b1,p1,k1,k2,(hw.other _ hb).trans k3,k4⟩
 res i hB:=by
  rcases jV hB with⟨_,he⟩ | ⟨_,hB⟩
  ·cases he
  ·exact S.res i hB
 inj:=S.inj
theorem Evo.putObj{id b p:Nat}{o o':Obj}(hid:h[id]? = some (.obj o))(hρ:ρ[id]? = some (some (b,p)))(hw:Differs b w w') :
  Evo h.length h ρ w (h.set id (.obj o')) ρ w' where
 os:=hw.os
 tape:=hw.tape
 output:=hw.output
 size:=by rw[hw.size];exact zL _
 old k hk hn:=hw.other k fun he=>hn id p (he ▸ hρ)
 fresh i b' p' hb:=.inr ⟨i,p',hb⟩
 len:=by simp
 keep i B hi hB:=by
  have Kv:id<h.length:=(zA.1 hid).1
  by_cases he:i=id
  ·subst he;rw[hid] at hB;cases hB;exact⟨⟨o',by simp[Kv]⟩,rfl⟩
  ·have h1:(h.set id (.obj o'))[i]? = some B:=by rw[zM (fun e=>he e.symm)];exact hB
   cases B with
   | cells e1 r1=>exact⟨r1,h1,zL _,fun _=>rfl⟩
   | obj o1=>exact⟨⟨o1,h1⟩,rfl⟩
   | res=>trivial
theorem SimH.putObj(S:SimH w M ρ h){id b p:Nat}{o o':Obj}(hid:h[id]? = some (.obj o))(hρ:ρ[id]? = some (some (b,p)))
  (hw:Differs b w w') (Il:w'.heap[b]? = some o') (ho:∀ c t f,o' ≠ .cells c t f):SimH w' M ρ (h.set id (.obj o')) where
 len:=by simp[S.len]
 cells i e1 r1 hB:=by
  have g:=Evo.putObj (o':=o') hid hρ hw;rcases jV hB with⟨rfl,he⟩ | ⟨fM,hB⟩
  ·cases he
  ·obtain⟨k1,k2,k3,k4,k5⟩:=S.cells i e1 r1 hB;refine⟨k1,k2,k3,k4,?_⟩;rcases k5 with k5 | ⟨b1,p1,cs1,t1,k5,k6,k7,k8,k9,k10⟩
   ·exact .inl k5
   ·have hb:b1≠b:=fun he=>fM (S.inj _ _ _ _ _ k5 (he ▸ hρ));refine .inr ⟨b1,p1,cs1,t1,k5,k6,(hw.other _ hb).trans k7,k8,k9,fun i r j x hi hj=>?_⟩;obtain⟨v,q1,q2,q3⟩:=k10 i r j x hi hj;exact⟨v,q1,q2,g.rep' q3⟩
 obj i o1 hB:=by
  rcases jV hB with⟨rfl,he⟩ | ⟨fM,hB⟩
  ·cases he;exact⟨b,p,hρ,S.notM hρ,Il,ho⟩
  ·obtain⟨b1,p1,k1,k2,k3,k4⟩:=S.obj i o1 hB;have hb:b1≠b:=fun he=>fM (S.inj _ _ _ _ _ k1 (he ▸ hρ));exact⟨b1,p1,k1,k2,(hw.other _ hb).trans k3,k4⟩
 res i hB:=by
  rcases jV hB with⟨_,he⟩ | ⟨_,hB⟩
  ·cases he
  ·exact S.res i hB
 inj:=S.inj
theorem Evo.grow{id:Nat}{e:Elt}{rows rows':List (List A)}(o:Obj)(p:Nat)(hid:h[id]? = some (.cells e rows))(cY:rows.length<rows'.length) :
  Evo h.length h ρ w (h.set id (.cells e rows')) (ρ.set id (some (w.heap.size,p))) (w.alloc o) where
 os:=rfl
 tape:=rfl
 output:=rfl
 size:=Fh w _
 old _ hb _:=lE w o hb
 fresh i b q hb:=by
  rcases jV hb with⟨_,hb⟩ | ⟨_,hb⟩
  ·cases hb;exact .inl (zL _)
  ·exact .inr ⟨i,q,hb⟩
 len:=by simp
 keep i B hi hB:=by
  have Kv:id<h.length:=(zA.1 hid).1
  by_cases he:i=id
  ·subst he;rw[hid] at hB;cases hB;exact⟨rows',by simp[Kv],Nat.le_of_lt cY,fun hr=>by omega⟩
  ·have h1:(h.set id (.cells e rows'))[i]? = some B:=by rw[zM (fun e=>he e.symm)];exact hB
   have h2:(ρ.set id (some (w.heap.size,p)))[i]? = ρ[i]? := zM (fun e=>he e.symm);cases B with
   | cells e1 r1=>exact⟨r1,h1,zL _,fun _=>h2⟩
   | obj o1=>exact⟨⟨o1,h1⟩,h2⟩
   | res=>trivial
theorem SimH.grow(S:SimH w M ρ h)(bnd:∀ b,M b→b<w.heap.size){id:Nat}{e:Elt}{rows rows':List (List A)}{cs:Array Value}(t:TypeId)(hid:h[id]? = some (.cells e rows))
  (cY:rows.length<rows'.length)
  (h2:rows'.length * e.bytes≤dL) (h3:rows'.length≤maxLen) (h4:∀ r∈rows',r.length=e.sz) (h5:rows'.length * e.sz≤cs.size)
  (h6:∀ i r j x,rows'[i]? = some r→r[j]? = some x→∃ v,cs[i * e.sz+j]? = some v∧v.oneCell'=true∧RepA w M ρ h x v) :
  SimH (w.alloc (.cells cs t)) M (ρ.set id (some (w.heap.size,cs.size))) (h.set id (.cells e rows')) where
 len:=by simp[S.len]
 cells i e1 r1 hB:=by
  have g:=Evo.grow (w:=w) (ρ:=ρ) (rows':=rows') (.cells cs t) cs.size hid cY;have Kv:id<h.length:=(zA.1 hid).1;rcases jV hB with⟨rfl,he⟩ | ⟨fM,hB⟩
  ·cases he;refine⟨(S.cells _ _ _ hid).1,h2,h3,h4,.inr ⟨w.heap.size,cs.size,cs,t,by rw[← S.len] at Kv;simp[Kv],fun hM=>absurd (bnd _ hM) (zv _),vZ w _,rfl,h5,fun i r j x hi hj=>?_⟩⟩;obtain⟨v,k1,k2,k3⟩:=h6 i r j x hi hj;exact⟨v,k1,k2,g.rep' k3⟩
  ·have hρ:(ρ.set id (some (w.heap.size,cs.size)))[i]? = ρ[i]? := zM (fun e=>fM e.symm);obtain⟨k1,k2,k3,k4,k5⟩:=S.cells i e1 r1 hB;refine⟨k1,k2,k3,k4,?_⟩;rcases k5 with⟨k5,k6⟩ | ⟨b1,p1,cs1,t1,k5,k6,k7,k8,k9,k10⟩
   ·exact .inl ⟨hρ.trans k5,k6⟩
   ·refine .inr ⟨b1,p1,cs1,t1,hρ.trans k5,k6,(lE w _ (S.lt k5)).trans k7,k8,k9,fun i r j x hi hj=>?_⟩;obtain⟨v,q1,q2,q3⟩:=k10 i r j x hi hj;exact⟨v,q1,q2,g.rep' q3⟩
 obj i o hB:=by
  rcases jV hB with⟨rfl,he⟩ | ⟨fM,hB⟩
  ·cases he
  ·have hρ:(ρ.set id (some (w.heap.size,cs.size)))[i]? = ρ[i]? := zM (fun e=>fM e.symm);obtain⟨b1,p1,k1,k2,k3,k4⟩:=S.obj i o hB;exact⟨b1,p1,hρ.trans k1,k2,(lE w _ (S.lt k1)).trans k3,k4⟩
 res i hB:=by
  rcases jV hB with⟨_,he⟩ | ⟨fM,hB⟩
  ·cases he
  ·rw[zM (fun e=>fM e.symm)];exact S.res i hB
 inj i j b q q' hi hj:=by
  rcases jV hi with⟨ei,hi⟩ | ⟨ei,hi⟩<;>rcases jV hj with⟨ej,hj⟩ | ⟨ej,hj⟩
  ·omega
  ·cases hi;exact absurd (S.lt hj) (zv _)
  ·cases hj;exact absurd (S.lt hi) (zv _)
  ·exact S.inj i j b q q' hi hj
end
section
def A.cells:A→List A
 | .agg l=>l
 | x=>[x]
def A.one:A→Bool
 | .any | .agg _ | .tup _=>false
 | _=>true
def A.okCells:A→Bool
 | .agg _=>true
 | x=>x.one
abbrev A.sc(v:Value):A:=.d (.sc v)
abbrev A.int(n:Int):A:=.d (.sc (.int .i64 n))
abbrev A.bool(b:Bool):A:=.d (.sc (.bool b))
abbrev A.str(s:ByteArray):A:=.d (.sc (.string s))
def aA6(b:Bool)(l u m:Int)(e:Elt)(rows:List (List D)):A:=if b=true∧l<u∧u=m then .fd e ((rows.drop l.toNat).take (u-l).toNat) else .d (.sl e ((rows.drop l.toNat).take (u-l).toNat))
inductive XO where
 | t (n:Nat)
 | k (a:A)
 | f (f:FuncId)
def ev(s:Nat→A):XO→A
 | .t n=>s n
 | .k a=>a
 | .f f=>.fn f []
def kOf:Value→A
 | .slice none 0 0=>.nil
 | v=>.sc v
def kOk:Value→Bool
 | .int k n=>decide (k.min≤n)&&decide (n≤k.max)
 | .string s=>decide (s.size≤maxLen)
 | .agg _ | .tuple _=>false
 | _=>true
def iY:Nat:=1000000
def nY(vs:Array Value)(n:Nat):Value:=if n<iY then vs.getD n undef else .pointer (some ⟨n-iY,0,none⟩)
def cO:Operand→Option XO
 | .tmp t=>if t<iY then some (.t t) else none
 | .const (.agg cs)=>if cs.toList.all kOk then some (.k (.agg (cs.toList.map kOf))) else none
 | .const v=>if kOk v then some (.k (kOf v)) else none
 | .func f=>some (.f f)
 | .global g=>some (.t (iY+g))
inductive EqK where
 | i | s | b
inductive XOp where
 | mov (x:XO)
 | pick (c a b:XO)
 | alloc (e:Elt) (zero:List A)
 | box (e:Elt) (x:XO)
 | build (zero:List A) (parts:List (Nat × Nat × XO))
 | bslice (e:Elt) (zero:List A) (len:Nat) (parts:List (Nat × XO))
 | load (n:Nat) (agg:Bool) (x:XO)
 | loadp (n:Nat) (agg:Bool) (x:XO)
 | store (n:Nat) (x y:XO)
 | faddr (off:Nat) (x:XO)
 | field (off n:Nat) (agg:Bool) (x:XO)
 | iaddr (e:Elt) (x i:XO)
 | aaddr (e:Elt) (len:Nat) (x i:XO)
 | aidx (len n:Nat) (agg:Bool) (x i:XO)
 | sidx (x i:XO)
 | nilck (x:XO)
 | bin (op:BinOp) (x y:XO)
 | eqb (neg:Bool) (x y:XO)
 | eqs (neg:Bool) (n:Nat) (ks:List (Nat × EqK)) (x y:XO)
 | eqnil (neg:Bool) (x:XO)
 | un (op:UnOp) (x:XO)
 | conv (k:IntKind) (x:XO)
 | len (str:Bool) (x:XO)
 | slice (e:Elt) (x:XO) (lo hi mx:Option XO)
 | sslice (x:XO) (lo hi:Option XO)
 | append (e:Elt) (x y:XO)
 | copy (e:Elt) (x y:XO)
 | make (e:Elt) (zero:List A) (n c:XO)
 | extract (i:Nat) (x:XO)
 | mkfn (f:FuncId) (caps:List XO)
 | call (f:XO) (args:List XO)
 | calle (f:XO) (args:List XO)
 | callr (f:XO) (args:List XO)
 | calln (f:XO) (args:List XO)
 | minmax (isMax:Bool) (args:List XO)
 | cap (x:XO)
 | s2r (e:Elt) (x:XO)
 | b2s (x:XO)
 | i2s (x:XO)
 | iter (x:XO)
 | next (x:XO)
def XOp.plain:XOp→XOp
 | .calle f args=>.call f args
 | .callr f args=>.call f args
 | .calln f args=>.call f args
 | .loadp n g x=>.load n g x
 | x=>x
def nM(op:BinOp)(k:IntKind)(x y:Int):Option Value :=
 match op with
 | .add=>some (.int k (k.wrap (x+y)))
 | .sub=>some (.int k (k.wrap (x-y)))
 | .mul=>some (.int k (k.wrap (x * y)))
 | .quo=>if y=0 then none else some (.int k (k.wrap (x.tdiv y)))
 | .rem=>if y=0 then none else some (.int k (x.tmod y))
 | .and=>some (.int k (k.wrap (BitVec.ofInt k.bits x &&& BitVec.ofInt k.bits y).toNat))
 | .or=>some (.int k (k.wrap (BitVec.ofInt k.bits x ||| BitVec.ofInt k.bits y).toNat))
 | .xor=>some (.int k (k.wrap (BitVec.ofInt k.bits x ^^^ BitVec.ofInt k.bits y).toNat))
 | .andNot=>some (.int k (k.wrap (BitVec.ofInt k.bits x &&& ~~~(BitVec.ofInt k.bits y)).toNat))
 | .eql=>some (.bool (x == y))
 | .neq=>some (.bool (x != y))
 | .lss=>some (.bool (decide (x<y)))
 | .leq=>some (.bool (decide (x≤y)))
 | .gtr=>some (.bool (decide (y<x)))
 | .geq=>some (.bool (decide (y≤x)))
 | _=>none
def Lb(op:BinOp)(x y:ByteArray):Option Value :=
 match op with
 | .add=>if x.size+y.size≤maxLen then some (.string (x++y)) else none
 | .eql=>some (.bool (decide (x=y)))
 | .neq=>some (.bool (!decide (x=y)))
 | .lss=>some (.bool (Op.bytesLess x.toList y.toList))
 | _=>none
def jM(op:BinOp)(x y:Value):Option Value :=
 match op,x,y with
 | .shl,.int k a,.int _ b=>if b<0 then none else some (.int k (k.wrap (a * 2 ^ (min b.toNat k.bits))))
 | .shr,.int k a,.int _ b=>if b<0 then none else some (.int k (a.fdiv (2 ^ (min b.toNat k.bits))))
 | op,.int k a,.int k' b=>if k=k' then nM op k a b else none
 | op,.string a,.string b=>Lb op a b
 | _,_,_=>none
def Xp(op:UnOp)(x:Value):Option Value :=
 match op,x with
 | .neg,.int k n=>some (.int k (k.wrap (0-n)))
 | .not,.bool b=>some (.bool (!b))
 | _,_=>none
def Oo:EqK→A→A→Option Bool
 | .i,.d (.sc (.int k a)),.d (.sc (.int k' b))=>if k=k' then some (a == b) else none
 | .s,.d (.sc (.string a)),.d (.sc (.string b))=>some (decide (a=b))
 | .b,.d (.sc (.bool a)),.d (.sc (.bool b))=>some (a == b)
 | _,_,_=>none
def mJ:List (Nat × EqK)→List A→List A→Option Bool
 | [],_,_=>some true
 | (j,k)::ks,xs,ys=>match Oo k (xs.getD j .any) (ys.getD j .any),mJ ks xs ys with
  | some b,some c=>some (b&&c)
  | _,_=>none
def dS(ev:XO→A)(x:Option XO)(dflt:Nat):Option Int :=
 match x with
 | none=>some (dflt:Int)
 | some y=>match ev y with
  | .d (.sc (.int _ n))=>some n
  | _=>none
def eX(e:Elt)(h:cM):A→Option (List (List A))
 | .nil=>some []
 | .d (.sl e' rows)=>if e'.sz=e.sz then some (rows.map fun r=>r.map .d) else none
 | .nn e' rows=>if e'.sz=e.sz then some (rows.map fun r=>r.map .d) else none
 | .fd e' rows=>if e'.sz=e.sz then some (rows.map fun r=>r.map .d) else none
 | .ref id N off len _=>match h[id]? with
  | some (.cells e' rows)=>if e'.sz=e.sz∧N=rows.length then some ((rows.drop off).take len) else none
  | _=>none
 | .d (.sc (.string s))=>if e.sz=1 then some (s.data.toList.map fun b=>[.sc (.int .u8 b.toNat)]) else none
 | _=>none
def kO(s:ByteArray):Nat→Nat→List Nat
 | 0,_=>[]
 | b+1,i=>if i<s.size then(Utf8.decode s i).1::kO s b (i+(Utf8.decode s i).2) else []
def eI(s:ByteArray):List Nat:=kO s s.size 0
def nE(n:Nat):List D:=[.sc (.int .i32 n)]
def Ge:List A→Option Int
 | [.d (.sc (.int .u8 n))]=>some n
 | _=>none
def gV(e:Elt)(h:cM):A→Option (List (List A))
 | .d (.sc _)=>none
 | x=>eX e h x
def Ir(s:ByteArray)(pos id:Nat)(h:cM)(K:A→cM→Prop):Prop :=
 if pos<s.size then K (.tup [.bool true,.int pos,.sc (.int .i32 (Utf8.decode s pos).1)]) (h.set id (.obj (.stringIter s (pos+(Utf8.decode s pos).2))))
 else K (.tup [.bool false]) h
def eB(isMax:Bool)(x y:Int):Int:=if isMax then(if y > x then y else x) else(if y<x then y else x)
def dI(n:Nat)(agg:Bool)(cs:List A)(K:A→Prop):Prop :=
 if agg then n≤cs.length∧K (.agg (cs.take n)) else match cs with
  | c::_=>K c
  | []=>False
def splice(l:List A)(off:Nat)(new:List A):List A:=l.take off++new++l.drop (off+new.length)
def yQ(cs:List A):List (Nat × Nat × A)→(List A→Prop)→Prop
 | [],K=>K cs
 | (off,n,x)::r,K=>x.okCells=true∧x.cells.length=n∧off+n≤cs.length∧yQ (splice cs off x.cells) r K
def wA(n:Nat)(rows:List (List A)):List (Nat × A)→(List (List A)→Prop)→Prop
 | [],K=>K rows
 | (i,x)::r,K=>x.okCells=true∧x.cells.length=n∧i<rows.length∧wA n (rows.set i x.cells) r K
def A.touch:A→Option Nat
 | .ptr id _ _ _ | .ref id _ _ _ _=>some id
 | _=>none
structure Fns where
 pure:FuncId→List A→A→Prop
 call:FuncId→List A→cM→A→cM→Prop
 round:Nat→List A→cM→A→cM→Prop
def gP(pl:Option Nat)(h:cM)(B:HB)(K:Nat→cM→Prop):Prop :=
 match pl with
 | none=>K h.length (h++[B])
 | some a=>h[a]? = some .res∧K a (h.set a B)
def dC(F:Fns)(pl:Option Nat):XOp→(XO→A)→cM→(A→cM→Prop)→Prop
 | .mov x,ev,h,K=>K (ev x) h
 | .pick c a b,ev,h,K=>match ev c with
  | .d (.sc (.bool t))=>if t=true then K (ev a) h else K (ev b) h
  | _=>False
 | .alloc e zero,_,h,K=>gP pl h (.cells e [zero]) fun id h1=>K (.ptr id 1 0 0) h1
 | .box e x,ev,h,K=>(ev x).okCells=true∧(ev x).cells.length=e.sz∧gP pl h (.cells e [(ev x).cells]) fun id h1=>K (.ptr id 1 0 0) h1
 | .build zero parts,ev,h,K=>yQ zero (parts.map fun(o,n,x)=>(o,n,ev x)) fun cs=>K (.agg cs) h
 | .bslice e zero len parts,ev,h,K =>
  wA e.sz (aA len zero) (parts.map fun(i,x)=>(i,ev x)) fun rows=>gP pl h (.cells e rows) fun id h1=>K (.ref id len 0 len true) h1
 | .load n agg x,ev,h,K=>match ev x with
  | .ptr id N i off=>match h[id]? with
   | some (.cells _ rows)=>N=rows.length∧match rows[i]? with
    | some r=>dI n agg (r.drop off) fun a=>K a h
    | none=>False
   | _=>False
  | .iptr cs=>dI n agg (cs.map .d) fun a=>K a h
  | _=>False
 | .loadp n agg x,ev,h,K=>match ev x with
  | .ptr id N i off=>match h[id]? with
   | some (.cells _ rows)=>N=rows.length∧match rows[i]? with
    | some r=>dI n agg (r.drop off) fun a=>a.touch=none∧K a h
    | none=>False
   | _=>False
  | .iptr cs=>dI n agg (cs.map .d) fun a=>a.touch=none∧K a h
  | _=>False
 | .store n x y,ev,h,K=>match ev x with
  | .ptr id N i off=>match h[id]? with
   | some (.cells e rows)=>N=rows.length∧(ev y).okCells=true∧(ev y).cells.length=n∧match rows[i]? with
    | some r=>off+n≤r.length∧K .any (h.set id (.cells e (rows.set i (splice r off (ev y).cells))))
    | none=>False
   | _=>False
  | _=>False
 | .faddr off x,ev,h,K=>match ev x with
  | .ptr id N i o=>match h[id]? with
   | some (.cells _ rows)=>N=rows.length∧K (.ptr id N i (o+off)) h
   | _=>False
  | .iptr cs=>K (.iptr (cs.drop off)) h
  | _=>False
 | .field off n agg x,ev,h,K=>match ev x with
  | .agg cs=>dI n agg (cs.drop off) fun a=>K a h
  | _=>False
 | .iaddr e x i,ev,h,K=>match ev x,ev i with
  | .d (.sl e' rows),.d (.sc (.int _ n))=>e'=e∧0≤n∧n<rows.length∧K (.iptr (rows.getD n.toNat [])) h
  | .nn e' rows,.d (.sc (.int _ n))=>e'=e∧0≤n∧n<rows.length∧K (.iptr (rows.getD n.toNat [])) h
  | .fd e' rows,.d (.sc (.int _ n))=>e'=e∧0≤n∧n<rows.length∧K (.iptr (rows.getD n.toNat [])) h
  | .ref id N off len _,.d (.sc (.int _ n))=>match h[id]? with
   | some (.cells e' rows)=>e'=e∧N=rows.length∧0≤n∧n<len∧K (.ptr id N (off+n.toNat) 0) h
   | _=>False
  | _,_=>False
 | .aaddr e len x i,ev,h,K=>match ev x,ev i with
  | .ptr id N i' off,.d (.sc (.int _ n))=>match h[id]? with
   | some (.cells _ rows)=>N=rows.length∧0≤n∧n<len∧K (.ptr id N i' (off+n.toNat * e.sz)) h
   | _=>False
  | .iptr cs,.d (.sc (.int _ n))=>0≤n∧n<len∧K (.iptr (cs.drop (n.toNat * e.sz))) h
  | _,_=>False
 | .aidx len n agg x i,ev,h,K=>match ev x,ev i with
  | .agg cs,.d (.sc (.int _ m))=>0≤m∧m<len∧dI n agg (cs.drop (m.toNat * n)) fun a=>K a h
  | _,_=>False
 | .sidx x i,ev,h,K=>match ev x,ev i with
  | .d (.sc (.string s)),.d (.sc (.int _ n))=>0≤n∧n<s.size∧K (.sc (.int .u8 (s.data.toList.getD n.toNat 0).toNat)) h
  | _,_=>False
 | .nilck x,ev,h,K=>match ev x with
  | .ptr id N i off=>match h[id]? with
   | some (.cells _ rows)=>N=rows.length∧K (.ptr id N i off) h
   | _=>False
  | .iptr cs=>K (.iptr cs) h
  | .fn f caps=>K (.fn f caps) h
  | _=>False
 | .bin op x y,ev,h,K=>match ev x,ev y with
  | .d (.sc a),.d (.sc b)=>match jM op a b with
   | some v=>K (.sc v) h
   | none=>False
  | _,_=>False
 | .eqb neg x y,ev,h,K=>match ev x,ev y with
  | .d (.sc (.bool a)),.d (.sc (.bool b))=>K (.bool (if neg then a != b else a == b)) h
  | _,_=>False
 | .eqs neg n ks x y,ev,h,K=>match ev x,ev y with
  | .agg xs,.agg ys=>xs.length=n∧ys.length=n∧match mJ ks xs ys with
   | some b=>K (.bool (if neg then !b else b)) h
   | none=>False
  | _,_=>False
 | .eqnil neg x,ev,h,K=>match ev x with
  | .nil=>K (.bool (!neg)) h
  | .nn _ _=>K (.bool neg) h
  | .d (.sl _ rows)=>rows≠[]∧K (.bool neg) h
  | .ref id N _ _ _=>match h[id]? with
   | some (.cells _ rows)=>N=rows.length∧0<N∧K (.bool neg) h
   | _=>False
  | _=>False
 | .un op x,ev,h,K=>match ev x with
  | .d (.sc a)=>match Xp op a with
   | some v=>K (.sc v) h
   | none=>False
  | _=>False
 | .conv k x,ev,h,K=>match ev x with
  | .d (.sc (.int _ n))=>K (.sc (.int k (k.wrap n))) h
  | _=>False
 | .len str x,ev,h,K=>match ev x with
  | .nil=>str=false∧K (.int 0) h
  | .d (.sl _ rows)=>str=false∧K (.int rows.length) h
  | .nn _ rows=>str=false∧K (.int rows.length) h
  | .fd _ rows=>str=false∧K (.int rows.length) h
  | .ref id N _ len _=>match h[id]? with
   | some (.cells _ rows)=>str=false∧N=rows.length∧K (.int len) h
   | _=>False
  | .d (.sc (.string s))=>str=true∧K (.int s.size) h
  | _=>False
 | .slice e x lo hi mx,ev,h,K=>match ev x with
  | .nil=>dS ev lo 0=some 0∧dS ev hi 0=some 0∧dS ev mx 0=some 0∧K .nil h
  | .d (.sl e' rows)=>match dS ev lo 0,dS ev hi rows.length,dS ev mx rows.length with
   | some l,some u,some m=>e'.sz=e.sz∧0≤l∧l≤u∧u≤m∧m≤rows.length∧K (aA6 mx.isSome l u m e' rows) h
   | _,_,_=>False
  | .nn e' rows=>match dS ev lo 0,dS ev hi rows.length,dS ev mx rows.length with
   | some l,some u,some m=>e'.sz=e.sz∧0≤l∧l≤u∧u≤m∧m≤rows.length∧K (aA6 mx.isSome l u m e' rows) h
   | _,_,_=>False
  | .ref id N off len full=>match h[id]? with
   | some (.cells e' rows)=>match dS ev lo 0,dS ev hi len,dS ev mx len with
    | some l,some u,some m=>e'.sz=e.sz∧N=rows.length∧0≤l∧l≤u∧u≤m∧m≤len∧K (.ref id N (off+l.toNat) (u-l).toNat (full&&mx.isNone)) h
    | _,_,_=>False
   | _=>False
  | _=>False
 | .sslice x lo hi,ev,h,K=>match ev x with
  | .d (.sc (.string s))=>match dS ev lo 0,dS ev hi s.size with
   | some l,some u=>0≤l∧l≤u∧u≤s.size∧K (.str (s.extract l.toNat u.toNat)) h
   | _,_=>False
  | _=>False
 | .append e x y,ev,h,K=>match eX e h (ev y) with
  | some new=>match ev x with
   | .nil=>if new=[] then K .nil h else new.length * e.bytes≤dL∧new.length≤maxLen∧gP pl h (.cells e new) fun id h1=>K (.ref id new.length 0 new.length true) h1
   | .ref id N off len full=>match h[id]? with
    | some (.cells e' rows)=>e'=e∧N=rows.length∧off=0∧(len+new.length) * e.bytes≤dL∧len+new.length≤maxLen ∧
     if len=N then K (.ref id (N+new.length) 0 (N+new.length) true) (h.set id (.cells e (rows++new)))
     else full=true∧len+new.length≤N∧K (.ref id N 0 (len+new.length) true) (h.set id (.cells e (rows.take len++new++rows.drop (len+new.length))))
    | _=>False
   | .fd e' rows=>e'.sz=e.sz∧new≠[]∧(rows.length+new.length) * e.bytes≤dL∧rows.length+new.length≤maxLen ∧
     gP pl h (.cells e ((rows.map fun r=>r.map .d)++new)) fun id h1=>K (.ref id (rows.length+new.length) 0 (rows.length+new.length) true) h1
   | _=>False
  | none=>False
 | .copy e x y,ev,h,K=>match eX e h (ev y) with
  | some new=>match ev x with
   | .ref id N off len _=>match h[id]? with
    | some (.cells e' rows)=>e'=e∧N=rows.length ∧
     K (.int (min new.length len:Nat)) (h.set id (.cells e (rows.take off++new.take (min new.length len)++rows.drop (off+min new.length len))))
    | _=>False
   | _=>False
  | none=>False
 | .make e zero n c,ev,h,K=>match ev n,ev c with
  | .d (.sc (.int .i64 n)),.d (.sc (.int .i64 c))=>0≤n∧n≤c∧c≤9223372036854775807∧c * e.bytes≤dL∧gP pl h (.cells e (aA n.toNat zero)) fun id h1=>K (.ref id n.toNat 0 n.toNat true) h1
  | _,_=>False
 | .extract i x,ev,h,K=>match ev x with
  | .tup l=>match l[i]? with
   | some a=>K a h
   | none=>False
  | _=>False
 | .mkfn f caps,ev,h,K=>K (.fn f (caps.map ev)) h
 | .call f args,ev,h,K=>match ev f with
  | .fn g caps=>A.underL 0 (args.map ev++caps)=true∧(∃ r,F.pure g (args.map ev++caps) r∧K r h)
  | _=>False
 | .calle f args,ev,h,K=>match ev f with
  | .fn g caps=>∃ r h',F.call g (args.map ev++caps) h r h'∧K r h'
  | .yld id=>∃ r h',F.round id (args.map ev) h r h'∧K r h'
  | _=>False
 | .callr f args,ev,h,K=>match ev f with
  | .fn g caps=>∃ r t,F.call g (args.map ev++caps) h r (h++t)∧K r (h++t)
  | _=>False
 | .calln f args,ev,h,K=>match ev f with
  | .fn g caps=>(∀ x∈args,∀ id,(ev x).touch=some id→∃ e rows,h[id]? = some (.cells e rows)) ∧
    ∃ r,(∀ h':cM,(∀ x∈args,∀ id,(ev x).touch=some id→h'[id]? = h[id]?)→F.call g (args.map ev++caps) h' r h')∧K r h
  | _=>False
 | .minmax isMax args,ev,h,K=>match args with
  | [x,y]=>match ev x,ev y with
   | .d (.sc (.int k a)),.d (.sc (.int k' b))=>k=k'∧K (.sc (.int k (eB isMax a b))) h
   | _,_=>False
  | [x,y,z]=>match ev x,ev y,ev z with
   | .d (.sc (.int k a)),.d (.sc (.int k' b)),.d (.sc (.int k'' c))=>k=k'∧k=k''∧K (.sc (.int k (eB isMax (eB isMax a b) c))) h
   | _,_,_=>False
  | _=>False
 | .cap x,ev,h,K=>match ev x with
  | .nil=>K (.int 0) h
  | _=>False
 | .s2r e x,ev,h,K=>match ev x with
  | .d (.sc (.string s))=>(eI s).length * e.bytes≤dL∧K (.d (.sl e ((eI s).map nE))) h
  | _=>False
 | .b2s x,ev,h,K=>match gV ⟨1,1⟩ h (ev x) with
  | some rows=>match rows.mapM Ge with
   | some ns=>ns.length≤maxLen∧K (.str (strOfNums ns)) h
   | none=>False
  | none=>False
 | .i2s x,ev,h,K=>match ev x with
  | .d (.sc (.int _ n))=>K (.str (Utf8.encode n)) h
  | _=>False
 | .iter x,ev,h,K=>match ev x with
  | .d (.sc (.string s))=>gP pl h (.obj (.stringIter s 0)) fun id h1=>K (.ptr id 0 0 0) h1
  | _=>False
 | .next x,ev,h,K=>match ev x with
  | .ptr id 0 0 0=>match h[id]? with
   | some (.obj (.stringIter s pos))=>s.size≤maxLen∧Ir s pos id h K
   | _=>False
  | _=>False
def elt? (P:Program)(t:TypeId):Option Elt:=(P.info? t).map fun i=>⟨i.size,i.bytes⟩
def sG(P:Program)(t:TypeId):Bool :=
 match P.underlying t with
 | some (.struct _) | some (.array _ _)=>true
 | _=>false
def zeroCells? (P:Program)(t:TypeId):Option (List A) :=
 match P.info? t with
 | some i=>match i.zero with
  | some z=>if z.cells.size=i.size∧z.cells.toList.all kOk=true then some (z.cells.toList.map kOf) else none
  | none=>none
 | none=>none
def xI(P:Program)(t:TypeId):Bool:=(P.underlying t).isSome&&(P.info? t).isSome
def vO(e:Elt):Bool:=decide (0<e.sz)&&decide (e.bytes≤dL)
def fieldsOf(P:Program)(t:TypeId):Option (List (Nat × Nat)) :=
 match P.underlying t with
 | some (.struct fs)=>fs.toList.mapM fun f=>(P.info? f.type).map fun i=>(f.offset,i.size)
 | some (.array n et)=>(P.info? et).map fun i=>(List.range n).map fun j=>(j * i.size,i.size)
 | _=>none
end
end Go.Proofs.YtlllnjhgjijnkaaGreatDoor.Nx

import Derived.Test.YtlllnjhgjijnkaaDoorNxI0
import Derived.Test.YtlllnjhgjijnkaaDoorNxE19
import Derived.Test.YtlllnjhgjijnkaaDoorNxI6
set_option linter.unusedSimpArgs false
set_option linter.unusedVariables false
set_option linter.unnecessarySimpa false
open List renaming getElem?_eq_getElem → zB, getD_eq_getElem?_getD → zC, getElem?_map → zK, map_cons → zU, mem_cons_self → zW, mem_cons_of_mem → zZ, length_cons → za, drop_eq_getElem_cons → zd, getElem?_range → zj, getElem?_eq_none → zk
namespace Go.Proofs.YtlllnjhgjijnkaaDoor.Nx
open Go
structure Stp where
 time:Int
 chs:List Cg
 deriving DecidableEq
structure Tl where
 first:Int
 began:Int
 base:Vw
 steps:List Stp
 deriving DecidableEq
def maxT:Int:=1099511627776
def zeroT:Tl:=⟨0,0,zeroV,[]⟩
def newT (v:Vw) (n:Int):Tl:=if viewC v≠0∨n<0∨maxT<n then zeroT else ⟨0,n,v,[]⟩
def stepsV:Vw→List Stp→List Vw
 | _,[]=>[]
 | v,s::l=>if (applyV v s.chs).2.2=0 then (applyV v s.chs).1::stepsV (applyV v s.chs).1 l else []
def chkS:Int→Vw→List Stp→Int
 | _,_,[]=>0
 | last,v,s::l=>if s.time<last then 10 else if maxT<s.time then 2 else if (applyV v s.chs).2.2≠0 then (applyV v s.chs).2.2 else chkS s.time (applyV v s.chs).1 l
def chkT (t:Tl):Int:=if t.first<0∨999999999<t.first∨t.began<0∨maxT<t.began then 2 else if viewC t.base≠0 then viewC t.base else if 200<t.steps.length then 5 else chkS t.began t.base t.steps
def finV (v:Vw) (l:List Stp):Vw:=(stepsV v l).getLastD v
def finN (n:Int) (l:List Stp):Int:=(l.map (·.time)).getLastD n
def dropT (t:Tl):Tl:=⟨t.first+1,(t.steps.map (·.time)).headD 0,(stepsV t.base t.steps).headD t.base,t.steps.drop 1⟩
def addT (t:Tl) (v:Vw) (n:Int):Tl × Int :=
 if chkT t≠0 then (zeroT,chkT t) else if viewC v≠0 then (zeroT,viewC v) else if n<0∨maxT<n then (zeroT,2) else if n<finN t.began t.steps then (zeroT,10)
 else if finV t.base t.steps=v then (t,0)
 else if 200<(t.steps++[(⟨n,diffV (finV t.base t.steps) v⟩:Stp)]).length then (dropT { t with steps:=t.steps++[⟨n,diffV (finV t.base t.steps) v⟩] },0)
 else ({ t with steps:=t.steps++[⟨n,diffV (finV t.base t.steps) v⟩] },0)
def lastT (t:Tl):Int:=t.first+t.steps.length
def atT (t:Tl) (n:Int):Vw × Int :=
 if chkT t≠0 then (zeroV,chkT t) else if t.first≤n∧n-t.first≤((stepsV t.base t.steps).length:Int) then ((t.base::stepsV t.base t.steps).getD (n-t.first).toNat zeroV,0) else (zeroV,2)
def whenT (t:Tl) (n:Int):Int × Int :=
 if chkT t≠0 then (0,chkT t) else if n<t.began then (0,2) else (t.first+((t.steps.filter fun s=>decide (s.time≤n)).length:Int),0)
def dropK:Nat→Tl→Tl
 | 0,t=>t
 | k+1,t=>dropK k (dropT t)
def keepT (t:Tl) (most:Int):Tl × Int :=
 if chkT t≠0 then (zeroT,chkT t) else if most<1 then (zeroT,2) else (dropK ((t.steps.length:Int)+1-most).toNat t,0)
structure Mom where
 view:Vw
 time:Int
 deriving DecidableEq
def stpsOf:Mom→List Mom→List Stp
 | _,[]=>[]
 | m,x::l=>⟨x.time,diffV m.view x.view⟩::stpsOf x l
def tlOf (f:Int) (m:Mom) (l:List Mom):Tl:=⟨f,m.time,m.view,stpsOf m l⟩
def MomsOk:Mom→List Mom→Prop
 | m,[]=>viewC m.view=0∧0≤m.time∧m.time≤maxT
 | m,x::l=>viewC m.view=0∧0≤m.time∧m.time≤x.time∧MomsOk x l
theorem MomsOk.view {m:Mom} {l:List Mom} (h:MomsOk m l):viewC m.view=0:=by cases l<;>exact h.1
theorem MomsOk.ge {m:Mom} {l:List Mom} (h:MomsOk m l):0≤m.time:=by cases l<;>exact h.2.1
theorem MomsOk.le:∀ {l:List Mom} {m:Mom},MomsOk m l→m.time≤maxT
 | [],m,h=>h.2.2
 | x::l,m,h=>Int.le_trans h.2.2.1 (MomsOk.le h.2.2.2)
theorem stpsOf_len:∀ {l:List Mom} {m:Mom},(stpsOf m l).length=l.length
 | [],_=>rfl
 | x::l,m=>by rw [stpsOf,za,za,stpsOf_len]
theorem stpsOf_times:∀ {l:List Mom} {m:Mom},(stpsOf m l).map (·.time)=l.map (·.time)
 | [],_=>rfl
 | x::l,m=>by rw [stpsOf,zU,zU,stpsOf_times]
theorem stepsV_of:∀ {l:List Mom} {m:Mom},MomsOk m l→stepsV m.view (stpsOf m l)=l.map (·.view)
 | [],_,_=>rfl
 | x::l,m,h=>by
  have hr:=run_diff h.1 h.2.2.2.view
  rw [stpsOf,stepsV,hr,if_pos rfl,zU,stepsV_of h.2.2.2]
theorem chkS_of:∀ {l:List Mom} {m:Mom},MomsOk m l→chkS m.time m.view (stpsOf m l)=0
 | [],_,_=>rfl
 | x::l,m,h=>by
  have hr:=run_diff h.1 h.2.2.2.view
  have:=h.2.2.2.le
  rw [stpsOf,chkS,if_neg (by have:=h.2.2.1;simp only;omega),if_neg (by simp only;omega),hr,if_neg (by simp)]
  exact chkS_of h.2.2.2
theorem chkT_of {f:Int} {m:Mom} {l:List Mom} (h:MomsOk m l) (hf:0≤f∧f≤999999999) (hl:l.length≤200):chkT (tlOf f m l)=0:=by
 have h1:=h.ge
 have h2:=h.le
 rw [chkT,tlOf]
 simp only
 rw [if_neg (by omega),h.view,if_neg (by decide),stpsOf_len,if_neg (by omega),chkS_of h]
def lastM (m:Mom) (l:List Mom):Mom:=l.getLastD m
theorem getLastD_map {α β:Type} (g:α→β):∀ (l:List α) (m:α),(l.map g).getLastD (g m)=g (l.getLastD m)
 | [],_=>rfl
 | x::l,m=>by rw [zU,List.getLastD_cons,List.getLastD_cons,getLastD_map]
theorem finV_of {m:Mom} {l:List Mom} (h:MomsOk m l):finV m.view (stpsOf m l)=(lastM m l).view:=by rw [finV,stepsV_of h,getLastD_map,lastM]
theorem finN_of {m:Mom} {l:List Mom}:finN m.time (stpsOf m l)=(lastM m l).time:=by rw [finN,stpsOf_times,getLastD_map,lastM]
theorem stpsOf_snoc:∀ {l:List Mom} {m x:Mom},stpsOf m (l++[x])=stpsOf m l++[⟨x.time,diffV (lastM m l).view x.view⟩]
 | [],m,x=>rfl
 | y::l,m,x=>by
  rw [List.cons_append,stpsOf,stpsOf,stpsOf_snoc,List.cons_append,lastM,lastM,List.getLastD_cons]
theorem MomsOk.snoc:∀ {l:List Mom} {m x:Mom},MomsOk m l→viewC x.view=0→(lastM m l).time≤x.time→x.time≤maxT→MomsOk m (l++[x])
 | [],m,x,h,h1,h2,h3=>by
  have h2:m.time≤x.time:=h2
  exact ⟨h.1,h.2.1,h2,h1,by have:=h.2.1;omega,h3⟩
 | y::l,m,x,h,h1,h2,h3=>⟨h.1,h.2.1,h.2.2.1,h.2.2.2.snoc h1 (by rw [lastM,List.getLastD_cons] at h2;exact h2) h3⟩
theorem dropT_of {f:Int} {m x:Mom} {l:List Mom} (h:MomsOk m (x::l)):dropT (tlOf f m (x::l))=tlOf (f+1) x l:=by
 rw [dropT,tlOf]
 simp only
 rw [stepsV_of h,stpsOf_times]
 rfl
theorem addT_of {f:Int} {m:Mom} {l:List Mom} (h:MomsOk m l) (hf:0≤f∧f≤999999999) (hl:l.length≤200) (v:Vw) (n:Int) :
  addT (tlOf f m l) v n=if viewC v≠0 then (zeroT,viewC v) else if n<0∨maxT<n then (zeroT,2) else if n<(lastM m l).time then (zeroT,10) else if (lastM m l).view=v then (tlOf f m l,0)
   else if 200<l.length+1 then (dropT (tlOf f m (l++[⟨v,n⟩])),0) else (tlOf f m (l++[⟨v,n⟩]),0):=by
 have e1:finV (tlOf f m l).base (tlOf f m l).steps=(lastM m l).view:=finV_of h
 have e2:finN (tlOf f m l).began (tlOf f m l).steps=(lastM m l).time:=finN_of
 have e3:((tlOf f m l).steps++[⟨n,diffV (lastM m l).view v⟩])=stpsOf m (l++[⟨v,n⟩]):=by rw [stpsOf_snoc];rfl
 rw [addT,chkT_of h hf hl,if_neg (by decide),e1,e2,e3,stpsOf_len,List.length_append,List.length_singleton]
 rfl
theorem dropK_of:∀ {k:Nat} {f:Int} {m:Mom} {l:List Mom},MomsOk m l→(hk:k≤l.length)→∃ x r,(m::l).drop k=x::r∧dropK k (tlOf f m l)=tlOf (f+k) x r∧MomsOk x r
 | 0,f,m,l,h,_=>⟨m,l,rfl,by rw [dropK];congr 1;omega,h⟩
 | k+1,f,m,[],_,hk=>by simp at hk
 | k+1,f,m,y::l,h,hk=>by
  obtain ⟨x,r,h1,h2,h3⟩:=dropK_of (k:=k) (f:=f+1) h.2.2.2 (by simp at hk;omega)
  refine ⟨x,r,by rw [List.drop_succ_cons];exact h1,?_,h3⟩
  rw [dropK,dropT_of h,h2]
  congr 1;omega
theorem atT_of {f:Int} {m:Mom} {l:List Mom} (h:MomsOk m l) (hf:0≤f∧f≤999999999) (hl:l.length≤200) (n:Int) :
  atT (tlOf f m l) n=if f≤n∧n-f≤(l.length:Int) then (((m::l).map (·.view)).getD (n-f).toNat zeroV,0) else (zeroV,2):=by
 have e1:(tlOf f m l).base::stepsV (tlOf f m l).base (tlOf f m l).steps=(m::l).map (·.view):=by
  show m.view::stepsV m.view (stpsOf m l)=_
  rw [stepsV_of h];rfl
 have e2:(stepsV (tlOf f m l).base (tlOf f m l).steps).length=l.length:=by
  show (stepsV m.view (stpsOf m l)).length=_
  rw [stepsV_of h,List.length_map]
 rw [atT,chkT_of h hf hl,if_neg (by decide),e1,e2]
 rfl
theorem filt_times {n:Int}:∀ {l:List Mom} {m:Mom},((stpsOf m l).filter fun s=>decide (s.time≤n)).length=(l.filter fun x=>decide (x.time≤n)).length
 | [],_=>rfl
 | x::l,m=>by
  rw [stpsOf,List.filter_cons,List.filter_cons]
  simp only
  split
  ·rw [za,za,filt_times]
  ·exact filt_times
theorem whenT_of {f:Int} {m:Mom} {l:List Mom} (h:MomsOk m l) (hf:0≤f∧f≤999999999) (hl:l.length≤200) (n:Int) :
  whenT (tlOf f m l) n=if n<m.time then (0,2) else (f+((l.filter fun x=>decide (x.time≤n)).length:Int),0):=by
 have e1:((tlOf f m l).steps.filter fun s=>decide (s.time≤n)).length=(l.filter fun x=>decide (x.time≤n)).length:=filt_times
 rw [whenT,chkT_of h hf hl,if_neg (by decide),e1]
 rfl
end Go.Proofs.YtlllnjhgjijnkaaDoor.Nx
namespace Go.Proofs.YtlllnjhgjijnkaaDoor.Nx
open Go
def bstep (m0:Mom) (ins:List Mom) (m:Mom):List Mom :=
 if viewC m.view≠0 then ins else if m.time<0∨maxT<m.time then ins else if m.time<(lastM m0 ins).time then ins else if (lastM m0 ins).view=m.view then ins else ins++[m]
def buildM (m0:Mom):List Mom→List Mom→List Mom
 | ins,[]=>ins
 | ins,m::l=>buildM m0 (bstep m0 ins m) l
def addE (m0:Mom) (ins:List Mom) (m:Mom):Int :=
 if viewC m.view≠0 then viewC m.view else if m.time<0∨maxT<m.time then 2 else if m.time<(lastM m0 ins).time then 10 else 0
theorem bstep_len {m0 m:Mom} {ins:List Mom}:(bstep m0 ins m).length≤ins.length+1:=by
 unfold bstep
 split
 ·omega
 ·split
  ·omega
  ·split
   ·omega
   ·split
    ·omega
    ·simp
theorem bstep_ok {m0 m:Mom} {ins:List Mom} (h:MomsOk m0 ins):MomsOk m0 (bstep m0 ins m):=by
 unfold bstep
 split
 ·exact h
 ·rename_i h1
  split
  ·exact h
  ·rename_i h2
   split
   ·exact h
   ·rename_i h3
    split
    ·exact h
    ·exact h.snoc (by simpa using h1) (by omega) (by omega)
theorem bstep_add {m0 m:Mom} {ins:List Mom} (h:MomsOk m0 ins) (hl:ins.length+1≤200):addT (tlOf 0 m0 ins) m.view m.time=if addE m0 ins m=0 then (tlOf 0 m0 (bstep m0 ins m),0) else (zeroT,addE m0 ins m):=by
 rw [addT_of h (by omega) (by omega)]
 unfold addE bstep
 split
 ·rename_i h1;first | rfl | rw [if_neg h1]
 ·split
  ·rfl
  ·split
   ·rfl
   ·split
    ·rfl
    ·rw [if_neg (by omega)];rfl
theorem bstep_err {m0 m:Mom} {ins:List Mom} (h:addE m0 ins m≠0):bstep m0 ins m=ins:=by
 unfold addE at h
 unfold bstep
 split
 ·rfl
 ·rename_i h1;rw [if_neg h1] at h
  split
  ·rfl
  ·rename_i h2;rw [if_neg h2] at h
   split
   ·rfl
   ·rename_i h3;rw [if_neg h3] at h;exact absurd rfl h
theorem bstep_in {m0 m:Mom} {ins:List Mom} (h:addE m0 ins m=0):bstep m0 ins m=if (lastM m0 ins).view=m.view then ins else ins++[m]:=by
 unfold addE at h
 unfold bstep
 split
 ·rename_i h1;rw [if_pos h1] at h;exact absurd h h1
 ·rename_i h1;rw [if_neg h1] at h
  split
  ·rename_i h2;rw [if_pos h2] at h;cases h
  ·rename_i h2;rw [if_neg h2] at h
   split
   ·rename_i h3;rw [if_pos h3] at h;cases h
   ·rfl
theorem buildM_ok:∀ {l:List Mom} {m0:Mom} {ins:List Mom},MomsOk m0 ins→MomsOk m0 (buildM m0 ins l)
 | [],_,_,h=>h
 | m::l,m0,ins,h=>buildM_ok (l:=l) (bstep_ok (m:=m) h)
theorem buildM_len:∀ {l:List Mom} {m0:Mom} {ins:List Mom},(buildM m0 ins l).length≤ins.length+l.length
 | [],_,_=>by simp [buildM]
 | m::l,m0,ins=>by
  have h1:=buildM_len (l:=l) (m0:=m0) (ins:=bstep m0 ins m)
  have h2:=bstep_len (m0:=m0) (m:=m) (ins:=ins)
  rw [buildM,za];omega
theorem MomsOk.sorted:∀ {l:List Mom} {m:Mom},MomsOk m l→∀ x∈l,m.time≤x.time
 | [],_,_,x,hx=>by simp at hx
 | y::l,m,h,x,hx=>by
  rcases List.mem_cons.1 hx with rfl | hx
  ·exact h.2.2.1
  ·exact Int.le_trans h.2.2.1 (MomsOk.sorted h.2.2.2 x hx)
theorem when_last {n:Int}:∀ {l:List Mom} {m:Mom},MomsOk m l→m.time≤n→∃ x,(m::l)[(l.filter fun x=>decide (x.time≤n)).length]? = some x∧x.time≤n∧∀ y,(m::l)[(l.filter fun x=>decide (x.time≤n)).length+1]? = some y→n<y.time
 | [],m,_,hn=>⟨m,rfl,hn,fun y hy=>by simp at hy⟩
 | x::l,m,h,hn=>by
  by_cases hx:x.time≤n
  ·obtain ⟨z,h1,h2,h3⟩:=when_last (n:=n) h.2.2.2 hx
   rw [List.filter_cons,if_pos (by simpa using hx),za]
   exact ⟨z,by simpa using h1,h2,fun y hy=>h3 y (by simpa using hy)⟩
  ·have he:(x::l).filter (fun x=>decide (x.time≤n))=[]:=by
    rw [List.filter_eq_nil_iff]
    intro y hy
    have:x.time≤y.time:=by
     rcases List.mem_cons.1 hy with rfl | hy
     ·exact Int.le_refl _
     ·exact MomsOk.sorted h.2.2.2 y hy
    simp;omega
   rw [he]
   exact ⟨m,rfl,hn,fun y hy=>by simp at hy;subst hy;omega⟩
theorem keepT_of {m:Mom} {l:List Mom} (h:MomsOk m l) (hl:l.length≤200) {k:Nat} (hk:1≤k) :
  ∃ x r,(m::l).drop (l.length+1-k)=x::r∧keepT (tlOf 0 m l) k=(tlOf ((l.length+1-k:Nat):Int) x r,0)∧MomsOk x r∧r.length≤l.length:=by
 obtain ⟨x,r,h1,h2,h3⟩:=dropK_of (k:=l.length+1-k) (f:=0) h (by omega)
 refine ⟨x,r,h1,?_,h3,?_⟩
 ·have e:(((tlOf 0 m l).steps.length:Int)+1-(k:Int)).toNat=l.length+1-k:=by
   show (((stpsOf m l).length:Int)+1-(k:Int)).toNat=_
   rw [stpsOf_len];omega
  rw [keepT,chkT_of h (by omega) hl,if_neg (by decide),if_neg (by omega),e,h2]
  congr 2;omega
 ·have:=congrArg List.length h1
  rw [List.length_drop,za,za] at this
  omega
end Go.Proofs.YtlllnjhgjijnkaaDoor.Nx
namespace Go.Proofs.YtlllnjhgjijnkaaDoor.Nx
open Go
def mmL (v w:Vw) (i:Nat):Mom:=⟨if i % 2=0 then v else w,i⟩
def momsL (v w:Vw) (a n:Nat):List Mom:=(List.range n).map fun k=>mmL v w (a+1+k)
def limT (v w:Vw) (i:Nat):Tl:=tlOf ((i-200:Nat):Int) (mmL v w (i-200)) (momsL v w (i-200) (min i 200))
theorem momsL_len {v w:Vw} {a n:Nat}:(momsL v w a n).length=n:=by simp [momsL]
theorem momsL_succ {v w:Vw} {a n:Nat}:momsL v w a (n+1)=momsL v w a n++[mmL v w (a+1+n)]:=by simp [momsL,List.range_succ]
theorem momsL_cons {v w:Vw} {a n:Nat}:momsL v w a (n+1)=mmL v w (a+1)::momsL v w (a+1) n:=by
 apply List.ext_getElem?
 intro i
 rcases i with _ | i
 ·simp [momsL]
 ·rw [List.getElem?_cons_succ]
  simp only [momsL,zK]
  by_cases h:i<n
  ·rw [zj (by omega),zj h]
   simp only [Option.map_some]
   congr 2;omega
  ·rw [zk (by simp;omega),zk (by simp;omega)]
   rfl
theorem momsL_last {v w:Vw} {a:Nat}:∀ {n:Nat},lastM (mmL v w a) (momsL v w a n)=mmL v w (a+n)
 | 0=>rfl
 | n+1=>by
  rw [momsL_succ,lastM,List.getLastD_concat]
  congr 1;omega
theorem mmL_ok {v w:Vw} (hv:viewC v=0) (hw:viewC w=0) (i:Nat):viewC (mmL v w i).view=0:=by
 unfold mmL
 simp only
 split
 ·exact hv
 ·exact hw
theorem momsL_ok {v w:Vw} (hv:viewC v=0) (hw:viewC w=0):∀ {n a:Nat},a+n≤1000→MomsOk (mmL v w a) (momsL v w a n)
 | 0,a,h=>⟨mmL_ok hv hw a,by simp only [mmL];omega,by simp only [mmL,maxT];omega⟩
 | n+1,a,h=>by
  rw [momsL_cons]
  exact ⟨mmL_ok hv hw a,by simp only [mmL];omega,by simp only [mmL];omega,momsL_ok hv hw (by omega)⟩
theorem limT_zero {v w:Vw} (hv:viewC v=0):newT v 0=limT v w 0:=by
 rw [newT,if_neg (by simp [hv,maxT])]
 rfl
theorem limT_succ {v w:Vw} (hv:viewC v=0) (hw:viewC w=0) (hne:v≠w) (i:Nat) (hi:i+1≤255):addT (limT v w i) (mmL v w (i+1)).view ((i+1:Nat):Int)=(limT v w (i+1),0):=by
 have hok:=momsL_ok (v:=v) (w:=w) hv hw (a:=i-200) (n:=min i 200) (by omega)
 have hlast:lastM (mmL v w (i-200)) (momsL v w (i-200) (min i 200))=mmL v w i:=by rw [momsL_last];congr 1;omega
 rw [limT,addT_of hok (by omega) (by rw [momsL_len];omega),mmL_ok hv hw,if_neg (by decide),if_neg (by simp only [maxT];omega),hlast,if_neg (by simp only [mmL];omega),if_neg,momsL_len]
 ·by_cases h:i<200
  ·rw [if_neg (by omega)]
   have e1:min i 200=i:=by omega
   have e2:min (i+1) 200=i+1:=by omega
   have e3:i-200=0:=by omega
   have e4:i+1-200=0:=by omega
   rw [limT,e1,e2,e3,e4,momsL_succ,show 0+1+i=i+1 by omega]
   rfl
  ·rw [if_pos (by omega)]
   have e1:min i 200=199+1:=by omega
   have e2:min (i+1) 200=199+1:=by omega
   have e3:i+1-200=i-200+1:=by omega
   have hx:(⟨(mmL v w (i+1)).view,((i+1:Nat):Int)⟩:Mom)=mmL v w (i-200+1+1+199):=by
    rw [show i-200+1+1+199=i+1 by omega];rfl
   have hok2:=momsL_ok (v:=v) (w:=w) hv hw (a:=i-200) (n:=199+1+1) (by omega)
   have hl2:momsL v w (i-200) (199+1)++[⟨(mmL v w (i+1)).view,((i+1:Nat):Int)⟩]=mmL v w (i-200+1)::momsL v w (i-200+1) (199+1):=by
    rw [hx,← momsL_cons,momsL_succ (n:=199+1),show i-200+1+1+199=i-200+1+(199+1) by omega]
   rw [momsL_cons] at hok2
   rw [e1,hl2,dropT_of hok2,limT,e2,e3]
   congr 2
 ·simp only [mmL]
  by_cases h:i % 2=0
  ·rw [if_pos h,if_neg (by omega)];exact hne
  ·rw [if_neg h,if_pos (by omega)];exact Ne.symm hne
theorem limT_at {v w:Vw} (hv:viewC v=0) (hw:viewC w=0) (n:Nat) (hn:n≤255):atT (limT v w n) (n:Int)=((mmL v w n).view,0):=by
 have hok:=momsL_ok (v:=v) (w:=w) hv hw (a:=n-200) (n:=min n 200) (by omega)
 rw [limT,atT_of hok (by omega) (by rw [momsL_len];omega),momsL_len,if_pos (by omega),show ((n:Int)-((n-200:Nat):Int)).toNat=min n 200 by omega]
 congr 1
 rw [zC,zK]
 by_cases h:min n 200=0
 ·rw [h]
  have:n=0:=by omega
  subst this;rfl
 ·obtain ⟨k,hk⟩:∃ k,min n 200=k+1:=⟨min n 200-1,by omega⟩
  rw [hk,List.getElem?_cons_succ,momsL,zK,zj (by omega),Option.map_some,Option.map_some,Option.getD_some]
  congr 2;omega
end Go.Proofs.YtlllnjhgjijnkaaDoor.Nx
namespace Go.Proofs.YtlllnjhgjijnkaaDoor.Nx
open Go
variable {P:Program} {N:Nat} {Γ:Tabs}
abbrev eSt:Elt:=⟨2,32⟩
abbrev eTl:Elt:=⟨9,104⟩
abbrev eMo:Elt:=⟨7,72⟩
def Stp.ds (s:Stp):List D:=[.sc (.int .i64 s.time),.sl eCg (cgRows s.chs)]
def stRows (l:List Stp):List (List D):=l.map Stp.ds
theorem stRows_len {l:List Stp}:(stRows l).length=l.length:=by simp [stRows]
theorem stRows_get {l:List Stp} {i:Nat} (hi:i<l.length):(stRows l).getD i []=l[i].ds:=by
 rw [zC,stRows,zK,zB hi];rfl
theorem stRows_app {a b:List Stp}:stRows (a++b)=stRows a++stRows b:=by simp [stRows]
abbrev stsA (l:List Stp):A:=.d (.sl eSt (stRows l))
abbrev stB (l:List Stp):HB:=.cells eSt ((stRows l).map fun r=>r.map A.d)
def Tl.ds (t:Tl):List D:=[.sc (.int .i64 t.first),.sc (.int .i64 t.began),.sc (.int .i64 t.base.width),.sc (.int .i64 t.base.height),.sl eRw (rwRows t.base.rows),.sc (.int .i64 t.base.row),.sc (.int .i64 t.base.col),.sc (.bool t.base.vis),.sl eSt (stRows t.steps)]
def tlA (t:Tl):A:=.agg (t.ds.map .d)
abbrev tlB (t:Tl):HB:=.cells eTl [t.ds.map .d]
def tlW (t:Tl) (x:A):List A:=[.int t.first,.int t.began,.int t.base.width,.int t.base.height,.d (.sl eRw (rwRows t.base.rows)),.int t.base.row,.int t.base.col,.bool t.base.vis,x]
def Mom.ds (m:Mom):List D:=[.sc (.int .i64 m.view.width),.sc (.int .i64 m.view.height),.sl eRw (rwRows m.view.rows),.sc (.int .i64 m.view.row),.sc (.int .i64 m.view.col),.sc (.bool m.view.vis),.sc (.int .i64 m.time)]
def moRows (l:List Mom):List (List D):=l.map Mom.ds
theorem moRows_len {l:List Mom}:(moRows l).length=l.length:=by simp [moRows]
theorem moRows_get {l:List Mom} {i:Nat} (hi:i<l.length):(moRows l).getD i []=l[i].ds:=by
 rw [zC,moRows,zK,zB hi];rfl
theorem moRows_app {a b:List Mom}:moRows (a++b)=moRows a++moRows b:=by simp [moRows]
def TOk:Vw→List Stp→Prop
 | v,[]=>Sm v 50000
 | v,s::l=>RunOk v s.chs∧(∀ c∈s.chs,CgOk c)∧((applyV v s.chs).2.2=0→TOk (applyV v s.chs).1 l)
theorem TOk.sm {v:Vw} {l:List Stp} (h:TOk v l):Sm v 50000:=by
 cases l with
 | nil=>exact h
 | cons s l=>exact RunOk.sm h.1
theorem tok_of:∀ {l:List Mom} {m:Mom},MomsOk m l→(∀ x∈m::l,Sm x.view 140)→TOk m.view (stpsOf m l)
 | [],m,_,hs=>(hs m (zW ..)).mono (by omega)
 | x::l,m,h,hs=>by
  have hm:=hs m (zW ..)
  have hx:=hs x (zZ _ (zW ..))
  refine ⟨runOk_diff h.1 h.2.2.2.view (hm.mono (by omega)) (hx.mono (by omega)),diff_ok hx,fun _=>?_⟩
  rw [run_diff h.1 h.2.2.2.view]
  exact tok_of h.2.2.2 fun y hy=>hs y (zZ _ hy)
def viewsT (v:Vw) (l:List Stp):List Vw:=v::stepsV v l
def tlXs (f:Int) (v:Vw) (l:List Stp):List (List A):=(viewsT v l).mapIdx fun i w=>[.int (f+(i:Int)),vwA w]
theorem tlXs_len {f:Int} {v:Vw} {l:List Stp}:(tlXs f v l).length=(stepsV v l).length+1:=by simp [tlXs,viewsT]
theorem tlXs_get {f:Int} {v w:Vw} {l:List Stp} {k:Nat} (h:(viewsT v l)[k]? = some w):(tlXs f v l)[k]? = some [.int (f+(k:Int)),vwA w]:=by
 rw [tlXs,List.getElem?_mapIdx,h];rfl
theorem stepsV_le:∀ {l:List Stp} {v:Vw},(stepsV v l).length≤l.length
 | [],_=>Nat.le_refl _
 | s::l,v=>by
  rw [stepsV]
  split
  ·rw [za,za];have:=stepsV_le (l:=l) (v:=(applyV v s.chs).1);omega
  ·simp
structure TWalk (v:Vw) (l:List Stp) (i:Nat) (w:Vw):Prop where
 le:i≤l.length
 at':(viewsT v l)[i]? = some w
 rest:(stepsV v l).drop i=stepsV w (l.drop i)
 ok:TOk w (l.drop i)
theorem TWalk.zero {v:Vw} {l:List Stp} (h:TOk v l):TWalk v l 0 v:=⟨Nat.zero_le _,rfl,rfl,h⟩
theorem TWalk.len {v w:Vw} {l:List Stp} {i:Nat} (t:TWalk v l i w):i≤(stepsV v l).length:=by
 have h:=(List.getElem?_eq_some_iff.1 t.at').1
 simp only [viewsT,za] at h;omega
theorem TWalk.run {v w:Vw} {l:List Stp} {i:Nat} (t:TWalk v l i w) (hi:i<l.length):RunOk w l[i].chs∧(∀ c∈l[i].chs,CgOk c):=by
 have:=t.ok
 rw [zd hi] at this
 exact ⟨this.1,this.2.1⟩
theorem TWalk.step {v w:Vw} {l:List Stp} {i:Nat} (t:TWalk v l i w) (hi:i<l.length) (he:(applyV w l[i].chs).2.2=0):TWalk v l (i+1) (applyV w l[i].chs).1:=by
 have h:=t.rest
 have ho:=t.ok
 rw [zd hi] at h ho
 rw [stepsV,if_pos he] at h
 refine ⟨hi,?_,?_,ho.2.2 he⟩
 ·show (stepsV v l)[i]? = _
  have:((stepsV v l).drop i)[0]? = some (applyV w l[i].chs).1:=by rw [h];rfl
  rwa [List.getElem?_drop,Nat.add_zero] at this
 ·rw [← List.drop_drop,h];rfl
theorem TWalk.stop {v w:Vw} {l:List Stp} {i:Nat} (t:TWalk v l i w) (hi:i<l.length) (he:¬ (applyV w l[i].chs).2.2=0):(stepsV v l).length=i:=by
 have h:=t.rest
 rw [zd hi,stepsV,if_neg he] at h
 have:=t.len
 have:=congrArg List.length h
 simp only [List.length_drop,List.length_nil] at this
 omega
theorem TWalk.fin {v w:Vw} {l:List Stp} (t:TWalk v l l.length w):(stepsV v l).length=l.length:=by
 have:=t.len
 have:=stepsV_le (l:=l) (v:=v)
 omega
abbrev OwnOk (Γ:Tabs) (P:Program) (f:FuncId):Prop:=∀ v:Vw,FnP Γ P f [vwA v] (vwA v)
abbrev TCheckOk (Γ:Tabs) (P:Program) (f:FuncId):Prop:=∀ t:Tl,TOk t.base t.steps→FnP Γ P f [tlA t] (.int (chkT t))
end Go.Proofs.YtlllnjhgjijnkaaDoor.Nx

import Derived.Test.YtlllnjhgjijnkaaGreatDoorNxI0
import Derived.Test.YtlllnjhgjijnkaaGreatDoorNxE19
import Derived.Test.YtlllnjhgjijnkaaGreatDoorNxI6
import Derived.Test.YtlllnjhgjijnkaaGreatDoorNxD15
set_option linter.all false
open List renaming getElem?_eq_some_iff → zA, getElem?_eq_getElem → zB, getD_eq_getElem?_getD → zC, getElem?_map → zK, append_assoc → zS, map_cons → zU, map_nil → zV, mem_cons_self → zW, mem_cons_of_mem → zZ, length_cons → za, not_mem_nil → zc, drop_eq_getElem_cons → zd, mem_cons → zp
open Bool renaming true_eq_false → zE
open Nat renaming zero_le → zI, le_refl → zL
open Int renaming toNat_natCast → zQ
open Nat renaming reduceEqDiff → qE, reduceAdd → qA, reduceLT → qL, reduceLeDiff → qD
set_option maxHeartbeats 4000000
open List renaming getLastD_cons → aA, take_of_length_le → aB, map_eq_nil_iff → aC, getElem?_cons_succ → aE, getD_cons_succ → aF, cons_append → aG, filter_cons → aH, length_map → aI
open And renaming intro → aD
namespace Go.Proofs.YtlllnjhgjijnkaaGreatDoor.Nx
open Go
section
structure Stp where
 time:Int
 chs:List Cg
 deriving DecidableEq
structure Tl where
 first:Int
 began:Int
 base:Vw
 steps:List Stp
 deriving DecidableEq
def nV:Int:=1099511627776
def lC:Tl:=⟨0,0,lA,[]⟩
def Lz(v:Vw)(n:Int):Tl:=if dO v≠0∨n<0∨nV<n then lC else⟨0,n,v,[]⟩
def fW:Vw→List Stp→List Vw
 | _,[]=>[]
 | v,s::l=>if(dU v s.chs).2.2=0 then(dU v s.chs).1::fW (dU v s.chs).1 l else []
def Bc:Int→Vw→List Stp→Int
 | _,_,[]=>0
 | last,v,s::l=>if s.time<last then 10 else if nV<s.time then 2 else if(dU v s.chs).2.2≠0 then(dU v s.chs).2.2 else Bc s.time (dU v s.chs).1 l
def iW(t:Tl):Int:=if t.first<0∨999999999<t.first∨t.began<0∨nV<t.began then 2 else if dO t.base≠0 then dO t.base else if 200<t.steps.length then 5 else Bc t.began t.base t.steps
def qG(v:Vw)(l:List Stp):Vw:=(fW v l).getLastD v
def Ke(n:Int)(l:List Stp):Int:=(l.map (·.time)).getLastD n
def Kf(t:Tl):Tl:=⟨t.first+1,(t.steps.map (·.time)).headD 0,(fW t.base t.steps).headD t.base,t.steps.drop 1⟩
def Dl(t:Tl)(v:Vw)(n:Int):Tl × Int :=
 if iW t≠0 then(lC,iW t) else if dO v≠0 then(lC,dO v) else if n<0∨nV<n then(lC,2) else if n<Ke t.began t.steps then(lC,10)
 else if qG t.base t.steps=v then(t,0)
 else if 200<(t.steps++[(⟨n,gX (qG t.base t.steps) v⟩:Stp)]).length then(Kf { t with steps:=t.steps++[⟨n,gX (qG t.base t.steps) v⟩] },0)
 else({ t with steps:=t.steps++[⟨n,gX (qG t.base t.steps) v⟩] },0)
def aFe(t:Tl):Int:=t.first+t.steps.length
def atT(t:Tl)(n:Int):Vw × Int :=
 if iW t≠0 then(lA,iW t) else if t.first≤n∧n-t.first≤((fW t.base t.steps).length:Int) then((t.base::fW t.base t.steps).getD (n-t.first).toNat lA,0) else(lA,2)
def Dm(t:Tl)(n:Int):Int × Int :=
 if iW t≠0 then(0,iW t) else if n<t.began then(0,2) else(t.first+((t.steps.filter fun s=>decide (s.time≤n)).length:Int),0)
structure Mom where
 view:Vw
 time:Int
 deriving DecidableEq
def iQ:Mom→List Mom→List Stp
 | _,[]=>[]
 | m,x::l=>⟨x.time,gX m.view x.view⟩::iQ x l
def kF(f:Int)(m:Mom)(l:List Mom):Tl:=⟨f,m.time,m.view,iQ m l⟩
def iF:Mom→List Mom→Prop
 | m,[]=>dO m.view=0∧0≤m.time∧m.time≤nV
 | m,x::l=>dO m.view=0∧0≤m.time∧m.time≤x.time∧iF x l
theorem iF.view{m:Mom}{l:List Mom}(h:iF m l):dO m.view=0:=by cases l<;>exact h.1
theorem iF.ge{m:Mom}{l:List Mom}(h:iF m l):0≤m.time:=by cases l<;>exact h.2.1
theorem iF.le:∀ {l:List Mom} {m:Mom},iF m l→m.time≤nV
 | [],m,h=>h.2.2
 | x::l,m,h=>Int.le_trans h.2.2.1 (iF.le h.2.2.2)
theorem Bd:∀ {l:List Mom} {m:Mom},(iQ m l).length=l.length
 | [],_=>rfl
 | x::l,m=>by rw[iQ,za,za,Bd]
theorem Kg:∀ {l:List Mom} {m:Mom},(iQ m l).map (·.time)=l.map (·.time)
 | [],_=>rfl
 | x::l,m=>by rw[iQ,zU,zU,Kg]
theorem Ep:∀ {l:List Mom} {m:Mom},iF m l→fW m.view (iQ m l)=l.map (·.view)
 | [],_,_=>rfl
 | x::l,m,h=>by
  have hr:=Ka h.1 h.2.2.2.view;rw[iQ,fW,hr,if_pos rfl,zU,Ep h.2.2.2]
theorem aFf:∀ {l:List Mom} {m:Mom},iF m l→Bc m.time m.view (iQ m l)=0
 | [],_,_=>rfl
 | x::l,m,h=>by
  have hr:=Ka h.1 h.2.2.2.view;have:=h.2.2.2.le;rw[iQ,Bc,if_neg (by have:=h.2.2.1;simp only;omega),if_neg (by simp only;omega),hr,if_neg (by simp)];exact aFf h.2.2.2
theorem aAA{f:Int}{m:Mom}{l:List Mom}(h:iF m l)(hf:0≤f∧f≤999999999)(hl:l.length≤200):iW (kF f m l)=0:=by
 have h1:=h.ge;have h2:=h.le;rw[iW,kF];simp only;rw[if_neg (by omega),h.view,if_neg (by decide),Bd,if_neg (by omega),aFf h]
def mN(m:Mom)(l:List Mom):Mom:=l.getLastD m
theorem Be{α β:Type}(g:α→β):∀ (l:List α) (m:α),(l.map g).getLastD (g m)=g (l.getLastD m)
 | [],_=>rfl
 | x::l,m=>by rw[zU,aA,aA,Be]
theorem aAB{m:Mom}{l:List Mom}(h:iF m l):qG m.view (iQ m l)=(mN m l).view:=by rw[qG,Ep h,Be,mN]
theorem aLk{m:Mom}{l:List Mom}:Ke m.time (iQ m l)=(mN m l).time:=by rw[Ke,Kg,Be,mN]
theorem Og:∀ {l:List Mom} {m x:Mom},iQ m (l++[x])=iQ m l++[⟨x.time,gX (mN m l).view x.view⟩]
 | [],m,x=>rfl
 | y::l,m,x=>by
  rw[aG,iQ,iQ,Og,aG,mN,mN,aA]
theorem iF.snoc:∀ {l:List Mom} {m x:Mom},iF m l→dO x.view=0→(mN m l).time≤x.time→x.time≤nV→iF m (l++[x])
 | [],m,x,h,h1,h2,h3=>by
  have h2:m.time≤x.time:=h2;exact⟨h.1,h.2.1,h2,h1,by have:=h.2.1;omega,h3⟩
 | y::l,m,x,h,h1,h2,h3=>⟨h.1,h.2.1,h.2.2.1,h.2.2.2.snoc h1 (by rw[mN,aA] at h2;exact h2) h3⟩
theorem aAC{f:Int}{m:Mom}{l:List Mom}(h:iF m l)(hf:0≤f∧f≤999999999)(hl:l.length≤200)(v:Vw)(n:Int) :
  Dl (kF f m l) v n=if dO v≠0 then(lC,dO v) else if n<0∨nV<n then(lC,2) else if n<(mN m l).time then(lC,10) else if(mN m l).view=v then(kF f m l,0)
   else if 200<l.length+1 then(Kf (kF f m (l++[⟨v,n⟩])),0) else(kF f m (l++[⟨v,n⟩]),0):=by
 have e1:qG (kF f m l).base (kF f m l).steps=(mN m l).view:=aAB h;have e2:Ke (kF f m l).began (kF f m l).steps=(mN m l).time:=aLk;have e3:((kF f m l).steps++[⟨n,gX (mN m l).view v⟩])=iQ m (l++[⟨v,n⟩]):=by rw[Og];rfl
 rw[Dl,aAA h hf hl,if_neg (by decide),e1,e2,e3,Bd,List.length_append,List.length_singleton];rfl
theorem aNG{f:Int}{m:Mom}{l:List Mom}(h:iF m l)(hf:0≤f∧f≤999999999)(hl:l.length≤200)(n:Int) :
  atT (kF f m l) n=if f≤n∧n-f≤(l.length:Int) then(((m::l).map (·.view)).getD (n-f).toNat lA,0) else(lA,2):=by
 have e1:(kF f m l).base::fW (kF f m l).base (kF f m l).steps=(m::l).map (·.view):=by
  show m.view::fW m.view (iQ m l)=_;rw[Ep h];rfl
 have e2:(fW (kF f m l).base (kF f m l).steps).length=l.length:=by
  show(fW m.view (iQ m l)).length=_;rw[Ep h,aI]
 rw[atT,aAA h hf hl,if_neg (by decide),e1,e2];rfl
theorem Gv{n:Int}:∀ {l:List Mom} {m:Mom},((iQ m l).filter fun s=>decide (s.time≤n)).length=(l.filter fun x=>decide (x.time≤n)).length
 | [],_=>rfl
 | x::l,m=>by
  rw[iQ,aH,aH];simp only;split
  ·rw[za,za,Gv]
  ·exact Gv
theorem aCs{f:Int}{m:Mom}{l:List Mom}(h:iF m l)(hf:0≤f∧f≤999999999)(hl:l.length≤200)(n:Int) :
  Dm (kF f m l) n=if n<m.time then(0,2) else(f+((l.filter fun x=>decide (x.time≤n)).length:Int),0):=by
 have e1:((kF f m l).steps.filter fun s=>decide (s.time≤n)).length=(l.filter fun x=>decide (x.time≤n)).length:=Gv;rw[Dm,aAA h hf hl,if_neg (by decide),e1];rfl
end
section
def Fx(m0:Mom)(ins:List Mom)(m:Mom):List Mom :=
 if dO m.view≠0 then ins else if m.time<0∨nV<m.time then ins else if m.time<(mN m0 ins).time then ins else if(mN m0 ins).view=m.view then ins else ins++[m]
def aLl(m0:Mom)(ins:List Mom)(m:Mom):Int :=
 if dO m.view≠0 then dO m.view else if m.time<0∨nV<m.time then 2 else if m.time<(mN m0 ins).time then 10 else 0
theorem aG3{m0 m:Mom}{ins:List Mom}:(Fx m0 ins m).length≤ins.length+1:=by
 unfold Fx;split
 ·omega
 ·split
  ·omega
  ·split
   ·omega
   ·split
    ·omega
    ·simp
theorem aI1{m0 m:Mom}{ins:List Mom}(h:iF m0 ins):iF m0 (Fx m0 ins m):=by
 unfold Fx;split
 ·exact h
 ·rename_i h1;split
  ·exact h
  ·rename_i h2;split
   ·exact h
   ·rename_i h3;split
    ·exact h
    ·exact h.snoc (by simpa using h1) (by omega) (by omega)
theorem aG4{m0 m:Mom}{ins:List Mom}(h:iF m0 ins)(hl:ins.length+1≤200):Dl (kF 0 m0 ins) m.view m.time=if aLl m0 ins m=0 then(kF 0 m0 (Fx m0 ins m),0) else(lC,aLl m0 ins m):=by
 rw[aAC h (by omega) (by omega)];unfold aLl Fx;split
 ·rename_i h1;first | rfl | rw[if_neg h1]
 ·split
  ·rfl
  ·split
   ·rfl
   ·split
    ·rfl
    ·rw[if_neg (by omega)];rfl
end
section
variable {P:Program}{N:Nat}{Γ:dP}
abbrev eSt:Elt:=⟨2,32⟩
abbrev eTl:Elt:=⟨9,104⟩
abbrev eMo:Elt:=⟨7,72⟩
def Stp.ds(s:Stp):List D:=[.sc (.int .i64 s.time),.sl Bp (eP s.chs)]
def fD(l:List Stp):List (List D):=l.map Stp.ds
theorem dR{l:List Stp}:(fD l).length=l.length:=by simp[fD]
theorem lY{l:List Stp}{i:Nat}(hi:i<l.length):(fD l).getD i []=l[i].ds:=by
 rw[zC,fD,zK,zB hi];rfl
theorem Tj{a b:List Stp}:fD (a++b)=fD a++fD b:=by simp[fD]
abbrev aCt(l:List Stp):A:=.d (.sl eSt (fD l))
abbrev stB(l:List Stp):HB:=.cells eSt ((fD l).map fun r=>r.map A.d)
def Tl.ds(t:Tl):List D:=[.sc (.int .i64 t.first),.sc (.int .i64 t.began),.sc (.int .i64 t.base.width),.sc (.int .i64 t.base.height),.sl eW (dH t.base.rows),.sc (.int .i64 t.base.row),.sc (.int .i64 t.base.col),.sc (.bool t.base.vis),.sl eSt (fD t.steps)]
def rT(t:Tl):A:=.agg (t.ds.map .d)
abbrev rE(t:Tl):HB:=.cells eTl [t.ds.map .d]
def tlW(t:Tl)(x:A):List A:=[.int t.first,.int t.began,.int t.base.width,.int t.base.height,.d (.sl eW (dH t.base.rows)),.int t.base.row,.int t.base.col,.bool t.base.vis,x]
def Mom.ds(m:Mom):List D:=[.sc (.int .i64 m.view.width),.sc (.int .i64 m.view.height),.sl eW (dH m.view.rows),.sc (.int .i64 m.view.row),.sc (.int .i64 m.view.col),.sc (.bool m.view.vis),.sc (.int .i64 m.time)]
def rF(l:List Mom):List (List D):=l.map Mom.ds
theorem jT{l:List Mom}:(rF l).length=l.length:=by simp[rF]
theorem Tk{l:List Mom}{i:Nat}(hi:i<l.length):(rF l).getD i []=l[i].ds:=by
 rw[zC,rF,zK,zB hi];rfl
def TOk:Vw→List Stp→Prop
 | v,[]=>Sm v 50000
 | v,s::l=>mL v s.chs∧(∀ c∈s.chs,CgOk c)∧((dU v s.chs).2.2=0→TOk (dU v s.chs).1 l)
theorem TOk.sm{v:Vw}{l:List Stp}(h:TOk v l):Sm v 50000:=by
 cases l with
 | nil=>exact h
 | cons s l=>exact mL.sm h.1
theorem Gw:∀ {l:List Mom} {m:Mom},iF m l→(∀ x∈m::l,Sm x.view 140)→TOk m.view (iQ m l)
 | [],m,_,hs=>(hs m (zW ..)).mono (by omega)
 | x::l,m,h,hs=>by
  have hm:=hs m (zW ..);have hx:=hs x (zZ _ (zW ..));refine⟨Sx h.1 h.2.2.2.view (hm.mono (by omega)) (hx.mono (by omega)),aFb hx,fun _=>?_⟩;rw[Ka h.1 h.2.2.2.view];exact Gw h.2.2.2 fun y hy=>hs y (zZ _ hy)
def fQ(v:Vw)(l:List Stp):List Vw:=v::fW v l
def Tn(f:Int)(v:Vw)(l:List Stp):List (List A):=(fQ v l).mapIdx fun i w=>[.int (f+(i:Int)),fF w]
theorem Dn{f:Int}{v:Vw}{l:List Stp}:(Tn f v l).length=(fW v l).length+1:=by simp[Tn,fQ]
theorem aCu{f:Int}{v w:Vw}{l:List Stp}{k:Nat}(h:(fQ v l)[k]? = some w):(Tn f v l)[k]? = some [.int (f+(k:Int)),fF w]:=by
 rw[Tn,List.getElem?_mapIdx,h];rfl
theorem Yx:∀ {l:List Stp} {v:Vw},(fW v l).length≤l.length
 | [],_=>zL _
 | s::l,v=>by
  rw[fW];split
  ·rw[za,za];have:=Yx (l:=l) (v:=(dU v s.chs).1);omega
  ·simp
structure TWalk(v:Vw)(l:List Stp)(i:Nat)(w:Vw):Prop where
 le:i≤l.length
 at':(fQ v l)[i]? = some w
 rest:(fW v l).drop i=fW w (l.drop i)
 ok:TOk w (l.drop i)
theorem TWalk.zero{v:Vw}{l:List Stp}(h:TOk v l):TWalk v l 0 v:=⟨zI _,rfl,rfl,h⟩
theorem TWalk.len{v w:Vw}{l:List Stp}{i:Nat}(t:TWalk v l i w):i≤(fW v l).length:=by
 have h:=(zA.1 t.at').1;simp only[fQ,za] at h;omega
theorem TWalk.run{v w:Vw}{l:List Stp}{i:Nat}(t:TWalk v l i w)(hi:i<l.length):mL w l[i].chs∧(∀ c∈l[i].chs,CgOk c):=by
 have:=t.ok;rw[zd hi] at this;exact⟨this.1,this.2.1⟩
theorem TWalk.step{v w:Vw}{l:List Stp}{i:Nat}(t:TWalk v l i w)(hi:i<l.length)(he:(dU w l[i].chs).2.2=0):TWalk v l (i+1) (dU w l[i].chs).1:=by
 have h:=t.rest;have ho:=t.ok;rw[zd hi] at h ho;rw[fW,if_pos he] at h;refine⟨hi,?_,?_,ho.2.2 he⟩
 ·show(fW v l)[i]? = _;have:((fW v l).drop i)[0]? = some (dU w l[i].chs).1:=by rw[h];rfl
  rwa [List.getElem?_drop,Nat.add_zero] at this
 ·rw[← List.drop_drop,h];rfl
theorem TWalk.stop{v w:Vw}{l:List Stp}{i:Nat}(t:TWalk v l i w)(hi:i<l.length)(he:¬ (dU w l[i].chs).2.2=0):(fW v l).length=i:=by
 have h:=t.rest;rw[zd hi,fW,if_neg he] at h;have:=t.len;have:=congrArg List.length h;simp only[List.length_drop,List.length_nil] at this;omega
theorem TWalk.fin{v w:Vw}{l:List Stp}(t:TWalk v l l.length w):(fW v l).length=l.length:=by
 have:=t.len;have:=Yx (l:=l) (v:=v);omega
abbrev aCv(Γ:dP)(P:Program)(f:FuncId):Prop:=∀ v:Vw,FnP Γ P f [fF v] (fF v)
abbrev Do(Γ:dP)(P:Program)(f:FuncId):Prop:=∀ t:Tl,TOk t.base t.steps→FnP Γ P f [rT t] (.int (iW t))
end
section
variable {P:Program}{N:Nat}{Γ:dP}
abbrev aNH(l:List (List Gl)):HB:=.cells eW ((dH l).map fun r=>r.map A.d)
theorem aCw{f:FuncId}{Δ:Ctx}(H:FnIs P f N [.t 2] hZ)(hN:1≤N)(l:List (List Gl))(h:cM)(hb:Δ.b≤h.length) :
  FnD Δ P f [.d (.sl eW (dH l))] h (.ref h.length l.length 0 l.length true) (h++[.cells eW ((dH l).map fun r=>r.map A.d)]):=by
 refine .of_W H (by simpa using hN) hb (xR 0 rfl fun⟨hm,dT,_⟩=>?_);rw[cW] at hm dT;unfold hZ;refine Xy 0 rfl (fun h0=>?_) ?_
 ·have:l=[]:=aC.1 h0;subst this;refine wR ?_;simp only[xq,reduceIte,qE,qA,qL,qD];refine cN ?_;refine wR ?_;simp only[xq,reduceIte,qE,qA,qL,qD,nG,xS];refine cL (t:=true) (by simp[ev,cJ]) (fun _=>?_) (fun h=>by cases h);refine wR ?_;simp only[xq,reduceIte,qE,qA,qL,qD];refine dX (Co.nil 2 eW (by decide) (by simp[cJ])) ?_;refine cT ⟨.inr rfl,?_⟩;simp only[dK,eH,dM,cJ,reduceIte,qE,cK,xq,reduceIte,qE,qA,qL,qD];rfl
 ·refine wR ?_;simp only[xq,reduceIte,qE,qA,qL,qD];refine cN ?_;refine wR ?_;simp only[xq,reduceIte,qE,qA,qL,qD,nG,xS];refine cL (t:=false) (by simp[ev,cJ]) (fun h=>by cases h) (fun _=>cQ ?_);simp only[xq,reduceIte,qE,qA,qL,qD];refine wR ?_;simp only[xq,reduceIte,qE,qA,qL,qD,dA,eE,cW];refine⟨dT,hm,cT ⟨.inr rfl,?_⟩⟩;simp only[dK,eH,dM,cJ,reduceIte,qE,cK,xq,reduceIte,qE,qA,qL,qD]
theorem aCx{f:FuncId}{Δ:Ctx}(H:FnIs P f N [.t 2] kQ)(hN:1≤N)(l:List Stp)(h:cM)(hb:Δ.b≤h.length) :
  FnD Δ P f [.d (.sl eSt (fD l))] h (.ref h.length l.length 0 l.length true) (h++[.cells eSt ((fD l).map fun r=>r.map A.d)]):=by
 refine .of_W H (by simpa using hN) hb (xR 0 rfl fun⟨hm,dT,_⟩=>?_);rw[dR] at hm dT;unfold kQ;refine Xy 0 rfl (fun h0=>?_) ?_
 ·have:l=[]:=aC.1 h0;subst this;refine wR ?_;simp only[xq,reduceIte,qE,qA,qL,qD];refine cN ?_;refine wR ?_;simp only[xq,reduceIte,qE,qA,qL,qD,nG,xS];refine cL (t:=true) (by simp[ev,cJ]) (fun _=>?_) (fun h=>by cases h);refine wR ?_;simp only[xq,reduceIte,qE,qA,qL,qD];refine dX (Co.nil 2 eSt (by decide) (by simp[cJ])) ?_;refine cT ⟨.inr rfl,?_⟩;simp only[dK,eH,dM,cJ,reduceIte,qE,cK,xq,reduceIte,qE,qA,qL,qD];rfl
 ·refine wR ?_;simp only[xq,reduceIte,qE,qA,qL,qD];refine cN ?_;refine wR ?_;simp only[xq,reduceIte,qE,qA,qL,qD,nG,xS];refine cL (t:=false) (by simp[ev,cJ]) (fun h=>by cases h) (fun _=>cQ ?_);simp only[xq,reduceIte,qE,qA,qL,qD];refine wR ?_;simp only[xq,reduceIte,qE,qA,qL,qD,dA,eE,dR];refine⟨dT,hm,cT ⟨.inr rfl,?_⟩⟩;simp only[dK,eH,dM,cJ,reduceIte,qE,cK,xq,reduceIte,qE,qA,qL,qD]
theorem aCy{f:FuncId}{Δ:Ctx}(H:FnIs P f N [.t 2] kR)(hN:1≤N)(l:List Cg)(h:cM)(hb:Δ.b≤h.length) :
  FnD Δ P f [.d (.sl Bp (eP l))] h (.ref h.length l.length 0 l.length true) (h++[.cells Bp ((eP l).map fun r=>r.map A.d)]):=by
 refine .of_W H (by simpa using hN) hb (xR 0 rfl fun⟨hm,dT,_⟩=>?_);rw[dD] at hm dT;unfold kR;refine Xy 0 rfl (fun h0=>?_) ?_
 ·have:l=[]:=aC.1 h0;subst this;refine wR ?_;simp only[xq,reduceIte,qE,qA,qL,qD];refine cN ?_;refine wR ?_;simp only[xq,reduceIte,qE,qA,qL,qD,nG,xS];refine cL (t:=true) (by simp[ev,cJ]) (fun _=>?_) (fun h=>by cases h);refine wR ?_;simp only[xq,reduceIte,qE,qA,qL,qD];refine dX (Co.nil 2 Bp (by decide) (by simp[cJ])) ?_;refine cT ⟨.inr rfl,?_⟩;simp only[dK,eH,dM,cJ,reduceIte,qE,cK,xq,reduceIte,qE,qA,qL,qD];rfl
 ·refine wR ?_;simp only[xq,reduceIte,qE,qA,qL,qD];refine cN ?_;refine wR ?_;simp only[xq,reduceIte,qE,qA,qL,qD,nG,xS];refine cL (t:=false) (by simp[ev,cJ]) (fun h=>by cases h) (fun _=>cQ ?_);simp only[xq,reduceIte,qE,qA,qL,qD];refine wR ?_;simp only[xq,reduceIte,qE,qA,qL,qD,dA,eE,dD];refine⟨dT,hm,cT ⟨.inr rfl,?_⟩⟩;simp only[dK,eH,dM,cJ,reduceIte,qE,cK,xq,reduceIte,qE,qA,qL,qD]
theorem aEa{k:Nat}{h:cM}{x y:A}{l l':List A}(hx:FrzA k h x y)(hl:FrzA k h (.agg l) (.agg l')):FrzA k h (.agg (x::l)) (.agg (y::l')):=by
 cases hl with
 | same hu =>
  refine .agg rfl fun j z hj=>?_;rcases j with _ | j
  ·cases hj;exact hx
  ·simp only[aE] at hj;rw[aF,zC,hj];exact .same (A.underL_get (by simpa[A.under] using hu) hj)
 | agg hl hr =>
  refine .agg (by simp[hl]) fun j z hj=>?_;rcases j with _ | j
  ·cases hj;exact hx
  ·simp only[aE] at hj;rw[aF];exact hr j z hj
theorem mT{k:Nat}{h:cM}{x:A}{l l':List A}(hx:x.under k=true)(hl:FrzA k h (.agg l) (.agg l')):FrzA k h (.agg (x::l)) (.agg (x::l')):=aEa (.same hx) hl
theorem To{k:Nat}{h:cM}:FrzA k h (.agg []) (.agg []):=.same rfl
theorem Tp{rows:List (List D)}{i:Nat}{r:List A}(hr:(rows.map fun r=>r.map A.d)[i]? = some r):(rows.map fun r=>r.map A.d).set i r=rows.map fun r=>r.map A.d:=by
 obtain⟨cY,heq⟩:=zA.1 hr;rw[← heq];exact List.set_getElem_self cY
theorem aI2{l:List (List Gl)}{i:Nat}(hi:i<l.length):((dH l).map fun r=>r.map A.d)[i]? = some [.d (.sl dW (cP l[i]))]:=by
 simp[dH,hi]
theorem aPo{l:List Stp}{i:Nat}(hi:i<l.length):((fD l).map fun r=>r.map A.d)[i]? = some [.int l[i].time,eV l[i].chs]:=by
 simp[fD,hi,Stp.ds]
theorem aPp{l:List Cg}{i:Nat}(hi:i<l.length):((eP l).map fun r=>r.map A.d)[i]? = some (l[i].ds.map .d):=by
 simp[eP,hi]
theorem aNI{k q:Nat}{h:cM}{l:List (List Gl)}(hk:k≤q)(hq:h[q]? = some (aNH l)):FrzA k h (.ref q l.length 0 l.length true) (.d (.sl eW (dH l))):=by
 have:=kE (k:=k) (id:=q) (off:=0) (len:=l.length) (full:=true) (e:=eW) (rows:=dH l) hk hq (by rw[cW];omega);rw[cW,List.drop_zero,aB (by rw[cW];exact zL _)] at this;exact .d this
theorem aEb{k q:Nat}{h:cM}{l:List Stp}(hk:k≤q)(hq:h[q]? = some (stB l)):FrzA k h (.ref q l.length 0 l.length true) (aCt l):=by
 have:=kE (k:=k) (id:=q) (off:=0) (len:=l.length) (full:=true) (e:=eSt) (rows:=fD l) hk hq (by rw[dR];omega);rw[dR,List.drop_zero,aB (by rw[dR];exact zL _)] at this;exact .d this
theorem aLm{k q:Nat}{h:cM}{v:Vw}(hk:k≤q)(hq:h[q]? = some (aNH v.rows)):FrzA k h (.agg [.int v.width,.int v.height,.ref q v.rows.length 0 v.rows.length true,.int v.row,.int v.col,.bool v.vis]) (fF v) :=
 mT rfl (mT rfl (aEa (aNI hk hq) (mT rfl (mT rfl (mT rfl To)))))
theorem aNJ{f fc fg:FuncId}{Nc:Nat}(H:FnIs P f N [.c 2 6 true] (uI fc fg))(hN:1≤N)(Hc:FnIs P fc Nc [.t 2] hZ)(hNc:1≤Nc)
  (Hg:∀ rows:List (List D),FnP Γ P fg [.d (.sl dW rows)] (.d (.sl dW rows))):aCv Γ P f:=by
 intro v;refine .of_W H (by simpa using hN) ?_;unfold uI;simp only[fF,Vw.ds,zU,zV];refine tK 0 2 rfl rfl fun⟨_,xH,_⟩=>?_;rw[cW] at xH;have xH:=fI xH;simp only[dL] at xH;refine wR ?_;simp only[xq,reduceIte,qE,qA,qL,qD];refine wR ?_;simp only[xq,reduceIte,qE,qA,qL,qD];refine qJ (aCw (Δ:=Γ.ctx) Hc hNc v.rows _ (zI _)) ?_;simp only[xq,reduceIte,qE,qA,qL,qD];refine cN ?_;refine wR ?_;simp only[xq,reduceIte,qE,qA,qL,qD,cW];refine cS ?_;let H0:cM:=[.cells pA [[.int v.width,.int v.height,.ref 2 v.rows.length 0 v.rows.length true,.int v.row,.int v.col,.bool v.vis]],jJ,aNH v.rows];let S:Nat→St:=fun i=>⟨dB [(1,.ptr 0 1 0 0),(2,.ptr 1 1 0 0),(10,.int v.rows.length),(11,.int i)],H0⟩;refine dX (s':=S 0) (Co.keep _ (by simp[cJ,cK])) ?_;refine dN (fun m s=>∃ i,i≤v.rows.length∧m=v.rows.length-i∧s=S i) ⟨0,zI _,rfl,rfl⟩ ?_;rintro m s ⟨i,hi,rfl,rfl⟩;simp only[S];refine wR ?_;simp only[xq,reduceIte,qE,qA,qL,qD];refine cN (cL rfl (fun hc=>cQ ?_) (fun hc=>dJ ?_))
 ·have cY:i<v.rows.length:=by simpa using hc
  have w1:IntKind.i64.wrap ((i:Int)+1)=((i+1:Nat):Int):=by rw[cX (by omega)];omega
  simp only[xq,reduceIte,qE,qA,qL,qD];refine cN (cS ?_);refine wR ?_;simp only[xq,reduceIte,qE,qA,qL,qD];refine eD (by simp) ?_;simp only[xq,reduceIte,qE,qA,qL,qD,H0,cW,aI2 cY,zQ]
  repeat refine aD (by omega) ?_
  refine dF (Hg (cP v.rows[i])) rfl ?_;simp only[xq,reduceIte,qE,qA,qL,qD,cW,aI2 cY,zQ]
  repeat refine aD (by omega) ?_
  simp only[Tp (aI2 cY)];refine cU ?_;simp only[xq,reduceIte,qE,qA,qL,qD,w1];exact⟨v.rows.length-(i+1),S (i+1),by omega,Co.keep _ (by simp[cJ,cK]),i+1,cY,rfl,rfl⟩
 ·simp only[xq,reduceIte,qE,qA,qL,qD,H0];refine wR ?_;simp only[xq,reduceIte,qE,qA,qL,qD];refine cT ⟨.inr rfl,?_⟩;simp only[dK,eH,dM,cJ,reduceIte,qE,cK,gQ,xq,reduceIte,qE,qA,qL,qD,dI];exact aLm (q:=2) (zI _) rfl
theorem aI3{n m:Nat}{B:HB}(h:HB.under n B)(hm:n≤m):HB.under m B:=by
 cases B with
 | cells e rows=>exact fun r hr x hx=>A.under_mono (h r hr x hx) hm
 | _=>trivial
theorem rG{n:Nat}{e:Elt}{rows:List (List D)}:HB.under n (.cells e (rows.map fun r=>r.map A.d)):=by
 intro r hr x hx;obtain⟨r',_,rfl⟩:=List.mem_map.1 hr;obtain⟨d,_,rfl⟩:=List.mem_map.1 hx;rfl
theorem aPq{Γ:Ctx}{rl:Option Nat}{n0:Nat}{c:XC}{Q:Exit→St→Prop}{s:St}(id:Nat){e:Elt}{rows:List (List A)}(hh:s.heap[id]? = some (.cells e rows))(h:rows.length * e.bytes≤dL→W Γ P N rl n0 c Q s):W Γ P N rl n0 c Q s :=
 Zy (fun z M ρ a w S=>(S.sim.cells id e rows hh).2.1) h
abbrev tlX(t:Tl)(x:A):HB:=.cells eTl [tlW t x]
abbrev Py:HB:=.cells eTl [[.int 0,.int 0,.int 0,.int 0,.nil,.int 0,.int 0,.bool false,.nil]]
theorem aFg{k q:Nat}{h:cM}{t:Tl}(hk:k≤q)(hq:h[q]? = some (stB t.steps)):FrzA k h (.agg (tlW t (.ref q t.steps.length 0 t.steps.length true))) (rT t) :=
 mT rfl (mT rfl (mT rfl (mT rfl (mT rfl (mT rfl (mT rfl (mT rfl (aEa (aEb hk hq) To))))))))
theorem aG5{f fo fs fc fg:FuncId}{Ns Nc:Nat}{Δ:Ctx}(H:FnIs P f N [.c 2 9 true] (pM fo fs fc fg))(hN:1≤N)(Ho:aCv Δ.t P fo)(Hs:FnIs P fs Ns [.t 2] kQ)(hNs:1≤Ns)
  (Hc:FnIs P fc Nc [.t 2] kR) (hNc:1≤Nc) (Hg:∀ rows:List (List D),FnP Δ.t P fg [.d (.sl dW rows)] (.d (.sl dW rows))) (t:Tl) (h:cM) (hb:Δ.b≤h.length) :
  FnD Δ P f [rT t] h (.agg (tlW t (.ref (h.length+2) t.steps.length 0 t.steps.length true))) (h++[tlX t (.ref (h.length+2) t.steps.length 0 t.steps.length true),tlX t (.ref (h.length+2) t.steps.length 0 t.steps.length true),stB t.steps]):=by
 refine .of_W H (by simpa using hN) hb (Eg fun hu=>?_);have ho:=Ho t.base;unfold pM;simp only[fF,Vw.ds,rT,Tl.ds,zU,zV] at ho ⊢;refine tK 0 8 rfl rfl fun⟨_,xH,Ku⟩=>?_;rw[dR] at xH;have xH:=fI xH;simp only[dL] at xH;refine wR ?_;simp only[xq,reduceIte,qE,qA,qL,qD];refine cN (eD (by simp) ?_);simp only[xq,reduceIte,qE,qA,qL,qD,dA,eT,fC,eE,iV,zS];refine dF (ho) rfl ?_;simp only[xq,reduceIte,qE,qA,qL,qD,dA,eT,fC,eE,iV,zS];refine Cp (aCx Hs hNs t.steps _ (by simp;omega)) ?_;simp only[xq,reduceIte,qE,qA,qL,qD,dA,eT,fC,eE,iV,zS];let x:A:=.ref (h.length+2) t.steps.length 0 t.steps.length true;let H0:cM:=h++[tlX t x,Py,stB t.steps];refine dX (s':=⟨dB [(1,.ptr h.length 1 0 0),(2,.ptr (h.length+1) 1 0 0)],H0⟩) (Co.keep _ (by simp[cJ,cK])) ?_;simp only[H0,x];refine cN ?_;refine wR ?_;simp only[xq,reduceIte,qE,qA,qL,qD,dA,eT,fC,eE,iV,zS,dR,tlW];refine cS ?_;let S:Nat→St:=fun i=>⟨dB [(1,.ptr h.length 1 0 0),(2,.ptr (h.length+1) 1 0 0),(16,.int t.steps.length),(17,.int i)],H0⟩;refine dX (s':=S 0) (Co.keep _ (by simp[cJ,cK])) ?_;refine dN (fun m s=>∃ i,i≤t.steps.length∧m=t.steps.length-i∧s=S i) ⟨0,zI _,rfl,rfl⟩ ?_;rintro m s ⟨i,hi,rfl,rfl⟩;simp only[S,H0,x];refine wR ?_;simp only[xq,reduceIte,qE,qA,qL,qD];refine cN (cL rfl (fun hc=>cQ ?_) (fun hc=>dJ ?_))
 ·have cY:i<t.steps.length:=by simpa using hc
  have w1:IntKind.i64.wrap ((i:Int)+1)=((i+1:Nat):Int):=by rw[cX (by omega)];omega
  obtain⟨s,hs⟩:∃ s,s=t.steps[i]:=⟨_,rfl⟩;have mO:=aPo cY;rw[← hs] at mO;simp only[xq,reduceIte,qE,qA,qL,qD];refine cN (cS ?_);refine wR ?_;simp only[xq,reduceIte,qE,qA,qL,qD];refine wR ?_;simp only[xq,reduceIte,qE,qA,qL,qD,dA,eT,fC,eE,iV,zS,dR,tlW,mO,zQ]
  repeat refine aD (by omega) ?_
  refine qJ (aCy Hc hNc s.chs _ (by simp;omega)) ?_;simp only[xq,reduceIte,qE,qA,qL,qD,zS];let H1:cM:=h++[tlX t x,Py,stB t.steps,fT s.chs];have e31:H1.take (h.length+3)=h++[tlX t x,Py,stB t.steps]:=by simp[H1,List.take_append,aB]
  refine dX (s':=⟨dB [(1,.ptr h.length 1 0 0),(2,.ptr (h.length+1) 1 0 0),(3,.int i),(4,.ref (h.length+3) s.chs.length 0 s.chs.length true),(16,.int t.steps.length),(17,.int i)],H1⟩) (Co.keep _ (by simp[cJ,cK])) ?_;refine eJ (· = ⟨dB [(1,.ptr h.length 1 0 0),(2,.ptr (h.length+1) 1 0 0),(3,.int i),(4,eV s.chs),(16,.int t.steps.length),(17,.int i)],H0⟩) ?_ ?_
  ·simp only[H1];refine aPq (h.length+3) (e:=Bp) (rows:=(eP s.chs).map fun r=>r.map A.d) fC fun hcb=>?_;rw[aI,dD] at hcb;have hcb:=fI hcb;simp only[dL] at hcb;refine wR ?_;simp only[xq,reduceIte,qE,qA,qL,qD,fC,dD];refine cS ?_;let S2:Nat→St:=fun j=>⟨dB [(1,.ptr h.length 1 0 0),(2,.ptr (h.length+1) 1 0 0),(3,.int i),(4,.ref (h.length+3) s.chs.length 0 s.chs.length true),(16,.int t.steps.length),(17,.int i),(28,.int s.chs.length),(29,.int j)],H1⟩;refine dX (s':=S2 0) (Co.keep _ (by simp[cJ,cK])) ?_;refine dN (fun m s'=>∃ j,j≤s.chs.length∧m=s.chs.length-j∧s'=S2 j) ⟨0,zI _,rfl,rfl⟩ ?_;rintro m s' ⟨j,hj,rfl,rfl⟩;simp only[S2,H1];refine wR ?_;simp only[xq,reduceIte,qE,qA,qL,qD];refine cN (cL rfl (fun hc=>cQ ?_) (fun hc=>dJ ?_))
   ·have qO:j<s.chs.length:=by simpa using hc
    have w2:IntKind.i64.wrap ((j:Int)+1)=((j+1:Nat):Int):=by rw[cX (by omega)];omega
    obtain⟨c,Ij⟩:∃ c,c=s.chs[j]:=⟨_,rfl⟩;have Cc:=aPp qO;rw[← Ij] at Cc;have aPB:=Tp Cc;simp only[Cg.ds,zU,zV] at Cc aPB;simp only[xq,reduceIte,qE,qA,qL,qD];refine cN (cS ?_);refine wR ?_;simp only[xq,reduceIte,qE,qA,qL,qD];refine cU ?_;simp only[xq,reduceIte,qE,qA,qL,qD,fC,dD,Cc,zQ]
    repeat refine aD (by omega) ?_
    refine dF (Hg (cP c.gl)) rfl ?_;simp only[xq,reduceIte,qE,qA,qL,qD,fC,iV,dD,Cc,zQ]
    repeat refine aD (by omega) ?_
    simp only[aPB];refine cU ?_;simp only[xq,reduceIte,qE,qA,qL,qD,w2];exact⟨s.chs.length-(j+1),S2 (j+1),by omega,Co.keep _ (by simp[cJ,cK]),j+1,qO,rfl,rfl⟩
   ·simp only[xq,reduceIte,qE,qA,qL,qD];refine⟨_,Co.frz (s:=⟨_,H1⟩) [(1,.ptr h.length 1 0 0),(2,.ptr (h.length+1) 1 0 0),(3,.int i),(4,eV s.chs),(16,.int t.steps.length),(17,.int i)] (h.length+3) ?_ (by omega) (by simp[H1]) ?_,?_⟩
    ·intro p hp;simp only[zp,zc,or_false] at hp;rcases hp with rfl | rfl | rfl | rfl | rfl | rfl
     ·exact .same (by simp[A.under,cJ,cK])
     ·exact .same (by simp[A.under,cJ,cK])
     ·exact .same rfl
     ·exact El (by omega) fC
     ·exact .same rfl
     ·exact .same rfl
    ·show ∀ B∈H1.take (h.length+3),HB.under (h.length+3) B;rw[e31];intro B hB;rcases List.mem_append.1 hB with hB | hB
     ·exact aI3 (hu B hB) (Nat.le_add_right _ _)
     ·simp only[zp,zc,or_false] at hB;rcases hB with rfl | rfl | rfl
      ·intro r hr y hy;simp only[zp,zc,or_false] at hr;subst hr;simp only[tlW,zp,zc,or_false] at hy;rcases hy with rfl | rfl | rfl | rfl | rfl | rfl | rfl | rfl | rfl<;>simp[A.under,x]
      ·intro r hr y hy;simp only[zp,zc,or_false] at hr;subst hr;simp only[zp,zc,or_false] at hy;rcases hy with rfl | rfl | rfl | rfl | rfl | rfl | rfl | rfl | rfl<;>rfl
      ·exact rG
    ·show(⟨_,H1.take (h.length+3)⟩:St)=_;rw[e31]
  rintro _ rfl;simp only[H0,x];have aQ5:=Tp mO;refine cU ?_;simp only[xq,reduceIte,qE,qA,qL,qD,dA,eT,fC,eE,iV,zS,dR,tlW,mO,zQ]
  repeat refine aD (by omega) ?_
  simp only[aQ5];refine cU ?_;simp only[xq,reduceIte,qE,qA,qL,qD,w1];exact⟨t.steps.length-(i+1),S (i+1),by omega,Co.keep _ (by simp[cJ,cK]),i+1,cY,rfl,rfl⟩
 ·have gZ:i=t.steps.length:=by simp at hc;omega
  subst gZ;simp only[xq,reduceIte,qE,qA,qL,qD];refine wR ?_;simp only[xq,reduceIte,qE,qA,qL,qD,dA,eT,fC,eE,iV,zS,tlW];refine cT ⟨.inr rfl,?_⟩;simp only[dK,eH,dM,cJ,reduceIte,qE,cK,gQ,xq,reduceIte,qE,qA,qL,qD,dI,dA,eT,fC];rfl
end
section
variable {P:Program}{N:Nat}{Γ:dP}
theorem aI4{f f1:FuncId}(H:FnIs P f N [.t 2] (qU f1))(hN:1≤N)(t:Tl):FnP Γ P f [rT t] (.fn f1 [.iptr t.ds]):=by
 refine .of_W H (by simpa using hN) ?_;unfold qU;simp only[rT,Tl.ds,zU,zV];refine wR ?_;simp only[xq,reduceIte,qE,qA,qL,qD];refine wR ?_;simp only[xq,reduceIte,qE,qA,qL,qD];refine cT (.frz ?_);simp only[xq,reduceIte,qE,qA,qL,qD];refine .fn rfl fun j y hj=>?_;rcases j with _ | j
 ·cases hj;exact kX (zI _) (e:=eTl) (ds:=t.ds) rfl
 ·simp at hj
theorem Turn.setOwn{L L':List (Nat × HB)}{h h':cM}(T:Turn L L' h h'){q:Nat}{X:HB}(hq:h.length≤q)(hn:q ∉ mP L'):Turn L L' h (h'.set q X) :=
 ⟨T.has.set hn X,by rw[List.length_set];exact T.len,fun p hp hnp=>by rw[List.getElem?_set_ne (by omega)];exact T.keep p hp hnp,T.new⟩
theorem aEc{f fa:FuncId}(H:FnIs P f N [] (nN fa))(hN:2≤N)(Ha:aGz Γ P fa)(t:Tl)(lG:TOk t.base t.steps)(hf : -1000000000000≤t.first∧t.first≤1000000000000)(hl:t.steps.length≤1000000) :
  aBw Γ P f [.iptr t.ds] (Tn t.first t.base t.steps):=by
 refine⟨H.enters,fun env bb id I E rounds L h hI hL hbb=>?_⟩;refine .of_WT H (by simpa using hN) hbb (xP ?_);unfold nN;have hq:h.length ∉ mP L:=fun hm=>absurd (hL.lt _ hm) (Nat.lt_irrefl _);have Ta:=Turn.app hL [fX t.base];have Dy:bb≤(h++[fX t.base]).length:=by simp;omega
 have hx0:=aCu (f:=t.first) (v:=t.base) (l:=t.steps) (k:=0) rfl;rw[show t.first+((0:Nat):Int)=t.first by omega] at hx0;refine wR ?_;simp only[xq,reduceIte,qE,qA,qL,qD,Tl.ds,dA,eE];refine cN (cN ?_);rcases rounds _ _ L _ hx0 hI Ta.has Dy with⟨L2,h2,hR,T2,hI2⟩ | ⟨L2,h2,hR,T2,hE2⟩
 ·simp only[fF,Vw.ds,zU,zV] at hR;refine cU ?_;simp only[xq,reduceIte,qE,qA,qL,qD,Tl.ds,dA];refine wL hR ?_;simp only[xq,reduceIte,qE,qA,qL,qD];refine cL rfl (fun hd=>by cases hd) (fun _=>cQ ?_);simp only[xq,reduceIte,qE,qA,qL,qD];refine cN ?_;refine cU ?_;simp only[xq,reduceIte,qE,qA,qL,qD,Tl.ds,dR];refine cS ?_;let S:Nat→cM→St:=fun i hh=>⟨dB [(0,.yld id),(1,.iptr t.ds),(3,.ptr h.length 1 0 0),(18,aCt t.steps),(19,.int t.steps.length),(20,.int i)],hh⟩;refine dX (s':=S 0 h2) (Co.keep _ (by simp[cJ,cK,Tl.ds])) ?_;have hq2:h.length ∉ mP L2:=fun hm=>by
   rcases T2.new _ hm with h1 | h1
   ·exact hq h1
   ·simp at h1;omega
  have hv2:h2[h.length]? = some (fX t.base):=by rw[T2.keep _ (by simp) hq];exact dA
  refine dN (fun m s=>∃ i w L' hh,m=t.steps.length-i∧s=S i hh∧TWalk t.base t.steps i w∧Turn L L' h hh∧I (i+1) L'∧hh[h.length]? = some (fX w)∧h.length ∉ mP L')
   ⟨0,t.base,L2,h2,rfl,rfl,.zero lG,Ta.trans T2,hI2,hv2,hq2⟩ ?_
  rintro m s ⟨i,w,L',hh,rfl,rfl,tw,T,hI',hv,hqn⟩;have aPI:=tw.le;simp only[S];refine wR ?_;simp only[xq,reduceIte,qE,qA,qL,qD];refine cN (cL rfl (fun hc=>cQ ?_) (fun hc=>dJ ?_))
  ·have cY:i<t.steps.length:=by simpa using hc
   have w1:IntKind.i64.wrap ((i:Int)+1)=((i+1:Nat):Int):=by rw[cX (by omega)];omega
   have w2:IntKind.i64.wrap (t.first+(i:Int))=t.first+(i:Int):=cX (by omega);have w3:IntKind.i64.wrap (t.first+(i:Int)+1)=t.first+((i+1:Nat):Int):=by rw[cX (by omega)];omega
   obtain⟨s,hs⟩:∃ s,s=t.steps[i]:=⟨_,rfl⟩;have fE:=tw.run cY;have iH:=tw.step cY;have aFD:=tw.stop cY;have hsg:(fD t.steps).getD i []=s.ds:=by rw[lY cY,← hs]
   rw[← hs] at fE iH aFD;have Qb:=Ha w s.chs fE.1 fE.2;obtain⟨w',i',e',hq'⟩:∃ w' i' e',dU w s.chs=(w',i',e'):=⟨_,_,_,rfl⟩;rw[hq'] at Qb iH aFD;simp only at iH aFD;have hhl:h.length<hh.length:=(zA.1 hv).1;have gq:∀ tt:cM,(hh++tt)[h.length]? = some (fX w):=fun tt=>fB hv;simp only[apA,fF,Vw.ds,zU,zV] at Qb;simp only[xq,reduceIte,qE,qA,qL,qD];refine cN (cS ?_);refine wR ?_;simp only[xq,reduceIte,qE,qA,qL,qD,dR,hsg,Stp.ds,zQ,dA,eE]
   repeat refine aD (by omega) ?_
   refine wR ?_;simp only[xq,reduceIte,qE,qA,qL,qD,gq,Vw.ds,dA,eT,fC,eE,iV,zS];refine dF (Qb) rfl ?_;simp only[xq,reduceIte,qE,qA,qL,qD,dA,eT,fC,eE,iV,zS,Vw.ds];let hh2:cM:=hh++[.cells eSt [s.ds.map .d],fX w'];refine dX (s':=⟨dB [(0,.yld id),(1,.iptr t.ds),(3,.ptr h.length 1 0 0),(4,.int i),(6,.ptr (hh.length+1) 1 0 0),(8,.int e'),(18,aCt t.steps),(19,.int t.steps.length),(20,.int i)],hh2⟩) (Co.keep _ (by simp[cJ,cK])) ?_;have Tb:Turn L' L' hh hh2:=Turn.app T.has _;have aJ5:bb≤hh2.length:=by simp[hh2];omega
   refine cN (cN ?_)
   by_cases he:e'=0
   ·have hw:=iH he;have hx1:=aCu (f:=t.first) hw.at';rcases rounds _ _ L' _ hx1 hI' Tb.has aJ5 with⟨L3,h3,hR3,T3,hI3⟩ | ⟨L3,h3,hR3,T3,hE3⟩
    ·simp only[fF,Vw.ds,zU,zV] at hR3;refine cU ?_;simp only[xq,reduceIte,qE,qA,qL,qD,he,hh2,Tl.ds,w2,w3,dA,eT,fC,Vw.ds,cV,zE,ne_eq,decide_true,decide_false,not_true_eq_false];refine wL hR3 ?_;simp only[xq,reduceIte,qE,qA,qL,qD];refine cL rfl (fun hd=>by cases hd) (fun _=>cQ ?_);simp only[xq,reduceIte,qE,qA,qL,qD];have hn1:hh.length+1 ∉ mP L':=fun hm=>by have:=T.has.lt _ hm;omega
     have g6:h3[hh.length+1]? = some (fX w'):=by rw[T3.keep _ (by simp[hh2]) hn1];exact fC
     have g3:h3[h.length]? = some (fX w):=by rw[T3.keep _ (by simp[hh2];omega) hqn];exact fB hv
     have hq3:h.length ∉ mP L3:=fun hm=>by
      rcases T3.new _ hm with h1 | h1
      ·exact hqn h1
      ·simp[hh2] at h1;omega
     refine cU ?_;simp only[xq,reduceIte,qE,qA,qL,qD,g6,g3,Vw.ds];refine cU ?_;simp only[xq,reduceIte,qE,qA,qL,qD,w1];refine⟨t.steps.length-(i+1),S (i+1) (h3.set h.length (fX w')),by omega,Co.keep _ (by simp[cJ,cK,Tl.ds]),i+1,w',L3,_,rfl,rfl,hw,(T.trans (Tb.trans T3)).setOwn (zL _) hq3,hI3,?_,hq3⟩;rw[List.getElem?_set_self (zA.1 g3).1]
    ·simp only[fF,Vw.ds,zU,zV] at hR3;refine cU ?_;simp only[xq,reduceIte,qE,qA,qL,qD,he,hh2,Tl.ds,w2,w3,dA,eT,fC,Vw.ds,cV,zE,ne_eq,decide_true,decide_false,not_true_eq_false];refine wL hR3 ?_;simp only[xq,reduceIte,qE,qA,qL,qD];refine cL rfl (fun _=>cT ?_) (fun hd=>by cases hd);simp only[xq,reduceIte,qE,qA,qL,qD];refine⟨.inr trivial,?_⟩;simp only[dK];exact⟨L3,T.trans (Tb.trans T3),.inr hE3⟩
   ·have gZ:=aFD he;have hd:decide (e'=0)=false:=by simpa using he
    refine cU ?_;simp only[xq,reduceIte,qE,qA,qL,qD,hd,hh2,cV,zE];refine cL rfl (fun _=>cT ?_) (fun hd=>by cases hd);simp only[xq,reduceIte,qE,qA,qL,qD];refine⟨.inr trivial,?_⟩;simp only[dK];exact⟨L',T.trans Tb,.inl (by rw[Dn,gZ];exact hI')⟩
  ·have Zi:i=t.steps.length:=by simp at hc;omega
   subst Zi;have qH:=tw.fin;simp only[xq,reduceIte,qE,qA,qL,qD];refine⟨.inl trivial,?_⟩;simp only[dK];exact⟨L',T,.inl (by rw[Dn,qH];exact hI')⟩
 ·simp only[fF,Vw.ds,zU,zV] at hR;refine cU ?_;simp only[xq,reduceIte,qE,qA,qL,qD,Tl.ds,dA];refine wL hR ?_;simp only[xq,reduceIte,qE,qA,qL,qD];refine cL rfl (fun _=>cT ?_) (fun hd=>by cases hd);simp only[xq,reduceIte,qE,qA,qL,qD];refine⟨.inr trivial,?_⟩;simp only[dK];exact⟨L2,Ta.trans T2,.inr hE2⟩
end
end Go.Proofs.YtlllnjhgjijnkaaGreatDoor.Nx

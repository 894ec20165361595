import Derived.Test.YtlllnjhgjijnkaaGreatDoorNxI2
import Derived.Test.YtlllnjhgjijnkaaGreatDoorNxE21
import Derived.Test.YtlllnjhgjijnkaaGreatDoorNxW8
set_option linter.all false
open List renaming getElem?_eq_some_iff → zA, getElem?_eq_getElem → zB, getD_eq_getElem?_getD → zC, getElem?_map → zK, getElem?_set_self → zN, append_nil → zP, append_assoc → zS, map_cons → zU, map_nil → zV, mem_of_getElem? → zY, length_cons → za, length_append → zb, not_mem_nil → zc, drop_eq_getElem_cons → zd, getElem_mem → zi, mem_cons → zp
open Bool renaming true_eq_false → zE
open Nat renaming zero_le → zI
open Int renaming toNat_natCast → zQ
open Nat renaming reduceEqDiff → qE, reduceAdd → qA, reduceLT → qL, reduceLeDiff → qD
set_option maxHeartbeats 4000000
open List renaming mem_singleton → aA, take_of_length_le → aB, take_append_of_le_length → aC, mem_map → aD, take_add_one → aG, take_length → aH
open Option renaming toList_some → aE
open Int renaming add_zero → aF
namespace Go.Proofs.YtlllnjhgjijnkaaGreatDoor.Nx
open Go
section
variable {P:Program}{N:Nat}{Γ:dP}
theorem Tc{l:List Cg}{i:Nat}(hi:i<l.length):((eP l).drop i).take 1=eP [l[i]]:=by
 rw[eP,← List.map_drop,← List.map_take,zd hi];rfl
theorem aGK(c:Cg):gD [c]=lX c:=by rw[uV,gD,aF]
def yF(c:Cg):Int:=if c.kind=1∨c.kind=4 then 1 else if c.kind=2 then 3 else if c.kind=3 then lX c else 0
theorem Od{l:List Cg}{i:Nat}(hi:i<l.length):gC (l.take (i+1))=gC (l.take i)+yF l[i]:=by
 rw[aG,zB hi,aE,Sw,gC,gC,aF];rfl
theorem Lt{c:Cg}{n:Nat}(h:c.gl.length≤n):0≤yF c∧yF c≤1002+n:=by
 unfold yF lX;split
 ·omega
 ·split
  ·omega
  ·split<;>omega
theorem Td:∀ {l:List Cg} {n:Nat},(∀ c∈l,c.gl.length≤n)→0≤gC l∧gC l≤l.length * (1002+n)
 | [],n,_=>by simp[gC]
 | c::l,n,h=>by
  have ih:=Td (l:=l) (n:=n) fun c hc=>h c (List.mem_cons_of_mem _ hc);have h1:=Lt (h c (List.mem_cons_self ..));have e:((c::l).length:Int) * (1002+n)=(l.length:Int) * (1002+n)+(1002+n):=by
   rw[za];push_cast;rw[Int.add_mul];omega
  have e2:gC (c::l)=yF c+gC l:=rfl;rw[e2,e];omega
structure Few(l:List Cg):Prop where
 len:l.length≤20000000
 gl:∀ c∈l,c.gl.length≤1000000
abbrev Lu(Γ:dP)(P:Program)(f:FuncId):Prop:=∀ l:List Cg,Few l→FnP Γ P f [eV l] (.int (gC l))
theorem Few.bnd{l:List Cg}(h:Few l)(i:Nat):0≤gC (l.take i)∧gC (l.take i)≤20040000000000:=by
 have:=Td (l:=l.take i) (n:=1000000) fun c hc=>h.gl c (List.mem_of_mem_take hc);have h1:(l.take i).length≤20000000:=by have:=h.len;rw[List.length_take];omega
 have h2:((l.take i).length:Int) * (1002+(1000000:Nat))≤20000000 * (1002+(1000000:Nat)):=Int.mul_le_mul_of_nonneg_right (by omega) (by omega);omega
abbrev Px(Γ:dP)(P:Program)(f:FuncId):Prop:=∀ c:Cg,c.gl.length≤1000000→FnP Γ P f [eV [c]] (.int (lX c))
theorem aGL{f fc:FuncId}(H:FnIs P f N [.t 2] (sQ fc))(hN:1≤N)(Hc:Px Γ P fc):Lu Γ P f:=by
 intro l hl;refine .of_W H (by simpa using hN) ?_;have hll:=hl.len;unfold sQ;refine wR ?_;simp only[xq,reduceIte,qE,qA,qL,qD];refine wR ?_;simp only[xq,reduceIte,qE,qA,qL,qD];refine cN ?_;refine wR ?_;simp only[xq,reduceIte,qE,qA,qL,qD,dD];refine cS ?_;let S:Nat→St:=fun i=>⟨dB [(0,eV l),(3,.int (gC (l.take i))),(6,eV l),(7,.int l.length),(8,.int i)],[]⟩;refine dX (s':=S 0) (Co.keep _ (by simp[cJ,cK,gC])) ?_;refine dN (fun m s=>∃ i,i≤l.length∧m=l.length-i∧s=S i) ⟨0,zI _,rfl,rfl⟩ ?_;rintro m s ⟨i,hi,rfl,rfl⟩;simp only[S];refine wR ?_;simp only[xq,reduceIte,qE,qA,qL,qD];refine cN (cL rfl (fun hc=>cQ ?_) (fun hc=>dJ ?_))
 ·have cY:i<l.length:=by simpa using hc
  have w1:IntKind.i64.wrap ((i:Int)+1)=((i+1:Nat):Int):=by rw[cX (by omega)];omega
  have hb:=hl.bnd i;have Im:=hl.gl _ (zi cY);have Pl:=Od cY;have aJ9:=Tc cY;have Ij:yF l[i]=if l[i].kind=1∨l[i].kind=4 then 1 else if l[i].kind=2 then 3 else if l[i].kind=3 then lX l[i] else 0:=rfl;obtain⟨c,Kt⟩:∃ c,c=l[i]:=⟨_,rfl⟩;have Cc:(eP l).getD i []=c.ds:=by rw[jP cY,← Kt]
  rw[← Kt] at Im Pl aJ9 Ij;have hC:=Hc c Im;have hcb:=Lt Im;obtain⟨n0,hn0⟩:∃ n,n=gC (l.take i):=⟨_,rfl⟩;rw[← hn0] at hb Pl;simp only[← hn0];simp only[xq,reduceIte,qE,qA,qL,qD];let T:Int→St:=fun n=>⟨dB [(0,eV l),(3,.int n),(6,eV l),(7,.int l.length),(8,.int i)],[]⟩;refine eJ (· = T (n0+yF c)) ?_ ?_
  ·refine cS ?_;refine wR ?_;simp only[xq,reduceIte,qE,qA,qL,qD,dD,Cc,Cg.ds,zQ];refine⟨by omega,by omega,?_⟩;let V:St:=⟨dB [(0,eV l),(3,.int n0),(4,.int i),(6,eV l),(7,.int l.length),(8,.int i),(14,.int c.kind)],[]⟩;refine wR ?_;simp only[xq,reduceIte,qE,qA,qL,qD,Cg.ds];refine dX (s':=V) (Co.to _ 0 (by simp[cJ,cK,A.under]) (zI _) (zI _) u0) ?_;have fin:∀ (sl:Nat→A) (h:cM) (n:Int),sl 0=eV l→sl 3 = .int n→sl 6=eV l→sl 7 = .int l.length→sl 8 = .int i→n=n0+yF c→∃ s1,Co 0 ⟨sl,h⟩ s1∧s1=T (n0+yF c):=by
    intro sl h n q0 q3 q6 q7 q8 hn;refine⟨_,Co.to (s:=⟨sl,h⟩) [(0,eV l),(3,.int n),(6,eV l),(7,.int l.length),(8,.int i)] 0 ?_ (zI _) (zI _) u0,?_⟩
    ·simp[q0,q3,q6,q7,q8,A.under]
    ·rw[hn];rfl
   simp only[V];refine cS ?_;refine eJ (· = ⟨dB [(0,eV l),(3,.int n0),(4,.int i),(6,eV l),(7,.int l.length),(8,.int i),(14,.int c.kind),(15,.bool (decide (c.kind=1)||decide (c.kind=4)))],[]⟩) ?_ ?_
   ·refine wR ?_;simp only[xq,reduceIte,qE,qA,qL,qD];refine cL rfl (fun hd=>cQ ?_) (fun hd=>cU ?_)
    ·exact⟨rfl,_,Co.keep _ (by simp[cJ,cK,hd]),rfl⟩
    ·simp only[xq,reduceIte,qE,qA,qL,qD];exact⟨_,Co.keep _ (by simp[cJ,cK,hd]),rfl⟩
   rintro _ rfl;refine cL rfl (fun hd=>?_) (fun hd=>?_)
   ·have hd:c.kind=1∨c.kind=4:=by simpa using hd
    rw[if_pos hd] at Ij;have w2:IntKind.i64.wrap (n0+1)=n0+1:=cX (by omega);refine cU ?_;simp only[xq,reduceIte,qE,qA,qL,qD,w2];exact fin _ _ (n0+1) rfl rfl rfl rfl rfl (by rw[Ij])
   have hd:¬ (c.kind=1∨c.kind=4):=by simpa using hd
   rw[if_neg hd] at Ij;refine wR ?_;simp only[xq,reduceIte,qE,qA,qL,qD];refine cL rfl (fun tU=>?_) (fun tU=>?_)
   ·have tU:=of_decide_eq_true tU;rw[if_pos tU] at Ij;have w2:IntKind.i64.wrap (n0+3)=n0+3:=cX (by omega);refine cU ?_;simp only[xq,reduceIte,qE,qA,qL,qD,w2];exact fin _ _ (n0+3) rfl rfl rfl rfl rfl (by rw[Ij])
   have tU:=of_decide_eq_false tU;rw[if_neg tU] at Ij;refine wR ?_;simp only[xq,reduceIte,qE,qA,qL,qD];refine cL rfl (fun hd3=>?_) (fun hd3=>cQ ?_)
   ·have hd3:=of_decide_eq_true hd3;rw[if_pos hd3] at Ij;have w2:IntKind.i64.wrap (n0+lX c)=n0+lX c:=by rw[← Ij];exact cX (by omega)
    refine cU ?_;simp only[xq,reduceIte,qE,qA,qL,qD,w1,zQ,show(((i+1:Nat):Int)-(i:Int)).toNat=1 by omega,aJ9,dD]
    repeat refine And.intro (by omega) ?_
    refine dF (hC) rfl ?_;simp only[xq,reduceIte,qE,qA,qL,qD,w2];exact fin _ _ (n0+lX c) rfl rfl rfl rfl rfl (by rw[Ij])
   ·have hd3:=of_decide_eq_false hd3;rw[if_neg hd3] at Ij;simp only[xq,reduceIte,qE,qA,qL,qD];exact fin _ _ n0 rfl rfl rfl rfl rfl (by rw[Ij,aF])
  rintro _ rfl;simp only[T];refine cU ?_;simp only[xq,reduceIte,qE,qA,qL,qD,w1];exact⟨l.length-(i+1),S (i+1),by omega,Co.keep _ (by simp[cJ,cK,Pl]),i+1,cY,rfl,rfl⟩
 ·have gZ:i=l.length:=by simp at hc;omega
  subst gZ;simp only[xq,reduceIte,qE,qA,qL,qD];refine wR ?_;simp only[xq,reduceIte,qE,qA,qL,qD];refine cT (.tmp ?_ rfl);simp only[cJ,reduceIte,aH,xq,reduceIte,qE,qA,qL,qD]
end
section
variable {P:Program}{N:Nat}{Γ:dP}
theorem Lv{sl:Nat→A}{h t:cM}{a b:Vw}(l:List (Nat × A))(h2:sl 2 = .ptr 0 1 0 0)(h3:sl 3 = .ptr 1 1 0 0)(hl:∀ p∈l,p.2.under 0=true∧sl p.1=p.2):Co 0 ⟨sl,fX a::fX b::t⟩ ⟨dB ((2,.iptr a.ds)::(3,.iptr b.ds)::l),[]⟩:=by
 refine Co.frz (s:=⟨sl,fX a::fX b::t⟩) _ 0 ?_ (zI _) (zI _) u0;intro p hp;simp only[zp] at hp;rcases hp with rfl | rfl | hp
 ·simp only;rw[h2];exact kX (zI _) (e:=pA) rfl
 ·simp only;rw[h3];exact kX (zI _) (e:=pA) rfl
 ·obtain⟨q1,q2⟩:=hl p hp;show FrzA 0 _ (sl p.1) p.2;rw[q2];exact .same q1
end
section
variable {P:Program}{N:Nat}{Γ:dP}
theorem aGM{h:cM}{q:Nat}{e:Elt}{rows:List (List D)}(hs:∀ r∈rows,∀ d∈r,∃ v,d = .sc v)(hq:h[q]? = some (.cells e (rows.map fun r=>r.map .d))):FrzN h (.ref q rows.length 0 rows.length true) (.sl e rows):=by
 have eG:(rows.map fun r=>r.map A.d).length=rows.length:=by simp
 rw[← eG];have get:∀ i r,rows[i]? = some r→(rows.map fun r=>r.map A.d).getD (0+i) []=r.map .d:=by
  intro i r hi;rw[Nat.zero_add,zC,zK,hi];rfl
 refine .ref hq eG.symm (fun i r hi=>?_) (fun i r j d hi hj=>?_)
 ·rw[get i r hi];simp
 ·rw[get i r hi];obtain⟨v,rfl⟩:=hs r (zY hi) d (zY hj);have:(r.map A.d).getD j .any = .d (.sc v):=by rw[zC,zK,hj];rfl
  rw[this];exact .sc v
theorem aGN{l:List Gl}:∀ r∈cP l,∀ d∈r,∃ v,d = .sc v:=by
 intro r hr d hd;obtain⟨g,_,rfl⟩:=aD.1 hr;simp only[Gl.row,zp,zc,or_false] at hd;rcases hd with rfl | rfl | rfl<;>exact⟨_,rfl⟩
theorem aD4{h:cM}{x:A}{r:List Gl}(hr:Bq h x r):FrzN h x (.sl dW (cP r)):=by
 rcases hr with⟨rfl,rfl⟩ | ⟨q,rfl,hq⟩
 ·exact .nil _
 ·have:=aGM (e:=dW) aGN hq;rw[cR] at this;exact this
theorem EdIs.frzN{h:cM}{id:Nat}{v:Vw}{k:Nat}{R:List (List A)}(e:EdIs h id v k R):FrzN h (.ref k R.length 0 v.rows.length true) (.sl eW (dH v.rows)):=by
 have get:∀ {i:Nat} {r:List D},(dH v.rows)[i]? = some r→∃ (hi:i<v.rows.length) (x:A),r=[.sl dW (cP v.rows[i])]∧R.getD (0+i) []=[x]∧Bq h x v.rows[i]:=by
  intro i r hi;have cY:i<v.rows.length:=by have:=(zA.1 hi).1;rwa [cW] at this
  obtain⟨x,h1,h2⟩:=e.row i _ (zB cY);refine⟨cY,x,?_,?_,h2⟩
  ·rw[dH,zK,zB cY] at hi;simpa using hi.symm
  ·rw[Nat.zero_add,zC,h1];rfl
 refine .ref e.hk (cW) (fun i r hi=>?_) (fun i r j d hi hj=>?_)
 ·obtain⟨_,x,rfl,h2,_⟩:=get hi;rw[h2];rfl
 ·obtain⟨_,x,rfl,h2,h3⟩:=get hi;rw[h2]
  match j,hj with
  | 0,hj=>simp at hj;subst hj;exact aD4 h3
  | j+1,hj=>simp at hj
theorem EdIs.frzVN{h:cM}{id:Nat}{v:Vw}{k:Nat}{R:List (List A)}(e:EdIs h id v k R):FrzNA h (.agg (eK v k R.length)) (fF v):=by
 refine .agg rfl fun j y hj=>?_;rcases j with _ | _ | _ | _ | _ | _ | j
 ·cases hj;exact .d (.sc _)
 ·cases hj;exact .d (.sc _)
 ·cases hj;exact .d e.frzN
 ·cases hj;exact .d (.sc _)
 ·cases hj;exact .d (.sc _)
 ·cases hj;exact .d (.sc _)
 ·simp[Vw.ds] at hj
theorem Lw{h:cM}:FrzNA h (.agg Ox) (fF lA):=by
 refine .agg rfl fun j y hj=>?_;rcases j with _ | _ | _ | _ | _ | _ | j
 ·cases hj;exact .d (.sc _)
 ·cases hj;exact .d (.sc _)
 ·cases hj;exact .d (.nil _)
 ·cases hj;exact .d (.sc _)
 ·cases hj;exact .d (.sc _)
 ·cases hj;exact .d (.sc _)
 ·simp[lA,Vw.ds] at hj
theorem aNB{h:cM}{x y z x' y' z':A}(h1:FrzNA h x x')(h2:FrzNA h y y')(h3:FrzNA h z z'):FrzNA h (.tup [x,y,z]) (.tup [x',y',z']):=by
 refine .tup rfl fun j u hj=>?_;rcases j with _ | _ | _ | j
 ·cases hj;exact h1
 ·cases hj;exact h2
 ·cases hj;exact h3
 ·simp at hj
theorem aAy{sl:Nat→A}{h:cM}{x:Vw × Int × Int}{row:List A}(h4:sl 4 = .ptr 1 1 0 0)(h1:h[1]? = some (.cells pA [row]))(hl:row.length=6)(hf:FrzNA h (.agg row) (fF x.1))(h5:sl 5 = .int x.2.1)(h6:sl 6 = .int x.2.2) :
  aPh [.c 4 6 true,.t 5,.t 6] (apA x) .ret ⟨sl,h⟩:=by
 obtain⟨a,b,c,d,e,g,rfl⟩:∃ a b c d e g,row=[a,b,c,d,e,g]:=by
  match row,hl with
  | [a,b,c,d,e,g],_=>exact⟨a,b,c,d,e,g,rfl⟩
 refine⟨.inr rfl,?_⟩;simp only[dK,eH,dM,h4,h5,h6,h1,xq,reduceIte,qE,qA,qL,qD];simp only[dI,if_true,List.take,xq,reduceIte,qE,qA,qL,qD];exact aNB (y:=.int x.2.1) (y':=.int x.2.1) (z:=.int x.2.2) (z':=.int x.2.2) hf (.d (.sc _)) (.d (.sc _))
theorem aGO{f fv fo fc fa fw:FuncId}{Δ:Ctx}(H:FnIs P f N [.c 4 6 true,.t 5,.t 6] (uJ fv fo fc fa fw))(hN:2≤N)(v:Vw)(l:List Cg)(fE:mL v l)(hl:∀ c∈l,CgOk c)(Hv:FnP Γ P fv [fF v] (.int (dO v)))
  (Ho:v.rows≠[]→v.rows.length≤1000→∀ h:cM,∃ h' id k R,FnD Γ.ctx P fo [fF v] h (.ptr id 1 0 0) h'∧EdIs h' id v k R∧h.length≤id∧h.length≤h'.length∧gK h h' id)
  (Hc:∀ {v:Vw} (c:Cg),Ed v→∀ {m:Nat},Sm v m→m≤100000→(∀ g∈c.gl,g.text.size≤1000)→∀ {h:cM} {id k:Nat} {R:List (List A)},EdIs h id v k R→FnD Γ.ctx P fc [.ptr id 1 0 0,pG c] h (.int (iM v c)) h)
  (Ha:nQ Γ.ctx P fa StepPre dV) (Hw:∀ l,FnP Γ P fw [.d (.sl dW (cP l))] (.int (dG l))):FnN Γ P f [fF v,eV l] (apA (dU v l)):=by
 refine FnN.of_W H (by simpa using hN) (xR 1 rfl fun⟨xH,dT,_⟩=>?_);rw[dD] at dT xH;have vI:l.length≤dL:=fI dT;simp only[dL] at vI;unfold uJ;have hv0:=Hv;simp only[fF,Vw.ds,zU,zV] at hv0 ⊢;refine wR ?_;simp only[xq,reduceIte,qE,qA,qL,qD];refine cN ?_;refine wR ?_;simp only[xq,reduceIte,qE,qA,qL,qD];refine dF (hv0) rfl ?_;simp only[xq,reduceIte,qE,qA,qL,qD];refine cL rfl (fun hk=>?_) (fun hk=>cQ ?_)
 ·have hk:¬ dO v=0:=by simpa using hk
  refine wR ?_;simp only[xq,reduceIte,qE,qA,qL,qD];refine cT ?_;simp only[xq,reduceIte,qE,qA,qL,qD];refine aAy (row:=Ox) rfl rfl rfl ?_ ?_ ?_<;>simp only[dU,if_neg hk]
  ·exact Lw
  ·rfl
  ·rfl
 have hk:dO v=0:=by simpa using hk
 obtain⟨hed,_⟩:=fH.1 hk;have mB:=gF.1 hed.sz;have eG:=hed.len;have Qb:dU v l=jO v 0 l:=by rw[dU,if_pos hk]
 rw[Qb];obtain⟨h0,id,k0,R0,hF,he0,hid,gZ,aPK⟩:=Ho (by intro h;rw[h] at eG;simp at eG;omega) (by omega) [fX v,jJ];simp only[fF,Vw.ds,zU,zV] at hF;simp only[xq,reduceIte,qE,qA,qL,qD];have hF':FnD Γ.ctx P fo [fF v] [fX v,jJ] (.ptr id 1 0 0) h0:=hF;simp only[fF,Vw.ds,zU,zV] at hF';have h1z:h0[1]? = some jJ:=aPK 1 pA [Ox] rfl rfl (by simp at hid;omega);have aPG:id≠1:=by simp at hid;omega
 refine wR ?_;simp only[xq,reduceIte,qE,qA,qL,qD];refine qJ hF' ?_;simp only[xq,reduceIte,qE,qA,qL,qD];refine cN ?_;refine wR ?_;simp only[xq,reduceIte,qE,qA,qL,qD,dD];refine cS ?_;let S:cM→Nat→St:=fun hp i=>⟨dB [(1,eV l),(4,.ptr 1 1 0 0),(7,.ptr id 1 0 0),(19,eV l),(20,.int l.length),(21,.int i)],hp⟩;refine dX (s':=S h0 0) (Co.keep _ (by simp[cJ,cK])) ?_;refine dN (fun m s=>∃ (i:Nat) (w:Vw) (hp:cM) (k:Nat) (R:List (List A)),i≤l.length∧m=l.length-i∧s=S hp i∧jO w i (l.drop i)=jO v 0 l∧Ed w∧mL w (l.drop i)∧EdIs hp id w k R∧hp[1]? = some jJ)
  ⟨0,v,h0,k0,R0,zI _,rfl,rfl,rfl,hed,fE,he0,h1z⟩ ?_
 rintro m s ⟨i,w,hp,k,R,hi,rfl,rfl,Xl,hew,hrk,he,hz⟩;have hp1:1<hp.length:=(zA.1 hz).1;simp only[S];refine wR ?_;simp only[xq,reduceIte,qE,qA,qL,qD];refine cN (cL rfl (fun hc=>cQ ?_) (fun hc=>dJ ?_))
 ·have cY:i<l.length:=by simpa using hc
  have w1:IntKind.i64.wrap ((i:Int)+1)=((i+1:Nat):Int):=by rw[cX (by omega)];omega
  obtain⟨c,Kt⟩:∃ c,c=l[i]:=⟨_,rfl⟩;have hcm:c∈l:=by rw[Kt];exact zi cY
  have lG:=hl c hcm;rw[zd cY,← Kt] at Xl hrk;have hC:=Hc c hew hrk.1 (by omega) lG.txt (he.app [iA c]);simp only[xq,reduceIte,qE,qA,qL,qD];have aRc:l[i]=c:=Kt.symm;have Cc:(eP l).getD i []=c.ds:=by rw[jP cY,← Kt]
  simp only[pG,Cg.ds,zU,zV] at hC;refine cN (cS ?_);refine wR ?_;simp only[xq,reduceIte,qE,qA,qL,qD,dD,Cc,Cg.ds,zQ,dA,eE];refine⟨by omega,by omega,?_⟩;refine cN ?_;refine wR ?_;simp only[xq,reduceIte,qE,qA,qL,qD,dA];refine qJ hC ?_;simp only[xq,reduceIte,qE,qA,qL,qD];refine wR ?_;simp only[xq,reduceIte,qE,qA,qL,qD];refine cL rfl (fun hd=>?_) (fun hd=>cQ ?_)
  ·have hd:¬ iM w c=0:=by simpa using hd
   rw[jO,if_neg hd] at Xl;have z1:(hp++[iA c])[1]? = some jJ:=fB hz;refine wR ?_;simp only[xq,reduceIte,qE,qA,qL,qD,z1];refine cT ?_;simp only[xq,reduceIte,qE,qA,qL,qD];rw[← Xl];refine aAy (row:=Ox) rfl ?_ rfl Lw rfl rfl;rw[zN (by simp;omega)]
  ·have hd:iM w c=0:=by simpa using hd
   rw[jO,if_pos hd] at Xl;obtain⟨h',k',R',hA,hl',Zh,hk6⟩:=Ha (v:=w) (c:=c) ⟨hew,hd,fun r hr=>hrk.1.row r hr,lG.len⟩ (h:=hp++[iA c]) (zI _) (he.app _);simp only[pG,Cg.ds,zU,zV] at hA;simp only[xq,reduceIte,qE,qA,qL,qD];refine cU ?_;simp only[xq,reduceIte,qE,qA,qL,qD,dA,Cg.ds];refine qJ hA ?_;simp only[xq,reduceIte,qE,qA,qL,qD];refine cU ?_;simp only[xq,reduceIte,qE,qA,qL,qD,w1];exact⟨l.length-(i+1),S h' (i+1),by omega,Co.keep _ (by simp[cJ,cK]),i+1,dV w c,h',k',R',cY,rfl,rfl,Xl,hew.step hd,hrk.2 hd,Zh,hk6 1 pA [Ox] (by rw[List.getElem?_append_left hp1];exact hz) rfl (Ne.symm aPG)⟩
 ·have gZ:i=l.length:=by simp at hc;omega
  subst gZ;rw[List.drop_length,jO] at Xl;simp only[xq,reduceIte,qE,qA,qL,qD];refine cN ?_;refine wR ?_;simp only[xq,reduceIte,qE,qA,qL,qD,he.hid,he.hk,eK];refine cS ?_;let T:Nat→St:=fun j=>⟨dB [(1,eV l),(4,.ptr 1 1 0 0),(7,.ptr id 1 0 0),(42,.ref k R.length 0 w.rows.length true),(43,.int w.rows.length),(44,.int j)],hp⟩;refine dX (s':=T 0) (Co.keep _ (by simp[cJ,cK])) ?_;have hwl:=hew.len;have hws:=gF.1 hew.sz;refine dN (fun m s=>∃ j:Nat,j≤w.rows.length∧m=w.rows.length-j∧s=T j∧((w.rows.take j).any fun r=>decide (w.width<(dG r:Int)))=false) ⟨0,zI _,rfl,rfl,by simp⟩ ?_;rintro m s ⟨j,hj,rfl,rfl,Vn⟩;simp only[T];refine wR ?_;simp only[xq,reduceIte,qE,qA,qL,qD];refine cN (cL rfl (fun hc=>cQ ?_) (fun hc=>dJ ?_))
  ·have cY:j<w.rows.length:=by simpa using hc
   have w1:IntKind.i64.wrap ((j:Int)+1)=((j+1:Nat):Int):=by rw[cX (by omega)];omega
   obtain⟨x,hx1,hx2⟩:=he.row j _ (zB cY);have hjR:j<R.length:=(zA.1 hx1).1;have hW:FnD Γ.ctx P fw [x] hp (.int (dG w.rows[j])) hp:=(Hw w.rows[j]).lend Si (.cons (.d (yA hx2)) .nil);simp only[xq,reduceIte,qE,qA,qL,qD];refine cN (cS ?_);refine wR ?_;simp only[xq,reduceIte,qE,qA,qL,qD,he.hk,hx1,zQ]
   repeat refine And.intro (by omega) ?_
   refine cN (eD (by simp) ?_);simp only[xq,reduceIte,qE,qA,qL,qD];refine Cp (t:=[]) (by rw[zP];exact hW) ?_;simp only[xq,reduceIte,qE,qA,qL,qD,he.hid,eK,zP];refine cL rfl (fun hd=>?_) (fun hd=>cQ ?_)
   ·have hd:w.width<(dG w.rows[j]:Int):=by simpa using hd
    have Xo:tC w=true:=by
     rw[tC,List.any_eq_true];exact⟨_,zi cY,by simpa using hd⟩
    rw[Xo,if_pos rfl] at Xl;refine wR ?_;simp only[xq,reduceIte,qE,qA,qL,qD,hz,dD];refine cT ?_;simp only[xq,reduceIte,qE,qA,qL,qD];rw[← Xl];refine aAy (row:=Ox) rfl ?_ rfl Lw rfl rfl;rw[zN hp1]
   ·have hd:¬ w.width<(dG w.rows[j]:Int):=by simpa using hd
    simp only[xq,reduceIte,qE,qA,qL,qD];refine cU ?_;simp only[xq,reduceIte,qE,qA,qL,qD,w1];refine⟨w.rows.length-(j+1),T (j+1),by omega,Co.keep _ (by simp[cJ,cK]),j+1,cY,rfl,rfl,?_⟩;rw[aG,zB cY,aE,List.any_append,Vn];simpa using hd
  ·have hje:j=w.rows.length:=by simp at hc;omega
   subst hje;rw[aH] at Vn;have Xo:tC w=false:=Vn;rw[Xo,if_neg Bool.false_ne_true] at Xl;simp only[xq,reduceIte,qE,qA,qL,qD];refine wR ?_;simp only[xq,reduceIte,qE,qA,qL,qD,he.hid,hz,eK];refine cT ?_;rw[← Xl];exact aAy (row:=eK w k R.length) rfl (by rw[zN hp1];rfl) rfl (he.setOther hz aPG).frzVN rfl rfl
abbrev aFc(Γ:dP)(P:Program)(f:FuncId):Prop:=∀ (v:Vw) (l:List Cg),mL v l→(∀ c∈l,CgOk c)→FnN Γ P f [fF v,eV l] (apA (dU v l))
theorem aFc.lend{f:FuncId}(H:aFc Γ P f){v:Vw}{l:List Cg}(h1:mL v l)(h2:∀ c∈l,CgOk c){h:cM}{x y:A}(hx:FrzA 0 h x (fF v))(hy:FrzA 0 h y (eV l)):FnD Γ.ctx P f [x,y] h (apA (dU v l)) h :=
 FnN.lend (Γ:=Γ.ctx) (H v l h1 h2) (.cons hx (.cons hy .nil))
end
section
variable {P:Program}{N:Nat}{Γ:dP}
theorem aNC{g:FuncId}{Δ:Ctx}{h h':cM}{K:A→cM→Prop}{args caps:List A}{r:A}(hf:FnD Δ P g (args++caps) h r h')(hK:K r h'):aBy (.all Δ P) h K args (.fn g caps):=⟨r,h',hf,hK⟩
theorem aFd{v:Vw}{n i:Nat}(s:Sm v n):(v.rows.getD i []).length≤n:=by
 rcases pV (rows:=v.rows) (n:=i) with h | h
 ·rw[h];exact zI _
 ·exact s.row _ h
theorem Ft{x b:Vw}(sx:Sm x 50000)(sb:Sm b 50000):∀ n,(dY x b n).length≤200001 * n
 | 0=>by simp[dY]
 | n+1=>by
  have ih:=Ft sx sb n;have:=Df (row:=n) (aFd (i:=n) sx) (aFd (i:=n) sb);rw[dY,zb];omega
theorem aCm(x b:Vw):(iZ x b).length≤1:=by unfold iZ;split<;>simp
theorem Kc{x b:Vw}(sx:Sm x 50000)(sb:Sm b 50000):(iE x b).length≤200001 * b.rows.length+1:=by
 have:=Ft sx sb b.rows.length;have:=aCm x b;rw[iE,zb];omega
theorem Di{x b:Vw}(sx:Sm x 140)(sb:Sm b 140)(hb:b.rows.length≤60):Few (iE x b) :=
 ⟨by have:=Kc (sx.mono (by omega:140≤50000)) (sb.mono (by omega:140≤50000));omega,fun c hc=>by have:=(aAv (x:=x) sb c hc).len;omega⟩
theorem Ek{v:Vw}{c:Cg}{n:Nat}(hk:c.kind=2)(s:Sm v n):Sm (dV v c) n:=by
 have mO:dV v c={ v with rows:=gI v.rows c.row c.upto c.count }:=by unfold dV;rw[if_neg (by omega),if_pos hk]
 rw[mO];refine⟨fun r hr=>?_,fun r hr g hg=>?_⟩
 ·rcases lV hr with rfl | hr
  ·exact zI _
  ·exact s.row r hr
 ·rcases lV hr with rfl | hr
  ·simp at hg
  ·exact s.txt r hr g hg
theorem Oe{v:Vw}{c:Cg}(hk:c.kind=2):(dV v c).rows.length=v.rows.length:=by
 have mO:dV v c={ v with rows:=gI v.rows c.row c.upto c.count }:=by unfold dV;rw[if_neg (by omega),if_pos hk]
 rw[mO];exact rY
theorem aIU{f fc:FuncId}(H:FnIs P f N [.t 3] (pO fc))(hN:2≤N)(Hc:Lu Γ P fc)(l w:List Cg)(hl:Few l)(hw:Few w)(h:cM)(q:Nat)(hq:h[q]? = some (.cells eW [[eV w]])) :
  FnD Γ.ctx P f [eV l,.ptr q 1 0 0] h (.bool (decide (gC l<gC w))) h:=by
 refine .of_W H (by simpa using hN) (zI _) ?_;unfold pO;refine wR ?_;simp only[xq,reduceIte,qE,qA,qL,qD];refine cN (eD (by simp) ?_);simp only[xq,reduceIte,qE,qA,qL,qD,List.replicate_zero,zP,hq];refine dF (Hc l hl) rfl ?_;simp only[xq,reduceIte,qE,qA,qL,qD,hq];refine dF (Hc w hw) rfl ?_;simp only[xq,reduceIte,qE,qA,qL,qD,hq];refine cT ⟨.inr rfl,?_⟩;simp only[dK,eH,dM,cJ,reduceIte,qE,cK,gQ,xq,reduceIte,qE,qA,qL,qD,dI]
abbrev aD5(Γ:dP)(P:Program)(f:FuncId):Prop:=∀ m b:Vw,m.rows.length≤1000→b.rows.length≤1000→FnP Γ P f [fF m,fF b] (aCl (gJ m b))
abbrev aD6(Γ:dP)(P:Program)(f f1:FuncId):Prop:=∀ x b:Vw,x.rows.length=b.rows.length→b.rows.length≤1000→Sm x 50000→Sm b 50000→FnP Γ P f [.fn f1 [.iptr b.ds,.iptr x.ds]] (eV (iE x b))
abbrev aIV(Γ:dP)(P:Program)(f:FuncId):Prop:=∀ (row:Int) (a b:List Gl),a.length≤50000→b.length≤50000→FnP Γ P f [.int row,.d (.sl dW (cP a)),.d (.sl dW (cP b))] (eV (eQ row a b))
theorem aLh{fc fA f1 fs:FuncId}{Nc NA N1:Nat}(H:FnIs P fc Nc [.t 2] (jF fA))(hN:1≤Nc)(HA:FnIs P fA NA [.t 4] gS)(hNA:2≤NA)(H1:FnIs P f1 N1 [] (lP fs))(hN1:3≤N1)(Hs:aIV Γ P fs):aD6 Γ P fc f1:=by
 intro x b eG Qd sx sb;have hl:=Kc sx sb;exact aCj H hN HA hNA (iE x b) (aGG H1 hN1 x b (by omega) Qd sx sb Hs) rfl (by simp only[dL];omega)
theorem aLi{ff fm fg fb f1 f2 fc fe fs:FuncId}{Nf Nm Ng Nb N1 N2 Nc Ne:Nat}(H:FnIs P ff Nf [.c 4 6 true,.t 5] (lO fm fg fb))(hN:2≤Nf)(Hm:FnIs P fm Nm [.t 4] kS)(hNm:2≤Nm)(Hg:FnIs P fg Ng [.t 10] (lQ f1 fc f2))(hNg:5≤Ng)
  (Hb:FnIs P fb Nb [.t 4] gH) (hNb:2≤Nb) (H1:FnIs P f1 N1 [.t 7] (jW fe)) (hN1:6≤N1) (H2:FnIs P f2 N2 [.t 4] (jX fe)) (hN2:3≤N2) (Hc:FnIs P fc Nc [.t 6] kV) (hNc:3≤Nc)
  (He:FnIs P fe Ne [.t 4] (kW fs)) (hNe:2≤Ne) (Hs:vT Γ P fs):aD5 Γ P ff:=by
 intro m b hm hb;have he:vT Γ P fe:=aGH He hNe Hs;refine aLg H hN m b hm (aCk Hm hNm m b) (fun hk top bot y htb hbo hy=>?_) (fun c d hc hd=>aGJ Hb hNb c d hc hd);have Xf:m.rows.length=b.rows.length:=by
  simp only[lM,Bool.and_eq_true,decide_eq_true_eq] at hk;omega
 exact aLf Hg hNg m b top bot y hb Xf htb hbo hy (fun i hi=>aIQ H1 hN1 he m b top bot y i hi (by omega) (by omega) hb hy) (fun i hi=>aIP H2 hN2 he m b i (by omega) hi)
  (fun g caps p h0 hp=>aIR Hc hNc top bot (by omega) htb p h0 hp)
abbrev Lx(Γ:dP)(P:Program)(f:FuncId):Prop:=∀ a b:Vw,Sm a 140→Sm b 140→FnP Γ P f [fF a,fF b] (eV (gX a b))
theorem El{k:Nat}{h:cM}{q:Nat}{l:List Cg}(hk:k≤q)(hq:h[q]? = some (fT l)):FrzA k h (.ref q l.length 0 l.length true) (eV l):=by
 have:=kE (k:=k) (id:=q) (off:=0) (len:=l.length) (full:=true) (e:=Bp) (rows:=eP l) hk hq (by rw[dD];omega);rw[dD,List.drop_zero,aB (by rw[dD];exact Nat.le_refl _)] at this;exact .d this
theorem Ba{k:Nat}{l:List Cg}:HB.under k (fT l):=by
 intro r hr x hx;obtain⟨r',_,rfl⟩:=aD.1 hr;obtain⟨d,_,rfl⟩:=aD.1 hx;rfl
structure DfI(a b:Vw)(x:A)(h:cM):Prop where
 out:Sq h (mM a b) x
 und:∀ k,∀ B∈h,HB.under k B
end
section
variable {P:Program}{N:Nat}{Γ:dP}
theorem aGP{q:Nat}{l:List Cg}{h:cM}(hq:h[q]? = some (fT l)):∀ k,∀ B∈Dc q h,HB.under k B:=by
 intro k B hB;obtain⟨i,hi⟩:=List.mem_iff_getElem?.1 hB;simp only[Dc,List.getElem?_mapIdx,Option.map_eq_some_iff] at hi;obtain⟨B0,h0,rfl⟩:=hi;split
 ·rename_i h1;subst h1;rw[hq] at h0;cases h0;exact Ba
 ·trivial
theorem aGQ{f fv fp fr fcol fd ff f1:FuncId}(H:FnIs P f N [.t 4] (sM fv fp fr fcol fd ff))(hN:2≤N)(Hv:sY Γ P fv)(Hp:aFc Γ P fp)(Hr:∀ x b:Vw,FnP Γ P fr [fF x,fF b] (.fn f1 [.iptr b.ds,.iptr x.ds]))(Hcol:aD6 Γ P fcol f1)
  (Hd:∀ l w:List Cg,Few l→Few w→∀ (h:cM) (q:Nat),h[q]? = some (.cells eW [[eV w]])→FnD Γ.ctx P fd [eV l,.ptr q 1 0 0] h (.bool (decide (gC l<gC w))) h) (Hf:aD5 Γ P ff):Lx Γ P f:=by
 intro a b sa sb;refine .of_W H (by simpa using hN) ?_;have hva:=Hv a (sa.mono (by omega));have hvb:=Hv b (sb.mono (by omega));simp only[fF,Vw.ds,zU,zV] at hva hvb;unfold sM;simp only[fF,Vw.ds,zU,zV];refine wR ?_;simp only[xq,reduceIte,qE,qA,qL,qD];refine dX (Lv (a:=a) (b:=b) (t:=[]) (h:=[]) [] (by simp[cJ,cK]) (by simp[cJ,cK]) (by simp)) ?_;refine cN (eJ (· = ⟨dB [(2,.iptr a.ds),(3,.iptr b.ds),(22,.bool (!(decide (dO a=0)&&decide (dO b=0))))],[]⟩) (cU ?_) ?_)
 ·cases e1:decide (dO a=0)
  ·simp only[xq,reduceIte,qE,qA,qL,qD,Vw.ds];refine dF (hva) rfl ?_;simp only[xq,reduceIte,qE,qA,qL,qD,e1,cV,zE];exact⟨_,Co.keep _ (by simp[cJ,cK,Vw.ds]),rfl⟩
  ·simp only[xq,reduceIte,qE,qA,qL,qD,Vw.ds];refine dF (hva) rfl ?_;simp only[xq,reduceIte,qE,qA,qL,qD,e1,cV,zE];refine dF (hvb) rfl ?_;simp only[xq,reduceIte,qE,qA,qL,qD,cV,zE];exact⟨_,Co.keep _ (by simp[cJ,cK,Vw.ds]),rfl⟩
 rintro _ rfl;refine cL rfl (fun hd=>?_) (fun hd=>cQ ?_)
 ·have hd:¬ (dO a=0∧dO b=0):=by simp at hd;omega
  refine wR ?_;simp only[xq,reduceIte,qE,qA,qL,qD];refine cT ?_;simp only[xq,reduceIte,qE,qA,qL,qD];rw[gX,if_neg hd];exact .frz (.d (.nil _))
 obtain⟨ha,hb⟩:dO a=0∧dO b=0:=by simpa using hd
 have hdv:gX a b=mM a b++sB (Lr a b) b:=by rw[gX,if_pos ⟨ha,hb⟩]
 rw[hdv];obtain⟨hm,hmw,hmh⟩:=aAu ha hb;obtain⟨ea,_⟩:=fH.1 ha;obtain⟨eb,_⟩:=fH.1 hb;obtain⟨em,_⟩:=fH.1 hm;have sza:=gF.1 ea.sz;have szb:=gF.1 eb.sz;have lb:=eb.len;have lm:=em.len;have sm:Sm (Lr a b) 140:=aD0 sa;have hsa:=Dg ha hb;have dZ:mM a b=if a.width=b.width∧a.height=b.height then [] else [gE b]:=rfl;have Vi:Lr a b=if a.width=b.width∧a.height=b.height then a else qK a b.height b.width:=rfl;simp only[xq,reduceIte,qE,qA,qL,qD];refine wR ?_;simp only[xq,reduceIte,qE,qA,qL,qD];refine wR ?_;simp only[xq,reduceIte,qE,qA,qL,qD,Vw.ds];let R1:St→Prop:=fun s=>∃ x h,s=⟨dB [(3,.iptr b.ds),(5,x),(6,.iptr (Lr a b).ds)],h⟩∧DfI a b x h;refine eJ R1 ?_ ?_
 ·refine eJ (· = ⟨dB [(2,.iptr a.ds),(3,.iptr b.ds),(5,.nil),(6,.ptr 0 1 0 0),(35,.bool (!(decide (a.width=b.width)&&decide (a.height=b.height))))],[fX a]⟩) (cU ?_) ?_
  ·cases e1:decide (a.width=b.width)
   ·simp only[xq,reduceIte,qE,qA,qL,qD,Vw.ds,e1,cV,zE];exact⟨_,Co.keep _ (by simp[cJ,cK,Vw.ds]),rfl⟩
   ·simp only[xq,reduceIte,qE,qA,qL,qD,Vw.ds,e1,cV,zE];exact⟨_,Co.keep _ (by simp[cJ,cK,Vw.ds]),rfl⟩
  rintro _ rfl;refine cL rfl (fun hd=>?_) (fun hd=>cQ ?_)
  ·have hd:¬ (a.width=b.width∧a.height=b.height):=by simp at hd;omega
   rw[if_neg hd] at dZ Vi;let L0:HB:=.cells Bp [[.int 1,.int b.height,.int b.width,.int 0,.int 0,.nil]];refine wR ?_;simp only[xq,reduceIte,qE,qA,qL,qD,Vw.ds];rw[if_neg (by simp)];refine⟨by decide,by decide,?_⟩;refine dX (Co.viewLast (h:=[fX a,L0]) (e:=Bp) (r:=[.int 1,.int b.height,.int b.width,.int 0,.int 0,.nil]) (r2:=(gE b).ds.map .d) [(2,.iptr a.ds),(3,.iptr b.ds),(5,.ref 2 1 0 1 true),(6,.ptr 0 1 0 0)] (by simp[cJ,cK,Vw.ds]) rfl ?_) ?_
   ·intro j y hj;rcases j with _ | _ | _ | _ | _ | _ | j
    ·cases hj;exact .inl rfl
    ·cases hj;exact .inl rfl
    ·cases hj;exact .inl rfl
    ·cases hj;exact .inl rfl
    ·cases hj;exact .inl rfl
    ·cases hj;exact .inr ⟨.nil _,_,rfl⟩
    ·simp[gE,Cg.ds] at hj
   have hA:FnD Γ.ctx P fp [fF a,.ref 2 1 0 1 true] [fX a,L0,fT [gE b]] (apA (dU a [gE b])) [fX a,L0,fT [gE b]] :=
    Hp.lend (v:=a) (l:=[gE b]) ⟨sa.mono (by omega),fun _=>by rw[pC];exact aCf (sa.mono (by omega))⟩ (fun c hc=>by rw[aA] at hc;subst hc;exact⟨by simp[gE],by simp[gE]⟩) (.same rfl) (El (l:=[gE b]) (zI _) rfl)
   rw[hsa,← Vi] at hA;obtain⟨m,xH⟩:∃ m,m=Lr a b:=⟨_,rfl⟩;rw[← xH] at hA;simp only[apA,fF,Vw.ds,zU,zV] at hA;refine cU ?_;simp only[xq,reduceIte,qE,qA,qL,qD,Vw.ds];refine qJ hA ?_;simp only[xq,reduceIte,qE,qA,qL,qD,Vw.ds];have hq:([fX m,L0,fT [gE b]]:cM)[2]? = some (fT [gE b]):=rfl;refine⟨_,Co.gc1 (h:=[fX m,L0,fT [gE b]]) 2 hq (fun r hr x hx=>?_) [(3,.iptr b.ds),(5,.ref 2 1 0 1 true),(6,.iptr m.ds)] ?_,.ref 2 1 0 1 true,Dc 2 [fX m,L0,fT [gE b]],by rw[xH],⟨.inr ⟨2,by rw[dZ];rfl,by rw[dZ];exact Lk hq,by rw[dZ];simp⟩,aGP hq⟩⟩
   ·obtain⟨r',_,rfl⟩:=aD.1 hr;obtain⟨d,_,rfl⟩:=aD.1 hx;rfl
   ·intro p hp;simp only[zp,zc,or_false] at hp;rcases hp with rfl | rfl | rfl
    ·left;simp[cJ,cK,A.keptIn,Vw.ds]
    ·left;simp[cJ,cK,A.keptIn]
    ·right;simp only[cJ,cK];exact kX (zI _) (e:=pA) rfl
  ·have hd:a.width=b.width∧a.height=b.height:=by simpa using hd
   rw[if_pos hd] at dZ Vi;refine⟨rfl,_,Co.frz (s:=⟨_,[fX a]⟩) [(3,.iptr b.ds),(5,.nil),(6,.iptr (Lr a b).ds)] 0 ?_ (zI _) (zI _) u0,.nil,[],rfl,⟨.inl ⟨rfl,dZ⟩,by simp⟩⟩;intro p hp;simp only[zp,zc,or_false] at hp;rcases hp with rfl | rfl | rfl
   ·exact .same rfl
   ·exact .same rfl
   ·rw[Vi];exact kX (zI _) (e:=pA) rfl
 rintro _ ⟨x,h,rfl,hI⟩;clear hva hvb hsa dZ Vi hdv;have hmr:(Lr a b).rows.length=b.rows.length:=by omega
 have aHx:b.rows.length≤60:=by omega
 generalize Lr a b=m at *;have smb:=sm.mono (show 140≤50000 by omega);have sbb:=sb.mono (show 140≤50000 by omega);have qI:sB m b=if(gJ m b).2=true∧(dU m [(gJ m b).1]).2.2=0∧gC (Fr m b)<gC (iE m b) then Fr m b else iE m b:=rfl;have Kw:Fr m b=(gJ m b).1::iE (dU m [(gJ m b).1]).1 b:=rfl;have Ol:=vA (a:=m) (b:=b);obtain⟨c,ok,hfd⟩:∃ c ok,gJ m b=(c,ok):=⟨_,_,rfl⟩;have hR:=Hr m b;have hC:=Hcol m b hmr (by omega) smb sbb;have hF:=Hf m b (by omega) (by omega);have fw:=Di sm sb aHx;rw[hfd] at qI Kw Ol hF;simp only at qI Kw Ol;simp only[aCl,fF,pG,Vw.ds,Cg.ds,zU,zV] at hR hC hF;obtain⟨w,hw⟩:∃ w,w=iE m b:=⟨_,rfl⟩;rw[← hw] at hC qI fw;let wB:List Cg→HB:=fun w=>.cells eW [[eV w]];have uW:∀ (w:List Cg) (k:Nat),∀ B∈h++[wB w],HB.under k B:=by
  intro w k B hB;rcases List.mem_append.1 hB with hB | hB
  ·exact hI.und k B hB
  ·simp only[aA] at hB;subst hB;intro r hr x hx;simp only[aA] at hr;subst hr;simp only[aA] at hx;subst hx;rfl
 have xu:x.under (h.length+1)=true:=by
  rcases hI.out with⟨rfl,_⟩ | ⟨q,rfl,hq,_⟩
  ·rfl
  ·have:=(zA.1 hq).1;simp only[A.under,decide_eq_true_eq];omega
 refine wR ?_;simp only[xq,reduceIte,qE,qA,qL,qD,Vw.ds];refine dF (hR) rfl ?_;simp only[xq,reduceIte,qE,qA,qL,qD];refine dF hC rfl ?_;simp only[xq,reduceIte,qE,qA,qL,qD,dA,eE];refine wR ?_;simp only[xq,reduceIte,qE,qA,qL,qD];let R2:St→Prop:=fun s=>∃ w',w'=sB m b∧s=⟨dB [(5,x),(7,.ptr h.length 1 0 0)],h++[wB w']⟩;have trim:∀ (sl:Nat→A) (t:cM) (w':List Cg),sl 5=x→sl 7 = .ptr h.length 1 0 0→w'=sB m b→∃ s1,Co 0 ⟨sl,h++wB w'::t⟩ s1∧R2 s1:=by
  intro sl t w' h5 h7 hw';have e:(h++wB w'::t).take (h.length+1)=h++[wB w']:=by
   rw[show h++wB w'::t=(h++[wB w'])++t by simp,aC (by simp)];exact aB (by simp)
  have:=Co.to (n0:=0) (s:=⟨sl,h++wB w'::t⟩) [(5,x),(7,.ptr h.length 1 0 0)] (h.length+1) (by
   intro p hp;simp only[zp,zc,or_false] at hp;rcases hp with rfl | rfl
   ·exact⟨h5,xu⟩
   ·exact⟨h7,by simp[A.under]⟩) (zI _) (by show h.length+1≤(h++wB w'::t).length;simp) (by
   show ∀ B∈(h++wB w'::t).take (h.length+1),HB.under (h.length+1) B;rw[e];exact uW w' _)
  simp only[e] at this;exact⟨_,this,w',hw',rfl⟩
 refine eJ R2 ?_ ?_
 ·refine wR ?_;simp only[xq,reduceIte,qE,qA,qL,qD,Vw.ds];refine dF (hF) rfl ?_;simp only[xq,reduceIte,qE,qA,qL,qD];simp only[dA,eT,fC,eE,rW,zS,xq,reduceIte,qE,qA,qL,qD];refine wR ?_;simp only[xq,reduceIte,qE,qA,qL,qD];cases ok with
  | false =>
   refine cL rfl (fun hd=>by cases hd) (fun hd=>cQ ?_);rw[if_neg (by simp)] at qI;refine⟨rfl,?_⟩;refine trim _ _ w ?_ ?_ qI.symm<;>simp[cJ,cK]
  | true =>
   refine cL rfl (fun hd=>?_) (fun hd=>by cases hd);obtain⟨hk,_,Im⟩:=Ol rfl;obtain⟨n,i,e,Qb⟩:∃ n i e,dU m [c]=(n,i,e):=⟨_,_,_,rfl⟩;have lG:CgOk c:=⟨by rw[Im];simp,by rw[Im];simp⟩;have hA:FnD Γ.ctx P fp [fF m,.ref (h.length+2) 1 0 1 true] (h++[wB w,iA c,fT [c]]) (apA (dU m [c])) (h++[wB w,iA c,fT [c]]) :=
    Hp.lend (v:=m) (l:=[c]) ⟨smb,fun _=>Ek hk smb⟩ (fun d hd=>by rw[aA] at hd;subst hd;exact lG) (.same rfl) (El (l:=[c]) (zI _) fC)
   have rK:=(Db m [c]).1;rw[Qb] at hA rK qI Kw;simp only at rK qI Kw;simp only[apA,fF,Vw.ds,zU,zV] at hA;refine dX (s':=⟨dB [(3,.iptr b.ds),(5,x),(6,.iptr m.ds),(7,.ptr h.length 1 0 0),(8,.fn fd [.ptr h.length 1 0 0]),(9,.ptr (h.length+1) 1 0 0)],h++[wB w,iA c]⟩) (Co.keep _ (by simp[cJ,cK,Vw.ds])) ?_;refine wR ?_;simp only[xq,reduceIte,qE,qA,qL,qD,Vw.ds,Cg.ds,dA,eT,fC,zS];refine qJ hA ?_;simp only[xq,reduceIte,qE,qA,qL,qD,dA,eT,fC,eE,rW,iV,zS];refine wR ?_;simp only[xq,reduceIte,qE,qA,qL,qD];refine cL rfl (fun hd=>?_) (fun hd=>cQ ?_)
   ·have he:e=0:=by simpa using hd
    subst he;obtain⟨_,_,hn⟩:=rK rfl;have hc:iM m c=0:=by
     rw[dU,if_pos hm,jO] at Qb;split at Qb
     ·assumption
     ·rename_i hc;simp only[Prod.mk.injEq] at Qb;exact absurd Qb.2.2 hc
    have mO:n=dV m c:=by
     have:=tX hm hc;rw[rA hm hc (by omega),Qb] at this;exact(Prod.mk.inj this).1
    have sn:Sm n 140:=by rw[mO];exact Ek hk sm
    have hnr:n.rows.length=b.rows.length:=by rw[mO,Oe hk];exact hmr
    have hR2:=Hr n b;have hC2:=Hcol n b hnr (by omega) (sn.mono (by omega)) sbb;simp only[fF,Vw.ds,zU,zV] at hR2 hC2;have fr:=Di sn sb aHx;obtain⟨r,hr⟩:∃ r,r=iE n b:=⟨_,rfl⟩;rw[← hr] at hC2 fr Kw;have Mu:=fr.len;have fo:Few (c::r):=by
     have e1:=Kc (sn.mono (show 140≤50000 by omega)) sbb;rw[← hr] at e1;refine⟨by rw[za];omega,fun d hd=>?_⟩;rcases zp.1 hd with rfl | hd
     ·have:=lG.len;omega
     ·exact fr.gl d hd
    rw[Kw] at qI;refine dX (s':=⟨dB [(3,.iptr b.ds),(5,x),(7,.ptr h.length 1 0 0),(8,.fn fd [.ptr h.length 1 0 0]),(9,.ptr (h.length+1) 1 0 0),(11,.ptr (h.length+3) 1 0 0)],h++[wB w,iA c,fT [c],fX n]⟩) (Co.keep _ (by simp[cJ,cK,Vw.ds])) ?_;refine eJ (· = ⟨dB [(5,x),(7,.ptr h.length 1 0 0),(8,.fn fd [.ptr h.length 1 0 0]),(14,eV (c::r))],h++[wB w]⟩) (eD (by simp) ?_) ?_
    ·simp only[xq,reduceIte,qE,qA,qL,qD,Vw.ds,Cg.ds,dA,eT,fC,eE,rW,iV,zS,dD];refine dF (hR2) rfl ?_;simp only[xq,reduceIte,qE,qA,qL,qD,Vw.ds,Cg.ds,dA,eT,fC,eE,rW,iV,zS,dD];refine dF hC2 rfl ?_;simp only[xq,reduceIte,qE,qA,qL,qD,Vw.ds,Cg.ds,dA,eT,fC,eE,rW,iV,zS,dD];rw[show 1+r.length=(c::r).length by rw[za];omega];refine⟨by rw[za];simp only[dL];omega,by rw[za];simp only[maxLen];omega,?_⟩;have e1:∀ t:cM,(h++wB w::t).take (h.length+1)=h++[wB w]:=fun t=>by
      rw[show h++wB w::t=(h++[wB w])++t by simp,aC (by simp)];exact aB (by simp)
     refine⟨_,Co.frz (s:=⟨_,h++wB w::[iA c,fT [c],fX n,fT (c::r),.res]⟩) [(5,x),(7,.ptr h.length 1 0 0),(8,.fn fd [.ptr h.length 1 0 0]),(14,eV (c::r))] (h.length+1) ?_ (zI _) (by simp) ?_,?_⟩
     ·intro p hp;simp only[zp,zc,or_false] at hp;rcases hp with rfl | rfl | rfl | rfl
      ·exact .same xu
      ·exact .same (by simp[A.under,cJ,cK])
      ·exact .same (by simp[A.under,A.underL,cJ,cK])
      ·exact El (l:=c::r) (by omega) fC
     ·show ∀ B∈(h++wB w::[iA c,fT [c],fX n,fT (c::r),.res]).take (h.length+1),HB.under (h.length+1) B;rw[e1];exact uW w _
     ·simp only[e1]
    rintro _ rfl;refine wR ?_;simp only[xq,reduceIte,qE,qA,qL,qD];refine aNC (Hd (c::r) w fo fw (h++[wB w]) h.length dA) ?_;simp only[xq,reduceIte,qE,qA,qL,qD];refine cL rfl (fun tU=>?_) (fun tU=>cQ ?_)
    ·have tU:=of_decide_eq_true tU;rw[if_pos ⟨trivial,rfl,tU⟩] at qI;refine cU ?_;simp only[xq,reduceIte,qE,qA,qL,qD,dA,eE,wB];exact trim _ [] (c::r) rfl rfl qI.symm
    ·have tU:=of_decide_eq_false tU;rw[if_neg (by rintro⟨_,_,h3⟩;exact tU h3)] at qI;refine⟨rfl,?_⟩;exact trim _ [] w rfl rfl qI.symm
   ·have he:¬ e=0:=by simpa using hd
    rw[if_neg (by rintro⟨_,h2,_⟩;exact he h2)] at qI;refine⟨rfl,?_⟩;refine trim _ _ w ?_ ?_ qI.symm<;>simp[cJ,cK]
 rintro _ ⟨w',rfl,rfl⟩;have hwl:(sB m b).length≤20000001:=by
  rw[qI];split
  ·rename_i Kt;have hk:=(Ol Kt.1).1;have mO:(dU m [c]).1=dV m c:=by
    have he:=Kt.2.1;have hc:iM m c=0:=by
     rw[dU,if_pos hm,jO] at he;split at he
     ·assumption
     ·rename_i hc;exact absurd he hc
    rw[tX hm hc,rA hm hc (by omega)];rfl
   rw[Kw,mO,za];have:=(Di (Ek hk sm) sb aHx).len;omega
  ·have:=fw.len;omega
 have Im:=hI.out;obtain⟨p0,hp0⟩:∃ p0,p0=mM a b:=⟨_,rfl⟩;have La:p0.length≤1:=by rw[hp0];unfold mM;split<;>simp
 rw[← hp0] at Im ⊢;generalize sB m b=w2 at *;have fin:∀ (sl:Nat→A) (x2:A) (h2:cM),sl 4=x2→Sq h2 (p0++w2) x2→W Γ.ctx P N none 0 .ret (Bw [.t 4] (eV (p0++w2))) ⟨sl,h2⟩:=by
  intro sl x2 h2 h4 ho2;refine cT ⟨.inr rfl,?_⟩;simp only[dK,eH,dM,h4];exact ho2.frz
 rcases Im with⟨rfl,kG⟩ | ⟨q,rfl,hq,fM⟩
 ·by_cases hn0:w2=[]
  ·subst hn0;rw[zP] at fin;refine wR ?_;simp only[xq,reduceIte,qE,qA,qL,qD,dA,wB,eP,zV];exact fin _ .nil _ rfl (.inl ⟨rfl,kG⟩)
  ·refine wR ?_;simp only[xq,reduceIte,qE,qA,qL,qD,dA,wB];rw[if_neg (by simpa[eP] using hn0)];simp only[dD];refine⟨by simp only[dL];omega,by simp only[maxLen];omega,?_⟩;exact fin _ (.ref (h.length+1) w2.length 0 w2.length true) _ (by simp[cJ]) (.inr ⟨h.length+1,by rw[kG];rfl,by rw[kG];simp[eT],by rw[kG];simpa using hn0⟩)
 ·have Et:=(zA.1 hq).1;have gq:∀ t':cM,(h++t')[q]? = some (fT p0):=fun t'=>fB hq;refine wR ?_;simp only[xq,reduceIte,qE,qA,qL,qD,dA,gq,wB,uX,dD];refine⟨by simp only[dL];omega,by simp only[maxLen];omega,?_⟩;refine fin _ (.ref q (p0.length+w2.length) 0 (p0.length+w2.length) true) _ (by simp[cJ]) (.inr ⟨q,by rw[zb],?_,by simp[fM]⟩);rw[zN (by simp;omega)];simp only[fT,rD,List.map_append]
end
end Go.Proofs.YtlllnjhgjijnkaaGreatDoor.Nx

import Derived.Test.YtlllnjhgjijnkaaGreatDoorNxD15
import Derived.Test.YtlllnjhgjijnkaaGreatDoorNxH0
import Derived.Test.YtlllnjhgjijnkaaGreatDoorNxWalk
set_option linter.all false
open List renaming getElem?_eq_some_iff → zA, getElem?_eq_getElem → zB, map_cons → zU, map_nil → zV, length_append → zb
open Bool renaming true_eq_false → zE
open Nat renaming zero_le → zI, le_refl → zL
open Nat renaming reduceEqDiff → qE, reduceAdd → qA, reduceLT → qL, reduceLeDiff → qD
set_option maxHeartbeats 400000
open Bool renaming false_and → aA, true_and → aB, eq_iff_iff → aE
open List renaming flatten_append → aC
open Int renaming natCast_zero → aD
namespace Go.Proofs.YtlllnjhgjijnkaaGreatDoor.Nx
open Go
section
variable {P:Program}{N:Nat}{Γ:dP}
abbrev eY(l:List Gl):HB:=.cells dW ((cP l).map fun r=>r.map A.d)
theorem Se{l:List Gl}:((cP l).map fun r=>r.map A.d).length=l.length:=by simp[cP]
theorem FnD.nil0{Δ:Ctx}{f:FuncId}{args:List A}{h:cM}{e:Elt}(he:0<e.sz)(hf:FnD Δ P f args h .nil h):FnD Δ P f args h (.ref h.length 0 0 0 true) (h++[.cells e []]):=by
 refine⟨hf.ent,fun M w ρ vs bnd S T fR=>(hf.run M w ρ vs bnd S T fR).mono fun ex w' hp=>?_⟩;obtain⟨v,ρ',rfl,q1,q2,q3⟩:=hp;have nw:NewAt h ρ' (.cells e []) none none h.length (h++[.cells e []]) (ρ'++[none]):=.push;have g:Evo h.length h ρ' w' (h++[.cells e []]) (ρ'++[none]) w':=.atNew nw q2.len rfl rfl rfl (zL _) (fun _ _=>rfl) (fun b p h=>by cases h);have S2:SimH w' M (ρ'++[none]) (h++[.cells e []]):=q2.newAny nw g (fun _ _=>rfl) (fun b p h=>by cases h)
  (fun e' rows' h=>by
   cases h;exact⟨he,by simp,by simp,by simp,.inl ⟨nw.phys q2.len,rfl⟩⟩)
  (fun o' h=>by cases h) (by simp)
 refine⟨v,ρ'++[none],rfl,?_,S2,q3.trans g⟩;cases q1;exact .ref0 nw.heap (nw.phys q2.len)
abbrev sW(P:Program)(f:FuncId)(y:A)(l:List Gl):Prop:=∀ (Δ:Ctx) (h:cM),Δ.b≤h.length→FnD Δ P f [y] h (.ref h.length l.length 0 l.length true) (h++[eY l])
theorem aKZ{l:List Gl}{r:List A}(hr:r∈(cP l).map fun r=>r.map A.d){x:A}(hx:x∈r):Xz x:=by
 simp only[cP,List.map_map,List.mem_map,Function.comp] at hr;obtain⟨g,_,rfl⟩:=hr;simp only[Gl.row,zU,zV,List.mem_cons,List.not_mem_nil,or_false] at hx;rcases hx with rfl | rfl | rfl<;>exact Ps
theorem aAo{n:Nat}{l:List Gl}:aNl n (eY l):=fun r hr x hx=>.inl (aKZ hr hx)
theorem sW.lend{Γ:Ctx}{f:FuncId}{y:A}{l:List Gl}(H:sW P f y l){h:cM}{x:A}(hx:FrzA 0 h x y)(hy:y.under 0=true):FnD Γ P f [x] h (.ref h.length l.length 0 l.length true) (h++[eY l]):=by
 have h0:=H Γ.t.ctx (List.replicate h.length .res) (zI _);rw[List.length_replicate] at h0;refine FnD.lend h0 (.inl (.inr ⟨_,_,_,_,_,rfl,zL _⟩)) (fun B hB=>?_) (.cons hx .nil) (by simp[A.underL,hy]);have:B=eY l:=by simpa using hB
 subst this;exact aAo
theorem Yj{f:FuncId}(H:FnIs P f N [.t 2] fN)(hN:1≤N)(l:List Gl):sW P f (.d (.sl dW (cP l))) l:=by
 intro Δ h hb;refine .of_W H (by simpa using hN) hb (xR 0 rfl fun⟨hm,dT,_⟩=>?_);rw[cR] at hm dT;unfold fN;refine Xy 0 rfl (fun h0=>?_) ?_
 ·have:l=[]:=List.map_eq_nil_iff.1 h0;subst this;refine wR ?_;simp only[xq,reduceIte,qE,qA,qL,qD];refine cN ?_;refine wR ?_;simp only[xq,reduceIte,qE,qA,qL,qD,nG,xS];refine cL (t:=true) (by simp[ev,cJ]) (fun _=>?_) (fun h=>by cases h);refine wR ?_;simp only[xq,reduceIte,qE,qA,qL,qD];refine dX (Co.nil 2 dW (by decide) (by simp[cJ])) ?_;refine cT ⟨.inr rfl,?_⟩;simp only[dK,eH,dM,cJ,reduceIte,qE,cK,xq,reduceIte,qE,qA,qL,qD];rfl
 ·refine wR ?_;simp only[xq,reduceIte,qE,qA,qL,qD];refine cN ?_;refine wR ?_;simp only[xq,reduceIte,qE,qA,qL,qD,nG,xS];refine cL (t:=false) (by simp[ev,cJ]) (fun h=>by cases h) (fun _=>cQ ?_);simp only[xq,reduceIte,qE,qA,qL,qD];refine wR ?_;simp only[xq,reduceIte,qE,qA,qL,qD,dA,eE,cR];refine⟨dT,hm,cT ⟨.inr rfl,?_⟩⟩;simp only[dK,eH,dM,cJ,reduceIte,qE,cK,xq,reduceIte,qE,qA,qL,qD]
def vK(ls:List (List Gl))(i:Nat):List Gl:=(ls.take i).flatten
theorem Yk{ls:List (List Gl)}{i:Nat}(hi:i<ls.length):vK ls (i+1)=vK ls i++ls[i]:=by
 simp only[vK];rw[List.take_add_one,zB hi,Option.toList_some,aC,List.flatten_cons,List.flatten_nil,List.append_nil]
theorem aE5{ls:List (List Gl)}{i:Nat}:(vK ls i).length≤ls.flatten.length:=by
 have:ls.flatten=vK ls i++(ls.drop i).flatten:=by rw[vK,← aC,List.take_append_drop]
 rw[this,zb];omega
theorem aDI{f fg:FuncId}{Δ:Ctx}(H:FnIs P f N [.t 2] (mQ fg))(hN:1≤N)(Hg:∀ n:Nat,n≤100000→∀ h:cM,Δ.b≤h.length→FnD Δ P fg [.nil,.int n] h (.ref h.length 0 0 0 true) (h++[.cells dW []]))
  (ls:List (List Gl)) (hl:ls.length≤1000) (hlf:ls.flatten.length≤100000) (h:cM) (hb:Δ.b≤h.length):FnD Δ P f [.d (.sl eW (dH ls))] h (.ref h.length ls.flatten.length 0 ls.flatten.length true) (h++[eY ls.flatten]):=by
 refine .of_W H (by simpa using hN) hb ?_;have hfl:vK ls ls.length=ls.flatten:=by simp[vK]
 unfold mQ;refine wR ?_;simp only[xq,reduceIte,qE,qA,qL,qD];refine wR ?_;simp only[xq,reduceIte,qE,qA,qL,qD];let S1:Nat→St:=fun i=>⟨dB [(0,.d (.sl eW (dH ls))),(3,.int (vK ls i).length),(9,.d (.sl eW (dH ls))),(10,.int ls.length),(11,.int i)],h⟩;let T1:St:=⟨dB [(0,.d (.sl eW (dH ls))),(3,.int ls.flatten.length)],h⟩;refine eJ (· = T1) ?_ ?_
 ·refine wR ?_;simp only[xq,reduceIte,qE,qA,qL,qD,cW];refine cS ?_;refine dX (s':=S1 0) (Co.keep _ (by simp[cJ,cK,vK])) ?_;refine dN (fun m s=>∃ i,i≤ls.length∧m=ls.length-i∧s=S1 i) ⟨0,zI _,rfl,rfl⟩ ?_;rintro m s ⟨i,hi,rfl,rfl⟩;refine wR ?_;simp only[S1,xq,reduceIte,qE,qA,qL,qD];refine cN (cL rfl (fun hc=>cQ ?_) (fun hc=>dJ ?_))
  ·have cY:i<ls.length:=by simpa using hc
   have mB:=Yk cY;have gZ:=aE5 (ls:=ls) (i:=i+1);have e1:IntKind.i64.wrap (((vK ls i).length:Int)+(ls[i].length:Int))=((vK ls (i+1)).length:Int):=by
    rw[mB,zb] at *;rw[cX (by omega)];omega
   have e2:decide (((vK ls (i+1)).length:Int)<0)=false:=decide_eq_false (by omega);simp only[xq,reduceIte,qE,qA,qL,qD];refine cN (cS (wR ?_));simp only[xq,reduceIte,qE,qA,qL,qD,eC cY,cW];refine⟨by omega,by omega,?_⟩;refine wR ?_;simp only[xq,reduceIte,qE,qA,qL,qD,cR,e1];refine wR ?_;simp only[xq,reduceIte,qE,qA,qL,qD,e2];refine cL rfl (fun hd=>by cases hd) (fun _=>cQ ?_);simp only[xq,reduceIte,qE,qA,qL,qD];refine cU ?_;simp only[xq,reduceIte,qE,qA,qL,qD];refine⟨ls.length-(i+1),S1 (i+1),by omega,Co.keep _ ?_,i+1,cY,rfl,rfl⟩;simp[cJ,cK,gB cY (show ls.length≤dL by simp only[dL];omega)]
  ·have gZ:i=ls.length:=by simp at hc;omega
   subst gZ;simp only[xq,reduceIte,qE,qA,qL,qD];refine⟨T1,?_,rfl⟩;simp only[T1,hfl];exact Co.keep _ (by simp[cJ,cK])
 rintro _ rfl;simp only[T1];refine wR ?_;simp only[xq,reduceIte,qE,qA,qL,qD];refine qJ (Hg _ hlf _ hb) ?_;simp only[xq,reduceIte,qE,qA,qL,qD];let cB:List Gl→List (List A):=fun o=>(cP o).map fun r=>r.map A.d;have Zg:∀ o,(cB o).length=o.length:=fun o=>by simp[cB,cP]
 let S2:Nat→St:=fun i=>⟨dB [(6,.ref h.length (vK ls i).length 0 (vK ls i).length true),(25,.d (.sl eW (dH ls))),(26,.int ls.length),(27,.int i)],h++[.cells dW (cB (vK ls i))]⟩;have hc0:vK ls 0=[]:=by simp[vK]
 refine cN (wR ?_);simp only[xq,reduceIte,qE,qA,qL,qD,cW];refine cS ?_;refine dX (s':=S2 0) (by simp only[S2,hc0];exact Co.keep _ (by simp[cJ,cK])) ?_;refine dN (fun m s=>∃ i,i≤ls.length∧m=ls.length-i∧s=S2 i) ⟨0,zI _,rfl,rfl⟩ ?_;rintro m s ⟨i,hi,rfl,rfl⟩;refine wR ?_;simp only[S2,xq,reduceIte,qE,qA,qL,qD];refine cN (cL rfl (fun hc=>cQ ?_) (fun hc=>dJ ?_))
 ·have cY:i<ls.length:=by simpa using hc
  have mB:=Yk cY;have gZ:=aE5 (ls:=ls) (i:=i+1);have Il:cB (vK ls i)++((cP ls[i]).map fun r=>r.map A.d)=cB (vK ls (i+1)):=by rw[mB];simp[cB,cP]
  have hll:(vK ls i).length+ls[i].length=(vK ls (i+1)).length:=by rw[mB,zb]
  simp only[xq,reduceIte,qE,qA,qL,qD];refine cN (cS (wR ?_));simp only[xq,reduceIte,qE,qA,qL,qD,eC cY,cW];refine⟨by omega,by omega,?_⟩;refine cU ?_;simp only[xq,reduceIte,qE,qA,qL,qD,dA,eE,cR,Zg,Il,hll];refine⟨by simp only[dL];omega,by simp only[maxLen];omega,?_⟩;refine cU ?_;simp only[xq,reduceIte,qE,qA,qL,qD];refine⟨ls.length-(i+1),S2 (i+1),by omega,Co.keep _ ?_,i+1,cY,rfl,rfl⟩;simp[cJ,cK,gB cY (show ls.length≤dL by simp only[dL];omega)]
 ·have gZ:i=ls.length:=by simp at hc;omega
  subst gZ;simp only[xq,reduceIte,qE,qA,qL,qD,hfl];refine wR ?_;simp only[xq,reduceIte,qE,qA,qL,qD];refine cT ⟨.inr rfl,?_⟩;simp only[dK,eH,dM,cJ,reduceIte,qE,cK,xq,reduceIte,qE,qA,qL,qD];rfl
theorem aIB{f fb fc:FuncId}{Nb Nc:Nat}(H:FnIs P f N [.t 2] (xA fb fc))(hN:1≤N)(Hb:FnIs P fb Nb [.c 0 3 true] pN)(Hc:FnIs P fc Nc [.t 2] fN)(hNc:1≤Nc)(l:List Gl) :
  sW P f (.d (.sl dW (cP l))) (dE l):=by
 intro Δ h hb;refine .of_W H (by simpa using hN) hb (xR 0 rfl fun⟨_,dT,_⟩=>?_);have vI:l.length≤dL:=fI (by rw[cR] at dT;exact dT);unfold xA;refine wR ?_;simp only[xq,reduceIte,qE,qA,qL,qD];refine wR ?_;simp only[xq,reduceIte,qE,qA,qL,qD,cR];refine cN (cS ?_);let S:Nat→St:=fun i=>⟨dB [(0,.d (.sl dW (cP l))),(3,.int i)],h⟩;refine dX (s':=S l.length) (Co.keep _ (by simp[cJ,cK])) ?_;refine dN (fun m s=>m≤l.length∧s=S m∧kC l l.length=kC l m) ⟨zL _,rfl,rfl⟩ ?_;rintro m s ⟨hm,rfl,htr⟩;have fin:∀ (sl:Nat→A) (n:Nat),sl 0 = .d (.sl dW (cP l))→sl 3 = .int n→n=kC l l.length→W Δ P N none h.length (.seq (.reg [
  { dst:=some 19,op:=.mov (.t 0) },
  { dst:=some 20,op:=.mov (.t 3) },
  { dst:=some 21,op:=.slice ⟨3,32⟩ (.t 19) none (some (.t 20)) none },
  { dst:=some 22,op:=.callr (.f fc) [(.t 21)] },
  { dst:=some 2,op:=.mov (.t 22) }]) .ret) (Gk [.t 2] (.ref h.length (dE l).length 0 (dE l).length true) (h++[eY (dE l)])) ⟨sl,h⟩:=by
  intro sl n h0 h3 hn;have hnl:n≤l.length:=by rw[hn];exact xW l _
  refine wR ?_;simp only[xq,reduceIte,qE,qA,qL,qD,h0,h3,cR,aD,Int.sub_zero,jI];refine⟨by omega,by omega,by omega,by omega,?_⟩;have hn':l.take n=dE l:=by rw[hn];rfl
  rw[hn'];refine Cp (Yj Hc hNc (dE l) Δ h hb) ?_;simp only[xq,reduceIte,qE,qA,qL,qD];refine cT ⟨.inr rfl,?_⟩;simp only[dK,eH,dM,cJ,reduceIte,qE,cK,xq,reduceIte,qE,qA,qL,qD]
 cases m with
 | zero =>
  refine cN (cN (eD (by simp) ?_));simp only[xq,reduceIte,qE,qA,qL,qD,S,aD,Int.lt_irrefl,decide_false];refine cL rfl (fun hc=>by cases hc) (fun _=>dJ ?_);simp only[xq,reduceIte,qE,qA,qL,qD];exact fin _ 0 rfl rfl htr.symm
 | succ n =>
  have sD:decide ((0:Int)<((n+1:Nat):Int))=true:=decide_eq_true (by omega);have cY:n<l.length:=by omega
  refine cN (cN (eD (by simp) ?_));simp only[xq,reduceIte,qE,qA,qL,qD,S,sD,xT (show n≤dL by omega),eS cY,Gl.row,cR];refine⟨by omega,by omega,?_⟩;refine dF (Rz Hb) rfl ?_;simp only[xq,reduceIte,qE,qA,qL,qD,Np,Gl.row,Jn];refine cL rfl (fun hc=>cQ ?_) (fun hc=>dJ ?_)
  ·have he:l[n]=eL:=by simpa using hc
   simp only[xq,reduceIte,qE,qA,qL,qD];refine cS (cU ?_);simp only[xq,reduceIte,qE,qA,qL,qD];refine⟨n,S n,Nat.lt_succ_self _,Co.keep _ ?_,by omega,rfl,?_⟩
   ·simp[cJ,cK,aAa (show n≤dL by omega)]
   ·rw[htr];simp[kC,zB cY,he]
  ·have he:l[n]≠eL:=by simpa using hc
   simp only[xq,reduceIte,qE,qA,qL,qD];refine fin _ (n+1) rfl rfl ?_;rw[htr];simp[kC,zB cY,he]
end
section
variable {P:Program}{N:Nat}{Γ:dP}
abbrev Bp:Elt:=⟨6,64⟩
def Cg.ds(c:Cg):List D:=[.sc (.int .i64 c.kind),.sc (.int .i64 c.row),.sc (.int .i64 c.col),.sc (.int .i64 c.count),.sc (.int .i64 c.upto),.sl dW (cP c.gl)]
def pG(c:Cg):A:=.agg (c.ds.map .d)
abbrev iA(c:Cg):HB:=.cells Bp [c.ds.map .d]
theorem aDJ{f:FuncId}(H:FnIs P f N [.t 6] qV)(hN:3≤N)(n a b:Int):FnP Γ P f [.int n,.int a,.int b] (.bool (btw n a b)):=by
 refine .of_W H (by simpa using hN) ?_;unfold qV;refine wR ?_;simp only[xq,reduceIte,qE,qA,qL,qD];unfold btw;cases e:decide (a≤n)
 ·refine wR ?_;simp only[xq,reduceIte,qE,qA,qL,qD,e,cV,zE,aA];refine cT (.tmp ?_ rfl);simp only[cJ,reduceIte]
 ·refine wR ?_;simp only[xq,reduceIte,qE,qA,qL,qD,e,cV,zE];refine cT (.tmp ?_ rfl);simp only[cJ,reduceIte]
theorem aNs{l:List Gl}:decide ((l.length:Int)=0)=decide (l=[]):=by
 rw[aE];simp only[decide_eq_true_eq];constructor
 ·intro h;exact List.eq_nil_of_length_eq_zero (by omega)
 ·intro h;rw[h];rfl
theorem aDK{f:FuncId}(H:FnIs P f N [.t 2] uL)(hN:1≤N)(c:Cg):FnP Γ P f [pG c] (.bool (blankG c)):=by
 refine .of_W H (by simpa using hN) ?_;unfold uL blankG;simp only[pG,Cg.ds,zU,zV];refine wR ?_;simp only[xq,reduceIte,qE,qA,qL,qD];refine cN ?_;refine wR ?_;simp only[xq,reduceIte,qE,qA,qL,qD];refine cS ?_;refine wR ?_;simp only[xq,reduceIte,qE,qA,qL,qD];refine cL rfl (fun hk=>?_) (fun hk=>?_)
 ·have hk:c.kind=1:=by simpa using hk
  rw[if_pos hk];cases e1:decide (c.count=0)
  ·refine wR ?_;simp only[xq,reduceIte,qE,qA,qL,qD,e1,cV,zE,aA];refine cT ?_;simp only[xq,reduceIte,qE,qA,qL,qD];refine .tmp ?_ rfl;simp only[cJ,reduceIte]
  cases e2:decide (c.upto=0)
  ·refine wR ?_;simp only[xq,reduceIte,qE,qA,qL,qD,e1,e2,cV,zE,aA,aB];refine cT ?_;simp only[xq,reduceIte,qE,qA,qL,qD];refine .tmp ?_ rfl;simp only[cJ,reduceIte]
  refine wR ?_;simp only[xq,reduceIte,qE,qA,qL,qD,e1,e2,cV,zE,aB,cR,aNs];refine cT ?_;simp only[xq,reduceIte,qE,qA,qL,qD];refine .tmp ?_ rfl;simp only[cJ,reduceIte]
 have Cb:¬ c.kind=1:=by simpa using hk
 rw[if_neg Cb];refine wR ?_;simp only[xq,reduceIte,qE,qA,qL,qD];refine cL rfl (fun hk=>?_) (fun hk=>?_)
 ·have hk:c.kind=2:=by simpa using hk
  rw[if_pos hk];cases e1:decide (c.col=0)
  ·refine wR ?_;simp only[xq,reduceIte,qE,qA,qL,qD,e1,cV,zE,aA];refine cT ?_;simp only[xq,reduceIte,qE,qA,qL,qD];refine .tmp ?_ rfl;simp only[cJ,reduceIte]
  refine wR ?_;simp only[xq,reduceIte,qE,qA,qL,qD,e1,cV,zE,aB,cR,aNs];refine cT ?_;simp only[xq,reduceIte,qE,qA,qL,qD];refine .tmp ?_ rfl;simp only[cJ,reduceIte]
 have Mt:¬ c.kind=2:=by simpa using hk
 rw[if_neg Mt];refine wR ?_;simp only[xq,reduceIte,qE,qA,qL,qD];refine cL rfl (fun hk=>?_) (fun hk=>?_)
 ·have hk:c.kind=3:=by simpa using hk
  rw[if_pos hk];refine wR ?_;simp only[xq,reduceIte,qE,qA,qL,qD];refine cT ?_;simp only[xq,reduceIte,qE,qA,qL,qD];refine .tmp ?_ rfl;simp only[cJ,reduceIte]
 have hk3:¬ c.kind=3:=by simpa using hk
 rw[if_neg hk3];refine cQ ?_;simp only[xq,reduceIte,qE,qA,qL,qD];cases e1:decide (c.upto=0)
 ·refine wR ?_;simp only[xq,reduceIte,qE,qA,qL,qD,e1,cV,zE,aA];refine cT (.tmp ?_ rfl);simp only[cJ,reduceIte]
 refine wR ?_;simp only[xq,reduceIte,qE,qA,qL,qD,e1,cV,zE,aB,cR,aNs];refine cT (.tmp ?_ rfl);simp only[cJ,reduceIte]
theorem aGg{f fc fw fb:FuncId}(H:FnIs P f N [.t 2] (sT fc fw fb))(hN:1≤N)(Hc:∀ s:ByteArray,s.size≤1000→FnP Γ P fc [.str s] (.int (sV s)))(Hw:∀ s:ByteArray,s.size≤1000→FnP Γ P fw [.str s] (.int (Jl s)))
  (Hb:∀ n a b,FnP Γ P fb [.int n,.int a,.int b] (.bool (btw n a b))) (g:Gl) (hg:g.text.size≤1000):FnP Γ P f [Np g] (.int (eR g)):=by
 refine .of_W H (by simpa using hN) ?_;unfold sT;simp only[Np,Gl.row,zU,zV];refine wR ?_;simp only[xq,reduceIte,qE,qA,qL,qD];refine cN ?_;refine wR ?_;simp only[xq,reduceIte,qE,qA,qL,qD];refine dF (Hc g.text hg) rfl ?_;simp only[xq,reduceIte,qE,qA,qL,qD];refine cL rfl (fun hc=>?_) (fun hc=>cQ ?_)
 ·have hc:¬ sV g.text=0:=by simpa using hc
  refine wR ?_;simp only[xq,reduceIte,qE,qA,qL,qD];refine cT (.tmp ?_ rfl);simp only[cJ,reduceIte,eR,if_neg hc]
 have hc:sV g.text=0:=by simpa using hc
 simp only[xq,reduceIte,qE,qA,qL,qD];obtain⟨B,hB⟩:∃ B,B=Jo g:=⟨_,rfl⟩;let U:St:=⟨dB [(29,.bool B)],[]⟩;refine cN (eJ (· = U) (eD (by simp) ?_) ?_)
 ·have hbt:btw g.style 0 3 = !(decide (g.style<0)||decide (3<g.style)):=by
   rw[aE];simp[btw]
  have fin:∀ (sl:Nat→A) (h:cM) (b:Bool),sl 29 = .bool b→b=Jo g→∃ s1,Co 0 ⟨sl,h⟩ s1∧s1=U:=by
   intro sl h b h1 h2;refine⟨U,?_,rfl⟩;have:=Co.to (n0:=0) (s:=⟨sl,h⟩) [(29,.bool B)] 0 (by simp[h1,h2,hB,A.under]) (zL _) (zI _) (by simp);simpa[U] using this
  have aLU:Jo g=(((g.wide != decide (Jl g.text=2)) || !btw g.style 0 3)||(decide (g.style=3) && !decide (g.text=⟨#[42]⟩))):=by
   rw[hbt];unfold Jo;cases (g.wide != decide (Jl g.text=2))<;>cases decide (g.style<0)<;>cases decide (3<g.style)<;>rfl
  cases e1:(g.wide != decide (Jl g.text=2))
  ·cases e2:btw g.style 0 3
   ·have hb:=Hb g.style 0 3;rw[e2] at hb;simp only[xq,reduceIte,qE,qA,qL,qD];refine dF (Hw g.text hg) rfl ?_;simp only[xq,reduceIte,qE,qA,qL,qD,e1,cV,zE];refine dF (hb) rfl ?_;simp only[xq,reduceIte,qE,qA,qL,qD,cV,zE];exact fin _ _ true rfl (by rw[aLU,e1,e2];rfl)
   ·have hb:=Hb g.style 0 3;rw[e2] at hb;cases e3:decide (g.style=3)
    ·simp only[xq,reduceIte,qE,qA,qL,qD];refine dF (Hw g.text hg) rfl ?_;simp only[xq,reduceIte,qE,qA,qL,qD,e1,cV,zE];refine dF (hb) rfl ?_;simp only[xq,reduceIte,qE,qA,qL,qD,cV,zE,e3];exact fin _ _ false rfl (by rw[aLU,e1,e2,e3];rfl)
    ·simp only[xq,reduceIte,qE,qA,qL,qD];refine dF (Hw g.text hg) rfl ?_;simp only[xq,reduceIte,qE,qA,qL,qD,e1,cV,zE];refine dF (hb) rfl ?_;simp only[xq,reduceIte,qE,qA,qL,qD,cV,zE,e3];exact fin _ _ (!decide (g.text=⟨#[42]⟩)) rfl (by rw[aLU,e1,e2,e3];rfl)
  ·simp only[xq,reduceIte,qE,qA,qL,qD];refine dF (Hw g.text hg) rfl ?_;simp only[xq,reduceIte,qE,qA,qL,qD,e1,cV,zE];exact fin _ _ true rfl (by rw[aLU,e1];rfl)
 rintro _ rfl;simp only[U];refine cL rfl (fun hd=>?_) (fun hd=>cQ ?_)
 ·refine wR ?_;simp only[xq,reduceIte,qE,qA,qL,qD];refine cT (.tmp ?_ rfl);rw[hB] at hd;simp only[cJ,reduceIte,eR,if_pos hc,hd]
 ·simp only[xq,reduceIte,qE,qA,qL,qD];refine wR ?_;simp only[xq,reduceIte,qE,qA,qL,qD];refine cT (.tmp ?_ rfl);rw[hB] at hd;simp only[cJ,reduceIte,eR,if_pos hc,hd,Bool.false_eq_true]
def Bq(h:cM)(x:A)(r:List Gl):Prop:=(x = .nil∧r=[])∨∃ q,x = .ref q r.length 0 r.length true∧h[q]? = some (eY r)
def eK(v:Vw)(k M:Nat):List A:=[.int v.width,.int v.height,.ref k M 0 v.rows.length true,.int v.row,.int v.col,.bool v.vis]
structure EdIs(h:cM)(id:Nat)(v:Vw)(k:Nat)(R:List (List A)):Prop where
 hid:h[id]? = some (.cells pA [eK v k R.length])
 hk:h[k]? = some (.cells eW R)
 len:v.rows.length≤R.length
 row:∀ (i:Nat) (r:List Gl),v.rows[i]? = some r→∃ x,R[i]? = some [x]∧Bq h x r
 dis:∀ (i j q n m:Nat),i<v.rows.length→j<v.rows.length→R[i]? = some [.ref q n 0 n true]→R[j]? = some [.ref q m 0 m true]→i=j
theorem EdIs.app{h:cM}{id:Nat}{v:Vw}{k:Nat}{R:List (List A)}(e:EdIs h id v k R)(t:cM):EdIs (h++t) id v k R:=by
 have up:∀ {q:Nat} {B:HB},h[q]? = some B→(h++t)[q]? = some B:=fun hq=>by
  rw[List.getElem?_append_left (zA.1 hq).1];exact hq
 refine⟨up e.hid,up e.hk,e.len,fun i r hr=>?_,e.dis⟩;obtain⟨x,h1,h2⟩:=e.row i r hr;refine⟨x,h1,?_⟩;rcases h2 with h2 | ⟨q,h2,h3⟩
 ·exact .inl h2
 ·exact .inr ⟨q,h2,up h3⟩
theorem EdIs.id_lt{h:cM}{id:Nat}{v:Vw}{k:Nat}{R:List (List A)}(e:EdIs h id v k R):id<h.length:=(zA.1 e.hid).1
theorem EdIs.k_lt{h:cM}{id:Nat}{v:Vw}{k:Nat}{R:List (List A)}(e:EdIs h id v k R):k<h.length:=(zA.1 e.hk).1
end
end Go.Proofs.YtlllnjhgjijnkaaGreatDoor.Nx

import Derived.Test.YtlllnjhgjijnkaaGreatDoorNxE21
import Derived.Test.YtlllnjhgjijnkaaGreatDoorNxP15n
set_option linter.all false
open List renaming getElem?_eq_getElem → zB, getD_eq_getElem?_getD → zC, append_assoc → zS
open Nat renaming zero_le → zI
open Nat renaming reduceEqDiff → qE, reduceAdd → qA, reduceLT → qL, reduceLeDiff → qD
open Int renaming natCast_zero → aA, sub_zero → aC
open List renaming take_succ_cons → aB, append_nil → aD, map_append → aE, range → aF
namespace Go.Proofs.YtlllnjhgjijnkaaGreatDoor.Nx
open Go
section
variable {P:Program}{N:Nat}{Γ:dP}
theorem Co.nild{n0:Nat}{s:St}(n:Nat)(e:Elt)(hs:s.slots n = .nil):Co n0 s ⟨upd s.slots n (.d (.sl e [])),s.heap⟩ :=
 fun z M ρ a w hz S=>⟨ρ,⟨S.bnd,S.sim,fun m=>by
  show RepA w M _ _ (upd s.slots n _ m) _;unfold upd
  by_cases hm:m=n
  ·rw[if_pos hm,hm];have:=S.slots n;rw[hs] at this;generalize nY a.tmps n=v at this;cases this;exact .d (.nil (zI _) (fun _=>rfl))
  ·rw[if_neg hm];exact S.slots m,S.size,S.nlt,S.tabs,S.defers⟩,.refl _ _ _ _ hz.2⟩
theorem Oi{f fb:FuncId}(H:FnIs P f N [.t 2] (At fb))(hN:1≤N)(Hb:∀ g,FnP Γ P fb [Np g] (.bool (decide (g=eL))))(l:List Gl)(hl:l.length≤1000000) :
  FnP Γ P f [.d (.sl dW (cP l))] (.d (.sl dW (cP (dE l)))):=by
 refine .of_W H (by simpa using hN) ?_;have vI:l.length≤dL:=by simp only[dL];omega
 unfold At;refine wR ?_;simp only[xq,reduceIte,qE,qA,qL,qD];refine wR ?_;simp only[xq,reduceIte,qE,qA,qL,qD,cR];refine cN (cS ?_);let S:Nat→St:=fun i=>⟨dB [(0,.d (.sl dW (cP l))),(3,.int i)],[]⟩;refine dX (s':=S l.length) (Co.keep _ (by simp[cJ,cK])) ?_;refine dN (fun m s=>m≤l.length∧s=S m∧kC l l.length=kC l m) ⟨Nat.le_refl _,rfl,rfl⟩ ?_;rintro m s ⟨hm,rfl,htr⟩;have fin:∀ (sl:Nat→A) (n:Nat),sl 0 = .d (.sl dW (cP l))→sl 3 = .int n→n=kC l l.length→W (dP.ctx Γ) P N none 0 (.seq (.reg [
  { dst:=some 18,op:=.bslice ⟨3,32⟩ [(.str ⟨#[]⟩),(.bool false),(.int 0)] 0 [] },
  { dst:=some 19,op:=.mov (.t 0) },
  { dst:=some 20,op:=.mov (.t 3) },
  { dst:=some 21,op:=.slice ⟨3,32⟩ (.t 19) none (some (.t 20)) none },
  { dst:=some 22,op:=.append ⟨3,32⟩ (.t 18) (.t 21) },
  { dst:=some 2,op:=.mov (.t 22) }]) .ret) (Bw [.t 2] (.d (.sl dW (cP (dE l))))) ⟨sl,[]⟩:=by
  intro sl n h0 h3 hn;have hnl:n≤l.length:=by rw[hn];exact xW l _
  have ht:l.take n=dE l:=by rw[dE,hn]
  have vY:(dE l).length=n:=by rw[uS,hn]
  refine wR ?_;simp only[xq,reduceIte,qE,qA,qL,qD,h0,h3,cR,aA,aC,jI,ht,vY];refine⟨by omega,by omega,by omega,by omega,by simp only[dL];omega,by simp only[maxLen];omega,?_⟩;refine cT (.frz ?_);simp only[xq,reduceIte,qE,qA,qL,qD];have:=iJ (id:=0) (full:=true) (e:=dW) (rows:=cP (dE l)) (h:=[.cells dW ((cP (dE l)).map fun r=>r.map A.d)]) rfl;rw[cR,vY] at this;exact this
 cases m with
 | zero =>
  refine cN (wR ?_);simp only[xq,reduceIte,qE,qA,qL,qD,S,aA,Int.lt_irrefl,decide_false];refine cL rfl (fun hc=>by cases hc) (fun _=>dJ ?_);simp only[xq,reduceIte,qE,qA,qL,qD];exact fin _ 0 rfl rfl htr.symm
 | succ n =>
  have sD:decide ((0:Int)<((n+1:Nat):Int))=true:=decide_eq_true (by omega);have cY:n<l.length:=by omega
  have hB:=Hb l[n];simp only[Np,Gl.row,List.map_cons,List.map_nil] at hB;refine cN (wR ?_);simp only[xq,reduceIte,qE,qA,qL,qD,S,sD,xT (show n≤dL by omega),eS cY,Gl.row,cR];refine⟨by omega,by omega,?_⟩;refine dF hB rfl ?_;simp only[xq,reduceIte,qE,qA,qL,qD];refine cL rfl (fun hc=>cQ ?_) (fun hc=>dJ ?_)
  ·have he:l[n]=eL:=by simpa using hc
   simp only[xq,reduceIte,qE,qA,qL,qD];refine cS (cU ?_);simp only[xq,reduceIte,qE,qA,qL,qD];refine⟨n,S n,Nat.lt_succ_self _,Co.keep _ ?_,by omega,rfl,?_⟩
   ·simp[cJ,cK,aAa (show n≤dL by omega)]
   ·rw[htr];simp[kC,zB cY,he]
  ·have he:l[n]≠eL:=by simpa using hc
   simp only[xq,reduceIte,qE,qA,qL,qD];refine fin _ (n+1) rfl rfl ?_;rw[htr];simp[kC,zB cY,he]
theorem aAN{l:List Gl}{n:Nat}(hn:n<l.length):dG (l.take (n+1))=dG (l.take n)+gw l[n]:=by
 induction l generalizing n with
 | nil=>simp at hn
 | cons g l ih =>
  cases n with
  | zero=>simp[dG]
  | succ n =>
   rw[aB,dG,ih (by simpa using hn),aB,dG,List.getElem_cons_succ];omega
theorem Ub:∀ (n:Nat) (l:List Gl) (w:Int),(dG (l.take n):Int)≤w→mR w l=l.take n++mR (w-(dG (l.take n):Nat)) (l.drop n)
 | 0,l,w,_=>by simp[dG]
 | n+1,[],w,_=>by simp[dG]
 | n+1,g::l,w,h=>by
  rw[aB,dG] at h;have hg:¬ w<(gw g:Nat):=by omega
  rw[mR,if_neg hg,Ub n l _ (by omega),aB,List.drop_succ_cons,dG,List.cons_append];congr 3;omega
theorem Zc{l:List Gl}{n:Nat}{w:Int}(h:(dG (l.take n):Int)≤w)(hs:l.length≤n∨w<(dG (l.take (n+1)):Int)):mR w l=l.take n:=by
 rw[Ub n l w h];rcases Nat.lt_or_ge n l.length with hn | hn
 ·rcases hs with hs | hs
  ·omega
  ·rw[aAN hn] at hs;rw[List.drop_eq_getElem_cons hn,mR,if_pos (by omega),aD]
 ·rw[List.drop_eq_nil_of_le hn,mR,aD]
abbrev yI(l:List (List Gl)):HB:=.cells eW ((dH l).map fun r=>r.map A.d)
def Uc(t:cM)(k:Nat)(l:List (List Gl))(x:A):Prop:=(x = .nil∧l=[])∨∃ q,x = .ref (q+k) l.length 0 l.length true∧t[q]? = some (yI l)∧l≠[]
theorem Ud{a b:List (List Gl)}:dH (a++b)=dH a++dH b:=by simp[dH]
def kY(v:Vw)(x:A):List A:=[.int v.width,.int v.height,x,.int v.row,.int v.col,.bool v.vis]
abbrev Ue(v:Vw)(x:A):HB:=.cells pA [kY v x]
theorem aFp{h t:cM}{v:Vw}{x:A}(ho:Uc t h.length v.rows x):FrzA 0 (h++t) (.agg (kY v x)) (fF v):=by
 refine .agg rfl fun j y hj=>?_;rcases j with _ | _ | _ | _ | _ | _ | j
 ·cases hj;exact .same rfl
 ·cases hj;exact .same rfl
 ·cases hj;simp only[kY,List.getD_cons_succ,List.getD_cons_zero];rcases ho with⟨rfl,h0⟩ | ⟨q,rfl,hq,_⟩
  ·rw[h0];exact .d (.nil _)
  ·have:=iJ (id:=q+h.length) (full:=true) (e:=eW) (rows:=dH v.rows) (h:=h++t) (by rw[Nat.add_comm,fC];exact hq);rw[cW] at this;exact this
 ·cases hj;exact .same rfl
 ·cases hj;exact .same rfl
 ·cases hj;exact .same rfl
 ·simp[Vw.ds] at hj
end
section
variable {P:Program}{N:Nat}{Γ:dP}
theorem aEt{α:Type}(f:Nat→α)(i:Nat):(aF (i+1)).map f=(aF i).map f++[f i]:=by rw[List.range_succ,aE];rfl
theorem aMa{a b c B:HB}{t t':cM}:(a::b::c::(t++B::t'))[t.length+3]? = some B:=by simp
set_option maxHeartbeats 2000000 in
theorem aHk{f fw ft:FuncId}(H:FnIs P f N [.c 6 6 true] (xB fw ft))(hN:3≤N)(Hw:∀ l:List Gl,FnP Γ P fw [.d (.sl dW (cP l))] (.int (dG l)))(Ht:∀ l:List Gl,l.length≤1000000→FnP Γ P ft [.d (.sl dW (cP l))] (.d (.sl dW (cP (dE l)))))
  (v:Vw) (h w:Int) (hh:1≤h∧h≤60) (hw:0≤w∧w≤1000) (hr:∀ r∈v.rows,r.length≤50000) (hvl:v.rows.length≤1000):FnP Γ P f [fF v,.int h,.int w] (fF (qK v h w)):=by
 refine .of_W H (by simpa using hN) ?_;obtain⟨n,hn⟩:∃ n:Nat,h=n:=⟨h.toNat,by omega⟩;subst hn;let rw':Nat→List Gl:=fun i=>lR w (v.rows.getD i []);let acc:Nat→List (List Gl):=fun i=>(aF i).map rw';have Ze:∀ i,(acc i).length=i:=fun i=>by simp[acc]
 have aPz:∀ i,acc (i+1)=acc i++[rw' i]:=fun i=>aEt rw' i;let v0:Vw:=⟨w,n,[],v.row,v.col,v.vis⟩;unfold xB;simp only[fF,Vw.ds,List.map_cons,List.map_nil];refine wR ?_;simp only[xq,reduceIte,qE,qA,qL,qD];refine wR ?_;simp only[xq,reduceIte,qE,qA,qL,qD];refine wR ?_;simp only[xq,reduceIte,qE,qA,qL,qD];refine wR ?_;simp only[xq,reduceIte,qE,qA,qL,qD];refine wR ?_;simp only[xq,reduceIte,qE,qA,qL,qD];refine cN ?_;refine wR ?_;simp only[xq,reduceIte,qE,qA,qL,qD];refine cS ?_;let S:A→cM→Nat→St:=fun x t i=>⟨dB [(1,.int n),(2,.int w),(3,.ptr 0 1 0 0),(6,.ptr 1 1 0 0),(7,.ptr 2 1 0 0),(8,.int i)],fX v::jJ::Ue v0 x::t⟩;refine dX (s':=S .nil [] 0) (Co.keep _ (by simp[cJ,cK])) ?_;refine dN (fun m s=>∃ i x t,i≤n∧m=n-i∧s=S x t i∧Uc t 3 (acc i) x) ⟨0,.nil,[],zI _,rfl,rfl,.inl ⟨rfl,rfl⟩⟩ ?_;rintro m s ⟨i,x,t,hi,rfl,rfl,ho⟩;simp only[S];refine cN (cN ?_);refine cU ?_;simp only[xq,reduceIte,qE,qA,qL,qD];refine cL rfl (fun hc=>cQ ?_) (fun hc=>dJ ?_)
 ·have cY:i<n:=by simpa using hc
  have w1:IntKind.i64.wrap ((i:Int)+1)=((i+1:Nat):Int):=by rw[cX (by omega)];omega
  simp only[xq,reduceIte,qE,qA,qL,qD];refine cN (cS ?_);refine wR ?_;simp only[xq,reduceIte,qE,qA,qL,qD];obtain⟨l,hl⟩:∃ l,l=v.rows.getD i []:=⟨_,rfl⟩;have hll:l.length≤50000:=by
   rw[hl];rcases pV (rows:=v.rows) (n:=i) with h1 | h1
   ·rw[h1];exact zI _
   ·exact hr _ h1
  refine eJ (· = ⟨dB [(1,.int n),(2,.int w),(3,.ptr 0 1 0 0),(6,.ptr 1 1 0 0),(7,.ptr 2 1 0 0),(8,.int i),(9,.d (.sl dW (cP l)))],fX v::jJ::Ue v0 x::t⟩) ?_ ?_
  ·refine wR ?_;simp only[xq,reduceIte,qE,qA,qL,qD,Vw.ds,cW];refine cL rfl (fun hd=>?_) (fun hd=>cQ ?_)
   ·have hlv:i<v.rows.length:=by simpa using hd
    have gv:l=v.rows[i]:=by rw[hl,zC,zB hlv];rfl
    refine cU ?_;simp only[xq,reduceIte,qE,qA,qL,qD,Vw.ds,cW,eC hlv,Int.toNat_natCast];refine⟨by omega,by omega,?_⟩;rw[gv];exact⟨_,Co.keep _ (by simp[cJ,cK]),rfl⟩
   ·have hlv:v.rows.length≤i:=by simp at hd;omega
    have gv:l=[]:=by rw[hl,zC,List.getElem?_eq_none hlv];rfl
    rw[gv];refine⟨rfl,_,Co.trans (Co.nild 9 dW (by simp[cJ])) (Co.keep _ (by simp[cJ,cK,cP])),rfl⟩
  rintro _ rfl;refine wR ?_;simp only[xq,reduceIte,qE,qA,qL,qD];let T:Nat→St:=fun j=>⟨dB [(1,.int n),(2,.int w),(3,.ptr 0 1 0 0),(6,.ptr 1 1 0 0),(7,.ptr 2 1 0 0),(8,.int i),(9,.d (.sl dW (cP l))),(10,.int j)],fX v::jJ::Ue v0 x::t⟩;refine eJ (fun s=>∃ j,s=T j∧j≤l.length∧l.take j=mR w l) ?_ ?_
  ·refine cS ?_;refine dX (s':=T 0) (Co.keep _ (by simp[cJ,cK])) ?_;refine dN (fun m s=>∃ j,j≤l.length∧m=l.length-j∧s=T j∧(dG (l.take j):Int)≤w) ⟨0,zI _,rfl,rfl,by simp[dG,hw.1]⟩ ?_;rintro m s ⟨j,hj,rfl,rfl,aLX⟩;simp only[T]
   by_cases qO:j<l.length
   ·have d1:decide ((j:Int)<(l.length:Int))=true:=decide_eq_true (by omega);have w2:IntKind.i64.wrap ((j:Int)+1)=((j+1:Nat):Int):=by rw[cX (by omega)];omega
    refine cN (cN ?_);refine cU ?_;simp only[xq,reduceIte,qE,qA,qL,qD,cR,d1,w2,aA,aC,jI];refine⟨by omega,by omega,by omega,by omega,?_⟩;refine dF (Hw (l.take (j+1))) rfl ?_;simp only[xq,reduceIte,qE,qA,qL,qD];refine cL rfl (fun hd=>cQ ?_) (fun hd=>dJ ?_)
    ·have hd:(dG (l.take (j+1)):Int)≤w:=by simpa using hd
     simp only[xq,reduceIte,qE,qA,qL,qD];refine cS ?_;refine cU ?_;simp only[xq,reduceIte,qE,qA,qL,qD,w2];exact⟨l.length-(j+1),T (j+1),by omega,Co.keep _ (by simp[cJ,cK]),j+1,qO,rfl,rfl,hd⟩
    ·have hd:w<(dG (l.take (j+1)):Int):=by simpa using hd
     simp only[xq,reduceIte,qE,qA,qL,qD];exact⟨T j,Co.keep _ (by simp[cJ,cK]),j,rfl,hj,(Zc aLX (.inr hd)).symm⟩
   ·have d1:decide ((j:Int)<(l.length:Int))=false:=decide_eq_false (by omega);refine cN (cN ?_);refine cU ?_;simp only[xq,reduceIte,qE,qA,qL,qD,cR,d1,cV,Bool.true_eq_false];refine cL rfl (fun hd=>by cases hd) (fun hd=>dJ ?_);simp only[xq,reduceIte,qE,qA,qL,qD];exact⟨T j,Co.keep _ (by simp[cJ,cK]),j,rfl,hj,(Zc aLX (.inl (by omega))).symm⟩
  rintro _ ⟨j,rfl,hj,aHy⟩;have htr:dE (l.take j)=rw' i:=by rw[aHy];simp only[rw',lR,hl]
  have hT:=Ht (l.take j) (by rw[List.length_take];omega);rw[htr] at hT;simp only[T];have next:∀ (sl:Nat→A) (x2:A) (t2:cM),sl 1 = .int n→sl 2 = .int w→sl 3 = .ptr 0 1 0 0→sl 6 = .ptr 1 1 0 0→sl 7 = .ptr 2 1 0 0→sl 8 = .int ((i+1:Nat):Int)→Uc t2 3 (acc i++[rw' i]) x2 →
    ∃ m' s'',m'<n-i∧Co 0 ⟨sl,fX v::jJ::Ue v0 x2::t2⟩ s''∧∃ i x t,i≤n∧m'=n-i∧s''=S x t i∧Uc t 3 (acc i) x:=by
   intro sl x2 t2 q1 q2 q3 q6 q7 q8 ho2;refine⟨n-(i+1),S x2 t2 (i+1),by omega,Co.keep _ (by simp[q1,q2,q3,q6,q7,q8]),i+1,x2,t2,cY,rfl,rfl,by rw[aPz];exact ho2⟩
  rcases ho with⟨rfl,kG⟩ | ⟨q,rfl,hq,fM⟩
  ·refine eD (by simp) ?_;simp only[xq,reduceIte,qE,qA,qL,qD,cR,aA,aC,jI,kY];refine⟨by omega,by omega,by omega,by omega,?_⟩;refine dF (hT) rfl ?_;simp only[xq,reduceIte,qE,qA,qL,qD,aMa,fC,iV,dA,eT,eE,rW,zS];rw[if_neg (by simp)];refine⟨by decide,by decide,?_⟩;simp only[xq,reduceIte,qE,qA,qL,qD,kY];refine cU ?_;simp only[xq,reduceIte,qE,qA,qL,qD,w1];have he:(t++[yI [rw' i],yI [rw' i]])[t.length+1]? = some (yI [rw' i]):=by rw[eT]
   refine next _ (.ref (t.length+1+3) 1 0 1 true) (t++[yI [rw' i],yI [rw' i]]) rfl rfl rfl rfl rfl rfl (.inr ⟨t.length+1,?_,?_,by simp⟩)
   ·rw[kG];rfl
   ·rw[kG];exact he
  ·have Et:=(List.getElem?_eq_some_iff.1 hq).1;have gq:∀ t':cM,(t++t')[q]? = some (yI (acc i)):=fun t'=>fB hq;have sq:∀ (t':cM) X,(t++t').set q X=t.set q X++t':=fun t' X=>List.set_append_left _ _ Et;refine eD (by simp) ?_;simp only[xq,reduceIte,qE,qA,qL,qD,cR,aA,aC,jI,kY];refine⟨by omega,by omega,by omega,by omega,?_⟩;refine dF (hT) rfl ?_;simp only[xq,reduceIte,qE,qA,qL,qD,aMa,fC,iV,dA,eT,eE,rW,zS,gq,sq,cW,Ze];refine⟨by simp only[dL];omega,by simp only[maxLen];omega,?_⟩;simp only[xq,reduceIte,qE,qA,qL,qD,kY];refine cU ?_;simp only[xq,reduceIte,qE,qA,qL,qD,w1];have e:yI (acc i++[rw' i]) = .cells eW (((dH (acc i)).map fun r=>r.map A.d)++[[.d (.sl dW (cP (rw' i)))]]):=by simp only[yI,Ud,aE];rfl
   refine next _ (.ref (q+3) (i+1) 0 (i+1) true) (t.set q (.cells eW (((dH (acc i)).map fun r=>r.map A.d)++[[.d (.sl dW (cP (rw' i)))]]))++[yI [rw' i],.res]) ?_ ?_ ?_ ?_ ?_ ?_ (.inr ⟨q,?_,?_,by simp⟩)
   iterate 6 rfl
   ·rw[List.length_append,Ze];rfl
   ·rw[List.getElem?_append_left (by simpa using Et),List.getElem?_set_self Et,e]
 ·have gZ:i=n:=by simp at hc;omega
  subst gZ;have w3:IntKind.i64.wrap ((i:Int)-1)=(i:Int)-1:=cX (by omega);have w4:IntKind.i64.wrap (w-1)=w-1:=cX (by omega);have mn:∀ a b:Int,eB false a b=min a b:=fun a b=>by unfold eB;simp only[Bool.false_eq_true,if_false];split<;>omega
  simp only[xq,reduceIte,qE,qA,qL,qD];refine wR ?_;simp only[xq,reduceIte,qE,qA,qL,qD,Vw.ds,kY,w3,mn];refine wR ?_;simp only[xq,reduceIte,qE,qA,qL,qD,Vw.ds,kY,w4,mn];refine wR ?_;simp only[xq,reduceIte,qE,qA,qL,qD,Vw.ds,kY];refine cT ⟨.inr rfl,?_⟩;simp only[dK,eH,dM,xq,reduceIte,qE,qA,qL,qD,dI,List.take];exact aFp (h:=[fX v,Ue (qK v i w) x,Ue (qK v i w) x]) (t:=t) (v:=qK v i w) ho
end
end Go.Proofs.YtlllnjhgjijnkaaGreatDoor.Nx

import Derived.Test.YtlllnjhgjijnkaaGreatDoorNxP15i
import Derived.Test.YtlllnjhgjijnkaaGreatDoorNxB0
import Derived.Test.YtlllnjhgjijnkaaGreatDoorNxP15g
import Derived.Test.YtlllnjhgjijnkaaGreatDoorNxC1
set_option linter.all false
open Nat renaming zero_le → zI
open List renaming getElem_mem → zi, eq_nil_of_length_eq_zero → zx
open Nat renaming reduceEqDiff → qE, reduceAdd → qA, reduceLT → qL, reduceLeDiff → qD
open Bool renaming false_or → aA, true_or → aB, false_eq_true → aD, false_and → aE, true_and → aF
open List renaming drop_length → aC, not_mem_nil → aG
namespace Go.Proofs.YtlllnjhgjijnkaaGreatDoor.Nx
open Go
section
variable {P:Program}{N:Nat}{Γ:dP}
theorem aBK{f:FuncId}(H:FnIs P f N [.t 4] Am)(hN:2≤N)(w h:Int):FnP Γ P f [.int w,.int h] (.bool (xV w h)):=by
 refine .of_W H (by simpa using hN) ?_;unfold Am;refine wR ?_;simp only[xq,reduceIte,qE,qA,qL,qD];refine wR ?_;cases e1:decide (1≤w)
 ·simp only[xq,reduceIte,qE,qA,qL,qD,e1];refine cT (.tmp ?_ rfl);simp only[cJ,reduceIte,xV,e1,aE]
 ·cases e2:decide (w≤132)
  ·simp only[xq,reduceIte,qE,qA,qL,qD,e1,e2];refine cT (.tmp ?_ rfl);simp only[cJ,reduceIte,xV,e1,e2,aF,aE]
  ·cases e3:decide (1≤h)
   ·simp only[xq,reduceIte,qE,qA,qL,qD,e1,e2,e3];refine cT (.tmp ?_ rfl);simp only[cJ,reduceIte,xV,e1,e2,e3,aF,aE]
   ·simp only[xq,reduceIte,qE,qA,qL,qD,e1,e2,e3];refine cT (.tmp ?_ rfl);simp only[cJ,reduceIte,xV,e1,e2,e3,aF]
def Jo(g:Gl):Bool:=(((g.wide != decide (Jl g.text=2))||decide (g.style<0))||decide (3<g.style))||(decide (g.style=3) && !decide (g.text=⟨#[42]⟩))
def eR(g:Gl):Int:=if sV g.text=0 then(if Jo g then 9 else 0) else 3
theorem aBL{f fc fw:FuncId}(H:FnIs P f N [.t 2] (An fc fw))(hN:1≤N)(Hc:∀ s:ByteArray,s.size≤1000→FnP Γ P fc [.str s] (.int (sV s)))(Hw:∀ s:ByteArray,s.size≤1000→FnP Γ P fw [.str s] (.int (Jl s)))
  (g:Gl) (hs:g.text.size≤1000):FnP Γ P f [Np g] (.int (eR g)):=by
 refine .of_W H (by simpa using hN) ?_;unfold An;refine wR ?_;simp only[Np,Gl.row,xq,reduceIte,qE,qA,qL,qD];refine cN (wR ?_);simp only[xq,reduceIte,qE,qA,qL,qD];refine dF (Hc _ hs) rfl ?_;simp only[xq,reduceIte,qE,qA,qL,qD];refine cL rfl (fun hc=>?_) (fun hc=>cQ ?_)
 ·have hc:¬ sV g.text=0:=by simpa using hc
  refine wR ?_;simp only[xq,reduceIte,qE,qA,qL,qD];refine cT (.tmp ?_ rfl);simp only[cJ,reduceIte,eR,if_neg hc]
 ·have hc:sV g.text=0:=by simpa using hc
  simp only[xq,reduceIte,qE,qA,qL,qD];let S:Bool→St:=fun b=>⟨dB [(33,.bool b)],[]⟩;refine cN (eJ (· = S (Jo g)) (eD (by simp) ?_) ?_)
  ·have fin:∀ sl h b,sl 33 = .bool b→b=Jo g→∃ s1,Co 0 ⟨sl,h⟩ s1∧s1=S (Jo g):=fun sl h b h1 h2=>by
    subst h2;exact⟨_,Co.to [(33,.bool (Jo g))] 0 (by simp[h1,A.under]) (Nat.le_refl _) (zI _) (by simp),rfl⟩
   cases e0:(g.wide != decide (Jl g.text=2))
   ·refine fS 8 fun K1 hK1=>?_;simp only[xq,reduceIte,qE,qA,qL,qD];refine dF (Hw _ hs) rfl ?_;simp only[xq,reduceIte,qE,qA,qL,qD,e0];refine hK1 _ ?_;cases e1:decide (g.style<0)
    ·refine fS 5 fun K1 hK1=>?_;simp only[xq,reduceIte,qE,qA,qL,qD,e1];refine hK1 _ ?_;cases e2:decide (3<g.style)
     ·refine fS 5 fun K1 hK1=>?_;simp only[xq,reduceIte,qE,qA,qL,qD,e2];refine hK1 _ ?_;cases e3:decide (g.style=3)
      ·refine fS 4 fun K1 hK1=>?_;simp only[xq,reduceIte,qE,qA,qL,qD,e3];refine hK1 _ ?_;simp only[xq,reduceIte,qE,qA,qL,qD];exact fin _ _ false rfl (by rw[Jo,e0,e1,e2,e3];rfl)
      ·refine fS 4 fun K1 hK1=>?_;simp only[xq,reduceIte,qE,qA,qL,qD,e3];refine hK1 _ ?_;simp only[xq,reduceIte,qE,qA,qL,qD];exact fin _ _ (!decide (g.text=⟨#[42]⟩)) rfl (by rw[Jo,e0,e1,e2,e3];rfl)
     ·refine fS 5 fun K1 hK1=>?_;simp only[xq,reduceIte,qE,qA,qL,qD,e2];refine hK1 _ ?_;simp only[xq,reduceIte,qE,qA,qL,qD];exact fin _ _ true rfl (by rw[Jo,e0,e1,e2];rfl)
    ·refine fS 5 fun K1 hK1=>?_;simp only[xq,reduceIte,qE,qA,qL,qD,e1];refine hK1 _ ?_;refine fS 5 fun K1 hK1=>?_;simp only[xq,reduceIte,qE,qA,qL,qD];refine hK1 _ ?_;simp only[xq,reduceIte,qE,qA,qL,qD];exact fin _ _ true rfl (by rw[Jo,e0,e1];rfl)
   ·refine fS 8 fun K1 hK1=>?_;simp only[xq,reduceIte,qE,qA,qL,qD];refine dF (Hw _ hs) rfl ?_;simp only[xq,reduceIte,qE,qA,qL,qD,e0];refine hK1 _ ?_;refine fS 5 fun K1 hK1=>?_;simp only[xq,reduceIte,qE,qA,qL,qD];refine hK1 _ ?_;refine fS 5 fun K1 hK1=>?_;simp only[xq,reduceIte,qE,qA,qL,qD];refine hK1 _ ?_;simp only[xq,reduceIte,qE,qA,qL,qD];exact fin _ _ true rfl (by rw[Jo,e0];rfl)
  ·rintro _ rfl;refine cL rfl (fun hd=>?_) (fun hd=>cQ ?_)
   ·refine wR ?_;simp only[S,xq,reduceIte,qE,qA,qL,qD];refine cT (.tmp ?_ rfl);simp only[cJ,reduceIte,eR,if_pos hc,hd]
   ·simp only[S,xq,reduceIte,qE,qA,qL,qD];refine wR ?_;simp only[xq,reduceIte,qE,qA,qL,qD];refine cT (.tmp ?_ rfl);simp only[cJ,reduceIte,eR,if_pos hc,hd,aD]
def Fo{α:Type}(F:α→Int):List α→Int
 | []=>0
 | a::l=>if F a=0 then Fo F l else F a
theorem xX{α:Type}{F:α→Int}{l:List α}{i:Nat}(hi:i<l.length):Fo F (l.drop i)=if F l[i]=0 then Fo F (l.drop (i+1)) else F l[i]:=by
 rw[List.drop_eq_getElem_cons hi,Fo]
def eN(l:List Gl):Bool:=decide (l.getLast? = some eL)
theorem tR{l:List Gl}{k:Nat}(hk:l.length=k+1):eN l=decide (l[k]'(by omega)=eL):=by
 unfold eN;have h1:l.length-1=k:=by omega
 rw[List.getLast?_eq_getElem?,h1,List.getElem?_eq_getElem (by omega)];simp
def Cy(w:Int)(l:List Gl):Int:=if Fo eR l=0 then(if w<(dG l:Int) then 12 else if eN l then 1 else 0) else Fo eR l
def aBM(v:Vw):Bool:=((decide (v.row<0)||decide (v.height≤v.row))||decide (v.col<0))||decide (v.width≤v.col)
def dO(v:Vw):Int:=if xV v.width v.height then(if(v.rows.length:Int)=v.height then(if aBM v then 2 else Fo (Cy v.width) v.rows) else 11) else 2
theorem aPe{v:Vw}{B:HB}{h:cM}(hB:B∈(fX v::h).take 1):HB.under 1 B:=by
 simp only[List.take_succ_cons,List.take_zero,List.mem_cons,aG,or_false] at hB;subst hB;intro r hr x hx;simp only[List.mem_cons,aG,or_false] at hr;subst hr;obtain⟨d,_,rfl⟩:=List.mem_map.1 hx;rfl
theorem aAk{f fs fg fw fb:FuncId}(H:FnIs P f N [.t 2] (Ai fs fg fw fb))(hN:1≤N)(Hs:∀ w h,FnP Γ P fs [.int w,.int h] (.bool (xV w h)))(Hg:∀ g:Gl,g.text.size≤1000→FnP Γ P fg [Np g] (.int (eR g)))
  (Hw:∀ l,FnP Γ P fw [.d (.sl dW (cP l))] (.int (dG l))) (Hb:FnP Γ P fb [] (Np eL)) (v:Vw) (ht:∀ l∈v.rows,∀ g∈l,g.text.size≤1000):FnP Γ P f [fF v] (.int (dO v)):=by
 refine .of_W H (by simpa using hN) (tK 0 2 rfl rfl fun⟨_,dT,_⟩=>?_);have vI:v.rows.length≤dL:=fI (by rw[cW] at dT;exact dT);unfold Ai;refine wR ?_;simp only[fF,Vw.ds,xq,reduceIte,qE,qA,qL,qD];let T:List (Nat × A)→St:=fun l=>⟨dB ((1,.ptr 0 1 0 0)::l),[fX v]⟩;refine cN (cS (wR ?_));simp only[xq,reduceIte,qE,qA,qL,qD];refine dF (Hs _ _) rfl ?_;simp only[xq,reduceIte,qE,qA,qL,qD];refine cL rfl (fun hc=>?_) (fun hc=>wR ?_)
 ·refine wR ?_;simp only[xq,reduceIte,qE,qA,qL,qD];refine cT ?_;simp only[xq,reduceIte,qE,qA,qL,qD];refine .tmp ?_ rfl;have:xV v.width v.height=false:=by simpa using hc
  simp only[cJ,reduceIte,dO,this,aD]
 have mB:xV v.width v.height=true:=by simpa using hc
 simp only[xq,reduceIte,qE,qA,qL,qD,cW];refine cL rfl (fun hc=>?_) (fun hc=>?_)
 ·refine wR ?_;simp only[xq,reduceIte,qE,qA,qL,qD];refine cT ?_;simp only[xq,reduceIte,qE,qA,qL,qD];refine .tmp ?_ rfl;have:¬ (v.rows.length:Int)=v.height:=by simpa using hc
  simp only[cJ,reduceIte,dO,mB,if_neg this]
 have hln:(v.rows.length:Int)=v.height:=by simpa using hc
 refine aDz (· = T [(23,.bool (aBM v))]) (fun K hK=>?_) ?_
 ·unfold aBM at hK;refine eU 4 (· = T [(27,.bool (decide (v.row<0)))]) rfl (by intro h;cases h) (fun K1 hK1=>?_) ?_
  ·simp only[xq,reduceIte,qE,qA,qL,qD];exact hK1 _ (T [(27,.bool (decide (v.row<0)))]) (Co.keep _ (by simp[cJ,cK])) rfl
  rintro _ rfl;generalize decide (v.row<0)=b0 at hK ⊢;refine eU 7 (· = T [(34,.bool (b0||decide (v.height≤v.row)))]) rfl (by intro h;cases h) (fun K1 hK1=>?_) ?_
  ·cases b0<;>simp only[T,fX,Vw.ds,xq,reduceIte,qE,qA,qL,qD,aA,aB]
   all_goals (refine hK1 _ _ (Co.keep _ ?_) rfl;simp[cJ,cK])
  rintro _ rfl;generalize (b0||decide (v.height≤v.row))=b1 at hK ⊢;refine eU 5 (· = T [(39,.bool (b1||decide (v.col<0)))]) rfl (by intro h;cases h) (fun K1 hK1=>?_) ?_
  ·cases b1<;>simp only[T,fX,Vw.ds,xq,reduceIte,qE,qA,qL,qD,aA,aB]
   all_goals (refine hK1 _ _ (Co.keep _ ?_) rfl;simp[cJ,cK])
  rintro _ rfl;generalize (b1||decide (v.col<0))=b2 at hK ⊢;refine rX rfl ?_;cases b2<;>simp only[T,fX,Vw.ds,xq,reduceIte,qE,qA,qL,qD,aA,aB]
  all_goals (refine hK _ _ (Co.keep _ ?_) rfl;simp[cJ,cK])
 rintro _ rfl;refine cL rfl (fun hc=>?_) (fun hc=>cQ ?_)
 ·refine wR ?_;simp only[T,xq,reduceIte,qE,qA,qL,qD];refine cT ?_;simp only[xq,reduceIte,qE,qA,qL,qD];refine .tmp ?_ rfl;simp only[cJ,reduceIte,dO,mB,hln,hc]
 have hvc:dO v=Fo (Cy v.width) v.rows:=by rw[dO,if_pos mB,if_pos hln,if_neg (by rw[hc];simp)]
 rw[hvc];simp only[T,fX,Vw.ds,xq,reduceIte,qE,qA,qL,qD];refine cN (wR ?_);simp only[xq,reduceIte,qE,qA,qL,qD,cW];refine cS ?_;let S:Nat→St:=fun i=>T [(47,.d (.sl eW (dH v.rows))),(48,.int v.rows.length),(49,.int i)];refine dX (s':=S 0) (Co.keep _ (by simp[cJ,cK])) ?_;refine dN (fun m s=>∃ i,i≤v.rows.length∧m=v.rows.length-i∧s=S i∧Fo (Cy v.width) (v.rows.drop i)=Fo (Cy v.width) v.rows) ⟨0,zI _,rfl,rfl,by simp⟩ ?_;rintro m s ⟨i,hi,rfl,rfl,dZ⟩;refine wR ?_;simp only[S,T,fX,Vw.ds,xq,reduceIte,qE,qA,qL,qD];refine cN (cL rfl (fun hc=>cQ ?_) (fun hc=>dJ ?_))
 ·have cY:i<v.rows.length:=by simpa using hc
  have vY:=ht _ (zi cY);rw[xX cY] at dZ;simp only[xq,reduceIte,qE,qA,qL,qD];refine cN (cS (wR ?_));simp only[xq,reduceIte,qE,qA,qL,qD,eC cY,cW];refine⟨by omega,by omega,?_⟩;generalize hL:v.rows[i]=L at dZ vY;refine xR 4 rfl fun⟨_,hroomL,_⟩=>?_;have hLr:L.length≤dL:=fI (by rw[cR] at hroomL;exact hroomL);refine cN (wR ?_);simp only[xq,reduceIte,qE,qA,qL,qD,cR];refine cS ?_;let U:Nat→St:=fun k=>T [(47,.d (.sl eW (dH v.rows))),(48,.int v.rows.length),(49,.int i),(4,.d (.sl dW (cP L))),(53,.d (.sl dW (cP L))),(54,.int L.length),(55,.int k)];refine dX (s':=U 0) (Co.keep _ (by simp[cJ,cK])) ?_;refine dN (fun m s=>∃ k,k≤L.length∧m=L.length-k∧s=U k∧Fo eR (L.drop k)=Fo eR L) ⟨0,zI _,rfl,rfl,by simp⟩ ?_;rintro m s ⟨k,hk,rfl,rfl,hpk⟩;refine wR ?_;simp only[U,T,fX,Vw.ds,xq,reduceIte,qE,qA,qL,qD];refine cN (cL rfl (fun hc=>cQ ?_) (fun hc=>dJ ?_))
  ·have Vh:k<L.length:=by simpa using hc
   have htk:=vY _ (zi Vh);rw[xX Vh] at hpk;simp only[xq,reduceIte,qE,qA,qL,qD];refine cN (cS (wR ?_));simp only[xq,reduceIte,qE,qA,qL,qD,eS Vh,Gl.row,cR];refine⟨by omega,by omega,?_⟩;refine wR ?_;simp only[xq,reduceIte,qE,qA,qL,qD];refine dF (Hg L[k] htk) rfl ?_;simp only[xq,reduceIte,qE,qA,qL,qD];refine wR ?_;simp only[xq,reduceIte,qE,qA,qL,qD];refine cL rfl (fun hd=>?_) (fun hd=>cQ ?_)
   ·have fM:¬ eR L[k]=0:=by simpa using hd
    rw[if_neg fM] at hpk;refine wR ?_;simp only[xq,reduceIte,qE,qA,qL,qD];refine cT ?_;simp only[xq,reduceIte,qE,qA,qL,qD];refine .tmp ?_ rfl;have fK:Cy v.width L=eR L[k]:=by rw[Cy,if_neg (by rw[← hpk];exact fM),← hpk]
    rw[if_neg (by rw[fK];exact fM),fK] at dZ;simp only[cJ,reduceIte,qE,dZ]
   ·have hz:eR L[k]=0:=by simpa using hd
    rw[if_pos hz] at hpk;simp only[xq,reduceIte,qE,qA,qL,qD];refine cU ?_;simp only[xq,reduceIte,qE,qA,qL,qD];refine⟨L.length-(k+1),U (k+1),by omega,?_,k+1,Vh,rfl,rfl,hpk⟩;refine Co.to _ 1 ?_ (zI _) (by simp) (fun B hB=>aPe (v:=v) hB);simp[cJ,cK,A.under,gB Vh hLr]
  ·have gZ:k=L.length:=by simp at hc;omega
   subst gZ;rw[aC] at hpk;have hz:Fo eR L=0:=hpk.symm;have hrc:Cy v.width L=if v.width<(dG L:Int) then 12 else if eN L then 1 else 0:=by rw[Cy,if_pos hz]
   simp only[xq,reduceIte,qE,qA,qL,qD];refine cN (cN (eD (by simp) ?_));simp only[xq,reduceIte,qE,qA,qL,qD];refine dF (Hw L) rfl ?_;simp only[xq,reduceIte,qE,qA,qL,qD];refine cL rfl (fun hd=>?_) (fun hd=>cQ ?_)
   ·have hd:v.width<(dG L:Int):=by simpa using hd
    rw[if_pos hd] at hrc;refine wR ?_;simp only[xq,reduceIte,qE,qA,qL,qD];refine cT ?_;simp only[xq,reduceIte,qE,qA,qL,qD];refine .tmp ?_ rfl;rw[hrc] at dZ;simp only[cJ,reduceIte,← dZ];rfl
   have hd:¬ v.width<(dG L:Int):=by simpa using hd
   rw[if_neg hd] at hrc;simp only[xq,reduceIte,qE,qA,qL,qD];refine wR ?_;simp only[xq,reduceIte,qE,qA,qL,qD,cR];let V:Bool→St:=fun b=>T [(47,.d (.sl eW (dH v.rows))),(48,.int v.rows.length),(49,.int i),(82,.bool b)];refine eJ (· = V (eN L)) (eD (by simp) ?_) ?_
   ·have fin:∀ sl b,sl 1 = .ptr 0 1 0 0→sl 47 = .d (.sl eW (dH v.rows))→sl 48 = .int v.rows.length→sl 49 = .int i→sl 82 = .bool b→b=eN L→∃ s1,Co 0 ⟨sl,[fX v]⟩ s1∧s1=V (eN L):=fun sl b a1 a2 a3 a4 a5 a6=>by
     subst a6;exact⟨V (eN L),Co.keep _ (by simp[a1,a2,a3,a4,a5]),rfl⟩
    cases hk:L.length with
    | zero =>
     have h0:decide ((0:Int)<((0:Nat):Int))=false:=rfl;simp only[xq,reduceIte,qE,qA,qL,qD,hk,h0];refine fin _ false rfl rfl rfl rfl rfl ?_;have:L=[]:=zx hk;subst this;rfl
    | succ k =>
     have h0:decide ((0:Int)<((k+1:Nat):Int))=true:=decide_eq_true (by omega);have hkl:k<L.length:=by omega
     simp only[xq,reduceIte,qE,qA,qL,qD,hk,h0,xT (show k≤dL by omega),eS hkl,Gl.row,cR];refine⟨by omega,by omega,?_⟩;refine dF Hb rfl ?_;simp only[xq,reduceIte,qE,qA,qL,qD,Np,Gl.row,Jn];exact fin _ _ rfl rfl rfl rfl rfl (tR hk).symm
   ·rintro _ rfl;refine cL rfl (fun he=>?_) (fun he=>cQ ?_)
    ·refine wR ?_;simp only[V,T,fX,Vw.ds,xq,reduceIte,qE,qA,qL,qD];refine cT ?_;simp only[xq,reduceIte,qE,qA,qL,qD];refine .tmp ?_ rfl;rw[hrc,he] at dZ;simp only[cJ,reduceIte,← dZ];rfl
    ·rw[hrc,he] at dZ;simp only[V,T,fX,Vw.ds,xq,reduceIte,qE,qA,qL,qD];refine cU ?_;simp only[xq,reduceIte,qE,qA,qL,qD];refine⟨v.rows.length-(i+1),S (i+1),by omega,Co.keep _ ?_,i+1,cY,rfl,rfl,dZ⟩;simp[cJ,cK,gB cY vI]
 ·have gZ:i=v.rows.length:=by simp at hc;omega
  subst gZ;rw[aC] at dZ;simp only[xq,reduceIte,qE,qA,qL,qD];refine wR ?_;simp only[xq,reduceIte,qE,qA,qL,qD];refine cT (.tmp ?_ rfl);simp only[cJ,reduceIte,← dZ];rfl
end
section
variable {P:Program}{N:Nat}{Γ:dP}
theorem aBN{f:FuncId}(H:FnIs P f N [.t 2] wU)(hN:1≤N)(l:List Gl):FnP Γ P f [.d (.sl dW (cP l))] (.int (dG l)):=by
 refine .of_W H (by simpa using hN) (xR 0 rfl fun⟨_,dT,_⟩=>?_);have vI:l.length≤dL:=fI (by rw[cR] at dT;exact dT);have aA2:=vI;simp only[dL] at aA2;unfold wU;refine wR ?_;simp only[xq,reduceIte,qE,qA,qL,qD];refine wR ?_;simp only[xq,reduceIte,qE,qA,qL,qD];refine cN (wR ?_);simp only[xq,reduceIte,qE,qA,qL,qD];refine cS ?_;let S:Nat→St:=fun i=>⟨dB [(0,.d (.sl dW (cP l))),(3,.int (dG (l.take i))),(4,.int i)],[]⟩;refine dX (s':=S 0) (Co.keep _ (by simp[cJ,cK,dG])) ?_;refine dN (fun m s=>∃ i,i≤l.length∧m=l.length-i∧s=S i) ⟨0,zI _,rfl,rfl⟩ ?_;rintro m s ⟨i,hi,rfl,rfl⟩;have hwl:=Ef (l.take i);simp only[List.length_take] at hwl;refine cN (wR ?_);simp only[xq,reduceIte,qE,qA,qL,qD,S,cR];refine cL rfl (fun hc=>cQ ?_) (fun hc=>dJ ?_)
 ·have cY:i<l.length:=by simpa using hc
  have Gc:=Nt cY;simp only[xq,reduceIte,qE,qA,qL,qD];have hw1:IntKind.i64.wrap ((dG (l.take i):Int)+1)=(dG (l.take i):Int)+1:=cX (by omega);have hw2:IntKind.i64.wrap ((dG (l.take i):Int)+1+1)=(dG (l.take i):Int)+1+1:=cX (by omega);refine cN (cS (wR ?_));simp only[xq,reduceIte,qE,qA,qL,qD,hw1];refine wR ?_;simp only[xq,reduceIte,qE,qA,qL,qD,eS cY,Gl.row,cR];refine⟨by omega,by omega,?_⟩;refine cL rfl (fun hw=>cU ?_) (fun hw=>cQ ?_)
  ·have hgw:dG (l.take (i+1))=dG (l.take i)+2:=by rw[Gc,gw,if_pos hw]
   simp only[xq,reduceIte,qE,qA,qL,qD,hw2];refine cU ?_;simp only[xq,reduceIte,qE,qA,qL,qD];refine⟨l.length-(i+1),S (i+1),by omega,Co.keep _ ?_,i+1,cY,rfl,rfl⟩;simp[cJ,cK,gB cY vI,hgw,Int.add_assoc]
  ·have hgw:dG (l.take (i+1))=dG (l.take i)+1:=by rw[Gc,gw,if_neg (by rw[hw];simp)]
   simp only[xq,reduceIte,qE,qA,qL,qD];refine cU ?_;simp only[xq,reduceIte,qE,qA,qL,qD];refine⟨l.length-(i+1),S (i+1),by omega,Co.keep _ ?_,i+1,cY,rfl,rfl⟩;simp[cJ,cK,gB cY vI,hgw]
 ·have gZ:i=l.length:=by simp at hc;omega
  subst gZ;simp only[xq,reduceIte,qE,qA,qL,qD];refine wR ?_;simp only[xq,reduceIte,qE,qA,qL,qD];refine cT (.tmp ?_ rfl);simp only[cJ,reduceIte,List.take_length]
theorem aAl{f:FuncId}(H:FnIs P f N [.t 2] wV)(hN:1≤N)(g:Gl):FnP Γ P f [Np g] (.bool (decide (g=eL))):=by
 refine .of_W H (by simpa using hN) ?_;have he:=Jn g eL;unfold wV;refine wR ?_;simp only[Np,Gl.row,xq,reduceIte,qE,qA,qL,qD];refine wR ?_;simp only[eL] at he;simp only[xq,reduceIte,qE,qA,qL,qD,he];refine cT (.tmp ?_ rfl);simp only[cJ,reduceIte];exact congrArg A.bool he
def lA:Vw:=⟨0,0,[],0,0,false⟩
theorem aBO{f fs fg fw fb:FuncId}(H:FnIs P f N [.t 2] (wP fs fg fw fb))(hN:1≤N)(Hs:∀ w h,FnP Γ P fs [.int w,.int h] (.bool (xV w h)))(Hg:∀ g:Gl,g.text.size≤1000→FnP Γ P fg [Np g] (.int (eR g)))
  (Hw:∀ l,FnP Γ P fw [.d (.sl dW (cP l))] (.int (dG l))) (Hb:∀ g,FnP Γ P fb [Np g] (.bool (decide (g=eL)))) (v:Vw) (ht:∀ l∈v.rows,∀ g∈l,g.text.size≤1000):FnP Γ P f [fF v] (.int (dO v)):=by
 refine .of_W H (by simpa using hN) (tK 0 2 rfl rfl fun⟨_,dT,_⟩=>?_);have vI:v.rows.length≤dL:=fI (by rw[cW] at dT;exact dT);unfold wP;refine wR ?_;simp only[fF,Vw.ds,xq,reduceIte,qE,qA,qL,qD];let T:List (Nat × A)→St:=fun l=>⟨dB ((1,.ptr 0 1 0 0)::l),[fX v]⟩;refine cN (wR ?_);simp only[xq,reduceIte,qE,qA,qL,qD];refine dF (Hs _ _) rfl ?_;simp only[xq,reduceIte,qE,qA,qL,qD];refine cL rfl (fun hc=>?_) (fun hc=>cQ ?_)
 ·refine wR ?_;simp only[xq,reduceIte,qE,qA,qL,qD];refine cT (.tmp ?_ rfl);have:xV v.width v.height=false:=by simpa using hc
  simp only[cJ,reduceIte,dO,this,aD]
 have mB:xV v.width v.height=true:=by simpa using hc
 simp only[xq,reduceIte,qE,qA,qL,qD];refine cN (wR ?_);simp only[xq,reduceIte,qE,qA,qL,qD,cW];refine cL rfl (fun hc=>?_) (fun hc=>cQ ?_)
 ·refine wR ?_;simp only[xq,reduceIte,qE,qA,qL,qD];refine cT (.tmp ?_ rfl);have:¬ (v.rows.length:Int)=v.height:=by simpa using hc
  simp only[cJ,reduceIte,dO,mB,if_neg this]
 have hln:(v.rows.length:Int)=v.height:=by simpa using hc
 simp only[xq,reduceIte,qE,qA,qL,qD];refine cN (aDz (· = T [(40,.bool (aBM v))]) (fun K hK=>?_) ?_)
 ·unfold aBM at hK;refine eU 4 (· = T [(22,.bool (decide (v.row<0)))]) rfl (by intro h;cases h) (fun K1 hK1=>?_) ?_
  ·simp only[xq,reduceIte,qE,qA,qL,qD];exact hK1 _ (T [(22,.bool (decide (v.row<0)))]) (Co.keep _ (by simp[cJ,cK])) rfl
  rintro _ rfl;generalize decide (v.row<0)=b0 at hK ⊢;refine eU 7 (· = T [(29,.bool (b0||decide (v.height≤v.row)))]) rfl (by intro h;cases h) (fun K1 hK1=>?_) ?_
  ·cases b0<;>simp only[T,fX,Vw.ds,xq,reduceIte,qE,qA,qL,qD,aA,aB]
   all_goals (refine hK1 _ _ (Co.keep _ ?_) rfl;simp[cJ,cK])
  rintro _ rfl;generalize (b0||decide (v.height≤v.row))=b1 at hK ⊢;refine eU 5 (· = T [(34,.bool (b1||decide (v.col<0)))]) rfl (by intro h;cases h) (fun K1 hK1=>?_) ?_
  ·cases b1<;>simp only[T,fX,Vw.ds,xq,reduceIte,qE,qA,qL,qD,aA,aB]
   all_goals (refine hK1 _ _ (Co.keep _ ?_) rfl;simp[cJ,cK])
  rintro _ rfl;generalize (b1||decide (v.col<0))=b2 at hK ⊢;refine rX rfl ?_;cases b2<;>simp only[T,fX,Vw.ds,xq,reduceIte,qE,qA,qL,qD,aA,aB]
  all_goals (refine hK _ _ (Co.keep _ ?_) rfl;simp[cJ,cK])
 rintro _ rfl;refine cL rfl (fun hc=>?_) (fun hc=>cQ ?_)
 ·refine wR ?_;simp only[T,xq,reduceIte,qE,qA,qL,qD];refine cT (.tmp ?_ rfl);simp only[cJ,reduceIte,dO,mB,hln,hc]
 have hvc:dO v=Fo (Cy v.width) v.rows:=by rw[dO,if_pos mB,if_pos hln,if_neg (by rw[hc];simp)]
 rw[hvc];simp only[T,fX,Vw.ds,xq,reduceIte,qE,qA,qL,qD];refine cN (wR ?_);simp only[xq,reduceIte,qE,qA,qL,qD];refine cS ?_;let S:Nat→St:=fun i=>T [(3,.int i)];refine dX (s':=S 0) (Co.keep _ (by simp[cJ,cK])) ?_;refine dN (fun m s=>∃ i,i≤v.rows.length∧m=v.rows.length-i∧s=S i∧Fo (Cy v.width) (v.rows.drop i)=Fo (Cy v.width) v.rows) ⟨0,zI _,rfl,rfl,by simp⟩ ?_;rintro m s ⟨i,hi,rfl,rfl,dZ⟩;refine cN (wR ?_);simp only[S,T,fX,Vw.ds,xq,reduceIte,qE,qA,qL,qD,cW];refine cL rfl (fun hc=>cQ ?_) (fun hc=>dJ ?_)
 ·have cY:i<v.rows.length:=by simpa using hc
  have vY:=ht _ (zi cY);rw[xX cY] at dZ;simp only[xq,reduceIte,qE,qA,qL,qD];refine cN (cS (wR ?_));simp only[xq,reduceIte,qE,qA,qL,qD,eC cY,cW];refine⟨by omega,by omega,?_⟩;generalize hL:v.rows[i]=L at dZ vY;refine xR 4 rfl fun⟨_,hroomL,_⟩=>?_;have hLr:L.length≤dL:=fI (by rw[cR] at hroomL;exact hroomL);refine cN (wR ?_);simp only[xq,reduceIte,qE,qA,qL,qD];refine cS ?_;let U:Nat→St:=fun k=>T [(3,.int i),(4,.d (.sl dW (cP L))),(5,.int k)];refine dX (s':=U 0) (Co.keep _ (by simp[cJ,cK])) ?_;refine dN (fun m s=>∃ k,k≤L.length∧m=L.length-k∧s=U k∧Fo eR (L.drop k)=Fo eR L) ⟨0,zI _,rfl,rfl,by simp⟩ ?_;rintro m s ⟨k,hk,rfl,rfl,hpk⟩;refine cN (wR ?_);simp only[U,T,fX,Vw.ds,xq,reduceIte,qE,qA,qL,qD,cR];refine cL rfl (fun hc=>cQ ?_) (fun hc=>dJ ?_)
  ·have Vh:k<L.length:=by simpa using hc
   have htk:=vY _ (zi Vh);rw[xX Vh] at hpk;simp only[xq,reduceIte,qE,qA,qL,qD];refine cN (cS (wR ?_));simp only[xq,reduceIte,qE,qA,qL,qD,eS Vh,Gl.row,cR];refine⟨by omega,by omega,?_⟩;refine dF (Hg L[k] htk) rfl ?_;simp only[xq,reduceIte,qE,qA,qL,qD];refine wR ?_;simp only[xq,reduceIte,qE,qA,qL,qD];refine cL rfl (fun hd=>?_) (fun hd=>cQ ?_)
   ·have fM:¬ eR L[k]=0:=by simpa using hd
    rw[if_neg fM] at hpk;refine wR ?_;simp only[xq,reduceIte,qE,qA,qL,qD];refine cT ?_;simp only[xq,reduceIte,qE,qA,qL,qD];refine .tmp ?_ rfl;have fK:Cy v.width L=eR L[k]:=by rw[Cy,if_neg (by rw[← hpk];exact fM),← hpk]
    rw[if_neg (by rw[fK];exact fM),fK] at dZ;simp only[cJ,reduceIte,qE,dZ]
   ·have hz:eR L[k]=0:=by simpa using hd
    rw[if_pos hz] at hpk;simp only[xq,reduceIte,qE,qA,qL,qD];refine cU ?_;simp only[xq,reduceIte,qE,qA,qL,qD];refine⟨L.length-(k+1),U (k+1),by omega,Co.keep _ ?_,k+1,Vh,rfl,rfl,hpk⟩;simp[cJ,cK,gB Vh hLr]
  ·have gZ:k=L.length:=by simp at hc;omega
   subst gZ;rw[aC] at hpk;have hz:Fo eR L=0:=hpk.symm;have hrc:Cy v.width L=if v.width<(dG L:Int) then 12 else if eN L then 1 else 0:=by rw[Cy,if_pos hz]
   simp only[xq,reduceIte,qE,qA,qL,qD];refine cN (cN (eD (by simp) ?_));simp only[xq,reduceIte,qE,qA,qL,qD];refine dF (Hw L) rfl ?_;simp only[xq,reduceIte,qE,qA,qL,qD];refine cL rfl (fun hd=>?_) (fun hd=>cQ ?_)
   ·have hd:v.width<(dG L:Int):=by simpa using hd
    rw[if_pos hd] at hrc;refine wR ?_;simp only[xq,reduceIte,qE,qA,qL,qD];refine cT ?_;simp only[xq,reduceIte,qE,qA,qL,qD];refine .tmp ?_ rfl;rw[hrc] at dZ;simp only[cJ,reduceIte,← dZ];rfl
   have hd:¬ v.width<(dG L:Int):=by simpa using hd
   rw[if_neg hd] at hrc;simp only[xq,reduceIte,qE,qA,qL,qD];let V:Bool→St:=fun b=>T [(3,.int i),(83,.bool b)];refine lT (· = V (eN L)) rfl (fun K hK=>?_) ?_
   ·have fin:∀ sl b,sl 1 = .ptr 0 1 0 0→sl 3 = .int i→sl 83 = .bool b→b=eN L→K ⟨sl,[fX v]⟩:=fun sl b a1 a2 a5 a6=>by
     subst a6;exact hK _ (V (eN L)) (Co.keep _ (by simp[a1,a2,a5])) rfl
    cases hk:L.length with
    | zero =>
     have h0:decide ((0:Int)<((0:Nat):Int))=false:=rfl;simp only[xq,reduceIte,qE,qA,qL,qD,cR,hk,h0];refine fin _ false rfl rfl rfl ?_;have:L=[]:=zx hk;subst this;rfl
    | succ k =>
     have h0:decide ((0:Int)<((k+1:Nat):Int))=true:=decide_eq_true (by omega);have hkl:k<L.length:=by omega
     simp only[xq,reduceIte,qE,qA,qL,qD,cR,hk,h0,xT (show k≤dL by omega),eS hkl,Gl.row];refine⟨by omega,by omega,?_⟩;refine dF (Hb L[k]) rfl ?_;simp only[xq,reduceIte,qE,qA,qL,qD];exact fin _ _ rfl rfl rfl (tR hk).symm
   ·rintro _ rfl;refine cL rfl (fun he=>?_) (fun he=>cQ ?_)
    ·refine wR ?_;simp only[V,T,fX,Vw.ds,xq,reduceIte,qE,qA,qL,qD];refine cT ?_;simp only[xq,reduceIte,qE,qA,qL,qD];refine .tmp ?_ rfl;rw[hrc,he] at dZ;simp only[cJ,reduceIte,← dZ];rfl
    ·rw[hrc,he] at dZ;simp only[V,T,fX,Vw.ds,xq,reduceIte,qE,qA,qL,qD];refine cU ?_;simp only[xq,reduceIte,qE,qA,qL,qD];refine⟨v.rows.length-(i+1),S (i+1),by omega,Co.keep _ ?_,i+1,cY,rfl,rfl,dZ⟩;simp[cJ,cK,gB cY vI]
 ·have gZ:i=v.rows.length:=by simp at hc;omega
  subst gZ;rw[aC] at dZ;simp only[xq,reduceIte,qE,qA,qL,qD];refine wR ?_;simp only[xq,reduceIte,qE,qA,qL,qD];refine cT (.tmp ?_ rfl);simp only[cJ,reduceIte,← dZ];rfl
theorem aAm{v:Vw}(h:greatV v=false):∀ l∈v.rows,∀ g∈l,g.text.size≤1000:=by
 intro l hl g hg;simp only[greatV,Bool.or_eq_false_iff] at h;have h1:=List.any_eq_false.1 h.2 l hl;simp only[iU,Bool.or_eq_true,List.any_eq_true,decide_eq_true_eq,not_or,not_exists,not_and] at h1;have:=h1.2 g hg;omega
end
end Go.Proofs.YtlllnjhgjijnkaaGreatDoor.Nx

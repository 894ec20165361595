import Derived.Test.YtlllnjhgjijnkaaGreatDoorNxP15a
import Derived.Test.YtlllnjhgjijnkaaGreatDoorNxB0
set_option linter.all false
open Nat renaming zero_le → zI
open Bool renaming eq_iff_iff → ze
open List renaming take_length → zh
open Nat renaming reduceEqDiff → qE, reduceAdd → qA, reduceLT → qL, reduceLeDiff → qD
open Bool renaming false_and → aA, true_or → aB, false_or → aC
namespace Go.Proofs.YtlllnjhgjijnkaaGreatDoor.Nx
open Go
section
variable {P:Program}{N:Nat}{Γ:dP}
structure Vw where
 width:Int
 height:Int
 rows:List (List Gl)
 row:Int
 col:Int
 vis:Bool
 deriving DecidableEq
abbrev pA:Elt:=⟨6,64⟩
def dH(l:List (List Gl)):List (List D):=l.map fun r=>[.sl dW (cP r)]
theorem cW{l:List (List Gl)}:(dH l).length=l.length:=by simp[dH]
theorem eC{l:List (List Gl)}{i:Nat}(hi:i<l.length):(dH l).getD i []=[.sl dW (cP l[i])]:=by
 rw[List.getD_eq_getElem?_getD,dH,List.getElem?_map,List.getElem?_eq_getElem hi];rfl
def Vw.ds(v:Vw):List D:=[.sc (.int .i64 v.width),.sc (.int .i64 v.height),.sl eW (dH v.rows),.sc (.int .i64 v.row),.sc (.int .i64 v.col),.sc (.bool v.vis)]
def fF(v:Vw):A:=.agg (v.ds.map .d)
abbrev fX(v:Vw):HB:=.cells pA [v.ds.map .d]
theorem aPc(v u:Vw):(((((decide (v.width=u.width)&&decide (v.height=u.height))&&decide (v.row=u.row))&&decide (v.col=u.col))&&(v.vis == u.vis))&&decide (v.rows=u.rows))=decide (v=u):=by
 cases v;cases u;rw[ze];simp;constructor
 ·rintro⟨⟨⟨⟨⟨h1,h2⟩,h4⟩,h5⟩,h6⟩,h3⟩;exact⟨h1,h2,h3,h4,h5,h6⟩
 ·rintro⟨h1,h2,h3,h4,h5,h6⟩;exact⟨⟨⟨⟨⟨h1,h2⟩,h4⟩,h5⟩,h6⟩,h3⟩
def greatV(v:Vw):Bool:=(decide (12<v.rows.length)||(decide (40<v.width)&&decide (2<v.rows.length)))||v.rows.any iU
theorem aIx{f fg:FuncId}{Ng:Nat}(H:FnIs P f N [.t 2] (wO fg))(hN:1≤N)(Hg:FnIs P fg Ng [.t 2] mC)(hNg:1≤Ng)(v:Vw):FnP Γ P f [fF v] (.bool (greatV v)):=by
 refine .of_W H (by simpa using hN) (tK 0 2 rfl rfl fun⟨_,dT,_⟩=>?_);have vI:v.rows.length≤dL:=fI (by rw[cW] at dT;exact dT);have hG:=fun l=>Nq (Γ:=Γ) Hg hNg l;have c1:decide ((12:Int)<(v.rows.length:Int))=decide (12<v.rows.length):=by rw[ze];simp;omega
 have c2:decide ((2:Int)<(v.rows.length:Int))=decide (2<v.rows.length):=by rw[ze];simp;omega
 unfold wO;refine wR ?_;simp only[fF,Vw.ds,xq,reduceIte,qE,qA,qL,qD];let S:Bool→St:=fun b=>⟨dB [(1,.ptr 0 1 0 0),(18,.bool b)],[fX v]⟩;refine cN (lT (· = S (decide (12<v.rows.length)||(decide (40<v.width)&&decide (2<v.rows.length)))) rfl (fun K hK=>?_) ?_)
 ·have fin:∀ b sl,sl 1 = .ptr 0 1 0 0→sl 18 = .bool b→b=(decide (12<v.rows.length)||(decide (40<v.width)&&decide (2<v.rows.length)))→K ⟨sl,[fX v]⟩:=fun b sl h1 h2 hb=>by
   subst hb;exact hK _ _ (Co.keep [(1,.ptr 0 1 0 0),(18,.bool _)] (by simp[h1,h2])) rfl
  cases h12:decide (12<v.rows.length) with
  | true =>
   simp only[xq,reduceIte,qE,qA,qL,qD,cW,c1,h12];exact fin true _ rfl rfl (by rw[h12];rfl)
  | false =>
   cases h40:decide (40<v.width) with
   | true =>
    simp only[xq,reduceIte,qE,qA,qL,qD,cW,c1,h12,h40,c2];exact fin _ _ rfl rfl (by rw[h12,h40];rfl)
   | false =>
    simp only[xq,reduceIte,qE,qA,qL,qD,cW,c1,h12,h40];exact fin false _ rfl rfl (by rw[h12,h40];rfl)
 ·rintro _ rfl;refine cL rfl (fun hg=>?_) (fun hg=>cQ ?_)
  ·refine wR ?_;simp only[S,xq,reduceIte,qE,qA,qL,qD];refine cT (.tmp ?_ rfl);simp only[cJ,reduceIte,greatV,hg,aB]
  ·simp only[S,xq,reduceIte,qE,qA,qL,qD];refine cN (wR ?_);simp only[xq,reduceIte,qE,qA,qL,qD];refine cS ?_;let T:Nat→St:=fun i=>⟨dB [(1,.ptr 0 1 0 0),(3,.int i)],[fX v]⟩;refine dX (s':=T 0) (Co.keep _ (by simp[cJ,cK])) ?_;refine dN (fun m s=>∃ i,i≤v.rows.length∧m=v.rows.length-i∧s=T i∧(v.rows.take i).any iU=false) ⟨0,zI _,rfl,rfl,by simp⟩ ?_;rintro m s ⟨i,hi,rfl,rfl,dZ⟩;refine cN (wR ?_);simp only[T,fX,Vw.ds,xq,reduceIte,qE,qA,qL,qD,cW];refine cL rfl (fun hc=>cQ ?_) (fun hc=>dJ ?_)
   ·have cY:i<v.rows.length:=by simpa using hc
    simp only[xq,reduceIte,qE,qA,qL,qD];refine cN (cS (wR ?_));simp only[xq,reduceIte,qE,qA,qL,qD,eC cY,cW];refine⟨by omega,by omega,?_⟩;refine dF (hG _) rfl ?_;simp only[xq,reduceIte,qE,qA,qL,qD];refine cL rfl (fun hd=>?_) (fun hd=>cQ ?_)
    ·refine wR ?_;simp only[xq,reduceIte,qE,qA,qL,qD];refine cT ?_;simp only[xq,reduceIte,qE,qA,qL,qD];refine .tmp ?_ rfl;have:v.rows.any iU=true:=List.any_eq_true.2 ⟨v.rows[i],List.getElem_mem cY,hd⟩;simp only[cJ,reduceIte,greatV,this,Bool.or_true]
    ·simp only[xq,reduceIte,qE,qA,qL,qD];refine cU ?_;simp only[xq,reduceIte,qE,qA,qL,qD];refine⟨v.rows.length-(i+1),T (i+1),by omega,Co.keep _ ?_,i+1,cY,rfl,rfl,lF cY dZ hd⟩;simp[cJ,cK,gB cY vI]
   ·have gZ:i=v.rows.length:=by simp at hc;omega
    subst gZ;rw[zh] at dZ;simp only[xq,reduceIte,qE,qA,qL,qD];refine wR ?_;simp only[xq,reduceIte,qE,qA,qL,qD];refine cT (.tmp ?_ rfl);simp only[cJ,reduceIte,greatV,hg,dZ,Bool.or_false]
theorem aBJ{f:FuncId}(H:FnIs P f N [.t 4] iS)(hN:2≤N)(a b:List Gl):FnP Γ P f [.d (.sl dW (cP a)),.d (.sl dW (cP b))] (.bool (decide (a=b))):=by
 refine .of_W H (by simpa using hN) (xR 0 rfl fun⟨_,dT,_⟩=>?_);have vI:a.length≤dL:=fI (by rw[cR] at dT;exact dT);unfold iS;refine wR ?_;simp only[xq,reduceIte,qE,qA,qL,qD];refine cN (wR ?_);simp only[xq,reduceIte,qE,qA,qL,qD,cR];refine cL rfl (fun hc=>?_) (fun hc=>cQ ?_)
 ·refine wR ?_;simp only[xq,reduceIte,qE,qA,qL,qD];have fM:a≠b:=by rintro rfl;simp at hc
  refine cT (.tmp ?_ rfl);simp[cJ,fM]
 ·have eG:a.length=b.length:=by simp at hc;omega
  simp only[xq,reduceIte,qE,qA,qL,qD];refine cN (wR ?_);simp only[xq,reduceIte,qE,qA,qL,qD,cR];refine cS ?_;let S:Nat→St:=fun i=>⟨dB [(0,.d (.sl dW (cP a))),(1,.d (.sl dW (cP b))),(12,.int a.length),(13,.int i)],[]⟩;refine dX (s':=S 0) (Co.keep _ (by simp[cJ,cK])) ?_;refine dN (fun m s=>∃ i,i≤a.length∧m=a.length-i∧s=S i∧a.take i=b.take i) ⟨0,zI _,rfl,rfl,by simp⟩ ?_;rintro m s ⟨i,hi,rfl,rfl,dZ⟩;refine wR ?_;simp only[xq,reduceIte,qE,qA,qL,qD,S];refine cN (cL rfl (fun hc=>cQ ?_) (fun hc=>dJ ?_))
  ·have cY:i<a.length:=by simpa using hc
   have Dz:i<b.length:=by omega
   simp only[xq,reduceIte,qE,qA,qL,qD];refine cN (cS (wR ?_));simp only[xq,reduceIte,qE,qA,qL,qD];refine cN (eD (by simp) ?_);simp only[xq,reduceIte,qE,qA,qL,qD,eS cY,eS Dz,Gl.row,Jn,cR];refine⟨by omega,by omega,by omega,by omega,?_⟩;refine cL rfl (fun hd=>?_) (fun hd=>cQ ?_)
   ·refine wR ?_;simp only[xq,reduceIte,qE,qA,qL,qD];have fM:a≠b:=by
     rintro rfl;simp at hd
    refine cT ?_;simp only[xq,reduceIte,qE,qA,qL,qD];refine .tmp ?_ rfl;simp[cJ,fM]
   ·have he:a[i]=b[i]:=by simpa using hd
    simp only[xq,reduceIte,qE,qA,qL,qD];refine cU ?_;simp only[xq,reduceIte,qE,qA,qL,qD];refine⟨a.length-(i+1),S (i+1),by omega,Co.keep _ ?_,i+1,cY,rfl,rfl,pK cY Dz dZ he⟩;simp[cJ,cK,gB cY vI]
  ·have gZ:i=a.length:=by simp at hc;omega
   have heq:a=b:=by
    subst gZ;rw[zh,eG,zh] at dZ;exact dZ
   simp only[xq,reduceIte,qE,qA,qL,qD];refine wR ?_;simp only[xq,reduceIte,qE,qA,qL,qD];refine cT (.tmp ?_ rfl);simp[cJ,heq]
theorem aAi{f fe:FuncId}{Ne:Nat}(H:FnIs P f N [.t 6] iK)(hN:3≤N)(He:FnIs P fe Ne [.t 4] iS)(hNe:2≤Ne)(a b:List (List Gl)) :
  FnP Γ P f [.d (.sl eW (dH a)),.d (.sl eW (dH b)),.fn fe []] (.bool (decide (a=b))):=by
 refine .of_W H (by simpa using hN) (xR 0 rfl fun⟨_,dT,_⟩=>?_);have vI:a.length≤dL:=fI (by rw[cW] at dT;exact dT);have hE:=fun a b=>aBJ (Γ:=Γ) He hNe a b;unfold iK;refine wR ?_;simp only[xq,reduceIte,qE,qA,qL,qD];refine cN (wR ?_);simp only[xq,reduceIte,qE,qA,qL,qD,cW];refine cL rfl (fun hc=>?_) (fun hc=>cQ ?_)
 ·refine wR ?_;simp only[xq,reduceIte,qE,qA,qL,qD];have fM:a≠b:=by rintro rfl;simp at hc
  refine cT (.tmp ?_ rfl);simp[cJ,fM]
 ·have eG:a.length=b.length:=by simp at hc;omega
  simp only[xq,reduceIte,qE,qA,qL,qD];refine cN (wR ?_);simp only[xq,reduceIte,qE,qA,qL,qD,cW];refine cS ?_;let S:Nat→St:=fun i=>⟨dB [(1,.d (.sl eW (dH b))),(2,.fn fe []),(15,.d (.sl eW (dH a))),(16,.int a.length),(17,.int i)],[]⟩;refine dX (s':=S 0) (Co.keep _ (by simp[cJ,cK])) ?_;refine dN (fun m s=>∃ i,i≤a.length∧m=a.length-i∧s=S i∧a.take i=b.take i) ⟨0,zI _,rfl,rfl,by simp⟩ ?_;rintro m s ⟨i,hi,rfl,rfl,dZ⟩;refine wR ?_;simp only[xq,reduceIte,qE,qA,qL,qD,S];refine cN (cL rfl (fun hc=>cQ ?_) (fun hc=>dJ ?_))
  ·have cY:i<a.length:=by simpa using hc
   have Dz:i<b.length:=by omega
   simp only[xq,reduceIte,qE,qA,qL,qD];refine cN (cS (wR ?_));simp only[xq,reduceIte,qE,qA,qL,qD,eC cY,cW];refine⟨by omega,by omega,?_⟩;refine wR ?_;simp only[xq,reduceIte,qE,qA,qL,qD,eC Dz,cW];refine⟨by omega,by omega,?_⟩;refine wR ?_;simp only[xq,reduceIte,qE,qA,qL,qD];refine dF (hE _ _) rfl ?_;simp only[xq,reduceIte,qE,qA,qL,qD];refine cL rfl (fun hd=>?_) (fun hd=>cQ ?_)
   ·refine wR ?_;simp only[xq,reduceIte,qE,qA,qL,qD];have fM:a≠b:=by
     rintro rfl;simp at hd
    refine cT ?_;simp only[xq,reduceIte,qE,qA,qL,qD];refine .tmp ?_ rfl;simp[cJ,fM]
   ·have he:a[i]=b[i]:=by simpa using hd
    simp only[xq,reduceIte,qE,qA,qL,qD];refine cU ?_;simp only[xq,reduceIte,qE,qA,qL,qD];refine⟨a.length-(i+1),S (i+1),by omega,Co.keep _ ?_,i+1,cY,rfl,rfl,pK cY Dz dZ he⟩;simp[cJ,cK,gB cY vI]
  ·have gZ:i=a.length:=by simp at hc;omega
   have heq:a=b:=by
    subst gZ;rw[zh,eG,zh] at dZ;exact dZ
   simp only[xq,reduceIte,qE,qA,qL,qD];refine wR ?_;simp only[xq,reduceIte,qE,qA,qL,qD];refine cT (.tmp ?_ rfl);simp[cJ,heq]
theorem aAj{f ff fe:FuncId}{Nf Ne:Nat}(H:FnIs P f N [.t 4] (Ah ff fe))(hN:2≤N)(Hf:FnIs P ff Nf [.t 6] iK)(hNf:3≤Nf)(He:FnIs P fe Ne [.t 4] iS)(hNe:2≤Ne)(v u:Vw) :
  FnP Γ P f [fF v,fF u] (.bool (decide (v=u))):=by
 refine .of_W H (by simpa using hN) ?_;have hE:=fun a b=>aAi (Γ:=Γ) Hf hNf He hNe a b;rw[← aPc];generalize hz:(((((decide (v.width=u.width)&&decide (v.height=u.height))&&decide (v.row=u.row))&&decide (v.col=u.col))&&(v.vis == u.vis))&&decide (v.rows=u.rows))=z;unfold Ah;refine wR ?_;simp only[fF,Vw.ds,xq,reduceIte,qE,qA,qL,qD];let S:Nat→Bool→St:=fun n b=>⟨dB [(2,.ptr 0 1 0 0),(3,.ptr 1 1 0 0),(n,.bool b)],[fX v,fX u]⟩;refine aEY fun K hK=>?_;refine eU 6 (· = S 10 (decide (v.width=u.width))) rfl (by intro h;cases h) (fun K1 hK1=>?_) ?_
 ·simp only[xq,reduceIte,qE,qA,qL,qD];exact hK1 _ (S 10 (decide (v.width=u.width))) (Co.keep _ (by simp[cJ])) rfl
 rintro _ rfl;generalize decide (v.width=u.width)=b0 at hz ⊢;refine eU 7 (· = S 17 (b0&&decide (v.height=u.height))) rfl (by intro h;cases h) (fun K1 hK1=>?_) ?_
 ·cases b0<;>simp only[S,fX,Vw.ds,xq,reduceIte,qE,qA,qL,qD,aA]
  all_goals (refine hK1 _ _ (Co.keep _ ?_) rfl;simp[cJ,cK])
 rintro _ rfl;generalize (b0&&decide (v.height=u.height))=b1 at hz ⊢;refine eU 7 (· = S 24 (b1&&decide (v.row=u.row))) rfl (by intro h;cases h) (fun K1 hK1=>?_) ?_
 ·cases b1<;>simp only[S,fX,Vw.ds,xq,reduceIte,qE,qA,qL,qD,aA]
  all_goals (refine hK1 _ _ (Co.keep _ ?_) rfl;simp[cJ,cK])
 rintro _ rfl;generalize (b1&&decide (v.row=u.row))=b2 at hz ⊢;refine eU 7 (· = S 31 (b2&&decide (v.col=u.col))) rfl (by intro h;cases h) (fun K1 hK1=>?_) ?_
 ·cases b2<;>simp only[S,fX,Vw.ds,xq,reduceIte,qE,qA,qL,qD,aA]
  all_goals (refine hK1 _ _ (Co.keep _ ?_) rfl;simp[cJ,cK])
 rintro _ rfl;generalize (b2&&decide (v.col=u.col))=b3 at hz ⊢;refine eU 7 (· = S 38 (b3&&(v.vis == u.vis))) rfl (by intro h;cases h) (fun K1 hK1=>?_) ?_
 ·cases b3<;>simp only[S,fX,Vw.ds,xq,reduceIte,qE,qA,qL,qD,aA]
  all_goals (refine hK1 _ _ (Co.keep _ ?_) rfl;simp[cJ,cK])
 rintro _ rfl;generalize (b3&&(v.vis == u.vis))=b4 at hz ⊢;refine rX rfl ?_;cases b4
 ·simp only[S,fX,Vw.ds,xq,reduceIte,qE,qA,qL,qD,aA];refine hK _ (cT (.tmp ?_ rfl));simp only[cJ,reduceIte,← hz,aA]
 ·simp only[S,fX,Vw.ds,xq,reduceIte,qE,qA,qL,qD];refine dF (hE _ _) rfl ?_;simp only[xq,reduceIte,qE,qA,qL,qD];refine hK _ (cT (.tmp ?_ rfl));simp only[cJ,reduceIte,← hz,Bool.true_and]
end
section
variable {P:Program}{N:Nat}{Γ:dP}
theorem aPd(v u:Vw)(h:((((((!decide (v.width=u.width))||(!decide (v.height=u.height)))||(!decide (v.row=u.row)))||(!decide (v.col=u.col)))||(v.vis != u.vis))||(!decide ((v.rows.length:Int)=(u.rows.length:Int))))=true):v≠u:=by
 rintro rfl;simp at h
theorem aNr(v u:Vw)(h:((((((!decide (v.width=u.width))||(!decide (v.height=u.height)))||(!decide (v.row=u.row)))||(!decide (v.col=u.col)))||(v.vis != u.vis))||(!decide ((v.rows.length:Int)=(u.rows.length:Int))))=false) :
  v.rows.length=u.rows.length∧(v.rows=u.rows→v=u):=by
 cases v;cases u;simp at h;obtain⟨⟨⟨⟨⟨h1,h2⟩,h3⟩,h4⟩,h5⟩,h6⟩:=h;subst h1;subst h2;subst h3;subst h4;subst h5;refine⟨by simp only at h6 ⊢; omega,fun h=>?_⟩;simp only at h;rw[h]
theorem aKW{f fr:FuncId}{Nr:Nat}(H:FnIs P f N [.t 4] (Ag fr))(hN:2≤N)(Hr:FnIs P fr Nr [.t 4] nH)(hNr:2≤Nr)(v u:Vw):FnP Γ P f [fF v,fF u] (.bool (decide (v=u))):=by
 refine .of_W H (by simpa using hN) (tK 0 2 rfl rfl fun⟨_,dT,_⟩=>?_);have vI:v.rows.length≤dL:=fI (by rw[cW] at dT;exact dT);have hE:=fun a b=>Aw (Γ:=Γ) Hr hNr a b;unfold Ag;refine wR ?_;simp only[fF,Vw.ds,xq,reduceIte,qE,qA,qL,qD];let S:Nat→Bool→St:=fun n b=>⟨dB [(2,.ptr 0 1 0 0),(3,.ptr 1 1 0 0),(n,.bool b)],[fX v,fX u]⟩;have fM:=aPd v u;have aPP:=aNr v u;generalize hz:((((((!decide (v.width=u.width))||(!decide (v.height=u.height)))||(!decide (v.row=u.row)))||(!decide (v.col=u.col)))||(v.vis != u.vis))||(!decide ((v.rows.length:Int)=(u.rows.length:Int))))=z at fM aPP;refine cN (aEY fun K hK=>?_);have fin:∀ sl:Nat→A,sl 2 = .ptr 0 1 0 0→sl 3 = .ptr 1 1 0 0→sl 47 = .bool z→K ⟨sl,[fX v,fX u]⟩:=fun sl h2 h3 h47=>hK _ (by
  refine dX (s':=S 47 z) (Co.keep _ (by simp[h2,h3,h47])) ?_;refine cL rfl (fun hc=>?_) (fun hc=>cQ ?_)
  ·refine wR ?_;simp only[S,xq,reduceIte,qE,qA,qL,qD];refine cT (.tmp ?_ rfl);simp[cJ,fM hc]
  ·obtain⟨eG,heq⟩:=aPP hc;simp only[S,xq,reduceIte,qE,qA,qL,qD];refine cN (wR ?_);simp only[xq,reduceIte,qE,qA,qL,qD];refine cS ?_;let T:Nat→St:=fun i=>⟨dB [(2,.ptr 0 1 0 0),(3,.ptr 1 1 0 0),(5,.int i)],[fX v,fX u]⟩;refine dX (s':=T 0) (Co.keep _ (by simp[cJ,cK])) ?_;refine dN (fun m s=>∃ i,i≤v.rows.length∧m=v.rows.length-i∧s=T i∧v.rows.take i=u.rows.take i) ⟨0,zI _,rfl,rfl,by simp⟩ ?_;rintro m s ⟨i,hi,rfl,rfl,dZ⟩;refine cN (wR ?_);simp only[T,fX,Vw.ds,xq,reduceIte,qE,qA,qL,qD,cW];refine cL rfl (fun hc=>cQ ?_) (fun hc=>dJ ?_)
   ·have cY:i<v.rows.length:=by simpa using hc
    have Dz:i<u.rows.length:=by omega
    simp only[xq,reduceIte,qE,qA,qL,qD];refine cN (cS (cN (eD (by simp) ?_)));simp only[xq,reduceIte,qE,qA,qL,qD,eC cY,eC Dz,cW];refine⟨by omega,by omega,by omega,by omega,?_⟩;refine dF (hE _ _) rfl ?_;simp only[xq,reduceIte,qE,qA,qL,qD];refine cL rfl (fun hd=>?_) (fun hd=>cQ ?_)
    ·refine wR ?_;simp only[xq,reduceIte,qE,qA,qL,qD];refine cT ?_;simp only[xq,reduceIte,qE,qA,qL,qD];refine .tmp ?_ rfl;have:v≠u:=by
      rintro rfl;simp at hd
     simp[cJ,this]
    ·have he:v.rows[i]=u.rows[i]:=by simpa using hd
     simp only[xq,reduceIte,qE,qA,qL,qD];refine cU ?_;simp only[xq,reduceIte,qE,qA,qL,qD];refine⟨v.rows.length-(i+1),T (i+1),by omega,Co.keep _ ?_,i+1,cY,rfl,rfl,pK cY Dz dZ he⟩;simp[cJ,cK,gB cY vI]
   ·have gZ:i=v.rows.length:=by simp at hc;omega
    have hvu:v=u:=by
     subst gZ;rw[zh,eG,zh] at dZ;exact heq dZ
    simp only[xq,reduceIte,qE,qA,qL,qD];refine wR ?_;simp only[xq,reduceIte,qE,qA,qL,qD];refine cT (.tmp ?_ rfl);simp[cJ,hvu])
 refine eU 5 (· = S 10 (!decide (v.width=u.width))) rfl (by intro h;cases h) (fun K1 hK1=>?_) ?_
 ·simp only[xq,reduceIte,qE,qA,qL,qD];exact hK1 _ (S 10 (!decide (v.width=u.width))) (Co.keep _ (by simp[cJ])) rfl
 rintro _ rfl;generalize (!decide (v.width=u.width))=b0 at hz ⊢;refine eU 7 (· = S 17 (b0||(!decide (v.height=u.height)))) rfl (by intro h;cases h) (fun K1 hK1=>?_) ?_
 ·cases b0<;>simp only[S,fX,Vw.ds,xq,reduceIte,qE,qA,qL,qD,aC,aB]
  all_goals (refine hK1 _ _ (Co.keep _ ?_) rfl;simp[cJ,cK])
 rintro _ rfl;generalize (b0||(!decide (v.height=u.height)))=b1 at hz ⊢;refine eU 7 (· = S 24 (b1||(!decide (v.row=u.row)))) rfl (by intro h;cases h) (fun K1 hK1=>?_) ?_
 ·cases b1<;>simp only[S,fX,Vw.ds,xq,reduceIte,qE,qA,qL,qD,aC,aB]
  all_goals (refine hK1 _ _ (Co.keep _ ?_) rfl;simp[cJ,cK])
 rintro _ rfl;generalize (b1||(!decide (v.row=u.row)))=b2 at hz ⊢;refine eU 7 (· = S 31 (b2||(!decide (v.col=u.col)))) rfl (by intro h;cases h) (fun K1 hK1=>?_) ?_
 ·cases b2<;>simp only[S,fX,Vw.ds,xq,reduceIte,qE,qA,qL,qD,aC,aB]
  all_goals (refine hK1 _ _ (Co.keep _ ?_) rfl;simp[cJ,cK])
 rintro _ rfl;generalize (b2||(!decide (v.col=u.col)))=b3 at hz ⊢;refine eU 7 (· = S 38 (b3||(v.vis != u.vis))) rfl (by intro h;cases h) (fun K1 hK1=>?_) ?_
 ·cases b3<;>simp only[S,fX,Vw.ds,xq,reduceIte,qE,qA,qL,qD,aC,aB]
  all_goals (refine hK1 _ _ (Co.keep _ ?_) rfl;simp[cJ,cK])
 rintro _ rfl;generalize (b3||(v.vis != u.vis))=b4 at hz ⊢;refine rX rfl ?_;cases b4
 ·simp only[S,fX,Vw.ds,xq,reduceIte,qE,qA,qL,qD,cW];refine fin _ rfl rfl ?_;simp only[cJ,reduceIte];rw[← hz,aC]
 ·simp only[S,fX,Vw.ds,xq,reduceIte,qE,qA,qL,qD];refine fin _ rfl rfl ?_;simp only[cJ,reduceIte];rw[← hz,aB]
end
end Go.Proofs.YtlllnjhgjijnkaaGreatDoor.Nx

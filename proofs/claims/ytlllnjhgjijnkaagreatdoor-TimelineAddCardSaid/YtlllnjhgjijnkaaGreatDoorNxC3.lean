import Derived.Test.YtlllnjhgjijnkaaGreatDoorNxD15
import Derived.Test.YtlllnjhgjijnkaaGreatDoorNxWalk
import Derived.Test.YtlllnjhgjijnkaaGreatDoorNxC1
set_option linter.all false
open List renaming getElem?_eq_some_iff → zA, getElem?_eq_getElem → zB, getD_eq_getElem?_getD → zC, getElem?_append_left → zF, getElem?_append_right → zG, getElem?_map → zK, append_assoc → zS, length_cons → za, length_append → zb, not_mem_nil → zc, drop_eq_getElem_cons → zd, length_map → zg, take_length → zh, getElem_mem → zi, mem_cons → zp
open Nat renaming zero_le → zI, le_refl → zL
open Bool renaming eq_iff_iff → ze
open Nat renaming reduceEqDiff → qE, reduceAdd → qA, reduceLT → qL, reduceLeDiff → qD
open Int renaming le_refl → aA
open List renaming foldl_cons → aB, flatMap_cons → aD, drop_eq_nil_of_le → aE, take_of_length_le → aF, headD_cons → aG, length_set → aJ, length_nil → aK
open Bool renaming eq_false_iff → aC, false_or → aH, false_eq_true → aI
namespace Go.Proofs.YtlllnjhgjijnkaaGreatDoor.Nx
open Go Go.Lib
variable {P:Program}{N:Nat}{Γ:Ctx}
abbrev eBy:Elt:=⟨1,1⟩
def aND(b:Nat):List A:=[.sc (.int .u8 (b:Int))]
def jU(l:List Nat):List (List A):=l.map aND
theorem Em:jU []=[]:=rfl
theorem jS{b:Nat}{l:List Nat}:jU (b::l)=[.sc (.int .u8 (b:Int))]::jU l:=rfl
theorem fZ{l:List Nat}:(jU l).length=l.length:=by simp[jU]
theorem aGR{l:List Nat}{i:Nat}(hi:i<l.length):(jU l)[i]? = some [.sc (.int .u8 (l[i]:Int))]:=by
 rw[jU,zK,zB hi];rfl
abbrev kB(l:List Nat):HB:=.cells eBy (jU l)
def aNE(l:List Nat):A:=.tup [.sc (.int .u8 (pD l)),.sc (.int .u8 (jH l)),.int (fY (l.headD 0))]
theorem Gk.tup3{a b c:Nat}{x y z:A}{h:cM}{sl:Nat→A}(h1:sl a=x)(h2:sl b=y)(h3:sl c=z):Gk [.t a,.t b,.t c] (.tup [x,y,z]) h .ret ⟨sl,h⟩:=⟨.inr rfl,by
 simp only[dK,eH,dM,h1,h2,h3,and_self]⟩
theorem Gk.one{a:Nat}{x:A}{h:cM}{sl:Nat→A}(h1:sl a=x):Gk [.t a] x h .ret ⟨sl,h⟩:=⟨.inr rfl,by
 simp only[dK,eH,dM,h1,and_self]⟩
theorem Yu{f:FuncId}(H:FnIs P f N [.t 2,.t 3,.t 4] pU)(hN:1≤N){h:cM}(hb:Γ.b≤h.length){id p:Nat}{t:List Nat}(hh:h[id]? = some (kB (p::t))) :
  FnD Γ P f [.ref id (t.length+1) 0 (t.length+1) true] h (aNE (p::t)) h:=by
 refine .of_W H (by simpa using hN) hb ?_;have z0:(0:Int)<(t.length:Int)+1:=by omega
 have z1:decide ((t.length:Int)+1=0)=false:=decide_eq_false (by omega);have z2:decide ((t.length:Int)+1=1)=decide (t=[]):=by
  rw[ze];cases t<;>simp;omega
 have n0:(((t.length+1:Nat)):Int)=(t.length:Int)+1:=by omega
 have c1:decide ((194:Int)≤(p:Int))=decide (194≤p):=by rw[ze];simp;omega
 have c2:decide ((p:Int)≤(223:Int))=decide (p≤223):=by rw[ze];simp;omega
 have c3:decide ((224:Int)≤(p:Int))=decide (224≤p):=by rw[ze];simp;omega
 have c4:decide ((p:Int)≤(239:Int))=decide (p≤239):=by rw[ze];simp;omega
 have c5:decide ((240:Int)≤(p:Int))=decide (240≤p):=by rw[ze];simp;omega
 have c6:decide ((p:Int)≤(244:Int))=decide (p≤244):=by rw[ze];simp;omega
 have d1:decide ((p:Int)=224)=decide (p=224):=by rw[ze];simp;omega
 have d2:decide ((p:Int)=237)=decide (p=237):=by rw[ze];simp;omega
 have d3:decide ((p:Int)=240)=decide (p=240):=by rw[ze];simp;omega
 have d4:decide ((p:Int)=244)=decide (p=244):=by rw[ze];simp;omega
 let S:List (Nat × A)→St:=fun l=>⟨dB ((0,.ref id (t.length+1) 0 (t.length+1) true)::l),h⟩;unfold pU;refine wR ?_;simp only[xq,reduceIte,qE,qA,qL,qD];refine cN (wR ?_);simp only[xq,reduceIte,qE,qA,qL,qD,hh,jS,fZ,n0,z1];refine cL rfl (fun hc=>by cases hc) (fun _=>cQ ?_);simp only[xq,reduceIte,qE,qA,qL,qD];refine wR ?_;simp only[xq,reduceIte,qE,qA,qL,qD];refine eJ (· = S [(5,.int (fY p))]) ?_ ?_
 ·refine cS ?_;refine lT (· = S [(5,.int 0),(11,.bool (decide (194≤p)&&decide (p≤223)))]) rfl (fun K hK=>?_) ?_
  ·cases e:decide (194≤p)<;>simp only[xq,reduceIte,qE,qA,qL,qD,hh,jS,fZ,n0,z0,aA,c1,c2,e]
   all_goals (refine hK _ _ (Co.keep _ ?_) rfl;simp at e;simp[cJ,cK];try (intros;omega))
  rintro _ rfl;refine cL rfl (fun hc=>cU ?_) (fun hc=>?_)
  ·have hz:fY p=2:=by
    rw[fY,if_pos (by simpa using hc)]
   simp only[S,xq,reduceIte,qE,qA,qL,qD];refine⟨S [(5,.int (fY p))],Co.keep _ ?_,rfl⟩;simp[cJ,cK,hz]
  refine lT (· = S [(5,.int 0),(22,.bool (decide (224≤p)&&decide (p≤239)))]) rfl (fun K hK=>?_) ?_
  ·cases e:decide (224≤p)<;>simp only[S,xq,reduceIte,qE,qA,qL,qD,hh,jS,fZ,n0,z0,aA,c3,c4,e]
   all_goals (refine hK _ _ (Co.keep _ ?_) rfl;simp at e;simp[cJ,cK];try (intros;omega))
  rintro _ rfl;refine cL rfl (fun hc2=>cU ?_) (fun hc2=>?_)
  ·have hz:fY p=3:=by
    simp at hc hc2;rw[fY,if_neg (by omega),if_pos hc2]
   simp only[S,xq,reduceIte,qE,qA,qL,qD];refine⟨S [(5,.int (fY p))],Co.keep _ ?_,rfl⟩;simp[cJ,cK,hz]
  refine lT (· = S [(5,.int 0),(33,.bool (decide (240≤p)&&decide (p≤244)))]) rfl (fun K hK=>?_) ?_
  ·cases e:decide (240≤p)<;>simp only[S,xq,reduceIte,qE,qA,qL,qD,hh,jS,fZ,n0,z0,aA,c5,c6,e]
   all_goals (refine hK _ _ (Co.keep _ ?_) rfl;simp at e;simp[cJ,cK];try (intros;omega))
  rintro _ rfl;refine cL rfl (fun hc3=>cU ?_) (fun hc3=>cQ ?_)
  ·have hz:fY p=4:=by
    simp at hc hc2 hc3;rw[fY,if_neg (by omega),if_neg (by omega),if_pos hc3]
   simp only[S,xq,reduceIte,qE,qA,qL,qD];refine⟨S [(5,.int (fY p))],Co.keep _ ?_,rfl⟩;simp[cJ,cK,hz]
  ·have hz:fY p=0:=by
    simp at hc hc2 hc3;rw[fY,if_neg (by omega),if_neg (by omega),if_neg (by omega)]
   simp only[S,xq,reduceIte,qE,qA,qL,qD];refine⟨S [(5,.int (fY p))],Co.keep _ ?_,rfl⟩;simp[cJ,cK,hz]
 ·rintro _ rfl;refine wR ?_;simp only[S,xq,reduceIte,qE,qA,qL,qD];refine eJ (· = S [(5,.int (fY p)),(6,.sc (.int .u8 (pD (p::t)))),(7,.sc (.int .u8 (jH (p::t))))]) ?_ ?_
  ·refine wR ?_;simp only[xq,reduceIte,qE,qA,qL,qD,hh,jS,fZ,n0,z2];refine cL rfl (fun ht=>?_) (fun ht=>cQ ?_)
   ·have ht:t=[]:=by simpa using ht
    subst ht;refine wR ?_;simp only[xq,reduceIte,qE,qA,qL,qD,hh,jS,Em,n0];refine⟨by decide,by decide,?_⟩;refine cS (wR ?_);simp only[xq,reduceIte,qE,qA,qL,qD,d1];refine cL rfl (fun h1=>cU ?_) (fun h1=>wR ?_)
    ·have h1:p=224:=by simpa using h1
     simp only[xq,reduceIte,qE,qA,qL,qD];refine⟨S [(5,.int (fY p)),(6,.sc (.int .u8 (pD [p]))),(7,.sc (.int .u8 (jH [p])))],Co.keep _ ?_,rfl⟩;simp[cJ,cK,pD,jH,h1]
    simp only[xq,reduceIte,qE,qA,qL,qD,d2];refine cL rfl (fun h2=>cU ?_) (fun h2=>wR ?_)
    ·have h2:p=237:=by simpa using h2
     simp only[xq,reduceIte,qE,qA,qL,qD];refine⟨S [(5,.int (fY p)),(6,.sc (.int .u8 (pD [p]))),(7,.sc (.int .u8 (jH [p])))],Co.keep _ ?_,rfl⟩;simp[cJ,cK,pD,jH,h2]
    simp only[xq,reduceIte,qE,qA,qL,qD,d3];refine cL rfl (fun h3=>cU ?_) (fun h3=>wR ?_)
    ·have h3:p=240:=by simpa using h3
     simp only[xq,reduceIte,qE,qA,qL,qD];refine⟨S [(5,.int (fY p)),(6,.sc (.int .u8 (pD [p]))),(7,.sc (.int .u8 (jH [p])))],Co.keep _ ?_,rfl⟩;simp[cJ,cK,pD,jH,h3]
    simp only[xq,reduceIte,qE,qA,qL,qD,d4];refine cL rfl (fun h4=>cU ?_) (fun h4=>cQ ?_)
    ·have h4:p=244:=by simpa using h4
     simp only[xq,reduceIte,qE,qA,qL,qD];refine⟨S [(5,.int (fY p)),(6,.sc (.int .u8 (pD [p]))),(7,.sc (.int .u8 (jH [p])))],Co.keep _ ?_,rfl⟩;simp[cJ,cK,pD,jH,h4]
    ·simp only[xq,reduceIte,qE,qA,qL,qD];refine⟨S [(5,.int (fY p)),(6,.sc (.int .u8 (pD [p]))),(7,.sc (.int .u8 (jH [p])))],Co.keep _ ?_,rfl⟩;simp at h1 h2 h3 h4;simp[cJ,cK,pD,jH,h1,h2,h3,h4]
   ·have ht:t≠[]:=by simpa using ht
    simp only[xq,reduceIte,qE,qA,qL,qD];refine⟨S [(5,.int (fY p)),(6,.sc (.int .u8 (pD (p::t)))),(7,.sc (.int .u8 (jH (p::t))))],Co.keep _ ?_,rfl⟩;cases t with
    | nil=>exact absurd rfl ht
    | cons a t=>simp[cJ,cK,pD,jH]
  ·rintro _ rfl;refine wR ?_;simp only[S,xq,reduceIte,qE,qA,qL,qD];exact cT (Gk.tup3 rfl rfl rfl)
theorem aLj{l:List Nat}{i:Nat}{n:Int}(hi:i<l.length):(l.drop i).foldl (fun(n:Int) (b:Nat)=>n * 64+b-128) n=(l.drop (i+1)).foldl (fun(n:Int) (b:Nat)=>n * 64+b-128) (n * 64+(l[i]:Int)-128):=by
 rw[zd hi,aB]
theorem iC{x:Int}(h : -2000000000≤x∧x≤2000000000):IntKind.i32.wrap x=x:=IntWalk.i32_in _ (by omega)
def Kd(i:Nat):Int:=if i=1 then 300 else if i=2 then 20000 else if i=3 then 1300000 else 84000000
theorem aGS{i:Nat}{n b:Int}(h1:1≤i)(h3:i≤3)(hn : -Kd i≤n∧n≤Kd i)(hb:0≤b∧b<256):(-Kd (i+1)≤n * 64+b-128∧n * 64+b-128≤Kd (i+1))∧(-1500000≤n∧n≤1500000):=by
 rcases(show i=1∨i=2∨i=3 by omega) with rfl | rfl | rfl<;>simp[Kd] at hn ⊢ <;> omega
theorem aIW{f:FuncId}(H:FnIs P f N [.t 2] rQ)(hN:1≤N){h:cM}(hb:Γ.b≤h.length){id:Nat}{l:List Nat}(hh:h[id]? = some (kB l))(hl:l.length≤4)(cY:∀ b∈l,b<256) :
  FnD Γ P f [.ref id l.length 0 l.length true] h (.sc (.int .i32 (aDE l))) h:=by
 refine .of_W H (by simpa using hN) hb ?_;let S:Nat→List (Nat × A)→St:=fun n t=>⟨dB ((0,.ref id n 0 n true)::t),h⟩;unfold rQ;refine wR ?_;simp only[xq,reduceIte,qE,qA,qL,qD];refine wR ?_;simp only[xq,reduceIte,qE,qA,qL,qD];refine eJ (· = S l.length [(3,.sc (.int .i32 (mK l)))]) ?_ ?_
 ·refine wR ?_;simp only[xq,reduceIte,qE,qA,qL,qD,hh,fZ];refine cS (wR ?_);simp only[xq,reduceIte,qE,qA,qL,qD];refine cL rfl (fun h1=>?_) (fun h1=>wR ?_)
  ·have h1:l.length=2:=by simp at h1;omega
   match l,h1 with
   | [a,b],_ =>
    have ha:=cY a (by simp);refine cU ?_;simp only[xq,reduceIte,qE,qA,qL,qD,hh,jS,Em,iC (show -2000000000≤(a:Int)∧(a:Int)≤2000000000 by omega),iC (show -2000000000≤(a:Int)-192∧(a:Int)-192≤2000000000 by omega)];refine⟨by decide,by decide,S 2 [(3,.sc (.int .i32 (mK [a,b])))],Co.keep _ ?_,rfl⟩;simp[cJ,cK,mK]
  simp only[xq,reduceIte,qE,qA,qL,qD];refine cL rfl (fun h2=>?_) (fun h2=>wR ?_)
  ·have h2:l.length=3:=by simp at h2;omega
   match l,h2 with
   | [a,b,c],_ =>
    have ha:=cY a (by simp);refine cU ?_;simp only[xq,reduceIte,qE,qA,qL,qD,hh,jS,Em,iC (show -2000000000≤(a:Int)∧(a:Int)≤2000000000 by omega),iC (show -2000000000≤(a:Int)-224∧(a:Int)-224≤2000000000 by omega)];refine⟨by decide,by decide,S 3 [(3,.sc (.int .i32 (mK [a,b,c])))],Co.keep _ ?_,rfl⟩;simp[cJ,cK,mK]
  simp only[xq,reduceIte,qE,qA,qL,qD];refine cL rfl (fun h3=>?_) (fun h3=>cQ ?_)
  ·have h3:l.length=4:=by simp at h3;omega
   match l,h3 with
   | [a,b,c,d],_ =>
    have ha:=cY a (by simp);refine cU ?_;simp only[xq,reduceIte,qE,qA,qL,qD,hh,jS,Em,iC (show -2000000000≤(a:Int)∧(a:Int)≤2000000000 by omega),iC (show -2000000000≤(a:Int)-240∧(a:Int)-240≤2000000000 by omega)];refine⟨by decide,by decide,S 4 [(3,.sc (.int .i32 (mK [a,b,c,d])))],Co.keep _ ?_,rfl⟩;simp[cJ,cK,mK]
  ·simp at h1 h2 h3;have hbz:mK l=0:=by
    match l with
    | []=>rfl
    | [_]=>rfl
    | [_,_]=>simp at h1
    | [_,_,_]=>simp at h2
    | [_,_,_,_]=>simp at h3
    | _::_::_::_::_::_=>rfl
   simp only[xq,reduceIte,qE,qA,qL,qD];refine⟨S l.length [(3,.sc (.int .i32 (mK l)))],Co.keep _ ?_,rfl⟩;simp[cJ,cK,hbz]
 ·rintro _ rfl;refine cN (wR ?_);simp only[S,xq,reduceIte,qE,qA,qL,qD];refine cS ?_;let T:Nat→Int→St:=fun i n=>⟨dB [(0,.ref id l.length 0 l.length true),(3,.sc (.int .i32 n)),(4,.int i)],h⟩;have aJZ : -Kd 1≤mK l∧mK l≤Kd 1:=by
   match l with
   | []=>decide
   | [_]=>simp[mK,Kd]
   | [a,_]=>have:=cY a (by simp);simp only[mK,Kd,if_pos];omega
   | [a,_,_]=>have:=cY a (by simp);simp only[mK,Kd,if_pos];omega
   | [a,_,_,_]=>have:=cY a (by simp);simp only[mK,Kd,if_pos];omega
   | _::_::_::_::_::_=>simp[mK,Kd]
  refine dX (s':=T 1 (mK l)) (Co.keep _ (by simp[cJ,cK])) ?_;refine dN (fun m s=>∃ i n,1≤i∧m=l.length-i∧s=T i n∧(l.drop i).foldl (fun(n:Int) (b:Nat)=>n * 64+b-128) n=aDE l ∧ -Kd i≤n∧n≤Kd i) ⟨1,mK l,zL _,rfl,rfl,rfl,aJZ⟩ ?_;rintro m s ⟨i,n,hi,rfl,rfl,tA,hbn⟩;refine cN (wR ?_);simp only[T,xq,reduceIte,qE,qA,qL,qD,hh,fZ];refine cL rfl (fun hc=>cQ ?_) (fun hc=>dJ ?_)
  ·have aC4:i<l.length:=by simpa using hc
   have hb1:=cY l[i] (zi aC4);obtain⟨hb2,hb3⟩:=aGS (b:=(l[i]:Int)) hi (by omega) hbn (by omega);rw[aLj aC4] at tA;simp only[xq,reduceIte,qE,qA,qL,qD];refine cN (cS (cU ?_));have e1:IntKind.i32.wrap (n * 64)=n * 64:=iC (by omega);have e2:IntKind.i32.wrap (l[i]:Int)=(l[i]:Int):=iC (by omega);have e3:IntKind.i32.wrap (n * 64+(l[i]:Int))=n * 64+(l[i]:Int):=iC (by omega);have e4:IntKind.i32.wrap (n * 64+(l[i]:Int)-128)=n * 64+(l[i]:Int)-128:=iC (by omega);simp only[xq,reduceIte,qE,qA,qL,qD,hh,fZ,aGR aC4,e1,e2,e3,e4];refine⟨by omega,by omega,?_⟩;refine cU ?_;simp only[xq,reduceIte,qE,qA,qL,qD];refine⟨l.length-(i+1),T (i+1) (n * 64+(l[i]:Int)-128),by omega,Co.keep _ ?_,i+1,_,by omega,rfl,rfl,tA,hb2⟩;simp[cJ,cK,gB aC4 (show l.length≤dL by simp only[dL];omega)]
  ·have vX:l.length≤i:=by simpa using hc
   rw[aE vX] at tA;simp only[xq,reduceIte,qE,qA,qL,qD];refine wR ?_;simp only[xq,reduceIte,qE,qA,qL,qD];refine cT (Gk.one ?_);simp only[cJ,reduceIte,← tA,List.foldl_nil]
end Go.Proofs.YtlllnjhgjijnkaaGreatDoor.Nx
namespace Go.Proofs.YtlllnjhgjijnkaaGreatDoor.Nx
open Go Go.Lib
variable {P:Program}{N:Nat}{Γ:dP}
abbrev eRu:Elt:=⟨1,4⟩
def aPn(n:Int):List D:=[.sc (.int .i32 n)]
def mS(l:List Int):List (List D):=l.map aPn
theorem Gu{l:List Int}:(mS l).length=l.length:=by simp[mS]
def Of(l:List Int):List (List A):=l.map fun n=>[.sc (.int .i32 n)]
theorem En{l:List Int}:(Of l).length=l.length:=by simp[Of]
theorem Bb{l:List Int}{n:Int}:Of l++[[.sc (.int .i32 n)]]=Of (l++[n]):=by simp[Of]
theorem Te{l:List Nat}{b:Nat}:jU l++[[.sc (.int .u8 (b:Int))]]=jU (l++[b]):=by simp[jU,aND]
abbrev oBc(l:List Int):HB:=.cells eRu (Of l)
theorem aIX(l:List Int):(mS l).map (fun r=>r.map A.d)=Of l:=by simp[mS,Of,aPn]
def aAz(l:List Nat):ByteArray:=strOfNums (l.map fun(b:Nat)=>(b:Int))
def aD7(l:List Nat):A:=.tup [.d (.sl eRu (mS (Eu l).1)),.str (aAz (Eu l).2)]
theorem Dj:∀ (l:List Nat),(jU l).mapM Ge=some (l.map fun(b:Nat)=>(b:Int))
 | []=>rfl
 | b::l=>by
  rw[jS,List.mapM_cons,Dj l];rfl
theorem Fu{e:Elt}{h:cM}{id n off len:Nat}{full:Bool}:gV e h (.ref id n off len full)=eX e h (.ref id n off len full):=rfl
theorem aGT(s:ByteArray):(⟨#[]⟩:ByteArray)++s=s:=by
 rcases s with⟨⟨l⟩⟩;simp[← ByteArray.append_eq,ByteArray.append]
theorem aIY{s:ByteArray}{i:Nat}(hi:i<s.size):(Ik s.data.toList).drop i=nb s.data.toList i::(Ik s.data.toList).drop (i+1):=by
 have hl:=qX s;have h1:i<(Ik s.data.toList).length:=by simp only[Ik,zg];omega
 rw[zd h1];congr 1;simp only[Ik,List.getElem_map,nb];rw[zC,zB (by omega)];rfl
theorem at0{h t:cM}{B:HB}(h0:h[0]? = some B):(h++t)[0]? = some B:=by
 rw[zF (zA.1 h0).1];exact h0
theorem atj{h t:cM}{B:HB}{j:Nat}(h0:h[j]? = some B):(h++t)[j]? = some B:=by
 rw[zF (zA.1 h0).1];exact h0
theorem aNF{h t:cM}{B X:HB}{j:Nat}(h0:h[j]? = some B):(h++t).set j X=h.set j X++t:=List.set_append_left _ _ (zA.1 h0).1
theorem Ly{h t:cM}{B X:HB}{j:Nat}(h0:h[j]? = some B):(h.set j X++t)[j]? = some X:=by
 have:=(zA.1 h0).1;rw[zF (by simpa using this),List.getElem?_set_self this]
theorem Tf{h t:cM}{B X:HB}{i j:Nat}(hij:i≠j)(h0:h[j]? = some B):(h.set i X++t)[j]? = some B:=by
 have:=(zA.1 h0).1;rw[zF (by simpa using this),List.getElem?_set_ne hij];exact h0
theorem Dk(b:Nat):fY b=0∨fY b=2∨fY b=3∨fY b=4:=by
 unfold fY
 repeat' split
 all_goals simp
theorem aGU{f fl fv:FuncId}{Nl Nv:Nat}(H:FnIs P f N [.t 4,.t 5] (uP fl fv))(hN:2≤N)(Hl:FnIs P fl Nl [.t 2,.t 3,.t 4] pU)(hNl:1≤Nl)(Hv:FnIs P fv Nv [.t 2] rQ)(hNv:1≤Nv)
  (s:ByteArray) (hs:s.size≤1000):FnP Γ P f [.str ⟨#[]⟩,.str s] (aD7 (Ik s.data.toList)):=by
 refine .of_W H (by simpa using hN) ?_;unfold uP;refine wR ?_;simp only[xq,reduceIte,qE,qA,qL,qD];refine wR ?_;have aQ7:(⟨#[]⟩:ByteArray).size+s.size≤maxLen:=by
  have:(⟨#[]⟩:ByteArray).size=0:=rfl;simp only[maxLen];omega
 simp only[xq,reduceIte,qE,qA,qL,qD,aNk aQ7,aGT];refine wR ?_;simp only[xq,reduceIte,qE,qA,qL,qD];refine wR ?_;simp only[xq,reduceIte,qE,qA,qL,qD];let S:Nat→List Int→List Nat→Nat→cM→St:=fun i out kept j h=>⟨dB [(6,.str s),(7,.ref 0 out.length 0 out.length true),(8,.ref j kept.length 0 kept.length true),(9,.int i)],h⟩;refine cN (wR ?_);simp only[xq,reduceIte,qE,qA,qL,qD];refine cS ?_;refine dX (s':=S 0 [] [] 1 [oBc [],kB []]) (Co.keep _ (by simp[cJ,cK])) ?_;have hn:=qX s;let I:Nat→St→Prop:=fun m s0=>∃ i out kept j h,i≤s.size∧m=2 * (s.size-i)+(if kept=[] then 0 else 1)∧s0=S i out kept j h∧((Ik s.data.toList).drop i).foldl kK (out,kept)=Eu (Ik s.data.toList)∧out.length+(if kept=[] then 0 else 1)≤i ∧
   (kept=[]∨kept.length<fY (kept.headD 0))∧(∀ b∈kept,b<256)∧j≠0∧h[0]? = some (oBc out)∧h[j]? = some (kB kept)
 refine dN I ⟨0,[],[],1,_,zI _,rfl,rfl,rfl,by simp,.inl rfl,by simp,by decide,rfl,rfl⟩ ?_;rintro m s0 ⟨i,out,kept,j,h,hi,rfl,rfl,fE,eG,aPM,aMn,hj,h0,hkj⟩;have aA3:out.length≤1000:=by omega
 have sD:0<h.length:=(zA.1 h0).1;have qO:j<h.length:=(zA.1 hkj).1;have fin:∀ (i':Nat) (out':List Int) (kept':List Nat) (j':Nat) (h':cM) (sl:Nat→A),i'≤s.size→2 * (s.size-i')+(if kept'=[] then 0 else 1)<2 * (s.size-i)+(if kept=[] then 0 else 1)→sl 6 = .str s→sl 7 = .ref 0 out'.length 0 out'.length true→sl 8 = .ref j' kept'.length 0 kept'.length true →
   sl 9 = .int i'→((Ik s.data.toList).drop i').foldl kK (out',kept')=Eu (Ik s.data.toList)→out'.length+(if kept'=[] then 0 else 1)≤i'→(kept'=[]∨kept'.length<fY (kept'.headD 0))→(∀ b∈kept',b<256)→j'≠0→h'[0]? = some (oBc out')→h'[j']? = some (kB kept') →
   ∃ m' s',m'<2 * (s.size-i)+(if kept=[] then 0 else 1)∧Co 0 ⟨sl,h'⟩ s'∧I m' s':=fun i' out' kept' j' h' sl a1 a2 a3 a4 a5 a6 a7 a8 a9 a10 a11 a12 a13 =>
  ⟨_,S i' out' kept' j' h',a2,Co.keep _ (by simp[a3,a4,a5,a6]),i',out',kept',j',h',a1,rfl,rfl,a7,a8,a9,a10,a11,a12,a13⟩
 have e0:∀ t,(h++t)[0]? = some (oBc out):=fun t=>at0 h0;have e1:∀ t X,(h++t).set 0 X=h.set 0 X++t:=fun t X=>aNF h0;have e2:∀ t,(h++t)[j]? = some (kB kept):=fun t=>atj hkj;have e3:∀ t X,(h++t).set j X=h.set j X++t:=fun t X=>aNF hkj;have f1:IntKind.i64.wrap ((i:Int)+1)=((i+1:Nat):Int):=cX (by omega);refine cN (wR ?_);simp only[S,xq,reduceIte,qE,qA,qL,qD];refine cL rfl (fun hc=>cQ ?_) (fun hc=>dJ ?_)
 ·have cY:i<s.size:=by simpa using hc
  simp only[xq,reduceIte,qE,qA,qL,qD];have aJ0:=aIY cY;have aJY:=aBF s.data.toList i;refine cS (wR ?_);simp only[xq,reduceIte,qE,qA,qL,qD];refine⟨by omega,by omega,?_⟩
  change W _ _ _ _ _ _ _ ⟨upd _ 10 (.sc (.int .u8 (nb s.data.toList i))),h⟩
  generalize nb s.data.toList i=b at aJ0 aJY;have g32:IntKind.i32.wrap (b:Int)=(b:Int):=iC (by omega);have g128:decide ((b:Int)<128)=decide (b<128):=by rw[ze];simp;omega
  rw[aJ0,aB] at fE;refine cN (wR ?_);simp only[xq,reduceIte,qE,qA,qL,qD,hkj,fZ];refine cL rfl (fun hc2=>?_) (fun hc2=>cQ ?_)
  ·have hk:kept=[]:=by simpa using hc2
   subst hk;simp only[kK,xC] at fE;refine wR ?_;simp only[xq,reduceIte,qE,qA,qL,qD,f1];refine wR ?_;simp only[xq,reduceIte,qE,qA,qL,qD];refine qJ (Yu Hl hNl (zI _) (h:=h++[kB [b]]) (id:=h.length) (p:=b) (t:=[]) (by simp)) ?_;simp only[xq,reduceIte,qE,qA,qL,qD,aNE,aG];refine cN (cS (wR ?_));simp only[xq,reduceIte,qE,qA,qL,qD,g128];refine cL rfl (fun hb=>cU ?_) (fun hb=>wR ?_)
   ·have hb:b<128:=by simpa using hb
    rw[if_pos hb] at fE;simp only[xq,reduceIte,qE,qA,qL,qD,g32,zS,eT,e0,e1,En,Bb];refine⟨by simp only[dL];omega,by simp only[maxLen];omega,?_⟩;refine dJ ?_;simp only[xq,reduceIte,qE,qA,qL,qD];refine fin (i+1) (out++[(b:Int)]) [] j _ _ cY ?_ rfl ?_ rfl rfl fE ?_ (.inl rfl) (by simp) hj (Ly h0) (Tf (Ne.symm hj) hkj)
    ·simp;omega
    ·simp[cJ]
    ·simp at eG ⊢; omega
   ·have hb:¬ b<128:=by simpa using hb
    rw[if_neg hb] at fE;have gsz:decide ((0:Int)<(fY b:Int))=decide (0<fY b):=by rw[ze];simp
    simp only[xq,reduceIte,qE,qA,qL,qD,gsz];refine cL rfl (fun hz=>cU ?_) (fun hz=>cU ?_)
    ·have hz:0<fY b:=by simpa using hz
     have hz2:2≤fY b:=by
      have:=Dk b;omega
     rw[if_pos hz] at fE;simp only[xq,reduceIte,qE,qA,qL,qD,zS,eT,e2,e3,fZ,Te];refine⟨by simp only[dL];omega,by simp only[maxLen];omega,?_⟩;refine dJ ?_;simp only[xq,reduceIte,qE,qA,qL,qD];refine fin (i+1) out [b] j _ _ cY ?_ rfl rfl ?_ rfl fE ?_ (.inr ?_) (by simpa using aJY) hj (Tf hj h0) (Ly hkj)
     ·simp;omega
     ·simp[cJ]
     ·simp at eG ⊢; omega
     ·simp;omega
    ·have hz:¬ 0<fY b:=by simpa using hz
     rw[if_neg hz] at fE;simp only[xq,reduceIte,qE,qA,qL,qD,zS,eT,e0,e1,En,Bb];refine⟨by simp only[dL];omega,by simp only[maxLen];omega,?_⟩;refine dJ ?_;simp only[xq,reduceIte,qE,qA,qL,qD];refine fin (i+1) (out++[65533]) [] j _ _ cY ?_ rfl ?_ rfl rfl fE ?_ (.inl rfl) (by simp) hj (Ly h0) (Tf (Ne.symm hj) hkj)
     ·simp;omega
     ·simp[cJ]
     ·simp at eG ⊢; omega
  ·cases kept with
   | nil=>simp at hc2
   | cons p t =>
    have mB:t.length+1<fY p:=by
     rcases aPM with h | h
     ·cases h
     ·simpa using h
    have aRj:fY p≤4:=by
     have:=Dk p;omega
    simp only[if_neg (List.cons_ne_nil p t)] at eG fin;simp only[xq,reduceIte,qE,qA,qL,qD];refine wR ?_;simp only[xq,reduceIte,qE,qA,qL,qD];refine qJ (Yu Hl hNl (zI _) (h:=h) (id:=j) (p:=p) (t:=t) hkj) ?_;simp only[xq,reduceIte,qE,qA,qL,qD,aNE,aG];have glo:decide ((b:Int)<(pD (p::t):Int))=decide (b<pD (p::t)):=by rw[ze];simp
    have ghi:decide ((jH (p::t):Int)<(b:Int))=decide (jH (p::t)<b):=by rw[ze];simp
    let U:Bool→St:=fun c=>⟨dB [(6,.str s),(7,.ref 0 out.length 0 out.length true),(8,.ref j (t.length+1) 0 (t.length+1) true),(9,.int i),(10,.sc (.int .u8 (b:Int))),(16,.int (fY p)),(72,.bool c)],h⟩;refine cN (lT (· = U (decide (b<pD (p::t))||decide (jH (p::t)<b))) rfl (fun K hK=>?_) ?_)
    ·cases e:decide (b<pD (p::t))<;>simp only[xq,reduceIte,qE,qA,qL,qD,glo,ghi,e]
     all_goals (refine hK _ _ (Co.keep _ ?_) rfl;simp[cJ,cK,e])
    rintro _ rfl;refine cL rfl (fun hd=>?_) (fun hd=>cQ ?_)
    ·have hd:b<pD (p::t)∨jH (p::t)<b:=by simpa using hd
     simp only[kK,if_pos hd] at fE;refine wR ?_;simp only[U,xq,reduceIte,qE,qA,qL,qD,dA,e0,e1,En,Bb];refine⟨by simp only[dL];omega,by simp only[maxLen];omega,?_⟩;refine wR ?_;simp only[xq,reduceIte,qE,qA,qL,qD];refine dJ ?_;simp only[xq,reduceIte,qE,qA,qL,qD,zS];refine fin i (out++[65533]) [] _ _ _ hi ?_ rfl ?_ rfl rfl ?_ ?_ (.inl rfl) (by simp) ?_ (Ly h0) ?_
     ·simp
     ·simp[cJ]
     ·rw[aJ0,aB];exact fE
     ·simp;omega
     ·simp
     ·rw[zG (by simp)];simp;rfl
    ·have hd:¬ (b<pD (p::t)∨jH (p::t)<b):=by
      intro h;rw[aC] at hd;exact hd (by simpa using h)
     simp only[kK,if_neg hd] at fE;simp only[U,xq,reduceIte,qE,qA,qL,qD];refine wR ?_;simp only[xq,reduceIte,qE,qA,qL,qD,f1];refine wR ?_;simp only[xq,reduceIte,qE,qA,qL,qD,dA,e2,e3,fZ,Te];refine⟨by simp only[dL];omega,by simp only[maxLen];omega,?_⟩;have hj2:∀ t',(h.set j (kB (p::(t++[b])))++t')[j]? = some (kB (p::(t++[b]))):=fun t'=>Ly hkj;have h02:∀ t',(h.set j (kB (p::(t++[b])))++t')[0]? = some (oBc out):=fun t'=>Tf hj h0;have h0s:(h.set j (kB (p::(t++[b]))))[0]? = some (oBc out):=by
      have:=Tf (t:=[]) (X:=kB (p::(t++[b]))) hj h0;simpa using this
     have s02:∀ t' X,(h.set j (kB (p::(t++[b])))++t').set 0 X=(h.set j (kB (p::(t++[b])))).set 0 X++t':=fun t' X=>aNF h0s;have hl2:(p::(t++[b])).length=t.length+1+1:=by simp
     have geq:decide (((t.length+1+1:Nat):Int)=(fY p:Int))=decide (t.length+1+1=fY p):=by rw[ze];simp;omega
     have Mt:∀ c∈p::(t++[b]),c<256:=by
      intro c hc;simp only[zp,List.mem_append,zc,or_false] at hc;rcases hc with rfl | hc | rfl
      ·exact aMn _ (by simp)
      ·exact aMn _ (by simp[hc])
      ·exact aJY
     rw[List.cons_append,hl2] at fE;refine wR ?_;simp only[xq,reduceIte,qE,qA,qL,qD,hj2,fZ,hl2,geq];refine cL rfl (fun hq=>?_) (fun hq=>cQ ?_)
     ·have hq:t.length+1+1=fY p:=by simpa using hq
      rw[if_pos hq] at fE;refine wR ?_;simp only[xq,reduceIte,qE,qA,qL,qD];have hv:=aIW (Γ:=Γ.ctx) Hv hNv (zI _) (id:=j) (l:=p::(t++[b])) (hj2 [kB [b]]) (by rw[hl2];omega) Mt;rw[hl2] at hv;refine qJ hv ?_;have g2:∀ Y,(h.set j (kB (p::(t++[b])))++[kB [b],Y])[h.length+1]? = some Y:=fun Y=>by
       rw[zG (by simp)];simp
      simp only[xq,reduceIte,qE,qA,qL,qD,zS,aJ,g2,h02,s02,En,Bb];refine⟨by simp only[dL];omega,by simp only[maxLen];omega,?_⟩;refine cU ?_;simp only[xq,reduceIte,qE,qA,qL,qD,zS,aJ];refine fin (i+1) (out++[aDE (p::(t++[b]))]) [] _ _ _ cY ?_ rfl ?_ rfl rfl fE ?_ (.inl rfl) (by simp) ?_ (Ly h0s) ?_
      ·simp;omega
      ·simp[cJ]
      ·simp;omega
      ·simp
      ·rw[zG (by simp)];simp;rfl
     ·have hq:¬ t.length+1+1=fY p:=by simpa using hq
      rw[if_neg hq] at fE;simp only[xq,reduceIte,qE,qA,qL,qD];refine fin (i+1) out (p::(t++[b])) j _ _ cY ?_ rfl rfl ?_ rfl fE ?_ (.inr ?_) Mt hj (h02 _) (hj2 _)
      ·simp;omega
      ·simp[cJ,hl2]
      ·simp;omega
      ·rw[hl2];simp only[aG];omega
 ·have hii:i=s.size:=by simp at hc;omega
  subst hii;have hd0:(Ik s.data.toList).drop s.size=[]:=aE (by simp only[Ik,zg];omega);rw[hd0,List.foldl_nil] at fE;simp only[xq,reduceIte,qE,qA,qL,qD];have hkl:kept.length≤4:=by
   rcases aPM with h | h
   ·simp[h]
   ·have:=Dk (kept.headD 0);omega
  refine cN (eD (by simp) ?_);have ht:(jU kept).take kept.length=jU kept:=aF (by rw[fZ];exact zL _);simp only[xq,reduceIte,qE,qA,qL,qD,aL2,Fu,hkj,fZ,ht,aO9,Dj,aPa];refine⟨by simp only[zg,maxLen];omega,?_⟩;refine cT ⟨.inr rfl,?_⟩;simp only[dK,eH,dM,cJ,reduceIte,qE];unfold aD7;rw[← fE];refine .tup rfl fun k y hk=>?_;cases k with
  | zero =>
   cases hk;have:=iJ (full:=true) (rows:=mS out) (e:=eRu) (by rw[aIX];exact h0);rw[Gu] at this;exact this
  | succ k =>
   cases k with
   | zero=>cases hk;exact .same rfl
   | succ k=>simp at hk
end Go.Proofs.YtlllnjhgjijnkaaGreatDoor.Nx
namespace Go.Proofs.YtlllnjhgjijnkaaGreatDoor.Nx
open Go Go.Lib
variable {P:Program}{N:Nat}{Γ:dP}
theorem aD8{l:List Int}{i:Nat}(hi:i<l.length):(mS l).getD i []=[.sc (.int .i32 l[i])]:=by
 rw[zC,mS,zK,zB hi];rfl
def vM(l:List Int):List Nat:=(l.map san).flatMap gT
theorem aGV{l:List Int}{n:Int}:vM (l++[n])=vM l++gT (san n):=by simp[vM]
theorem aIZ(r:Nat):(gT r).length≤4:=by
 unfold gT;split
 ·simp
 ·split
  ·simp
  ·split<;>simp
theorem aCn:∀ l:List Int,(vM l).length≤4 * l.length
 | []=>by simp[vM]
 | n::l=>by
  have h1:=aCn l;have h2:=aIZ (san n);simp only[vM,List.map_cons,aD,zb,za] at *;omega
theorem Yv(l:List Nat):(aAz l).data.toList=l.map UInt8.ofNat:=by
 unfold aAz;rw[strOfNums_data,List.map_map];rfl
theorem aGW(l:List Int):(aAz (vM l)).data.toList=aKU l:=by
 rw[Yv,vM,aKU,Cu]
 induction l.map san with
 | nil=>rfl
 | cons r l ih=>rw[aD,aD,List.map_append,ih];rfl
theorem Yw{a b:ByteArray}:a=b↔a.data.toList=b.data.toList:=by
 constructor
 ·rintro rfl;rfl
 ·intro h;rcases a with⟨⟨a⟩⟩;rcases b with⟨⟨b⟩⟩;simp at h;rw[h]
theorem Fv{x:Int}(h:0≤x∧x≤255):IntKind.u8.wrap x=x:=IntWalk.u8_in _ h
theorem Eo{l m:List Nat}:jU l++jU m=jU (l++m):=by simp[jU]
theorem aGX{f:FuncId}(H:FnIs P f N [.t 2] uQ)(hN:1≤N)(l:List Int)(hl:l.length≤1000):FnP Γ P f [.d (.sl eRu (mS l))] (.str (aAz (vM l))):=by
 refine .of_W H (by simpa using hN) ?_;unfold uQ;refine wR ?_;simp only[xq,reduceIte,qE,qA,qL,qD];refine wR ?_;simp only[xq,reduceIte,qE,qA,qL,qD];refine cN (wR ?_);simp only[xq,reduceIte,qE,qA,qL,qD];refine cS ?_;let S:Nat→St:=fun i=>⟨dB [(0,.d (.sl eRu (mS l))),(3,.ref 0 (vM (l.take i)).length 0 (vM (l.take i)).length true),(4,.int i)],[kB (vM (l.take i))]⟩;refine dX (s':=S 0) (Co.keep _ (by simp[cJ,cK,vM])) ?_;refine dN (fun m s=>∃ i,i≤l.length∧m=l.length-i∧s=S i) ⟨0,zI _,rfl,rfl⟩ ?_;rintro m s ⟨i,hi,rfl,rfl⟩;have Ku:=aCn (l.take i);rw[List.length_take] at Ku;refine cN (wR ?_);simp only[S,xq,reduceIte,qE,qA,qL,qD,Gu];refine cL rfl (fun hc=>cQ ?_) (fun hc=>dJ ?_)
 ·have cY:i<l.length:=by simpa using hc
  have htk:vM (l.take (i+1))=vM (l.take i)++gT (san l[i]):=by
   rw[List.take_add_one,zB cY,Option.toList_some,aGV]
  simp only[xq,reduceIte,qE,qA,qL,qD];refine cN (cS (wR ?_));simp only[xq,reduceIte,qE,qA,qL,qD,aD8 cY,Gu];refine⟨by omega,by omega,?_⟩;have hsc:=Li (Rr l[i]);generalize hn:l[i]=n at htk hsc;generalize hr:san n=r at htk hsc;generalize hE:vM (l.take i)=E at htk Ku;let T:List (Nat × A)→St:=fun t=>⟨dB ((0,.d (.sl eRu (mS l)))::(3,.ref 0 E.length 0 E.length true)::(4,.int i)::t),[kB E]⟩;refine eJ (· = T [(5,.sc (.int .i32 (r:Int)))]) ?_ ?_
  ·refine lT (· = T [(5,.sc (.int .i32 n)),(30,.bool ((decide (n<0)||decide (1114111<n))||(decide (55296≤n)&&decide (n≤57343))))]) rfl (fun K hK=>?_) ?_
   ·cases e1:decide (n<0)<;>cases e2:decide (1114111<n)<;>cases e3:decide (55296≤n)<;>simp only[xq,reduceIte,qE,qA,qL,qD,e1,e2,e3]
    all_goals (refine hK _ _ (Co.keep _ ?_) rfl;simp[cJ,cK,e1,e2,e3])
   rintro _ rfl;refine cL rfl (fun hd=>cU ?_) (fun hd=>cQ ?_)
   ·have hd:n<0∨1114111<n∨(55296≤n∧n≤57343):=by
     simp only[Bool.or_eq_true,Bool.and_eq_true,decide_eq_true_eq] at hd;omega
    have:r=65533:=by rw[← hr,san,if_pos hd]
    simp only[T,xq,reduceIte,qE,qA,qL,qD];refine⟨T [(5,.sc (.int .i32 (r:Int)))],Co.keep _ ?_,rfl⟩;simp[cJ,cK,this]
   ·have hd:¬ (n<0∨1114111<n∨(55296≤n∧n≤57343)):=by
     simp only[Bool.or_eq_false_iff,Bool.and_eq_false_iff,decide_eq_false_iff_not] at hd;omega
    have:(r:Int)=n:=by
     rw[← hr,san,if_neg hd];omega
    simp only[T,xq,reduceIte,qE,qA,qL,qD];refine⟨T [(5,.sc (.int .i32 (r:Int)))],Co.keep _ ?_,rfl⟩;simp[cJ,cK,this]
  rintro _ rfl;have g1:decide ((r:Int)<128)=decide (r<128):=by rw[ze];simp;omega
  have g2:decide ((r:Int)<2048)=decide (r<2048):=by rw[ze];simp;omega
  have g3:decide ((r:Int)<65536)=decide (r<65536):=by rw[ze];simp;omega
  have td:∀ (a k:Nat),((a:Int)).tdiv (k:Int)=((a / k:Nat):Int):=fun a k=>by rw[Int.tdiv_eq_ediv_of_nonneg (by omega)];rfl
  have tm:∀ (a k:Nat),((a:Int)).tmod (k:Int)=((a % k:Nat):Int):=fun a k=>by rw[Int.tmod_eq_emod_of_nonneg (by omega)];rfl
  have fin:∀ (sl:Nat→A) (h:cM),sl 0 = .d (.sl eRu (mS l))→sl 3 = .ref 0 (E++gT r).length 0 (E++gT r).length true→sl 4 = .int ((i+1:Nat):Int) →
    ∃ m' s',m'<l.length-i∧Co 0 ⟨sl,kB (E++gT r)::h⟩ s'∧∃ i,i≤l.length∧m'=l.length-i∧s'=S i:=fun sl h a0 a3 a4=>by
   refine⟨l.length-(i+1),S (i+1),by omega,?_,i+1,cY,rfl,rfl⟩;simp only[S];rw[htk];refine Co.to _ 1 ?_ (zI _) (by simp) ?_
   ·simp[a0,a3,a4,A.under]
   ·intro B hB;simp only[List.take_succ_cons,List.take_zero,zp,zc,or_false] at hB;subst hB;intro r0 hr0 x hx;obtain⟨b,_,rfl⟩:=List.mem_map.1 hr0;simp only[aND,zp,zc,or_false] at hx;subst hx;rfl
  have f1:IntKind.i64.wrap ((i:Int)+1)=((i+1:Nat):Int):=cX (by omega);have hE4:E.length≤4000:=by omega
  refine cS (wR ?_);simp only[T,xq,reduceIte,qE,qA,qL,qD,g1];refine cL rfl (fun h1=>cU ?_) (fun h1=>wR ?_)
  ·have h1:r<128:=by simpa using h1
   have he:gT r=[r]:=by rw[gT,if_pos h1]
   simp only[xq,reduceIte,qE,qA,qL,qD,Fv (show 0≤(r:Int)∧(r:Int)≤255 by omega),fZ];refine⟨by simp only[dL];omega,by simp only[maxLen];omega,?_⟩;refine cU ?_;simp only[xq,reduceIte,qE,qA,qL,qD,f1];have:jU E++[[A.sc (.int .u8 (r:Int))]]=jU (E++gT r):=by rw[he,← Eo];rfl
   rw[this];refine fin _ _ rfl ?_ rfl;simp[cJ,he]
  have h1:¬ r<128:=by simpa using h1
  simp only[xq,reduceIte,qE,qA,qL,qD,g2];refine cL rfl (fun h2=>cU ?_) (fun h2=>wR ?_)
  ·have h2:r<2048:=by simpa using h2
   have he:gT r=[192+r / 64,128+r % 64]:=by rw[gT,if_neg h1,if_pos h2]
   have k1:IntKind.i32.wrap ((r:Int).tdiv 64)=((r / 64:Nat):Int):=by rw[show((64:Int))=((64:Nat):Int) from rfl,td,iC (by omega)]
   have k2:IntKind.i32.wrap (192+((r / 64:Nat):Int))=((192+r / 64:Nat):Int):=by rw[iC (by omega)];omega
   have k3:(r:Int).tmod 64=((r % 64:Nat):Int):=tm r 64;have k4:IntKind.i32.wrap (128+((r % 64:Nat):Int))=((128+r % 64:Nat):Int):=by rw[iC (by omega)];omega
   simp only[xq,reduceIte,qE,qA,qL,qD,Rl (k:=.i32) (show(64:Int)≠0 by decide),aIg (k:=.i32) (show(64:Int)≠0 by decide),k1,k2,k3,k4,Fv (show 0≤((192+r / 64:Nat):Int)∧((192+r / 64:Nat):Int)≤255 by omega),Fv (show 0≤((128+r % 64:Nat):Int)∧((128+r % 64:Nat):Int)≤255 by omega),fZ];refine⟨by simp only[dL];omega,by simp only[maxLen];omega,?_⟩;refine cU ?_;simp only[xq,reduceIte,qE,qA,qL,qD,f1];have:jU E++[[A.sc (.int .u8 ((192+r / 64:Nat):Int))],[A.sc (.int .u8 ((128+r % 64:Nat):Int))]]=jU (E++gT r):=by rw[he,← Eo];rfl
   rw[this];refine fin _ _ rfl ?_ rfl;simp[cJ,he]
  have h2:¬ r<2048:=by simpa using h2
  simp only[xq,reduceIte,qE,qA,qL,qD,g3];refine cL rfl (fun h3=>cU ?_) (fun h3=>cU ?_)
  ·have h3:r<65536:=by simpa using h3
   have he:gT r=[224+r / 4096,128+r / 64 % 64,128+r % 64]:=by rw[gT,if_neg h1,if_neg h2,if_pos h3]
   have k0:IntKind.i32.wrap ((r:Int).tdiv 4096)=((r / 4096:Nat):Int):=by rw[show((4096:Int))=((4096:Nat):Int) from rfl,td,iC (by omega)]
   have k1:IntKind.i32.wrap ((r:Int).tdiv 64)=((r / 64:Nat):Int):=by rw[show((64:Int))=((64:Nat):Int) from rfl,td,iC (by omega)]
   have k2:IntKind.i32.wrap (224+((r / 4096:Nat):Int))=((224+r / 4096:Nat):Int):=by rw[iC (by omega)];omega
   have k3:(r:Int).tmod 64=((r % 64:Nat):Int):=tm r 64;have k4:IntKind.i32.wrap (128+((r % 64:Nat):Int))=((128+r % 64:Nat):Int):=by rw[iC (by omega)];omega
   have k5:((r / 64:Nat):Int).tmod 64=((r / 64 % 64:Nat):Int):=tm (r / 64) 64;have k6:IntKind.i32.wrap (128+((r / 64 % 64:Nat):Int))=((128+r / 64 % 64:Nat):Int):=by rw[iC (by omega)];omega
   simp only[xq,reduceIte,qE,qA,qL,qD,Rl (k:=.i32) (show(64:Int)≠0 by decide),Rl (k:=.i32) (show(4096:Int)≠0 by decide),aIg (k:=.i32) (show(64:Int)≠0 by decide),k0,k1,k2,k3,k4,k5,k6,Fv (show 0≤((224+r / 4096:Nat):Int)∧((224+r / 4096:Nat):Int)≤255 by omega),Fv (show 0≤((128+r / 64 % 64:Nat):Int)∧((128+r / 64 % 64:Nat):Int)≤255 by omega),Fv (show 0≤((128+r % 64:Nat):Int)∧((128+r % 64:Nat):Int)≤255 by omega),fZ];refine⟨by simp only[dL];omega,by simp only[maxLen];omega,?_⟩;refine cU ?_;simp only[xq,reduceIte,qE,qA,qL,qD,f1];have:jU E++[[A.sc (.int .u8 ((224+r / 4096:Nat):Int))],[A.sc (.int .u8 ((128+r / 64 % 64:Nat):Int))],[A.sc (.int .u8 ((128+r % 64:Nat):Int))]]=jU (E++gT r):=by rw[he,← Eo];rfl
   rw[this];refine fin _ _ rfl ?_ rfl;simp[cJ,he]
  ·have h3:¬ r<65536:=by simpa using h3
   have he:gT r=[240+r / 262144,128+r / 4096 % 64,128+r / 64 % 64,128+r % 64]:=by rw[gT,if_neg h1,if_neg h2,if_neg h3]
   have k0:IntKind.i32.wrap ((r:Int).tdiv 4096)=((r / 4096:Nat):Int):=by rw[show((4096:Int))=((4096:Nat):Int) from rfl,td,iC (by omega)]
   have k1:IntKind.i32.wrap ((r:Int).tdiv 64)=((r / 64:Nat):Int):=by rw[show((64:Int))=((64:Nat):Int) from rfl,td,iC (by omega)]
   have k9:IntKind.i32.wrap ((r:Int).tdiv 262144)=((r / 262144:Nat):Int):=by rw[show((262144:Int))=((262144:Nat):Int) from rfl,td,iC (by omega)]
   have k2:IntKind.i32.wrap (240+((r / 262144:Nat):Int))=((240+r / 262144:Nat):Int):=by rw[iC (by omega)];omega
   have k3:(r:Int).tmod 64=((r % 64:Nat):Int):=tm r 64;have k4:IntKind.i32.wrap (128+((r % 64:Nat):Int))=((128+r % 64:Nat):Int):=by rw[iC (by omega)];omega
   have k5:((r / 64:Nat):Int).tmod 64=((r / 64 % 64:Nat):Int):=tm (r / 64) 64;have k6:IntKind.i32.wrap (128+((r / 64 % 64:Nat):Int))=((128+r / 64 % 64:Nat):Int):=by rw[iC (by omega)];omega
   have k7:((r / 4096:Nat):Int).tmod 64=((r / 4096 % 64:Nat):Int):=tm (r / 4096) 64;have k8:IntKind.i32.wrap (128+((r / 4096 % 64:Nat):Int))=((128+r / 4096 % 64:Nat):Int):=by rw[iC (by omega)];omega
   simp only[xq,reduceIte,qE,qA,qL,qD,Rl (k:=.i32) (show(64:Int)≠0 by decide),Rl (k:=.i32) (show(4096:Int)≠0 by decide),Rl (k:=.i32) (show(262144:Int)≠0 by decide),aIg (k:=.i32) (show(64:Int)≠0 by decide),k0,k1,k2,k3,k4,k5,k6,k7,k8,k9,Fv (show 0≤((240+r / 262144:Nat):Int)∧((240+r / 262144:Nat):Int)≤255 by omega),Fv (show 0≤((128+r / 4096 % 64:Nat):Int)∧((128+r / 4096 % 64:Nat):Int)≤255 by omega),Fv (show 0≤((128+r / 64 % 64:Nat):Int)∧((128+r / 64 % 64:Nat):Int)≤255 by omega),Fv (show 0≤((128+r % 64:Nat):Int)∧((128+r % 64:Nat):Int)≤255 by omega),fZ];refine⟨by simp only[dL];omega,by simp only[maxLen];omega,?_⟩;refine cU ?_;simp only[xq,reduceIte,qE,qA,qL,qD,f1];have:jU E++[[A.sc (.int .u8 ((240+r / 262144:Nat):Int))],[A.sc (.int .u8 ((128+r / 4096 % 64:Nat):Int))],[A.sc (.int .u8 ((128+r / 64 % 64:Nat):Int))],[A.sc (.int .u8 ((128+r % 64:Nat):Int))]]=jU (E++gT r):=by rw[he,← Eo];rfl
   rw[this];refine fin _ _ rfl ?_ rfl;simp[cJ,he]
 ·have hii:i=l.length:=by simp at hc;omega
  subst hii;rw[zh] at Ku ⊢;simp only[xq,reduceIte,qE,qA,qL,qD];refine wR ?_;have ht:(jU (vM l)).take (vM l).length=jU (vM l):=aF (by rw[fZ];exact zL _);simp only[xq,reduceIte,qE,qA,qL,qD,zh,aL2,Fu,fZ,ht,aO9,Dj,aPa];refine⟨by simp only[zg,maxLen];omega,?_⟩;refine cT (.tmp ?_ rfl);simp only[cJ,reduceIte];rfl
end Go.Proofs.YtlllnjhgjijnkaaGreatDoor.Nx
namespace Go.Proofs.YtlllnjhgjijnkaaGreatDoor.Nx
open Go Go.Lib
variable {P:Program}{N:Nat}{Γ:dP}
theorem Tg(o:List Int)(b:Nat):(xC o b).1.length+min (xC o b).2.length 1≤o.length+1:=by
 unfold xC;split
 ·simp
 ·split<;>simp
theorem aGY(o:List Int)(k:List Nat)(b:Nat):(kK (o,k) b).1.length+min (kK (o,k) b).2.length 1≤o.length+min k.length 1+1:=by
 cases k with
 | nil=>exact Tg o b
 | cons p t =>
  simp only[kK];split
  ·have:=Tg (o++[65533]) b;simp only[zb,za,aK] at this ⊢;omega
  ·split
   ·simp
   ·simp only[za];omega
theorem Th:∀ (l:List Nat) (p:List Int × List Nat),(l.foldl kK p).1.length+min (l.foldl kK p).2.length 1≤p.1.length+min p.2.length 1+l.length
 | [],p=>by simp
 | b::l,p=>by
  have h1:(kK p b).1.length+min (kK p b).2.length 1≤p.1.length+min p.2.length 1+1:=aGY p.1 p.2 b;have h2:=Th l (kK p b);simp only[aB,za] at *;omega
theorem aI0(s:ByteArray):(Eu (Ik s.data.toList)).1.length≤s.size:=by
 have h1:=Th (Ik s.data.toList) ([],[]);have h2:=qX s;have h3:(Ik s.data.toList).length=s.data.toList.length:=by simp[Ik]
 simp only[aK] at h1;unfold Eu;omega
theorem Ti(l:List Nat):decide (aAz l=⟨#[]⟩)=decide (l=[]):=by
 rw[ze];simp only[decide_eq_true_eq,Yw,Yv];simp
theorem aCo{f fd fe:FuncId}(H:FnIs P f N [.t 2] (wY fd fe))(hN:1≤N)(Hd:∀ s:ByteArray,s.size≤1000→FnP Γ P fd [.str ⟨#[]⟩,.str s] (aD7 (Ik s.data.toList)))(He:∀ l:List Int,l.length≤1000→FnP Γ P fe [.d (.sl eRu (mS l))] (.str (aAz (vM l))))
  (s:ByteArray) (hs:s.size≤1000):FnP Γ P f [.str s] (.bool (validS s)):=by
 have hv:validS s=(decide ((Eu (Ik s.data.toList)).2=[])&&decide (aAz (vM (Eu (Ik s.data.toList)).1)=s)):=by
  rw[validS,← aBH,Jk];congr 1;rw[ze];simp only[decide_eq_true_eq,Yw,aGW]
 have hl:=aI0 s;rw[hv];refine .of_W H (by simpa using hN) ?_;unfold wY;refine wR ?_;simp only[xq,reduceIte,qE,qA,qL,qD];refine wR ?_;simp only[xq,reduceIte,qE,qA,qL,qD];refine dF (Hd s hs) rfl ?_;simp only[xq,reduceIte,qE,qA,qL,qD,aD7];refine wR ?_;generalize (Eu (Ik s.data.toList)).1=l at hl;generalize (Eu (Ik s.data.toList)).2=k;cases hk:decide (k=[]) with
 | true =>
  simp only[xq,reduceIte,qE,qA,qL,qD,Ti,hk];refine dF (He l (by omega)) rfl ?_;simp only[xq,reduceIte,qE,qA,qL,qD];refine cT (.tmp ?_ rfl);simp only[cJ,reduceIte,Bool.true_and]
 | false =>
  simp only[xq,reduceIte,qE,qA,qL,qD,Ti,hk];refine cT (.tmp ?_ rfl);simp only[cJ,reduceIte,Bool.false_and]
theorem aCp{f fd:FuncId}(H:FnIs P f N [.t 2] (nP fd))(hN:1≤N)(Hd:∀ s:ByteArray,s.size≤1000→FnP Γ P fd [.str ⟨#[]⟩,.str s] (aD7 (Ik s.data.toList)))(s:ByteArray)(hs:s.size≤1000)(hv:validS s=true) :
  FnP Γ P f [.str s] (.d (.sl eRn (gL (eI s)))):=by
 have hr:mS (Eu (Ik s.data.toList)).1=gL (eI s):=by
  rw[aIo hv];simp only[mS,gL,List.map_map];rfl
 refine .of_W H (by simpa using hN) ?_;unfold nP;refine wR ?_;simp only[xq,reduceIte,qE,qA,qL,qD];refine wR ?_;simp only[xq,reduceIte,qE,qA,qL,qD];refine dF (Hd s hs) rfl ?_;simp only[xq,reduceIte,qE,qA,qL,qD,aD7,hr];refine wR ?_;simp only[xq,reduceIte,qE,qA,qL,qD];refine cT (.tmp ?_ rfl);simp only[cJ,reduceIte]
theorem aGZ{f:FuncId}(H:FnIs P f N [.t 0] mY):FnP Γ P f [] (.d (.sl eRg (lU Gp))):=by
 refine .of_W H (by simp) ?_;unfold mY;refine wR ?_;simp only[xq,reduceIte,qE,qA,qL,qD];refine wR ?_;simp only[xq,reduceIte,qE,qA,qL,qD];refine cT (.frz ?_);simp only[xq,reduceIte,qE,qA,qL,qD];exact iJ (id:=0) (full:=true) (e:=eRg) (rows:=lU Gp) rfl
theorem aG0{f:FuncId}(H:FnIs P f N [.t 0] tP):FnP Γ P f [] (.d (.sl eRg (lU Rt))):=by
 refine .of_W H (by simp) ?_;unfold tP;refine wR ?_;simp only[xq,reduceIte,qE,qA,qL,qD];refine wR ?_;simp only[xq,reduceIte,qE,qA,qL,qD];refine cT (.frz ?_);simp only[xq,reduceIte,qE,qA,qL,qD];exact iJ (id:=0) (full:=true) (e:=eRg) (rows:=lU Rt) rfl
theorem aL7{f:FuncId}(H:FnIs P f N [.t 4] uR)(hN:2≤N)(l:List (Int × Int))(hl:l.length≤1000)(r:Int):FnP Γ P f [.d (.sl eRg (lU l)),.sc (.int .i32 r)] (.bool (inR l r)):=by
 refine .of_W H (by simpa using hN) ?_;unfold uR;refine wR ?_;simp only[xq,reduceIte,qE,qA,qL,qD];refine cN (wR ?_);simp only[xq,reduceIte,qE,qA,qL,qD];refine cS ?_;let S:Nat→St:=fun i=>⟨dB [(0,.d (.sl eRg (lU l))),(1,.sc (.int .i32 r)),(5,.int i)],[]⟩;refine dX (s':=S 0) (Co.keep _ (by simp[cJ,cK])) ?_;refine dN (fun m s=>∃ i,i≤l.length∧m=l.length-i∧s=S i∧(l.take i).any (fun p=>decide (p.1≤r)&&decide (r≤p.2))=false) ⟨0,zI _,rfl,rfl,by simp⟩ ?_;rintro m s ⟨i,hi,rfl,rfl,dZ⟩;refine cN (wR ?_);simp only[xq,reduceIte,qE,qA,qL,qD,S,qY];refine cL rfl (fun hc=>cQ ?_) (fun hc=>dJ ?_)
 ·have cY:i<l.length:=by simpa using hc
  have k1:(0:Int)≤(i:Int):=by omega
  have k2:((i:Int)<(l.length:Int)):=by omega
  simp only[xq,reduceIte,qE,qA,qL,qD];let T:Bool→St:=fun b=>⟨dB [(0,.d (.sl eRg (lU l))),(1,.sc (.int .i32 r)),(5,.int i),(27,.bool b)],[]⟩;refine cN (cS (lT (· = T (decide (l[i].1≤r)&&decide (r≤l[i].2))) rfl (fun K hK=>?_) ?_))
  ·cases e:decide (l[i].1≤r)<;>simp only[xq,reduceIte,qE,qA,qL,qD,Gn cY,qY,show Int.toNat 1=1 from rfl,Nat.mul_one,Nat.zero_mul,k1,k2,aA,show(0:Int)<((2:Nat):Int) from by decide,show(1:Int)<((2:Nat):Int) from by decide,show(0:Int)≤1 from by decide,e]
   all_goals (refine hK _ _ (Co.keep _ ?_) rfl;simp at e;simp[cJ,cK];try (intros;omega))
  rintro _ rfl;refine cL rfl (fun hd=>?_) (fun hd=>cQ ?_)
  ·refine wR ?_;simp only[T,xq,reduceIte,qE,qA,qL,qD];refine cT ?_;simp only[xq,reduceIte,qE,qA,qL,qD];refine .tmp ?_ rfl;have:inR l r=true:=List.any_eq_true.2 ⟨l[i],zi cY,hd⟩;simp only[cJ,reduceIte,this]
  ·simp only[T,xq,reduceIte,qE,qA,qL,qD];refine cU ?_;simp only[xq,reduceIte,qE,qA,qL,qD];refine⟨l.length-(i+1),S (i+1),by omega,Co.keep _ ?_,i+1,cY,rfl,rfl,lF cY dZ hd⟩;simp[cJ,cK,gB cY (show l.length≤dL by simp only[dL];omega)]
 ·have gZ:i=l.length:=by simp at hc;omega
  subst gZ;rw[zh] at dZ;simp only[xq,reduceIte,qE,qA,qL,qD];refine wR ?_;simp only[xq,reduceIte,qE,qA,qL,qD];refine cT (.tmp ?_ rfl);simp only[cJ,reduceIte,inR,dZ]
theorem aCq{f fm fi:FuncId}{Nm Ni:Nat}(H:FnIs P f N [.t 2] (tN fm fi))(hN:1≤N)(Hm:FnIs P fm Nm [.t 0] mY)(Hi:FnIs P fi Ni [.t 4] uR)(hNi:2≤Ni)(r:Int) :
  FnP Γ P f [.sc (.int .i32 r)] (.bool (markC r)):=by
 refine .of_W H (by simpa using hN) ?_;unfold tN;refine wR ?_;simp only[xq,reduceIte,qE,qA,qL,qD];refine wR ?_;simp only[xq,reduceIte,qE,qA,qL,qD];refine dF (aGZ Hm) rfl ?_;simp only[xq,reduceIte,qE,qA,qL,qD];refine dF (aL7 Hi hNi Gp (by decide) r) rfl ?_;simp only[xq,reduceIte,qE,qA,qL,qD];refine cT (.tmp ?_ rfl);simp only[cJ,reduceIte,markC]
theorem aG1{f fk fm fw fi:FuncId}{Nk Nm Nw Ni:Nat}(H:FnIs P f N [.t 2] (wZ fk fw fi))(hN:1≤N)(Hk:FnIs P fk Nk [.t 2] (tN fm fi))(hNk:1≤Nk)(Hm:FnIs P fm Nm [.t 0] mY)
  (Hw:FnIs P fw Nw [.t 0] tP) (Hi:FnIs P fi Ni [.t 4] uR) (hNi:2≤Ni) (r:Int):FnP Γ P f [.sc (.int .i32 r)] (.int (gU r)):=by
 refine .of_W H (by simpa using hN) ?_;unfold wZ;refine wR ?_;simp only[xq,reduceIte,qE,qA,qL,qD];let S:Bool→St:=fun b=>⟨dB [(0,.sc (.int .i32 r)),(3,.bool b)],[]⟩;refine cN (cS (lT (· = S (decide (r<32)||(decide (127≤r)&&decide (r≤159)))) rfl (fun K hK=>?_) ?_))
 ·cases h1:decide (r<32) with
  | true =>
   simp only[xq,reduceIte,qE,qA,qL,qD,h1];exact hK _ (S true) (Co.keep _ (by simp[cJ,cK])) (by rw[h1,Bool.true_or])
  | false =>
   cases h2:decide (127≤r) with
   | true =>
    simp only[xq,reduceIte,qE,qA,qL,qD,h1,h2];exact hK _ (S (decide (r≤159))) (Co.keep _ (by simp[cJ,cK])) (by rw[h1,h2,aH,Bool.true_and])
   | false =>
    simp only[xq,reduceIte,qE,qA,qL,qD,h1,h2];exact hK _ (S false) (Co.keep _ (by simp[cJ,cK])) (by rw[h1,h2,aH,Bool.false_and])
 ·rintro _ rfl;refine cL rfl (fun hc=>?_) (fun hc=>?_)
  ·have Xg:r<32∨(127≤r∧r≤159):=by simpa using hc
   refine wR ?_;simp only[S,xq,reduceIte,qE,qA,qL,qD];refine cT ?_;simp only[xq,reduceIte,qE,qA,qL,qD];refine .tmp ?_ rfl;simp only[cJ,reduceIte,gU,Xg]
  ·have Xg:¬ (r<32∨(127≤r∧r≤159)):=by
    intro h;rw[aC] at hc;exact hc (by simpa using h)
   refine wR ?_;simp only[S,xq,reduceIte,qE,qA,qL,qD];refine dF (aCq Hk hNk Hm Hi hNi r) rfl ?_;simp only[xq,reduceIte,qE,qA,qL,qD];refine cL rfl (fun hm=>?_) (fun hm=>?_)
   ·refine wR ?_;simp only[xq,reduceIte,qE,qA,qL,qD];refine cT ?_;simp only[xq,reduceIte,qE,qA,qL,qD];refine .tmp ?_ rfl;simp only[cJ,reduceIte,gU,Xg,hm]
   ·refine wR ?_;simp only[xq,reduceIte,qE,qA,qL,qD];refine dF (aG0 Hw) rfl ?_;simp only[xq,reduceIte,qE,qA,qL,qD];refine dF (aL7 Hi hNi Rt (by decide) r) rfl ?_;simp only[xq,reduceIte,qE,qA,qL,qD];refine cL rfl (fun hw=>?_) (fun hw=>cQ ?_)
    ·refine wR ?_;simp only[xq,reduceIte,qE,qA,qL,qD];refine cT ?_;simp only[xq,reduceIte,qE,qA,qL,qD];refine .tmp ?_ rfl;simp only[cJ,reduceIte,gU,Xg,hm,hw,aI]
    ·simp only[xq,reduceIte,qE,qA,qL,qD];refine wR ?_;simp only[xq,reduceIte,qE,qA,qL,qD];refine cT (.tmp ?_ rfl);simp only[cJ,reduceIte,gU,Xg,hm,hw,aI]
theorem aCr{r:Int}(h:markC r=true):gU r<1:=by
 unfold gU;rw[if_pos h];split<;>decide
theorem aG2{f fv fc fk fw:FuncId}(H:FnIs P f N [.t 2] (wW fv fc fk fw))(hN:1≤N)(Hv:∀ s:ByteArray,s.size≤1000→FnP Γ P fv [.str s] (.bool (validS s)))
  (Hc:∀ s:ByteArray,s.size≤1000→validS s=true→FnP Γ P fc [.str s] (.d (.sl eRn (gL (eI s))))) (Hk:∀ r,FnP Γ P fk [.sc (.int .i32 r)] (.bool (markC r))) (Hw:∀ r,FnP Γ P fw [.sc (.int .i32 r)] (.int (gU r)))
  (s:ByteArray) (hs:s.size≤1000):FnP Γ P f [.str s] (.int (sV s)):=by
 refine .of_W H (by simpa using hN) ?_;unfold wW;refine wR ?_;simp only[xq,reduceIte,qE,qA,qL,qD];let S:Bool→St:=fun b=>⟨dB [(0,.str s),(11,.bool b)],[]⟩;have e0:decide (s=⟨#[]⟩)=decide (s.size=0):=by rw[ze];simp only[decide_eq_true_eq];exact Nn
 refine cN (lT (· = S (decide (s.size=0) || !validS s)) rfl (fun K hK=>?_) ?_)
 ·cases h0:decide (s.size=0) with
  | true =>
   simp only[xq,reduceIte,qE,qA,qL,qD,e0,h0];exact hK _ (S true) (Co.keep _ (by simp[cJ,cK])) (by rw[h0,Bool.true_or])
  | false =>
   simp only[xq,reduceIte,qE,qA,qL,qD,e0,h0];refine dF (Hv s hs) rfl ?_;simp only[xq,reduceIte,qE,qA,qL,qD];exact hK _ (S (!validS s)) (Co.keep _ (by simp[cJ,cK])) (by rw[h0,aH])
 ·rintro _ rfl;refine cL rfl (fun hc=>?_) (fun hc=>cQ ?_)
  ·refine wR ?_;simp only[S,xq,reduceIte,qE,qA,qL,qD];refine cT (.tmp ?_ rfl);have:s.size=0∨validS s=false:=by simpa using hc
   simp only[cJ,reduceIte,sV,this]
  ·have hno:¬ (s.size=0∨validS s=false):=by
    intro h;rw[aC] at hc;exact hc (by simpa using h)
   have hv:validS s=true:=by
    cases h:validS s with
    | true=>rfl
    | false=>exact absurd (.inr h) hno
   have fM:=Rs hv (by omega);have eG:=Cv s;have aEB:sV s=Vz (eI s):=by rw[sV,if_neg hno]
   rw[aEB];have hC:=Hc s hs hv;simp only[S,xq,reduceIte,qE,qA,qL,qD];refine wR ?_;simp only[xq,reduceIte,qE,qA,qL,qD];refine dF hC rfl ?_;generalize eI s=l at fM eG;cases l with
   | nil=>exact absurd rfl fM
   | cons r l =>
    have hr0:(gL (r::l)).getD 0 []=[.sc (.int .i32 r)]:=rfl;have k2:(0:Int)<((l.length+1:Nat):Int):=by omega
    simp only[xq,reduceIte,qE,qA,qL,qD];let T:Bool→St:=fun b=>⟨dB [(3,.d (.sl eRn (gL (r::l)))),(24,.bool b)],[]⟩;refine cN (lT (· = T (decide (gU r<1))) rfl (fun K hK=>?_) ?_)
    ·simp only[xq,reduceIte,qE,qA,qL,qD,gM,hr0,aA,k2];refine dF (Hk _) rfl ?_;cases h1:markC r with
     | true =>
      simp only[xq,reduceIte,qE,qA,qL,qD];exact hK _ (T true) (Co.keep _ (by simp[cJ,cK])) (by rw[decide_eq_true (aCr h1)])
     | false =>
      simp only[xq,reduceIte,qE,qA,qL,qD,gM,hr0,aA,k2];refine dF (Hw _) rfl ?_;simp only[xq,reduceIte,qE,qA,qL,qD];exact hK _ (T (decide (gU r<1))) (Co.keep _ (by simp[cJ,cK])) rfl
    ·rintro _ rfl;refine cL rfl (fun hd=>?_) (fun hd=>cQ ?_)
     ·refine wR ?_;simp only[T,xq,reduceIte,qE,qA,qL,qD];refine cT (.tmp ?_ rfl);have:gU r<1:=by simpa using hd
      simp only[cJ,reduceIte,Vz,this,true_or]
     ·have hw1:¬ gU r<1:=by simpa using hd
      simp only[T,xq,reduceIte,qE,qA,qL,qD];refine cN (wR ?_);simp only[xq,reduceIte,qE,qA,qL,qD];refine cS ?_;let U:Nat→St:=fun i=>⟨dB [(3,.d (.sl eRn (gL (r::l)))),(4,.int ((i+1:Nat):Int))],[]⟩;refine dX (s':=U 0) (Co.keep _ (by simp[cJ,cK])) ?_;refine dN (fun m s=>∃ i,i≤l.length∧m=l.length-i∧s=U i∧(l.take i).any (fun n => !markC n)=false) ⟨0,zI _,rfl,rfl,by simp⟩ ?_;rintro m s0 ⟨i,hi,rfl,rfl,dZ⟩;have gi:decide (((i+1:Nat):Int)<(((r::l).length:Nat):Int))=decide (i<l.length):=by rw[ze];simp
      simp only[za] at gi;refine cN (wR ?_);simp only[U,xq,reduceIte,qE,qA,qL,qD,gM,gi];refine cL rfl (fun hc=>cQ ?_) (fun hc=>dJ ?_)
      ·have cY:i<l.length:=by simpa using hc
       have hri:(gL (r::l)).getD (i+1) []=[.sc (.int .i32 l[i])]:=by
        rw[Rv (by simp;omega)];rfl
       simp only[xq,reduceIte,qE,qA,qL,qD];refine cN (cS (wR ?_));simp only[xq,reduceIte,qE,qA,qL,qD,hri,gM];refine⟨by omega,by omega,?_⟩;refine dF (Hk _) rfl ?_;simp only[xq,reduceIte,qE,qA,qL,qD];refine cL rfl (fun hd=>?_) (fun hd=>cQ ?_)
       ·refine wR ?_;simp only[xq,reduceIte,qE,qA,qL,qD];refine cT ?_;simp only[xq,reduceIte,qE,qA,qL,qD];refine .tmp ?_ rfl;have:(l.all fun n=>markC n)=false:=by
         rw[List.all_eq_false];exact⟨l[i],zi cY,by simpa using hd⟩
        simp only[cJ,reduceIte,Vz,this,or_true]
       ·simp only[xq,reduceIte,qE,qA,qL,qD];refine cU ?_;simp only[xq,reduceIte,qE,qA,qL,qD];refine⟨l.length-(i+1),U (i+1),by omega,Co.keep _ ?_,i+1,cY,rfl,rfl,lF cY dZ hd⟩;have:IntKind.i64.wrap ((i:Int)+1+1)=(i:Int)+1+1:=cX (by simp at eG;omega);simp[cJ,cK,this]
      ·have gZ:i=l.length:=by simp at hc;omega
       subst gZ;rw[zh] at dZ;have sC:(l.all fun n=>markC n)=true:=by
        rw[List.all_eq_true];intro n hn;have h2:=List.any_eq_false.1 dZ n hn;simpa using h2
       have aJ8:¬ (gU r<1∨(l.all fun n=>markC n)=false):=by
        rw[sC];simp;omega
       simp only[xq,reduceIte,qE,qA,qL,qD];refine cN (wR ?_);simp only[xq,reduceIte,qE,qA,qL,qD,gM];refine cL rfl (fun h3=>?_) (fun h3=>cQ ?_)
       ·refine wR ?_;simp only[xq,reduceIte,qE,qA,qL,qD];refine cT ?_;simp only[xq,reduceIte,qE,qA,qL,qD];refine .tmp ?_ rfl;have:3<l.length:=by simp at h3;omega
        simp only[cJ,reduceIte,Vz,aJ8,this]
       ·simp only[xq,reduceIte,qE,qA,qL,qD];refine wR ?_;simp only[xq,reduceIte,qE,qA,qL,qD];refine cT (.tmp ?_ rfl);have:¬ 3<l.length:=by simp at h3;omega
        simp only[cJ,reduceIte,Vz,aJ8,this]
theorem aD9{f fc fr fw:FuncId}(H:FnIs P f N [.t 2] (wX fc fr fw))(hN:1≤N)(Hc:∀ s:ByteArray,s.size≤1000→FnP Γ P fc [.str s] (.int (sV s)))
  (Hr:∀ s:ByteArray,s.size≤1000→validS s=true→FnP Γ P fr [.str s] (.d (.sl eRn (gL (eI s))))) (Hw:∀ r,FnP Γ P fw [.sc (.int .i32 r)] (.int (gU r))) (s:ByteArray) (hs:s.size≤1000) :
  FnP Γ P f [.str s] (.int (Jl s)):=by
 refine .of_W H (by simpa using hN) ?_;unfold wX;refine wR ?_;simp only[xq,reduceIte,qE,qA,qL,qD];refine cN (wR ?_);simp only[xq,reduceIte,qE,qA,qL,qD];refine dF (Hc s hs) rfl ?_;simp only[xq,reduceIte,qE,qA,qL,qD];refine cL rfl (fun hc=>?_) (fun hc=>cQ ?_)
 ·have hc:¬ sV s=0:=by simpa using hc
  refine wR ?_;simp only[xq,reduceIte,qE,qA,qL,qD];refine cT (.tmp ?_ rfl);simp only[cJ,reduceIte,Jl,xD,if_neg hc]
 ·have hc:sV s=0:=by simpa using hc
  have hno:¬ (s.size=0∨validS s=false):=by
   intro h;rw[sV,if_pos h] at hc;cases hc
  have hv:validS s=true:=by
   cases h:validS s with
   | true=>rfl
   | false=>exact absurd (.inr h) hno
  have fM:=Rs hv (by omega);have hR:=Hr s hs hv;have hrc:xD s=eI s:=by rw[xD,if_pos hc]
  unfold Jl;rw[hrc];simp only[xq,reduceIte,qE,qA,qL,qD];refine wR ?_;simp only[xq,reduceIte,qE,qA,qL,qD];refine dF hR rfl ?_;generalize eI s=l at fM;cases l with
  | nil=>exact absurd rfl fM
  | cons r l =>
   have hr0:(gL (r::l)).getD 0 []=[.sc (.int .i32 r)]:=rfl;simp only[xq,reduceIte,qE,qA,qL,qD,gM,hr0];refine⟨by decide,by simp,?_⟩;refine dF (Hw _) rfl ?_;simp only[xq,reduceIte,qE,qA,qL,qD];refine cT (.tmp ?_ rfl);simp only[cJ,reduceIte]
end Go.Proofs.YtlllnjhgjijnkaaGreatDoor.Nx

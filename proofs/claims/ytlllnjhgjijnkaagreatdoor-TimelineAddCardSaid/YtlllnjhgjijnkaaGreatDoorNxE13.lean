import Derived.Test.YtlllnjhgjijnkaaGreatDoorNxE6
import Derived.Test.YtlllnjhgjijnkaaGreatDoorNxH0
set_option linter.all false
open List renaming getElem?_eq_some_iff → zA, getD_eq_getElem?_getD → zC, getElem?_map → zK, drop_eq_getElem_cons → zd, getElem?_range → zj, getElem?_eq_none → zk
open Nat renaming zero_le → zI, le_refl → zL
open Int renaming toNat_natCast → zQ
open Nat renaming reduceEqDiff → qE, reduceAdd → qA, reduceLT → qL, reduceLeDiff → qD
open List renaming range → aA, replicate → aB, getElem?_replicate → aC, ext_getElem? → aD, getElem?_cons_succ → aE, getElem?_set → aI, length_range → aJ, length_cons → aK, length_map → aM
open Nat renaming add_comm → aF, lt_succ_self → aL
open Option renaming map_some → aG
open And renaming intro → aH
namespace Go.Proofs.YtlllnjhgjijnkaaGreatDoor.Nx
open Go
section
variable {P:Program}{N:Nat}{Γ:dP}
def eP(l:List Cg):List (List D):=l.map Cg.ds
theorem dD{l:List Cg}:(eP l).length=l.length:=by simp[eP]
theorem jP{l:List Cg}{i:Nat}(hi:i<l.length):(eP l).getD i []=l[i].ds:=by
 rw[eP,zC,zK,List.getElem?_eq_getElem hi];rfl
abbrev eV(l:List Cg):A:=.d (.sl Bp (eP l))
structure CgOk(c:Cg):Prop where
 len:c.gl.length≤1000
 txt:∀ g∈c.gl,g.text.size≤1000
def mL:Vw→List Cg→Prop
 | v,[]=>Sm v 50000
 | v,c::l=>Sm v 50000∧(iM v c=0→mL (dV v c) l)
theorem mL.sm{v:Vw}{l:List Cg}(h:mL v l):Sm v 50000:=by
 cases l with
 | nil=>exact h
 | cons c l=>exact h.1
theorem aPi{h:cM}{x y z x' y' z':A}(h1:FrzA 0 h x x')(h2:FrzA 0 h y y')(h3:FrzA 0 h z z'):FrzA 0 h (.tup [x,y,z]) (.tup [x',y',z']):=by
 refine .tup rfl fun j u hj=>?_;rcases j with _ | _ | _ | j
 ·cases hj;exact h1
 ·cases hj;exact h2
 ·cases hj;exact h3
 ·simp at hj
theorem EdIs.setOther{h:cM}{id:Nat}{v:Vw}{k:Nat}{R:List (List A)}(e:EdIs h id v k R){q:Nat}{rows:List (List A)}{X:HB}(hq:h[q]? = some (.cells pA rows))(fM:id≠q):EdIs (h.set q X) id v k R:=by
 have up:∀ {p:Nat} {e':Elt} {l:List (List A)},h[p]? = some (.cells e' l)→e'.sz≠6∨p≠q→(h.set q X)[p]? = some (.cells e' l):=fun {p e' l} hp hor=>by
  have:q≠p:=by
   rintro rfl;rw[hq] at hp;cases hp;rcases hor with h1 | h1
   ·exact h1 rfl
   ·exact h1 rfl
  rw[List.getElem?_set_ne this];exact hp
 refine⟨up e.hid (.inr fM),up e.hk (.inl (by decide)),e.len,fun i r hr=>?_,e.dis⟩;obtain⟨x,h1,h2⟩:=e.row i r hr;refine⟨x,h1,?_⟩;rcases h2 with h2 | ⟨b,h2,h3⟩
 ·exact .inl h2
 ·exact .inr ⟨b,h2,up h3 (.inl (by decide))⟩
def apA(x:Vw × Int × Int):A:=.tup [fF x.1,.int x.2.1,.int x.2.2]
abbrev Ox:List A:=[.int 0,.int 0,.nil,.int 0,.int 0,.bool false]
abbrev jJ:HB:=.cells pA [Ox]
theorem aE9{sl:Nat→A}{h:cM}{x:Vw × Int × Int}{row:List A}(h4:sl 4 = .ptr 1 1 0 0)(h1:h[1]? = some (.cells pA [row]))(hl:row.length=6)(hf:FrzA 0 h (.agg row) (fF x.1))(h5:sl 5 = .int x.2.1)(h6:sl 6 = .int x.2.2) :
  Bw [.c 4 6 true,.t 5,.t 6] (apA x) .ret ⟨sl,h⟩:=by
 obtain⟨a,b,c,d,e,g,rfl⟩:∃ a b c d e g,row=[a,b,c,d,e,g]:=by
  match row,hl with
  | [a,b,c,d,e,g],_=>exact⟨a,b,c,d,e,g,rfl⟩
 refine⟨.inr rfl,?_⟩;simp only[dK,eH,dM,h4,h5,h6,h1,xq,reduceIte,qE,qA,qL,qD];simp only[dI,if_true,List.take,xq,reduceIte,qE,qA,qL,qD];exact aPi (y:=.int x.2.1) (y':=.int x.2.1) (z:=.int x.2.2) (z':=.int x.2.2) hf (.same rfl) (.same rfl)
theorem Si{n:Int}:Xz (.int n):=Ps
end
section
variable {P:Program}{N:Nat}{Γ:dP}
abbrev fL:Elt:=⟨1,8⟩
def fU(a b:List Gl)(i j:Nat):Nat:=Ay (a.drop i) (b.drop j)
theorem aK6{a b:List Gl}{j:Nat}:fU a b a.length j=0:=by simp[fU,Ay]
theorem aK7(l:List Gl):Ay l []=0:=by cases l<;>rfl
theorem aK8{a b:List Gl}{i:Nat}:fU a b i b.length=0:=by rw[fU,List.drop_length,aK7]
theorem Sj{a b:List Gl}{i j:Nat}(hi:i<a.length)(hj:j<b.length):fU a b i j=if a[i]=b[j] then 1+fU a b (i+1) (j+1) else max (fU a b (i+1) j) (fU a b i (j+1)):=by
 have e1:=zd hi;have e2:=zd hj;simp only[fU];rw[e1,e2];rfl
theorem aAq:∀ (n:Nat) (a b:List Gl),a.length+b.length≤n→Ay a b≤a.length∧Ay a b≤b.length
 | _,[],_,_=>by simp[Ay]
 | _,_::_,[],_=>by simp[Ay,aKX]
 | 0,_::_,_::_,h=>by simp at h
 | n+1,x::a,y::b,h=>by
  simp only[aK] at h;have h1:=aAq n a b (by omega);have h2:=aAq n a (y::b) (by simp;omega);have h3:=aAq n (x::a) b (by simp;omega);simp only[Ay] at h3 ⊢;simp only[aKX,aK] at *;split<;>omega
theorem aB6{a b:List Gl}{i j:Nat}:fU a b i j≤a.length:=by
 have:=(aAq _ (a.drop i) (b.drop j) (zL _)).1;rw[List.length_drop] at this;simp only[fU];omega
def jQ(a b:List Gl)(i j q:Nat):List A:=[.int (if j≤q then(fU a b i q:Nat) else 0:Nat)]
def rB(a b:List Gl)(i j:Nat):HB:=.cells fL ((aA (b.length+1)).map (jQ a b i j))
def aB7(a b:List Gl)(i j:Nat):List A:=if j<i then [.nil] else [.ref (1+(a.length-j)) (b.length+1) 0 (b.length+1) true]
def jK(a b:List Gl)(i:Nat):List (List A):=(aA (a.length+1)).map (aB7 a b i)
def nS(a b:List Gl)(i:Nat):cM:=(aA (a.length+1-i)).map fun t=>rB a b (a.length-t) 0
theorem jL{a b:List Gl}{i:Nat}:(jK a b i).length=a.length+1:=by simp[jK]
theorem lB{a b:List Gl}{i:Nat}:(nS a b i).length=a.length+1-i:=by simp[nS]
theorem uU{a b:List Gl}{i j:Nat}(hj:j<a.length+1):(jK a b i)[j]? = some (aB7 a b i j):=by
 rw[jK,zK,zj hj];rfl
theorem Sk{a b:List Gl}{i:Nat}(hi:i<a.length+1):(jK a b (i+1)).set i [.ref (1+(a.length-i)) (b.length+1) 0 (b.length+1) true]=jK a b i:=by
 apply aD;intro j;rw[aI]
 by_cases hij:i=j
 ·subst hij;rw[if_pos rfl,if_pos (by rw[jL];exact hi),uU hi,aB7,if_neg (by omega)]
 ·rw[if_neg hij]
  by_cases hj:j<a.length+1
  ·rw[uU hj,uU hj];simp only[aB7]
   by_cases h1:j<i
   ·rw[if_pos h1,if_pos (by omega)]
   ·rw[if_neg h1,if_neg (by omega)]
  ·rw[zk (by rw[jL];omega),zk (by rw[jL];omega)]
theorem Yl{a b:List Gl}{i:Nat}:rB a b i b.length = .cells fL (aB (b.length+1) [.int 0]):=by
 rw[rB];congr 1;apply aD;intro q
 by_cases hq:q<b.length+1
 ·rw[zK,zj hq,aC,if_pos hq];simp only[aG,jQ];split
  ·have:q=b.length:=by omega
   subst this;rw[aK8];rfl
  ·rfl
 ·rw[zk (by simp;omega),zk (by simp;omega)]
theorem aDP{a b:List Gl}{j:Nat}:rB a b a.length j = .cells fL (aB (b.length+1) [.int 0]):=by
 rw[rB];congr 1;apply aD;intro q
 by_cases hq:q<b.length+1
 ·rw[zK,zj hq,aC,if_pos hq];simp only[aG,jQ,aK6,ite_self];rfl
 ·rw[zk (by simp;omega),zk (by simp;omega)]
theorem rC{a b:List Gl}{i j q:Nat}(hq:q<b.length+1):((aA (b.length+1)).map (jQ a b i j))[q]? = some (jQ a b i j q):=by
 rw[zK,zj hq];rfl
theorem Sl{a b:List Gl}{i j:Nat}(hj:j<b.length):((aA (b.length+1)).map (jQ a b i (j+1))).set j [.int (fU a b i j:Nat)]=(aA (b.length+1)).map (jQ a b i j):=by
 apply aD;intro q;rw[aI]
 by_cases hq:j=q
 ·subst hq;rw[if_pos rfl,if_pos (by simp;omega),rC (by omega),jQ,if_pos (zL _)]
 ·rw[if_neg hq]
  by_cases hq2:q<b.length+1
  ·rw[rC hq2,rC hq2];simp only[jQ]
   by_cases h1:j≤q
   ·rw[if_pos (by omega),if_pos h1]
   ·rw[if_neg (by omega),if_neg h1]
  ·rw[zk (by simp;omega),zk (by simp;omega)]
theorem Ju{a b:List Gl}{i p:Nat}(hp:i≤p)(hpa:p≤a.length):(nS a b i)[a.length-p]? = some (rB a b p 0):=by
 rw[nS,zK,zj (by omega),aG];congr 2;omega
theorem Ym{a b:List Gl}{i:Nat}(hi:i≤a.length):nS a b (i+1)++[rB a b i 0]=nS a b i:=by
 have e:a.length+1-i=(a.length+1-(i+1))+1:=by omega
 rw[nS,nS,e,List.range_succ,List.map_append];congr 2;simp only[List.map_cons,List.map_nil];congr 2;omega
theorem pB{a b:List Gl}{i j q:Nat}(hj:j≤q)(hq:q<b.length+1):((aA (b.length+1)).map (jQ a b i j))[q]? = some [.int (fU a b i q:Nat)]:=by
 rw[rC hq,jQ,if_pos hj]
theorem Ei{a b:List Gl}{i j:Nat}(hj:i≤j)(hja:j<a.length+1):(jK a b i)[j]? = some [.ref (1+(a.length-j)) (b.length+1) 0 (b.length+1) true]:=by
 rw[uU hja,aB7,if_neg (by omega)]
theorem aB8{a b:List Gl}:jK a b (a.length+1)=aB (a.length+1) [.nil]:=by
 apply aD;intro j
 by_cases hj:j<a.length+1
 ·rw[uU hj,aB7,if_pos hj,aC,if_pos hj]
 ·rw[zk (by rw[jL];omega),zk (by simp;omega)]
theorem aNu{a b:List Gl}:nS a b a.length=[.cells fL (aB (b.length+1) [.int 0])]:=by
 rw[nS,show a.length+1-a.length=1 by omega];simp only[List.range_one,List.map_cons,List.map_nil,Nat.sub_zero,aDP]
def nU(a b:List Gl):List (List D):=(aA (a.length+1)).map fun i=>[.sl fL ((aA (b.length+1)).map fun j=>[.sc (.int .i64 (fU a b i j:Nat))])]
set_option maxHeartbeats 2000000 in
theorem aDQ{f:FuncId}(H:FnIs P f N [.t 4] jN)(hN:2≤N)(a b:List Gl)(ha:a.length≤50000)(hb:b.length≤50000):FnP Γ P f [.d (.sl dW (cP a)),.d (.sl dW (cP b))] (.d (.sl eW (nU a b))):=by
 refine .of_W H (by simpa using hN) ?_;obtain⟨na,hna⟩:∃ k,k=a.length+1:=⟨_,rfl⟩;obtain⟨nb,Xj⟩:∃ k,k=b.length+1:=⟨_,rfl⟩;have wa:IntKind.i64.wrap ((a.length:Int)+1)=(na:Int):=by rw[cX (by omega)];omega
 have wb:IntKind.i64.wrap ((b.length:Int)+1)=(nb:Int):=by rw[cX (by omega)];omega
 have wa1:IntKind.i64.wrap ((a.length:Int)-1)=(a.length:Int)-1:=cX (by omega);have wb1:IntKind.i64.wrap ((b.length:Int)-1)=(b.length:Int)-1:=cX (by omega);have r24:(na:Int) * ((24:Nat):Int)≤((dL:Nat):Int):=by simp only[dL];omega
 have r8:(nb:Int) * ((8:Nat):Int)≤((dL:Nat):Int):=by simp only[dL];omega
 unfold jN;refine wR ?_;simp only[xq,reduceIte,qE,qA,qL,qD];refine wR ?_;simp only[xq,reduceIte,qE,qA,qL,qD,cR,wa,zQ];refine⟨by omega,by omega,by omega,r24,?_⟩;have hr0:(aB na [A.nil])[a.length]? = some [A.nil]:=by rw[aC,if_pos (by omega)]
 have hO:(aB na [A.nil]).set a.length [.ref 1 nb 0 nb true]=jK a b a.length:=by
  rw[hna,Xj,← aB8 (b:=b),← Sk (b:=b) (aL _),Nat.sub_self]
 have hH:[HB.cells fL (aB nb [A.int 0])]=nS a b a.length:=by rw[aNu,Xj]
 refine wR ?_;simp only[xq,reduceIte,qE,qA,qL,qD,cR,wb,wa,zQ,List.length_replicate,hr0];refine⟨by omega,by omega,by omega,r8,?_⟩
 repeat refine aH (by omega) ?_
 refine cN ?_;refine wR ?_;simp only[xq,reduceIte,qE,qA,qL,qD,cR,wa1];refine cS ?_;let da:A:=.d (.sl dW (cP a));let db:A:=.d (.sl dW (cP b));let S:Nat→St:=fun i=>⟨dB [(0,da),(1,db),(5,.ref 0 na 0 na true),(6,.int ((i:Int)-1))],.cells eW (jK a b i)::nS a b i⟩;refine dX (s':=S a.length) ?_ ?_
 ·simp only[S,da,db,← hO,← hH];exact Co.keep _ (by simp[cJ,cK])
 refine dN (fun m s=>∃ i,i≤a.length∧m=i∧s=S i) ⟨a.length,zL _,rfl,rfl⟩ ?_;rintro m s ⟨i,hi,rfl,rfl⟩;simp only[S,da,db];refine cN ?_;refine wR ?_;simp only[xq,reduceIte,qE,qA,qL,qD];refine cL rfl (fun hc=>cQ ?_) (fun hc=>dJ ?_)
 ·obtain⟨p,rfl⟩:∃ p,m=p+1:=⟨m-1,by simp at hc;omega⟩;have e0:(((p+1:Nat):Int)-1)=(p:Int):=by omega
  have e1:(nS a b (p+1)).length+1=1+(a.length-p):=by rw[lB];omega
  have hp:p<a.length:=hi;simp only[xq,reduceIte,qE,qA,qL,qD,e0];obtain⟨q,hq⟩:∃ q,q=1+(a.length-p):=⟨_,rfl⟩;obtain⟨Hq,hHq⟩:∃ Hq:Nat→cM,∀ j,Hq j = .cells eW (jK a b p)::(nS a b (p+1)++[rB a b p j]):=⟨_,fun _=>rfl⟩;have g0:∀ j,(Hq j)[0]? = some (.cells eW (jK a b p)):=fun j=>by rw[hHq];rfl
  have gq:∀ j,(Hq j)[q]? = some (rB a b p j):=fun j=>by
   rw[hHq,hq,aF 1,aE,List.getElem?_append_right (by rw[lB];omega),lB,show a.length-p-(a.length+1-(p+1))=0 by omega];rfl
  have gp:∀ j,(Hq j)[1+(a.length-(p+1))]? = some (rB a b (p+1) 0):=fun j=>by
   rw[hHq,aF 1 (a.length-(p+1)),aE,List.getElem?_append_left (by rw[lB];omega),Ju (zL _) hp]
  have sq:∀ j X,(Hq j).set q X = .cells eW (jK a b p)::(nS a b (p+1)++[X]):=fun j X=>by
   rw[hHq,hq,aF 1,List.set_cons_succ,List.set_append_right _ _ (by rw[lB];omega),lB,show a.length-p-(a.length+1-(p+1))=0 by omega];rfl
  have op1:(jK a b p)[p]? = some [.ref q nb 0 nb true]:=by rw[Ei (zL _) (by omega),hq,Xj]
  have op2:(jK a b p)[p+1]? = some [.ref (1+(a.length-(p+1))) nb 0 nb true]:=by rw[Ei (by omega) (by omega),Xj]
  have og:(jK a b (p+1))[p]? = some [.nil]:=by rw[uU (by omega),aB7,if_pos (aL p)]
  have os:(jK a b (p+1)).set p [.ref q nb 0 nb true]=jK a b p:=by rw[hq,Xj,Sk (by omega)]
  refine cN (cS ?_);refine wR ?_;simp only[xq,reduceIte,qE,qA,qL,qD,cR,wb,zQ,e1,← hq,jL,og];refine⟨by omega,by omega,by omega,r8,?_⟩
  repeat refine aH (by omega) ?_
  refine wR ?_;simp only[xq,reduceIte,qE,qA,qL,qD,cR,wb1];let S2:Nat→St:=fun j=>⟨dB [(0,da),(1,db),(5,.ref 0 na 0 na true),(6,.int p),(7,.int ((j:Int)-1))],Hq j⟩;have aEJ:HB.cells eW ((jK a b (p+1)).set p [A.ref q nb 0 nb true])::(nS a b (p+1)++[HB.cells { sz:=1,bytes:=8 } (aB nb [A.int 0])])=Hq b.length:=by
   rw[hHq,os,Yl,Xj]
  refine cS ?_;refine dX (s':=S2 b.length) ?_ ?_
  ·simp only[S2,da,db,← aEJ];exact Co.keep _ (by simp[cJ,cK])
  refine dN (fun m s=>∃ j,j≤b.length∧m=j∧s=S2 j) ⟨b.length,zL _,rfl,rfl⟩ ?_;rintro m s ⟨j,hj,rfl,rfl⟩;simp only[S2,da,db];refine cN ?_;refine wR ?_;simp only[xq,reduceIte,qE,qA,qL,qD];refine cL rfl (fun hc=>cQ ?_) (fun hc=>dJ ?_)
  ·obtain⟨u,rfl⟩:∃ u,m=u+1:=⟨m-1,by simp at hc;omega⟩;have e2:(((u+1:Nat):Int)-1)=(u:Int):=by omega
   have hu:u<b.length:=hj;have wp:IntKind.i64.wrap ((p:Int)+1)=((p+1:Nat):Int):=by rw[cX (by omega)];omega
   have wu:IntKind.i64.wrap ((u:Int)+1)=((u+1:Nat):Int):=by rw[cX (by omega)];omega
   have wu1:IntKind.i64.wrap ((u:Int)-1)=(u:Int)-1:=cX (by omega);have l1:=pB (a:=a) (b:=b) (i:=p+1) (j:=0) (q:=u+1) (zI _) (by omega);have l2:=pB (a:=a) (b:=b) (i:=p+1) (j:=0) (q:=u) (zI _) (by omega);have l3:=pB (a:=a) (b:=b) (i:=p) (j:=u+1) (q:=u+1) (zL _) (by omega);have l4:((aA (b.length+1)).map (jQ a b p (u+1)))[u]? = some [.int ((0:Nat):Int)]:=by
    rw[rC (by omega),jQ,if_neg (by omega)]
   have Xm:=Sl (a:=a) (b:=b) (i:=p) hu;have mO:=Sj (a:=a) (b:=b) hp hu;have gZ:=aB6 (a:=a) (b:=b) (i:=p+1) (j:=u+1);have key:∀ X:HB,X=rB a b p u→(Hq (u+1)).set q X=Hq u:=fun X hX=>by rw[sq,hHq,hX]
   have aHB:∀ (sl:Nat→A) (X:HB),X=rB a b p u→sl 0=da→sl 1=db→sl 5 = .ref 0 na 0 na true→sl 6 = .int p→sl 7 = .int ((u:Int)-1)→Co 0 ⟨sl,(Hq (u+1)).set q X⟩ (S2 u):=fun sl X hX k0 k1 k5 k6 k7=>by
    rw[key X hX];exact Co.keep _ (by simp[k0,k1,k5,k6,k7])
   simp only[xq,reduceIte,qE,qA,qL,qD,e2];refine cN (cS ?_);refine cN (eD (by simp) ?_);simp only[xq,reduceIte,qE,qA,qL,qD,eS hp,eS hu,Gl.row,Jn,cR,zQ]
   repeat refine aH (by omega) ?_
   refine cL rfl (fun hd=>?_) (fun hd=>?_)
   ·have hd:a[p]=b[u]:=by simpa using hd
    rw[if_pos hd] at mO;have wv:IntKind.i64.wrap (1+((fU a b (p+1) (u+1):Nat):Int))=((fU a b p u:Nat):Int):=by rw[cX (by omega)];omega
    refine eD (by simp) ?_;simp only[xq,reduceIte,qE,qA,qL,qD,g0,gq,gp,rB,jL,op1,op2,l1,l2,l3,l4,wp,wu,wv,zQ,aM,aJ]
    repeat refine aH (by omega) ?_
    refine cU ?_;simp only[xq,reduceIte,qE,qA,qL,qD,wu1];exact⟨u,S2 u,by omega,aHB _ _ (by rw[Xm];rfl) rfl rfl rfl rfl rfl,u,by omega,rfl,rfl⟩
   ·have hd:¬ a[p]=b[u]:=by simpa using hd
    rw[if_neg hd] at mO;have wv:eB true ((fU a b (p+1) u:Nat):Int) ((fU a b p (u+1):Nat):Int)=((fU a b p u:Nat):Int):=by
     simp only[eB,if_true];split<;>omega
    refine eD (by simp) ?_;simp only[xq,reduceIte,qE,qA,qL,qD,g0,gq,gp,rB,jL,op1,op2,l1,l2,l3,l4,wp,wu,wv,zQ,aM,aJ]
    repeat refine aH (by omega) ?_
    refine cU ?_;simp only[xq,reduceIte,qE,qA,qL,qD,wu1];exact⟨u,S2 u,by omega,aHB _ _ (by rw[Xm];rfl) rfl rfl rfl rfl rfl,u,by omega,rfl,rfl⟩
  ·have hm:m=0:=by simp at hc;omega
   subst hm;have wp1:IntKind.i64.wrap ((p:Int)-1)=(p:Int)-1:=cX (by omega);simp only[xq,reduceIte,qE,qA,qL,qD];refine cU ?_;simp only[xq,reduceIte,qE,qA,qL,qD,wp1];refine⟨p,S p,by omega,?_,p,by omega,rfl,rfl⟩;have:Hq 0=HB.cells eW (jK a b p)::nS a b p:=by rw[hHq,Ym (by omega)]
   simp only[S,da,db,← this];exact Co.keep _ (by simp[cJ,cK])
 ·have hm:m=0:=by simp at hc;omega
  subst hm;simp only[xq,reduceIte,qE,qA,qL,qD];refine wR ?_;simp only[xq,reduceIte,qE,qA,qL,qD];refine cT (.frz ?_);simp only[xq,reduceIte,qE,qA,qL,qD];have hNa:na=(jK a b 0).length:=by rw[jL,hna]
  have fK:∀ i r,(nU a b)[i]? = some r→i<a.length+1∧r=[.sl fL ((aA (b.length+1)).map fun j=>[.sc (.int .i64 (fU a b i j:Nat))])]:=by
   intro i r hi;have cY:i<a.length+1:=by have:=(zA.1 hi).1;simpa[nU] using this
   rw[nU,zK,zj cY] at hi;exact⟨cY,by simpa using hi.symm⟩
  have hO:∀ i,i<a.length+1→(jK a b 0).getD (0+i) []=[.ref (1+(a.length-i)) (b.length+1) 0 (b.length+1) true]:=fun i hi=>by
   rw[Nat.zero_add,zC,Ei (zI _) hi];rfl
  have e0:FrzD 0 (HB.cells eW (jK a b 0)::nS a b 0) (.ref 0 (jK a b 0).length 0 na true) (.sl eW (nU a b)):=by
   refine .ref (zL _) rfl (by simp[nU,hna]) (fun i r hi=>?_) (fun i r j d hi hj=>?_)
   ·obtain⟨cY,rfl⟩:=fK i r hi;rw[hO i cY];rfl
   ·obtain⟨cY,rfl⟩:=fK i r hi;rw[hO i cY]
    match j,hj with
    | j+1,hj=>simp at hj
    | 0,hj =>
     simp only[List.getElem?_cons_zero,Option.some.injEq] at hj;subst hj;have hB:(HB.cells eW (jK a b 0)::nS a b 0)[1+(a.length-i)]? = some (rB a b i 0):=by
      rw[aF 1,aE,Ju (zI _) (by omega)]
     have hl:((aA (b.length+1)).map (jQ a b i 0)).length=b.length+1:=by simp
     have h2:∀ j r,((aA (b.length+1)).map fun j=>[D.sc (.int .i64 (fU a b i j:Nat))])[j]? = some r→((aA (b.length+1)).map (jQ a b i 0)).getD (0+j) []=r.map .d:=fun j r hr=>by
      have cY:j<b.length+1:=by have:=(zA.1 hr).1;simpa using this
      rw[zK,zj cY] at hr;rw[Nat.zero_add,zC,pB (zI _) cY];simp at hr;subst hr;rfl
     have e:FrzD 0 (HB.cells eW (jK a b 0)::nS a b 0) (.ref (1+(a.length-i)) ((aA (b.length+1)).map (jQ a b i 0)).length 0 (b.length+1) true) (.sl fL ((aA (b.length+1)).map fun j=>[D.sc (.int .i64 (fU a b i j:Nat))])):=by
      refine .ref (zI _) hB (by simp) (fun j r hr=>by rw[h2 j r hr];simp) (fun j r k d hr hk=>?_);rw[h2 j r hr,zC,zK,hk];exact .d d
     rw[hl] at e;exact e
  rw[← hNa] at e0;exact .d e0
end
end Go.Proofs.YtlllnjhgjijnkaaGreatDoor.Nx

import Derived.Test.YtlllnjhgjijnkaaGreatDoorNxE13
import Derived.Test.YtlllnjhgjijnkaaGreatDoorNxW8
set_option linter.all false
open List renaming getElem?_eq_some_iff → zA, getElem?_eq_getElem → zB, getD_eq_getElem?_getD → zC, getElem?_append_left → zF, getElem?_append_right → zG, getElem?_map → zK, getElem?_set_ne → zM, append_nil → zP, append_assoc → zS, map_cons → zU, map_nil → zV, length_cons → za, length_append → zb, drop_eq_getElem_cons → zd, getElem?_range → zj, replicate_zero → zr, set_append_left → zu
open Bool renaming true_eq_false → zE
open Nat renaming zero_le → zI, le_refl → zL
open Int renaming toNat_natCast → zQ
open Nat renaming reduceEqDiff → qE, reduceAdd → qA, reduceLT → qL, reduceLeDiff → qD
set_option maxHeartbeats 2000000
open List renaming drop → aA, take → aB, map → aC, mem_append → aE, drop_length → aG, mem_map → aI, drop_eq_nil_of_le → aJ, length_singleton → aK, map_congr_left → aL
open Nat renaming lt_or_ge → aD
open Bool renaming false_eq_true → aF
open And renaming intro → aH
namespace Go.Proofs.YtlllnjhgjijnkaaGreatDoor.Nx
open Go
section
variable {P:Program}{N:Nat}{Γ:dP}
def pW(a b:List Gl)(i j:Nat):Nat :=
 if i<a.length∧j<b.length∧a.getD i eL=b.getD j eL then 0 else if j=b.length∨(i<a.length∧fU a b i (j+1)≤fU a b (i+1) j) then 1 else 2
def kL(s i:Nat):Nat:=if s=2 then i else i+1
def nA(s j:Nat):Nat:=if s=1 then j else j+1
theorem Lm{a b:List Gl}{i j:Nat}:pW a b i j≤2:=by unfold pW;split;omega;split<;>omega
theorem yB{a b:List Gl}{i j:Nat}(hi:¬ i<a.length)(hj:j<b.length):pW a b i j=2:=by
 rw[pW,if_neg (by omega),if_neg (by omega)]
theorem yC{a b:List Gl}{i j:Nat}(hj:j=b.length):pW a b i j=1:=by
 rw[pW,if_neg (by omega),if_pos (.inl hj)]
theorem Sn{a b:List Gl}{i j:Nat}(hi:i<a.length)(hj:j<b.length):pW a b i j=if a[i]=b[j] then 0 else if fU a b i (j+1)≤fU a b (i+1) j then 1 else 2:=by
 have e1:a.getD i eL=a[i]:=by rw[zC,zB hi];rfl
 have e2:b.getD j eL=b[j]:=by rw[zC,zB hj];rfl
 rw[pW,e1,e2]
 by_cases h:a[i]=b[j]
 ·rw[if_pos ⟨hi,hj,h⟩,if_pos h]
 ·rw[if_neg (fun x=>h x.2.2),if_neg h]
  by_cases h2:fU a b i (j+1)≤fU a b (i+1) j
  ·rw[if_pos (.inr ⟨hi,h2⟩),if_pos h2]
  ·rw[if_neg (fun x=>by rcases x with x | x;omega;exact h2 x.2),if_neg h2]
theorem So{a b:List Gl}{i j:Nat}(hi:i≤a.length)(hj:j≤b.length)(h:i<a.length∨j<b.length) :
  nL (a.drop i) (b.drop j) i=(pW a b i j,i)::nL (a.drop (kL (pW a b i j) i)) (b.drop (nA (pW a b i j) j)) (kL (pW a b i j) i):=by
 by_cases h1:i<a.length
 ·have e1:=zd h1
  by_cases h2:j<b.length
  ·have e2:=zd h2;have hs:=Sn h1 h2;have hw:nL (a.drop i) (b.drop j) i=if a[i]=b[j] then(0,i)::nL (a.drop (i+1)) (b.drop (j+1)) (i+1) else if Ay (a.drop i) (b.drop (j+1))≤Ay (a.drop (i+1)) (b.drop j) then(1,i)::nL (a.drop (i+1)) (b.drop j) (i+1) else(2,i)::nL (a.drop i) (b.drop (j+1)) i:=by
    rw[e1,e2];rfl
   rw[hw]
   by_cases h3:a[i]=b[j]
   ·rw[if_pos h3] at hs;rw[hs,if_pos h3];rfl
   ·rw[if_neg h3] at hs;rw[if_neg h3]
    by_cases h4:fU a b i (j+1)≤fU a b (i+1) j
    ·rw[if_pos h4] at hs;rw[hs,if_pos (show Ay (a.drop i) (b.drop (j+1))≤Ay (a.drop (i+1)) (b.drop j) from h4)];rfl
    ·rw[if_neg h4] at hs;rw[hs,if_neg (show ¬ Ay (a.drop i) (b.drop (j+1))≤Ay (a.drop (i+1)) (b.drop j) from h4)];rfl
  ·have Zj:j=b.length:=by omega
   rw[yC Zj];subst Zj;simp only[kL,nA,if_neg (show ¬ (1:Nat)=2 by decide),if_true,aG];rw[e1];rfl
 ·have nX:i=a.length:=by omega
  have h2:j<b.length:=by omega
  have e2:=zd h2;rw[yB h1 h2];subst nX;simp only[kL,nA,if_neg (show ¬ (2:Nat)=1 by decide),if_true,aG];rw[e2];rfl
theorem aB9{a b:List Gl}:(nU a b).length=a.length+1:=by simp[nU]
def aCa(a b:List Gl)(i:Nat):List (List D):=(List.range (b.length+1)).map fun j=>[.sc (.int .i64 (fU a b i j:Nat))]
theorem Yn{a b:List Gl}{i:Nat}:(aCa a b i).length=b.length+1:=by simp[aCa]
theorem Jv{a b:List Gl}{i:Nat}(hi:i<a.length+1):(nU a b).getD i []=[.sl fL (aCa a b i)]:=by
 rw[nU,zC,zK,zj hi];rfl
theorem Ej{a b:List Gl}{i j:Nat}(hj:j<b.length+1):(aCa a b i).getD j []=[.sc (.int .i64 (fU a b i j:Nat))]:=by
 rw[aCa,zC,zK,zj hj];rfl
structure WS(id:Nat)(a b:List Gl)(i j n:Nat)(sl:Nat→A):Prop where
 q0:sl 0 = .yld id
 q1:sl 1 = .iptr [.sl dW (cP a)]
 q2:sl 2 = .iptr [.sl dW (cP b)]
 q4:sl 4 = .d (.sl eW (nU a b))
 q5:sl 5 = .int i
 q6:sl 6 = .int j
 q7:sl 7 = .int n
 q8:sl 8 = .int i
def Jw(a b:List Gl):List (List A):=(nL a b 0).map fun p=>[.int p.1,.int p.2]
theorem Yo{a b:List Gl}:(Jw a b).length=(nL a b 0).length:=by simp[Jw]
theorem aGt{f fl:FuncId}(H:FnIs P f N [] (kA fl))(hN:3≤N)(a b:List Gl)(ha:a.length≤50000)(hb:b.length≤50000)(Hl:FnP Γ P fl [.d (.sl dW (cP a)),.d (.sl dW (cP b))] (.d (.sl eW (nU a b)))) :
  aBw Γ P f [.iptr [.sl dW (cP a)],.iptr [.sl dW (cP b)]] (Jw a b):=by
 refine⟨H.enters,fun env bb id I E rounds L h hI hL hbb=>?_⟩;refine .of_WT H (by simpa using hN) hbb (xP ?_);unfold kA;refine wR ?_;simp only[xq,reduceIte,qE,qA,qL,qD];refine dF Hl rfl ?_;simp only[xq,reduceIte,qE,qA,qL,qD];refine wR ?_;simp only[xq,reduceIte,qE,qA,qL,qD];refine cS ?_;let S:Nat→Nat→cM→St:=fun i j h=>⟨dB [(0,.yld id),(1,.iptr [.sl dW (cP a)]),(2,.iptr [.sl dW (cP b)]),(4,.d (.sl eW (nU a b))),(5,.int i),(6,.int j)],h⟩;refine dX (s':=S 0 0 h) (Co.keep _ (by simp[cJ,cK])) ?_;refine dN (fun m s=>∃ i j k L' h',i≤a.length∧j≤b.length∧m=(a.length-i)+(b.length-j)∧s=S i j h'∧k≤(nL a b 0).length∧(nL a b 0).drop k=nL (a.drop i) (b.drop j) i∧Turn L L' h h'∧I k L') ⟨0,0,0,L,h,zI _,zI _,rfl,rfl,zI _,rfl,.refl hL,hI⟩ ?_;rintro m s ⟨i,j,k,L',h',hi,hj,rfl,rfl,hk,hx,T,hI'⟩;let S1:Bool→St:=fun c=>⟨dB [(0,.yld id),(1,.iptr [.sl dW (cP a)]),(2,.iptr [.sl dW (cP b)]),(4,.d (.sl eW (nU a b))),(5,.int i),(6,.int j),(21,.bool c)],h'⟩;have hdi:decide ((i:Int)<(a.length:Int))=decide (i<a.length):=by rw[decide_eq_decide];omega
 have hdj:decide ((j:Int)<(b.length:Int))=decide (j<b.length):=by rw[decide_eq_decide];omega
 refine cN (lT (· = S1 (decide (i<a.length)||decide (j<b.length))) rfl (fun K hK=>?_) ?_)
 ·cases e:decide (i<a.length)
  ·simp only[xq,reduceIte,qE,qA,qL,qD,S,cR,hdi,hdj,e,cV,zE];refine hK _ _ (Co.keep _ ?_) rfl;simp only[e,Bool.false_or,Bool.true_or];simp[cJ,cK]
  ·simp only[xq,reduceIte,qE,qA,qL,qD,S,cR,hdi,hdj,e,cV,zE];refine hK _ _ (Co.keep _ ?_) rfl;simp only[e,Bool.false_or,Bool.true_or];simp[cJ,cK]
 rintro _ rfl;refine cL rfl (fun hc=>cQ ?_) (fun hc=>dJ ?_)
 ·have hor:i<a.length∨j<b.length:=by simpa using hc
  obtain⟨n,hn⟩:∃ n,n=pW a b i j:=⟨_,rfl⟩;have mO:=So hi hj hor;have hn2:n≤2:=by rw[hn];exact Lm
  rw[← hn] at mO;let T1:St:=⟨dB [(0,.yld id),(1,.iptr [.sl dW (cP a)]),(2,.iptr [.sl dW (cP b)]),(4,.d (.sl eW (nU a b))),(5,.int i),(6,.int j),(7,.int n),(8,.int i)],h'⟩;simp only[xq,reduceIte,qE,qA,qL,qD,S1];refine cS ?_;refine wR ?_;simp only[xq,reduceIte,qE,qA,qL,qD];refine eJ (· = T1) (cS ?_) ?_
  ·have ok:∀ (sl:Nat→A),WS id a b i j n sl→∃ s1,Co h.length ⟨sl,h'⟩ s1∧s1=T1:=fun sl hs=>⟨T1,Co.keep _ (by simp[hs.q0,hs.q1,hs.q2,hs.q4,hs.q5,hs.q6,hs.q7,hs.q8]),rfl⟩;have wi:IntKind.i64.wrap ((i:Int)+1)=((i+1:Nat):Int):=by rw[cX (by omega)];omega
   have wj:IntKind.i64.wrap ((j:Int)+1)=((j+1:Nat):Int):=by rw[cX (by omega)];omega
   have dj:decide ((j:Int)=(b.length:Int))=decide (j=b.length):=by rw[decide_eq_decide];omega
   by_cases h1:i<a.length
   ·have d1:decide (i<a.length)=true:=decide_eq_true h1;refine uE (by simp) fun K hK=>?_;simp only[zr,zP];refine eO (H:=h') 5 (fun sl=>WS id a b i j 2 sl∧sl 28 = .bool true) (fun K' hK'=>?_) ?_
    ·simp only[xq,reduceIte,qE,qA,qL,qD,cR,hdi,d1];exact hK' _ ⟨⟨rfl,rfl,rfl,rfl,rfl,rfl,rfl,rfl⟩,rfl⟩
    rintro sl ⟨q,h28⟩
    by_cases h2:j<b.length
    ·have d2:decide (j<b.length)=true:=decide_eq_true h2;have d3:decide (j=b.length)=false:=decide_eq_false (by omega);rw[Sn h1 h2] at hn;refine eO (H:=h') 6 (fun sl=>WS id a b i j 2 sl∧sl 34 = .bool true) (fun K' hK'=>eZ [(28,some true)] rfl (by simp[nR,h28]) ?_) ?_
     ·simp only[xq,reduceIte,qE,qA,qL,qD,gO,pE,aA,aB,aC,cR,hdj,d2,h28,q.q0,q.q1,q.q2,q.q4,q.q5,q.q6,q.q7,q.q8];exact hK' _ ⟨⟨q.q0,q.q1,q.q2,q.q4,q.q5,q.q6,q.q7,q.q8⟩,rfl⟩
     rintro sl ⟨q,h34⟩;refine eZ [(34,some true)] rfl (by simp[nR,h34]) ?_;simp only[xq,reduceIte,qE,qA,qL,qD,gO,pE,aA,aB,aC,h34,q.q0,q.q1,q.q2,q.q4,q.q5,q.q6,q.q7,q.q8,cR,eS h1,eS h2,Gl.row,Jn,zQ]
     repeat refine aH (by omega) ?_
     refine hK _ ?_;refine cL rfl (fun hd=>?_) (fun hd=>?_)
     ·have hd:a[i]=b[j]:=by simpa using hd
      rw[if_pos hd] at hn;refine cU ?_;simp only[xq,reduceIte,qE,qA,qL,qD];exact ok _ ⟨q.q0,q.q1,q.q2,q.q4,q.q5,q.q6,by rw[hn];rfl,q.q8⟩
     ·have hd:¬ a[i]=b[j]:=by simpa using hd
      rw[if_neg hd] at hn;have dl:decide (((fU a b i (j+1):Nat):Int)≤((fU a b (i+1) j:Nat):Int))=decide (fU a b i (j+1)≤fU a b (i+1) j):=by rw[decide_eq_decide];omega
      have e1:=Jv (a:=a) (b:=b) (show i<a.length+1 by omega);have e2:=Jv (a:=a) (b:=b) (show i+1<a.length+1 by omega);have e3:=Ej (a:=a) (b:=b) (i:=i+1) (show j<b.length+1 by omega);have e4:=Ej (a:=a) (b:=b) (i:=i) (show j+1<b.length+1 by omega);refine uE (by simp) fun K2 hK2=>?_;simp only[zr,zP];refine eO (H:=h') 5 (fun sl=>WS id a b i j 2 sl∧sl 50 = .bool false) (fun K' hK'=>?_) ?_
      ·simp only[xq,reduceIte,qE,qA,qL,qD,cR,dj,d3,q.q0,q.q1,q.q2,q.q4,q.q5,q.q6,q.q7,q.q8];exact hK' _ ⟨⟨q.q0,q.q1,q.q2,q.q4,q.q5,q.q6,q.q7,q.q8⟩,rfl⟩
      rintro sl ⟨q,Bk⟩;refine eO (H:=h') 5 (fun sl=>WS id a b i j 2 sl∧sl 50 = .bool false∧sl 55 = .bool true) (fun K' hK'=>eZ [(50,some false)] rfl (by simp[nR,Bk]) ?_) ?_
      ·simp only[xq,reduceIte,qE,qA,qL,qD,gO,pE,aA,aB,aC,cR,hdi,d1,Bk,q.q0,q.q1,q.q2,q.q4,q.q5,q.q6,q.q7,q.q8];exact hK' _ ⟨⟨q.q0,q.q1,q.q2,q.q4,q.q5,q.q6,q.q7,q.q8⟩,Bk,rfl⟩
      rintro sl ⟨q,Bk,h55⟩;refine eZ [(50,some false),(55,some true)] rfl (by simp[nR,Bk,h55]) ?_;simp only[xq,reduceIte,qE,qA,qL,qD,gO,pE,aA,aB,aC,Bk,h55,q.q0,q.q1,q.q2,q.q4,q.q5,q.q6,q.q7,q.q8,wi,wj,aB9,Yn,e1,e2,e3,e4,zQ,dl]
      repeat refine aH (by omega) ?_
      refine hK2 _ ?_;refine cL rfl (fun hd=>?_) (fun hd=>cQ ?_)
      ·have hd:=of_decide_eq_true hd;rw[if_pos hd] at hn;refine cU ?_;simp only[xq,reduceIte,qE,qA,qL,qD];exact ok _ ⟨q.q0,q.q1,q.q2,q.q4,q.q5,q.q6,by rw[hn];rfl,q.q8⟩
      ·have hd:=of_decide_eq_false hd;rw[if_neg hd] at hn;exact⟨rfl,ok _ ⟨q.q0,q.q1,q.q2,q.q4,q.q5,q.q6,by rw[hn];exact q.q7,q.q8⟩⟩
    ·have hj2:j=b.length:=by omega
     have d2:decide (j<b.length)=false:=decide_eq_false h2;have d3:decide (j=b.length)=true:=decide_eq_true hj2;rw[yC hj2] at hn;refine eO (H:=h') 6 (fun sl=>WS id a b i j 2 sl∧sl 34 = .bool false) (fun K' hK'=>eZ [(28,some true)] rfl (by simp[nR,h28]) ?_) ?_
     ·simp only[xq,reduceIte,qE,qA,qL,qD,gO,pE,aA,aB,aC,cR,hdj,d2,h28,q.q0,q.q1,q.q2,q.q4,q.q5,q.q6,q.q7,q.q8];exact hK' _ ⟨⟨q.q0,q.q1,q.q2,q.q4,q.q5,q.q6,q.q7,q.q8⟩,rfl⟩
     rintro sl ⟨q,h34⟩;refine eZ [(34,some false)] rfl (by simp[nR,h34]) ?_;simp only[xq,reduceIte,qE,qA,qL,qD,gO,pE,aA,aB,aC,aF,h34];refine hK _ ?_;refine cL rfl (fun hd=>by cases hd) (fun hd=>?_);refine uE (by simp) fun K2 hK2=>?_;simp only[zr,zP];refine eO (H:=h') 5 (fun sl=>WS id a b i j 2 sl∧sl 50 = .bool true) (fun K' hK'=>?_) ?_
     ·simp only[xq,reduceIte,qE,qA,qL,qD,cR,dj,d3,q.q0,q.q1,q.q2,q.q4,q.q5,q.q6,q.q7,q.q8];exact hK' _ ⟨⟨q.q0,q.q1,q.q2,q.q4,q.q5,q.q6,q.q7,q.q8⟩,rfl⟩
     rintro sl ⟨q,Bk⟩;refine eO (H:=h') 5 (fun sl=>WS id a b i j 2 sl∧sl 50 = .bool true∧sl 55=cV) (fun K' hK'=>eZ [(50,some true)] rfl (by simp[nR,Bk]) ?_) ?_
     ·simp only[xq,reduceIte,qE,qA,qL,qD,gO,pE,aA,aB,aC,zE];exact hK' _ ⟨⟨q.q0,q.q1,q.q2,q.q4,q.q5,q.q6,q.q7,q.q8⟩,Bk,rfl⟩
     rintro sl ⟨q,Bk,h55⟩;refine eZ [(50,some true),(55,none)] rfl (by simp[nR,Bk,h55]) ?_;simp only[xq,reduceIte,qE,qA,qL,qD,gO,pE,aA,aB,aC,zE,Bk];refine hK2 _ ?_;refine cL rfl (fun hd=>?_) (fun hd=>by cases hd);refine cU ?_;simp only[xq,reduceIte,qE,qA,qL,qD];exact ok _ ⟨q.q0,q.q1,q.q2,q.q4,q.q5,q.q6,by rw[hn];rfl,q.q8⟩
   ·have h2:j<b.length:=by omega
    have d1:decide (i<a.length)=false:=decide_eq_false h1;have d3:decide (j=b.length)=false:=decide_eq_false (by omega);rw[yB h1 h2] at hn;refine uE (by simp) fun K hK=>?_;simp only[zr,zP];refine eO (H:=h') 5 (fun sl=>WS id a b i j 2 sl∧sl 28 = .bool false) (fun K' hK'=>?_) ?_
    ·simp only[xq,reduceIte,qE,qA,qL,qD,cR,hdi,d1];exact hK' _ ⟨⟨rfl,rfl,rfl,rfl,rfl,rfl,rfl,rfl⟩,rfl⟩
    rintro sl ⟨q,h28⟩;refine eO (H:=h') 6 (fun sl=>WS id a b i j 2 sl∧sl 34 = .bool false) (fun K' hK'=>eZ [(28,some false)] rfl (by simp[nR,h28]) ?_) ?_
    ·simp only[xq,reduceIte,qE,qA,qL,qD,gO,pE,aA,aB,aC,aF,h28];exact hK' _ ⟨⟨q.q0,q.q1,q.q2,q.q4,q.q5,q.q6,q.q7,q.q8⟩,rfl⟩
    rintro sl ⟨q,h34⟩;refine eZ [(34,some false)] rfl (by simp[nR,h34]) ?_;simp only[xq,reduceIte,qE,qA,qL,qD,gO,pE,aA,aB,aC,aF,h34];refine hK _ ?_;refine cL rfl (fun hd=>by cases hd) (fun hd=>?_);refine uE (by simp) fun K2 hK2=>?_;simp only[zr,zP];refine eO (H:=h') 5 (fun sl=>WS id a b i j 2 sl∧sl 50 = .bool false) (fun K' hK'=>?_) ?_
    ·simp only[xq,reduceIte,qE,qA,qL,qD,cR,dj,d3,q.q0,q.q1,q.q2,q.q4,q.q5,q.q6,q.q7,q.q8];exact hK' _ ⟨⟨q.q0,q.q1,q.q2,q.q4,q.q5,q.q6,q.q7,q.q8⟩,rfl⟩
    rintro sl ⟨q,Bk⟩;refine eO (H:=h') 5 (fun sl=>WS id a b i j 2 sl∧sl 50 = .bool false∧sl 55 = .bool false) (fun K' hK'=>eZ [(50,some false)] rfl (by simp[nR,Bk]) ?_) ?_
    ·simp only[xq,reduceIte,qE,qA,qL,qD,gO,pE,aA,aB,aC,cR,hdi,d1,Bk,q.q0,q.q1,q.q2,q.q4,q.q5,q.q6,q.q7,q.q8];exact hK' _ ⟨⟨q.q0,q.q1,q.q2,q.q4,q.q5,q.q6,q.q7,q.q8⟩,Bk,rfl⟩
    rintro sl ⟨q,Bk,h55⟩;refine eZ [(50,some false),(55,some false)] rfl (by simp[nR,Bk,h55]) ?_;simp only[xq,reduceIte,qE,qA,qL,qD,gO,pE,aA,aB,aC,aF,Bk,h55];refine hK2 _ ?_;refine cL rfl (fun hd=>by cases hd) (fun hd=>cQ ?_);exact⟨rfl,ok _ ⟨q.q0,q.q1,q.q2,q.q4,q.q5,q.q6,by rw[hn];exact q.q7,q.q8⟩⟩
  rintro _ rfl;have wi:IntKind.i64.wrap ((i:Int)+1)=((i+1:Nat):Int):=by rw[cX (by omega)];omega
  have wj:IntKind.i64.wrap ((j:Int)+1)=((j+1:Nat):Int):=by rw[cX (by omega)];omega
  let T2:St:=⟨dB [(0,.yld id),(1,.iptr [.sl dW (cP a)]),(2,.iptr [.sl dW (cP b)]),(4,.d (.sl eW (nU a b))),(5,.int (kL n i:Nat)),(6,.int j),(7,.int n),(8,.int i)],h'⟩;let T3:St:=⟨dB [(0,.yld id),(1,.iptr [.sl dW (cP a)]),(2,.iptr [.sl dW (cP b)]),(4,.d (.sl eW (nU a b))),(5,.int (kL n i:Nat)),(6,.int (nA n j:Nat)),(7,.int n),(8,.int i)],h'⟩;have d2:decide ((n:Int)=2)=decide (n=2):=by rw[decide_eq_decide];omega
  have d1:decide ((n:Int)=1)=decide (n=1):=by rw[decide_eq_decide];omega
  refine eJ (· = T2) ?_ ?_
  ·simp only[T1];refine wR ?_;simp only[xq,reduceIte,qE,qA,qL,qD,d2];refine cL rfl (fun hd=>cU ?_) (fun hd=>cQ ?_)
   ·have hd:¬ n=2:=by simpa using hd
    simp only[xq,reduceIte,qE,qA,qL,qD,wi];refine⟨T2,Co.keep _ ?_,rfl⟩;simp[cJ,cK,kL,hd]
   ·have hd:n=2:=by simpa using hd
    refine⟨rfl,T2,Co.keep _ ?_,rfl⟩;simp[cJ,cK,kL,hd]
  rintro _ rfl;refine eJ (· = T3) ?_ ?_
  ·simp only[T2];refine wR ?_;simp only[xq,reduceIte,qE,qA,qL,qD,d1];refine cL rfl (fun hd=>cU ?_) (fun hd=>cQ ?_)
   ·have hd:¬ n=1:=by simpa using hd
    simp only[xq,reduceIte,qE,qA,qL,qD,wj];refine⟨T3,Co.keep _ ?_,rfl⟩;simp[cJ,cK,nA,hd]
   ·have hd:n=1:=by simpa using hd
    refine⟨rfl,T3,Co.keep _ ?_,rfl⟩;simp[cJ,cK,nA,hd]
  rintro _ rfl;have hks:k<(nL a b 0).length:=by
   have:=congrArg List.length (hx.trans mO);simp at this;omega
  have hgk:(Jw a b)[k]? = some [.int n,.int i]:=by
   have:(nL a b 0)[k]? = some (n,i):=by
    have h0:=congrArg (fun l=>l[0]?) (hx.trans mO);simpa using h0
   rw[Jw,zK,this];rfl
  have hxn:(nL a b 0).drop (k+1)=nL (a.drop (kL n i)) (b.drop (nA n j)) (kL n i):=by
   have:=congrArg (aA 1) (hx.trans mO);simpa[List.drop_drop,Nat.add_comm] using this
  have bnd:kL n i≤a.length∧nA n j≤b.length∧(a.length-kL n i)+(b.length-nA n j)<(a.length-i)+(b.length-j):=by
   have h3:n≠2→i<a.length:=fun h=>by
    rcases aD i a.length with h' | h'
    ·exact h'
    ·exact absurd (hn.trans (yB (by omega) (by omega))) h
   have h4:n≠1→j<b.length:=fun h=>by
    rcases aD j b.length with h' | h'
    ·exact h'
    ·exact absurd (hn.trans (yC (by omega))) h
   simp only[kL,nA];have:n=0∨n=1∨n=2:=by omega
   rcases this with h | h | h
   ·have:=h3 (by omega);have:=h4 (by omega);rw[if_neg (by omega),if_neg (by omega)];omega
   ·have:=h3 (by omega);rw[if_neg (by omega),if_pos h];omega
   ·have:=h4 (by omega);rw[if_pos h,if_neg (by omega)];omega
  simp only[T3];refine wR ?_;simp only[xq,reduceIte,qE,qA,qL,qD];have Dy:bb≤h'.length:=by have:=T.len;omega
  rcases rounds _ _ L' _ hgk hI' T.has Dy with⟨L2,h2,hR,T2',hI2⟩ | ⟨L2,h2,hR,T2',hE2⟩
  ·refine wL hR ?_;simp only[xq,reduceIte,qE,qA,qL,qD];refine cL rfl (fun hd=>by cases hd) (fun _=>cQ ?_);simp only[xq,reduceIte,qE,qA,qL,qD];exact⟨_,S (kL n i) (nA n j) h2,bnd.2.2,Co.keep _ (by simp[cJ,cK]),kL n i,nA n j,k+1,L2,h2,bnd.1,bnd.2.1,rfl,rfl,hks,hxn,T.trans T2',hI2⟩
  ·refine wL hR ?_;simp only[xq,reduceIte,qE,qA,qL,qD];refine cL rfl (fun _=>cT ?_) (fun hd=>by cases hd);simp only[xq,reduceIte,qE,qA,qL,qD];refine⟨.inr trivial,?_⟩;simp only[dK];exact⟨L2,T.trans T2',.inr hE2⟩
 ·simp only[Bool.or_eq_false_iff,decide_eq_false_iff_not] at hc;have h1:i=a.length:=by omega
  have h2:j=b.length:=by omega
  subst h1 h2;simp only[aG,nL,zV] at hx;have Mt:k=(nL a b 0).length:=by
   have:=congrArg List.length hx;simp at this;omega
  simp only[xq,reduceIte,qE,qA,qL,qD,S1];refine⟨.inl trivial,?_⟩;simp only[dK];exact⟨L',T,.inl (by rw[Yo,← Mt];exact hI')⟩
end
section
variable {P:Program}{N:Nat}{Γ:dP}
theorem aK9{f f1:FuncId}(H:FnIs P f N [.t 4] (lJ f1))(hN:2≤N)(a b:List Gl):FnP Γ P f [.d (.sl dW (cP a)),.d (.sl dW (cP b))] (.fn f1 [.iptr [.sl dW (cP a)],.iptr [.sl dW (cP b)]]):=by
 refine .of_W H (by simpa using hN) ?_;unfold lJ;refine wR ?_;simp only[xq,reduceIte,qE,qA,qL,qD];refine wR ?_;simp only[xq,reduceIte,qE,qA,qL,qD];refine cT (.frz ?_);simp only[xq,reduceIte,qE,qA,qL,qD];refine .fn rfl fun j y hj=>?_;rcases j with _ | _ | j
 ·cases hj;refine FrzA.iptr (rows:=[[.d (.sl dW (cP a))]]) (i:=0) (off:=0) (id:=0) (zI 0) rfl rfl fun k d hk=>?_;cases k with
  | zero=>cases hk;exact⟨by simp,.d _⟩
  | succ k=>simp at hk
 ·cases hj;refine FrzA.iptr (rows:=[[.d (.sl dW (cP b))]]) (i:=0) (off:=0) (id:=1) (zI 1) rfl rfl fun k d hk=>?_;cases k with
  | zero=>cases hk;exact⟨by simp,.d _⟩
  | succ k=>simp at hk
 ·simp at hj
theorem Az:∀ (a b:List Gl) (i:Nat),(nL a b i).length≤a.length+b.length
 | [],b,i=>by simp[nL]
 | x::a,b,i=>by
  rw[nL]
  induction b generalizing i with
  | nil =>
   have:=Az a [] (i+1);simp only[aGe,za,List.length_nil] at this ⊢;omega
  | cons y b ih =>
   have h1:=Az a b (i+1);have h2:=Az a (y::b) (i+1);have h3:=ih i;simp only[aGe,za] at h1 h2 h3 ⊢;split
   ·simp only[za];omega
   ·split
    ·simp only[za];omega
    ·simp only[za];omega
abbrev tD:Elt:=⟨3,40⟩
abbrev eB1:Elt:=⟨1,1⟩
def aIK(e:Edt):List D:=[.sc (.int .i64 e.at'),.sc (.int .i64 e.del),.sl dW (cP e.ins)]
def pX(l:List Edt):List (List D):=l.map aIK
theorem vS{l:List Edt}:(pX l).length=l.length:=by simp[pX]
theorem aCb{l:List Edt}{i:Nat}(hi:i<l.length):(pX l).getD i []=aIK l[i]:=by
 rw[pX,zC,zK,zB hi];rfl
abbrev Bx(e:Edt)(y:A):List A:=[.int e.at',.int e.del,y]
def aL4(T:List (Nat × HB))(y:A)(l:List Gl):Prop:=(y = .nil∧l=[])∨∃ p,y = .ref p l.length 0 l.length true∧(p,eY l)∈T
def aAr(R:List (List A))(l:List Edt)(T:List (Nat × HB)):Prop:=R.length=l.length∧∀ (i:Nat) (e:Edt),l[i]? = some e→∃ y,R[i]? = some (Bx e y)∧aL4 T y e.ins
def aL5(C:List (List A))(cur:Option Edt)(T3 T4:List (Nat × HB)):Prop :=
 (cur=none∧C=[]∧T4=[])∨∃ e y,cur=some e∧C=[Bx e y]∧((y = .nil∧e.ins=[]∧T4=[])∨∃ p,y = .ref p e.ins.length 0 e.ins.length true∧T4=[(p,eY e.ins)]∧p ∉ mP T3)
def ScT(x:A)(T:List (Nat × HB))(es:List Edt)(cur:Option Edt):Prop :=
 (x = .nil∧T=[]∧es=[]∧cur=none)∨∃ q R C T3 T4,x = .ref q (R++C).length 0 (R++C).length true∧T=(q,.cells tD (R++C))::(T3++T4)∧aAr R es T3∧aL5 C cur T3 T4∧∀ p∈T3,∃ l,p.2=eY l
abbrev scL(b:List Gl)(x:A)(o:Bool)(j:Nat)(T:List (Nat × HB)):List (Nat × HB) :=
 (0,.cells eW [[.d (.sl dW (cP b))]])::(1,.cells eW [[x]])::(2,.cells eB1 [[.bool o]])::(3,.cells fL [[.int j]])::T
theorem aAr.mono{R:List (List A)}{l:List Edt}{T T':List (Nat × HB)}(h:aAr R l T)(ht:∀ p∈T,p∈T'):aAr R l T' :=
 ⟨h.1,fun i e hi=>by
  obtain⟨y,h1,h2⟩:=h.2 i e hi;refine⟨y,h1,?_⟩;rcases h2 with h2 | ⟨p,h2,h3⟩
  ·exact .inl h2
  ·exact .inr ⟨p,h2,ht _ h3⟩⟩
theorem ScT.close{x:A}{T:List (Nat × HB)}{es:List Edt}{cur:Option Edt}(h:ScT x T es cur):ScT x T (es++cur.toList) none:=by
 rcases h with⟨rfl,rfl,rfl,rfl⟩ | ⟨q,R,C,T3,T4,rfl,rfl,hR,hC,h3⟩
 ·exact .inl ⟨rfl,rfl,rfl,rfl⟩
 ·refine .inr ⟨q,R++C,[],T3++T4,[],by simp,by simp,?_,.inl ⟨rfl,rfl,rfl⟩,fun p hp=>?_⟩
  ·rcases hC with⟨rfl,rfl,rfl⟩ | ⟨e,y,rfl,rfl,hy⟩
   ·simpa using hR
   ·refine⟨by simp[hR.1],fun i e' hi=>?_⟩;rcases aD i es.length with cY | vX
    ·rw[zF cY] at hi;obtain⟨y',h1,h2⟩:=(hR.mono (T':=T3++T4) (fun p hp=>List.mem_append_left _ hp)).2 i e' hi;exact⟨y',by rw[zF (by rw[hR.1];exact cY)];exact h1,h2⟩
    ·rw[zG vX] at hi;have h0:i-es.length=0:=by
      have:=(zA.1 hi).1;simp at this;omega
     rw[h0] at hi;simp at hi;subst hi;refine⟨y,by rw[zG (by rw[hR.1];exact vX),hR.1,h0];rfl,?_⟩;rcases hy with⟨rfl,h1,_⟩ | ⟨p,rfl,rfl,_⟩
     ·exact .inl ⟨rfl,h1⟩
     ·exact .inr ⟨p,rfl,by simp⟩
  ·rcases aE.1 hp with hp | hp
   ·exact h3 p hp
   ·rcases hC with⟨rfl,rfl,rfl⟩ | ⟨e,y,rfl,rfl,hy⟩
    ·simp at hp
    ·rcases hy with⟨rfl,_,rfl⟩ | ⟨p',rfl,rfl,_⟩
     ·simp at hp
     ·simp at hp;subst hp;exact⟨_,rfl⟩
def qF(L:List (Nat × HB))(id:Nat)(Y:HB):List (Nat × HB):=L.map fun p=>if p.1=id then(id,Y) else p
theorem nB{L:List (Nat × HB)}{id:Nat}{Y:HB}:mP (qF L id Y)=mP L:=by
 simp only[mP,qF,List.map_map];apply aL;intro p _;simp only[Function.comp];split
 ·rename_i h;exact h.symm
 ·rfl
theorem Pv{L:List (Nat × HB)}{id:Nat}{Y:HB}(h:∀ p∈L,p.1≠id):qF L id Y=L:=by
 rw[qF]
 conv=>rhs;rw[← List.map_id L]
 apply aL;intro p hp;rw[if_neg (h p hp)];rfl
theorem yD{L:List (Nat × HB)}{p id:Nat}{B Y:HB}:qF ((p,B)::L) id Y=(if p=id then(id,Y) else(p,B))::qF L id Y:=rfl
theorem Turn.upd{L:List (Nat × HB)}{h:cM}{id:Nat}(Y:HB)(hL:Ky L h)(hi:id∈mP L):Turn L (qF L id Y) h (h.set id Y):=by
 have cY:id<h.length:=by
  obtain⟨p,hp,rfl⟩:=aI.1 hi;exact(zA.1 (hL p hp)).1
 refine⟨fun p hp=>?_,by simp,fun q _ hn=>?_,fun q hq=>.inl (by rwa [nB] at hq)⟩
 ·obtain⟨p0,hp0,rfl⟩:=aI.1 hp;split
  ·exact List.getElem?_set_self cY
  ·rename_i fM;rw[zM (Ne.symm fM)];exact hL p0 hp0
 ·rw[zM];rintro rfl;exact hn hi
theorem Turn.behind{L:List (Nat × HB)}{h:cM}(t:cM)(hL:Ky L h):Turn L L h (h++t) :=
 ⟨fun p hp=>fB (hL p hp),by simp,fun q hq _=>zF hq,fun q hq=>.inl hq⟩
theorem Turn.push{L:List (Nat × HB)}{h t:cM}(k:Nat){B:HB}(hk:t[k]? = some B)(hL:Ky L h):Turn L (L++[(h.length+k,B)]) h (h++t):=by
 refine⟨fun p hp=>?_,by simp,fun q hq _=>zF hq,fun q hq=>?_⟩
 ·rcases aE.1 hp with hp | hp
  ·exact fB (hL p hp)
  ·simp at hp;subst hp;rw[fC];exact hk
 ·simp only[mP,List.map_append,zU,zV,aE,List.mem_singleton] at hq;rcases hq with hq | hq
  ·exact .inl hq
  ·exact .inr (by omega)
theorem iO{h:cM}{p q:Nat}{e e':Elt}{r r':List (List A)}(hp:h[p]? = some (.cells e r))(hq:h[q]? = some (.cells e' r'))(fM:e≠e'):p≠q:=by
 rintro rfl;rw[hp] at hq;cases hq;exact fM rfl
theorem Dd{T:List (Nat × HB)}{h:cM}{id:Nat}{Y:HB}{e:Elt}{r:List (List A)}(hT:∀ p∈T,∃ l,p.2=eY l)(hh:Ky T h)(hi:h[id]? = some (.cells e r))(he:dW≠e):qF T id Y=T :=
 Pv fun p hp=>by
  obtain⟨l,hl⟩:=hT p hp;have:=hh p hp;rw[hl] at this;exact iO this hi he
def Gs:XC :=
(.seq (.reg [
   { dst:=some 20,op:=.load 1 false (.t 6) },
   { dst:=some 21,op:=.un .not (.t 20) }])
  (.cond (.t 21)
   (.seq (.reg [
    { dst:=some 22,op:=.load 1 false (.t 5) },
    { dst:=some 23,op:=.mov (.t 9) },
    { dst:=some 24,op:=.build [(.int 0),(.int 0),.nil] [(0,1,(.t 23))] },
    { dst:=some 25,op:=.bslice ⟨3,40⟩ [(.int 0),(.int 0),.nil] 1 [(0,(.t 24))] },
    { dst:=some 26,op:=.append ⟨3,40⟩ (.t 22) (.t 25) },
    { dst:=none,op:=.store 1 (.t 5) (.t 26) }])
   (.reg [
    { dst:=none,op:=.store 1 (.t 6) (.k (.bool true)) }]))
   .skip))
def Gt:XC :=
(.seq (.reg [
   { dst:=some 27,op:=.load 1 false (.t 5) },
   { dst:=some 28,op:=.load 1 false (.t 5) },
   { dst:=some 29,op:=.len false (.t 28) },
   { dst:=some 30,op:=.bin .sub (.t 29) (.k (.int 1)) },
   { dst:=some 31,op:=.iaddr ⟨3,40⟩ (.t 27) (.t 30) },
   { dst:=some 10,op:=.mov (.t 31) }])
  (.seq (.seq (.reg [
   { dst:=some 32,op:=.mov (.t 8) },
   { dst:=some 33,op:=.bin .eql (.t 32) (.k (.int 1)) }])
  (.cond (.t 33)
   (.seq (.reg [
    { dst:=some 34,op:=.mov (.t 10) },
    { dst:=some 35,op:=.nilck (.t 34) },
    { dst:=some 36,op:=.faddr 1 (.t 35) },
    { dst:=some 37,op:=.load 1 false (.t 36) },
    { dst:=some 38,op:=.bin .add (.t 37) (.k (.int 1)) },
    { dst:=some 39,op:=.nilck (.t 34) },
    { dst:=some 40,op:=.faddr 1 (.t 39) },
    { dst:=none,op:=.store 1 (.t 40) (.t 38) }])
   (.exit 1))
   .skip))
  (.seq (.drw 2 [
   { dst:=some 41,op:=.mov (.t 10) },
   { dst:=some 42,op:=.mov (.t 10) },
   { dst:=some 43,op:=.nilck (.t 42) },
   { dst:=some 44,op:=.faddr 2 (.t 43) },
   { dst:=some 45,op:=.load 1 false (.t 44) },
   { dst:=some 46,op:=.load 1 false (.t 3) },
   { dst:=some 47,op:=.load 1 false (.t 7) },
   { dst:=some 48,op:=.iaddr ⟨3,32⟩ (.t 46) (.t 47) },
   { dst:=some 49,op:=.load 3 true (.t 48) },
   { dst:=some 50,op:=.bslice ⟨3,32⟩ [(.str ⟨#[]⟩),(.bool false),(.int 0)] 1 [(0,(.t 49))],pl:=some 0 },
   { dst:=some 51,op:=.append ⟨3,32⟩ (.t 45) (.t 50),pl:=some 1 },
   { dst:=some 52,op:=.nilck (.t 41) },
   { dst:=some 53,op:=.faddr 2 (.t 52) },
   { dst:=none,op:=.store 1 (.t 53) (.t 51) }])
  (.reg [
   { dst:=some 54,op:=.load 1 false (.t 7) },
   { dst:=some 55,op:=.bin .add (.t 54) (.k (.int 1)) },
   { dst:=none,op:=.store 1 (.t 7) (.t 55) }]))))
structure SS(sl:Nat→A)(s i:Nat):Prop where
 s3:sl 3 = .ptr 0 1 0 0
 s5:sl 5 = .ptr 1 1 0 0
 s6:sl 6 = .ptr 2 1 0 0
 s7:sl 7 = .ptr 3 1 0 0
 s8:sl 8 = .int s
 s9:sl 9 = .int i
theorem aIL{C:List (List A)}{cur:Option Edt}{T3 T4:List (Nat × HB)}(h:aL5 C cur T3 T4):∀ p∈T4,∃ l,p.2=eY l:=by
 intro p hp;rcases h with⟨rfl,rfl,rfl⟩ | ⟨e,y,rfl,rfl,hy⟩
 ·simp at hp
 ·rcases hy with⟨rfl,_,rfl⟩ | ⟨p',rfl,rfl,_⟩
  ·simp at hp
  ·simp at hp;subst hp;exact⟨_,rfl⟩
theorem aNv{b:List Gl}{x:A}{T:List (Nat × HB)}{es:List Edt}{cur:Option Edt}{j s i:Nat}{h:cM}(hS:ScT x T es cur)(hL:Ky (scL b x cur.isSome j T) h)(hn:es.length≤1000000) :
  ∃ x1 T1 h1,ScT x1 T1 es (some (cur.getD ⟨i,0,[]⟩))∧Turn (scL b x cur.isSome j T) (scL b x1 true j T1) h h1 ∧
   ∀ (sl:Nat→A) (q:SS sl s i) (Δ:Ctx) (rl:Option Nat) (n:Nat),W Δ P N rl n Gs (fun e s'=>e = .normal∧SS s'.slots s i∧s'.heap=h1) ⟨sl,h⟩:=by
 have g1:h[1]? = some (.cells eW [[x]]):=hL (1,_) (by simp);have g2:h[2]? = some (.cells eB1 [[.bool cur.isSome]]):=hL (2,_) (by simp);cases cur with
 | some e =>
  refine⟨x,T,h,hS,.refl hL,fun sl q Δ rl n=>?_⟩;unfold Gs;refine wR ?_;simp only[xq,reduceIte,qE,qA,qL,qD,q.s6,g2];refine cL rfl (fun hd=>by cases hd) (fun hd=>cQ ?_);exact⟨rfl,⟨q.s3,q.s5,q.s6,q.s7,q.s8,q.s9⟩,rfl⟩
 | none =>
  rcases hS with⟨rfl,rfl,rfl,_⟩ | ⟨k,R,C,T3,T4,rfl,rfl,hR,hC,h3⟩
  ·obtain⟨B,hB⟩:∃ B:HB,B = .cells tD [Bx ⟨i,0,[]⟩ .nil]:=⟨_,rfl⟩;let x1:A:=.ref (h.length+1) 1 0 1 true;have hl1:1<h.length:=(zA.1 g1).1;have hl2:2<h.length:=(zA.1 g2).1;refine⟨x1,[(h.length+1,B)],(h.set 1 (.cells eW [[x1]])).set 2 (.cells eB1 [[.bool true]])++[B,B],?_,?_,fun sl q Δ rl n=>?_⟩
   ·exact .inr ⟨h.length+1,[],[Bx ⟨i,0,[]⟩ .nil],[],[],rfl,by rw[hB];rfl,⟨rfl,fun i e hi=>by simp at hi⟩,.inr ⟨_,_,rfl,rfl,.inl ⟨rfl,rfl,rfl⟩⟩,fun p hp=>by simp at hp⟩
   ·have t1:=Turn.upd (.cells eW [[x1]]) hL (by simp[mP]:1∈mP _);have t2:=Turn.upd (.cells eB1 [[.bool true]]) t1.has (by rw[nB];simp[mP]:2∈mP _);have t3:=Turn.push (t:=[B,B]) 1 rfl t2.has;have:=(t1.trans t2).trans t3;simpa[qF] using this
   ·unfold Gs;have e1:∀ t:cM,(h++t)[1]? = some (.cells eW [[A.nil]]):=fun t=>fB g1;have s1:∀ (t:cM) X,(h++t).set 1 X=h.set 1 X++t:=fun t X=>Br hl1;have e2:∀ (t:cM) X,(h.set 1 X++t)[2]? = some (.cells eB1 [[A.bool false]]):=fun t X=>vR (by decide) g2;have s2:∀ (t:cM) X Y,(h.set 1 X++t).set 2 Y=(h.set 1 X).set 2 Y++t:=fun t X Y=>zu _ _ (by simpa using hl2);refine wR ?_;simp only[xq,reduceIte,qE,qA,qL,qD,q.s6,g2];refine cL rfl (fun hd=>?_) (fun hd=>by cases hd);refine wR ?_;simp only[xq,reduceIte,qE,qA,qL,qD,q.s5,q.s9,g1,e1,s1,dA,fC,zS]
    repeat refine aH (by omega) ?_
    rw[if_neg (by simp)];refine⟨by decide,by decide,?_⟩;refine cU ?_;simp only[xq,reduceIte,qE,qA,qL,qD,q.s6,e2,s2];exact⟨⟨q.s3,q.s5,q.s6,q.s7,q.s8,q.s9⟩,by rw[hB];rfl⟩
  ·obtain⟨rfl,rfl⟩:C=[]∧T4=[]:=by
    rcases hC with⟨_,h1,h2⟩ | ⟨e,y,h1,_⟩
    ·exact⟨h1,h2⟩
    ·cases h1
   simp only[zP,Option.isSome_none] at hL g1 g2 ⊢;obtain⟨B,hB⟩:∃ B:HB,B = .cells tD [Bx ⟨i,0,[]⟩ .nil]:=⟨_,rfl⟩;let R1:List (List A):=R++[Bx ⟨i,0,[]⟩ .nil];let x1:A:=.ref k (R.length+1) 0 (R.length+1) true;have gk:h[k]? = some (.cells tD R):=hL (k,_) (by simp);have hl1:1<h.length:=(zA.1 g1).1;have hl2:2<h.length:=(zA.1 g2).1;have hlk:k<h.length:=(zA.1 gk).1;have g0:h[0]? = some (.cells eW [[.d (.sl dW (cP b))]]):=hL (0,_) (by simp);have g3:h[3]? = some (.cells fL [[.int j]]):=hL (3,_) (by simp);have k0:k≠0:=iO gk g0 (by simp);have k1:k≠1:=iO gk g1 (by simp);have k2:k≠2:=iO gk g2 (by simp);have k3:k≠3:=iO gk g3 (by simp);have hT:Ky T3 h:=fun p hp=>hL p (by simp[hp]);have hRl:=hR.1;refine⟨x1,(k,.cells tD R1)::T3,((h.set k (.cells tD R1)).set 1 (.cells eW [[x1]])).set 2 (.cells eB1 [[.bool true]])++[B],?_,?_,fun sl q Δ rl n=>?_⟩
   ·exact .inr ⟨k,R,[Bx ⟨i,0,[]⟩ .nil],T3,[],by simp[x1],by simp[R1],hR,.inr ⟨_,_,rfl,rfl,.inl ⟨rfl,rfl,rfl⟩⟩,h3⟩
   ·have t0:=Turn.upd (.cells tD R1) hL (by simp[mP]:k∈mP _);have t1:=Turn.upd (.cells eW [[x1]]) t0.has (by rw[nB];simp[mP]:1∈mP _);have t2:=Turn.upd (.cells eB1 [[.bool true]]) t1.has (by rw[nB,nB];simp[mP]:2∈mP _);have t3:=Turn.behind [B] t2.has;have:=((t0.trans t1).trans t2).trans t3;have u0:qF T3 k (.cells tD R1)=T3:=Dd h3 hT gk (by simp);have u1:qF T3 1 (.cells eW [[x1]])=T3:=Dd h3 hT g1 (by simp);have u2:qF T3 2 (.cells eB1 [[.bool true]])=T3:=Dd h3 hT g2 (by simp);have hE:qF (qF (qF (scL b (.ref k R.length 0 R.length true) false j ((k,.cells tD R)::T3)) k (.cells tD R1)) 1 (.cells eW [[x1]])) 2 (.cells eB1 [[.bool true]])=scL b x1 true j ((k,.cells tD R1)::T3):=by
     simp only[scL,yD,u0,u1,u2,if_neg (Ne.symm k0),if_neg (Ne.symm k1),if_neg (Ne.symm k2),if_neg (Ne.symm k3),if_neg k1,if_neg k2,reduceIte,qE]
    rw[hE] at this;exact this
   ·unfold Gs;have e1:∀ t:cM,(h++t)[1]? = some (.cells eW [[.ref k R.length 0 R.length true]]):=fun t=>fB g1;have ek:∀ t:cM,(h++t)[k]? = some (.cells tD R):=fun t=>fB gk;have sk:∀ (t:cM) X,(h++t).set k X=h.set k X++t:=fun t X=>Br hlk;have e1':∀ (t:cM) X,(h.set k X++t)[1]? = some (.cells eW [[.ref k R.length 0 R.length true]]):=fun t X=>vR k1 g1;have s1:∀ (t:cM) X Y,(h.set k X++t).set 1 Y=(h.set k X).set 1 Y++t:=fun t X Y=>zu _ _ (by simpa using hl1);have e2:∀ (t:cM) X Y,((h.set k X).set 1 Y++t)[2]? = some (.cells eB1 [[A.bool false]]):=fun t X Y=>vR (by decide) (by rw[zM k2];exact g2);have s2:∀ (t:cM) X Y Z,((h.set k X).set 1 Y++t).set 2 Z=((h.set k X).set 1 Y).set 2 Z++t:=fun t X Y Z=>zu _ _ (by simpa using hl2);refine wR ?_;simp only[xq,reduceIte,qE,qA,qL,qD,q.s6,g2];refine cL rfl (fun hd=>?_) (fun hd=>by cases hd);refine wR ?_;simp only[xq,reduceIte,qE,qA,qL,qD,q.s5,q.s9,g1,e1,ek,sk,e1',s1,dA,fC,zS]
    repeat refine aH (by omega) ?_
    refine⟨by simp only[dL];omega,by simp only[maxLen];omega,?_⟩;refine cU ?_;simp only[xq,reduceIte,qE,qA,qL,qD,q.s6,e2,s2];exact⟨⟨q.s3,q.s5,q.s6,q.s7,q.s8,q.s9⟩,by rw[hB];rfl⟩
end
section
variable {P:Program}{N:Nat}{Γ:dP}
theorem Jx{R:List (List A)}{r:List A}:(R++[r])[R.length]? = some r:=by simp
theorem Jy{R:List (List A)}{r r':List A}:(R++[r]).set R.length r'=R++[r']:=by
 rw[List.set_append_right _ _ (zL _),Nat.sub_self];rfl
theorem aNw{b:List Gl}{x:A}{T:List (Nat × HB)}{es:List Edt}{e:Edt}{j s i:Nat}{h:cM}(hS:ScT x T es (some e))(hL:Ky (scL b x true j T) h)(hn:es.length≤1000000)(hd:e.del≤1000000)(hi:e.ins.length≤1000000)(hj:j≤1000000)
  (hs:s=1∨(s=2∧j<b.length)) :
  ∃ T1 h1,ScT x T1 es (some (if s=1 then { e with del:=e.del+1 } else { e with ins:=e.ins++(b.drop j).take 1 }))∧Turn (scL b x true j T) (scL b x true (if s=1 then j else j+1) T1) h h1 ∧
   ∀ (sl:Nat→A) (q:SS sl s i) (Δ:Ctx) (rl:Option Nat) (n:Nat),W Δ P N rl n Gt (fun e' s'=>e'=(if s=1 then .exit 1 else .normal)∧s'.heap=h1) ⟨sl,h⟩:=by
 have g1:h[1]? = some (.cells eW [[x]]):=hL (1,_) (by simp);have g2:h[2]? = some (.cells eB1 [[.bool true]]):=hL (2,_) (by simp);have g0:h[0]? = some (.cells eW [[.d (.sl dW (cP b))]]):=hL (0,_) (by simp);have g3:h[3]? = some (.cells fL [[.int j]]):=hL (3,_) (by simp);rcases hS with⟨_,_,_,hc⟩ | ⟨k,R,C,T3,T4,rfl,rfl,hR,hC,h3⟩
 ·cases hc
 rcases hC with⟨hc,_⟩ | ⟨e0,y,he0,rfl,hy⟩
 ·cases hc
 cases he0;simp only[zb,aK] at g1 hL ⊢;have gk:h[k]? = some (.cells tD (R++[Bx e y])):=hL (k,_) (by simp);have k0:k≠0:=iO gk g0 (by simp);have k1:k≠1:=iO gk g1 (by simp);have k2:k≠2:=iO gk g2 (by simp);have k3:k≠3:=iO gk g3 (by simp);have hlk:k<h.length:=(zA.1 gk).1;have hT3:Ky T3 h:=fun p hp=>hL p (by simp[hp]);have hT4:Ky T4 h:=fun p hp=>hL p (by simp[hp]);have h4:∀ p∈T4,∃ l,p.2=eY l:=by
  intro p hp;rcases hy with⟨rfl,_,rfl⟩ | ⟨p',rfl,rfl,_⟩
  ·simp at hp
  ·simp at hp;subst hp;exact⟨_,rfl⟩
 have hRl:=hR.1;have w1:IntKind.i64.wrap (((R.length+1:Nat):Int)-1)=(R.length:Int):=by rw[cX (by omega)];omega
 have first:∀ (sl:Nat→A) (q:SS sl s i) (Δ:Ctx) (rl:Option Nat) (n:Nat) (Q:Exit→St→Prop),(∀ sl',SS sl' s i→sl' 10 = .ptr k (R.length+1) R.length 0→W Δ P N rl n Gt.r Q ⟨sl',h⟩)→W Δ P N rl n Gt Q ⟨sl,h⟩:=by
  intro sl q Δ rl n Q hQ;unfold Gt;refine wR ?_;simp only[xq,reduceIte,qE,qA,qL,qD,q.s5,g1,gk,w1,zb,aK,zQ,Nat.zero_add]
  repeat refine aH (by omega) ?_
  exact hQ _ ⟨q.s3,q.s5,q.s6,q.s7,q.s8,q.s9⟩ rfl
 rcases hs with rfl | ⟨rfl,hjb⟩
 ·simp only[if_true];have w2:IntKind.i64.wrap ((e.del:Int)+1)=((e.del+1:Nat):Int):=by rw[cX (by omega)];omega
  let e':Edt:={ e with del:=e.del+1 };refine⟨(k,.cells tD (R++[Bx e' y]))::(T3++T4),h.set k (.cells tD (R++[Bx e' y])),.inr ⟨k,R,[Bx e' y],T3,T4,by simp,rfl,hR,.inr ⟨e',y,rfl,rfl,hy⟩,h3⟩,?_,fun sl q Δ rl n=>first sl q Δ rl n _ fun sl' q' Ve=>?_⟩
  ·have t0:=Turn.upd (.cells tD (R++[Bx e' y])) hL (by simp[mP]:k∈mP _);have u0:qF (T3++T4) k (.cells tD (R++[Bx e' y]))=T3++T4:=Dd (fun p hp=>by rcases aE.1 hp with hp | hp;exact h3 p hp;exact h4 p hp) (fun p hp=>hL p (by simp at hp;simp[hp])) gk (by simp)
   simp only[scL,yD,u0,if_neg (Ne.symm k0),if_neg (Ne.symm k1),if_neg (Ne.symm k2),if_neg (Ne.symm k3),reduceIte] at t0;exact t0
  ·show W Δ P N rl n (.seq _ _) _ _;refine cN ?_;refine wR ?_;simp only[xq,reduceIte,qE,qA,qL,qD,q'.s8];refine cL rfl (fun hd=>?_) (fun hd=>by simp at hd);refine wR ?_;simp only[xq,reduceIte,qE,qA,qL,qD,Ve,gk,Jx,Jy,w2];refine dJ ?_;simp only[xq,reduceIte,qE,qA,qL,qD];rfl
 ·simp only[if_neg (show ¬ (2:Nat)=1 by decide)];have w2:IntKind.i64.wrap ((j:Int)+1)=((j+1:Nat):Int):=by rw[cX (by omega)];omega
  have hg:(b.drop j).take 1=[b[j]]:=by rw[zd hjb];rfl
  rw[hg];let e':Edt:={ e with ins:=e.ins++[b[j]] };let gr:List A:=b[j].row.map .d;have hl3:3<h.length:=(zA.1 g3).1;rcases hy with⟨rfl,kG,rfl⟩ | ⟨p,rfl,rfl,hp3⟩
  ·let y':A:=.ref (h.length+1) 1 0 1 true;have fM:e'.ins=[b[j]]:=by simp[e',kG]
   refine⟨(k,.cells tD (R++[Bx e' y']))::(T3++[(h.length+1,.cells dW [gr])]),(h.set k (.cells tD (R++[Bx e' y']))).set 3 (.cells fL [[.int ((j+1:Nat):Int)]])++[.cells dW [gr],.cells dW [gr]],?_,?_,fun sl q Δ rl n=>first sl q Δ rl n _ fun sl' q' Ve=>?_⟩
   ·refine .inr ⟨k,R,[Bx e' y'],T3,[(h.length+1,.cells dW [gr])],by simp,rfl,hR,.inr ⟨e',y',rfl,rfl,.inr ⟨h.length+1,?_,?_,fun hm=>?_⟩⟩,h3⟩
    ·rw[fM];rfl
    ·rw[fM];rfl
    ·obtain⟨p,hp,hp2⟩:=aI.1 hm;have:=(zA.1 (hT3 p hp)).1;omega
   ·have t0:=Turn.upd (.cells tD (R++[Bx e' y'])) hL (by simp[mP]:k∈mP _);have t1:=Turn.upd (.cells fL [[.int ((j+1:Nat):Int)]]) t0.has (by rw[nB];simp[mP]:3∈mP _);have t2:=Turn.push (t:=[.cells dW [gr],.cells dW [gr]]) 1 rfl t1.has;have:=(t0.trans t1).trans t2;have u0:qF (T3++[]) k (.cells tD (R++[Bx e' y']))=T3:=by rw[zP];exact Dd h3 hT3 gk (by simp)
    have u1:qF T3 3 (.cells fL [[.int ((j+1:Nat):Int)]])=T3:=Dd h3 hT3 g3 (by simp);simp only[scL,yD,u0,u1,if_neg (Ne.symm k0),if_neg (Ne.symm k1),if_neg (Ne.symm k2),if_neg (Ne.symm k3),if_neg k3,reduceIte,qE,List.length_set,List.cons_append] at this;exact this
   ·show W Δ P N rl n (.seq _ _) _ _;have e0:∀ t:cM,(h++t)[0]? = some (.cells eW [[.d (.sl dW (cP b))]]):=fun t=>fB g0;have e3:∀ t:cM,(h++t)[3]? = some (.cells fL [[.int j]]):=fun t=>fB g3;have ek:∀ t:cM,(h++t)[k]? = some (.cells tD (R++[Bx e .nil])):=fun t=>fB gk;have sk:∀ (t:cM) X,(h++t).set k X=h.set k X++t:=fun t X=>Br hlk;have e3':∀ (t:cM) X,(h.set k X++t)[3]? = some (.cells fL [[.int j]]):=fun t X=>vR k3 g3;have s3:∀ (t:cM) X Y,(h.set k X++t).set 3 Y=(h.set k X).set 3 Y++t:=fun t X Y=>zu _ _ (by simpa using hl3);refine cN ?_;refine wR ?_;simp only[xq,reduceIte,qE,qA,qL,qD,q'.s8];refine cL rfl (fun hd=>by simp at hd) (fun hd=>cQ ?_);simp only[xq,reduceIte,qE,qA,qL,qD];refine cN (eD (by simp) ?_);simp only[xq,reduceIte,qE,qA,qL,qD,Ve,q'.s3,q'.s7,e0,e3,ek,sk,Jx,Jy,cR,eS hjb,Gl.row,zQ,dA,eE,eT,rW]
    repeat refine aH (by omega) ?_
    rw[if_neg (by simp)];refine⟨by decide,by decide,?_⟩;refine cU ?_;simp only[xq,reduceIte,qE,qA,qL,qD,q'.s7,e3',s3,w2];simp only[gr,Gl.row,e',zU,zV,y',xq,reduceIte,qE,qA,qL,qD]
  ·let m:=e.ins.length+1;let y':A:=.ref p m 0 m true;have hml:e'.ins.length=m:=by simp[e',m]
   have gp:h[p]? = some (eY e.ins):=hL (p,_) (by simp);have hlp:p<h.length:=(zA.1 gp).1;have p0:p≠0:=iO gp g0 (by simp);have p1:p≠1:=iO gp g1 (by simp);have p2:p≠2:=iO gp g2 (by simp);have p3:p≠3:=iO gp g3 (by simp);have pk:p≠k:=iO gp gk (by simp);have fK:eY e'.ins = .cells dW (((cP e.ins).map fun r=>r.map A.d)++[gr]):=by simp[e',gr,cP]
   refine⟨(k,.cells tD (R++[Bx e' y']))::(T3++[(p,eY e'.ins)]),((h.set p (eY e'.ins)).set k (.cells tD (R++[Bx e' y']))).set 3 (.cells fL [[.int ((j+1:Nat):Int)]])++[.cells dW [gr],.res],?_,?_,fun sl q Δ rl n=>first sl q Δ rl n _ fun sl' q' Ve=>?_⟩
   ·exact .inr ⟨k,R,[Bx e' y'],T3,[(p,eY e'.ins)],by simp,rfl,hR,.inr ⟨e',y',rfl,rfl,.inr ⟨p,by rw[hml],rfl,hp3⟩⟩,h3⟩
   ·have tp:=Turn.upd (eY e'.ins) hL (by simp[mP]:p∈mP _);have t0:=Turn.upd (.cells tD (R++[Bx e' y'])) tp.has (by rw[nB];simp[mP]:k∈mP _);have t1:=Turn.upd (.cells fL [[.int ((j+1:Nat):Int)]]) t0.has (by rw[nB,nB];simp[mP]:3∈mP _);have t2:=Turn.behind [.cells dW [gr],.res] t1.has;have:=((tp.trans t0).trans t1).trans t2;have app:∀ (id:Nat) (Y:HB) (l l':List (Nat × HB)),qF (l++l') id Y=qF l id Y++qF l' id Y:=fun id Y l l'=>by simp[qF]
    have nl:∀ (id:Nat) (Y:HB),qF [] id Y=[]:=fun _ _=>rfl;have up:qF T3 p (eY e'.ins)=T3:=Pv fun z hz hh=>hp3 (aI.2 ⟨z,hz,hh⟩);have u0:qF T3 k (.cells tD (R++[Bx e' y']))=T3:=Dd h3 hT3 gk (by simp);have u1:qF T3 3 (.cells fL [[.int ((j+1:Nat):Int)]])=T3:=Dd h3 hT3 g3 (by simp);simp only[scL,yD,app,nl,up,u0,u1,if_neg (Ne.symm k0),if_neg (Ne.symm k1),if_neg (Ne.symm k2),if_neg (Ne.symm k3),if_neg k3,if_neg (Ne.symm p0),if_neg (Ne.symm p1),if_neg (Ne.symm p2),if_neg (Ne.symm p3),if_neg p3,if_neg pk,if_neg (Ne.symm pk),reduceIte,qE] at this;exact this
   ·show W Δ P N rl n (.seq _ _) _ _;have e0:∀ t:cM,(h++t)[0]? = some (.cells eW [[.d (.sl dW (cP b))]]):=fun t=>fB g0;have e3:∀ t:cM,(h++t)[3]? = some (.cells fL [[.int j]]):=fun t=>fB g3;have ek:∀ t:cM,(h++t)[k]? = some (.cells tD (R++[Bx e (.ref p e.ins.length 0 e.ins.length true)])):=fun t=>fB gk;have ep:∀ t:cM,(h++t)[p]? = some (eY e.ins):=fun t=>fB gp;have sp:∀ (t:cM) X,(h++t).set p X=h.set p X++t:=fun t X=>Br hlp;have ek':∀ (t:cM) X,(h.set p X++t)[k]? = some (.cells tD (R++[Bx e (.ref p e.ins.length 0 e.ins.length true)])):=fun t X=>vR pk gk;have sk:∀ (t:cM) X Y,(h.set p X++t).set k Y=(h.set p X).set k Y++t:=fun t X Y=>zu _ _ (by simpa using hlk);have e3':∀ (t:cM) X Y,((h.set p X).set k Y++t)[3]? = some (.cells fL [[.int j]]):=fun t X Y=>vR k3 (by rw[zM p3];exact g3);have s3:∀ (t:cM) X Y Z,((h.set p X).set k Y++t).set 3 Z=((h.set p X).set k Y).set 3 Z++t:=fun t X Y Z=>zu _ _ (by simpa using hl3);have rl1:((cP e.ins).map fun r=>r.map A.d).length=e.ins.length:=Se;refine cN ?_;refine wR ?_;simp only[xq,reduceIte,qE,qA,qL,qD,q'.s8];refine cL rfl (fun hd=>by simp at hd) (fun hd=>cQ ?_);simp only[xq,reduceIte,qE,qA,qL,qD];refine cN (eD (by simp) ?_);simp only[xq,reduceIte,qE,qA,qL,qD,Ve,q'.s3,q'.s7,e0,e3,ek,ep,sp,ek',sk,rl1,Jx,Jy,cR,eS hjb,Gl.row,zQ,dA,eE,eT,rW]
    repeat refine aH (by first | omega | (simp only[dL];omega) | (simp only[maxLen];omega)) ?_
    refine cU ?_;simp only[xq,reduceIte,qE,qA,qL,qD,q'.s7,e3',s3,w2];rw[fK];simp only[gr,Gl.row,e',zU,zV,y',m,xq,reduceIte,qE,qA,qL,qD]
end
section
variable {P:Program}{N:Nat}{Γ:dP}
theorem Yp{i:Nat}{cur:Option Edt}:Yf i cur={ cur.getD ⟨i,0,[]⟩ with del:=(cur.getD ⟨i,0,[]⟩).del+1 }:=by cases cur<;>rfl
theorem Yq{i:Nat}{g:List Gl}{cur:Option Edt}:Yg i g cur={ cur.getD ⟨i,0,[]⟩ with ins:=(cur.getD ⟨i,0,[]⟩).ins++g }:=by cases cur<;>rfl
structure ScI(a b:List Gl)(k:Nat)(es:List Edt)(cur:Option Edt)(i j:Nat):Prop where
 hi:i≤a.length
 hj:j≤b.length
 w:(nL a b 0).drop k=nL (a.drop i) (b.drop j) i
 e:es++Pu ((nL a b 0).drop k) (b.drop j) cur=mH a b
 es:es.length≤k
 del:(cur.getD ⟨0,0,[]⟩).del≤k
 ins:(cur.getD ⟨0,0,[]⟩).ins.length≤k
theorem ScI.step{a b:List Gl}{k:Nat}{es:List Edt}{cur:Option Edt}{i j s i':Nat}(h:ScI a b k es cur i j)(hk:(nL a b 0)[k]? = some (s,i')) :
  i'=i∧(s=0→j<b.length∧ScI a b (k+1) (es++cur.toList) none (i+1) (j+1))∧(s≠0→(s=1∨(s=2∧j<b.length))∧(s=1→ScI a b (k+1) es (some (Yf i cur)) (i+1) j)∧(s=2→ScI a b (k+1) es (some (Yg i ((b.drop j).take 1) cur)) i (j+1))):=by
 have hd:(nL a b 0).drop k=(s,i')::(nL a b 0).drop (k+1):=by
  have cY:=(zA.1 hk).1;rw[zd cY];congr 1;exact(zA.1 hk).2
 have hor:i<a.length∨j<b.length:=by
  rcases aD i a.length with h1 | h1
  ·exact .inl h1
  ·rcases aD j b.length with h2 | h2
   ·exact .inr h2
   ·have e1:a.drop i=[]:=aJ h1;have e2:b.drop j=[]:=aJ h2;have:=h.w;rw[hd,e1,e2] at this;simp[nL] at this
 have mO:=So h.hi h.hj hor;have hw:=h.w;rw[hd,mO] at hw;injection hw with q1 q2;injection q1 with q1 q3;subst q3;have he:=h.e;rw[hd,Pu] at he;have hdj:(b.drop j).drop 1=b.drop (j+1):=by rw[List.drop_drop]
 have n2:s≠1→j<b.length:=fun hs=>by
  rcases aD j b.length with h' | h'
  ·exact h'
  ·exact absurd (q1.trans (yC (by have:=h.hj;omega))) hs
 have n1:s≠2→i'<a.length:=fun hs=>by
  rcases aD i' a.length with h' | h'
  ·exact h'
  ·exact absurd (q1.trans (yB (by omega) (by omega))) hs
 rw[← q1] at q2;have he0:(none:Option Edt).getD ⟨0,0,[]⟩=⟨0,0,[]⟩:=rfl;have Zg:cur.toList.length≤1:=by cases cur<;>simp
 refine⟨rfl,fun hs=>?_,fun hs=>⟨?_,fun h1=>?_,fun h2=>?_⟩⟩
 ·subst hs;have b1:=n1 (by decide);have b2:=n2 (by decide);refine⟨b2,by omega,by omega,q2,?_,?_,by rw[he0];exact zI _,by rw[he0];exact zI _⟩
  ·rw[if_pos rfl,hdj] at he;rw[zS];exact he
  ·have:=h.es;simp only[zb];rcases Nat.eq_zero_or_pos k with hk0 | hk0
   ·omega
   ·omega
 ·have hl:=Lm (a:=a) (b:=b) (i:=i') (j:=j);have:s=1∨s=2:=by omega
  rcases this with h1 | h1
  ·exact .inl h1
  ·exact .inr ⟨h1,n2 (by omega)⟩
 ·subst h1;have b1:=n1 (by decide);rw[if_neg (by decide),if_pos rfl] at he;refine⟨by omega,h.hj,q2,he,by have:=h.es;omega,?_,?_⟩
  ·have:=h.del;cases cur<;>simp[Yf] at this ⊢; omega
  ·have:=h.ins;cases cur<;>simp[Yf] at this ⊢; omega
 ·subst h2;have b2:=n2 (by decide);rw[if_neg (by decide),if_neg (by decide),hdj] at he;refine⟨h.hi,by omega,q2,he,by have:=h.es;omega,?_,?_⟩
  ·have:=h.del;cases cur<;>simp[Yg] at this ⊢; omega
  ·have:=h.ins;have h1:((b.drop j).take 1).length≤1:=by rw[List.length_take];omega
   cases cur<;>simp[Yg] at this ⊢ <;> omega
def scP(a b:List Gl)(k:Nat):Nat × Nat:=(nL a b 0).getD k (0,0)
theorem Ln{a b:List Gl}{k:Nat}{xa:List A}(hk:(Jw a b)[k]? = some xa):(nL a b 0)[k]? = some (scP a b k)∧xa=[.int (scP a b k).1,.int (scP a b k).2]:=by
 rw[Jw,zK] at hk;cases hx:(nL a b 0)[k]? with
 | none=>rw[hx] at hk;cases hk
 | some p =>
  rw[hx] at hk;have:scP a b k=p:=by rw[scP,zC,hx];rfl
  rw[this];simp at hk;exact⟨rfl,hk.symm⟩
def aIM(fn:A)(s i:Nat):Nat→A:=upd (upd (upd (upd (dB [(3,.ptr 0 1 0 0),(5,.ptr 1 1 0 0),(6,.ptr 2 1 0 0),(7,.ptr 3 1 0 0),(13,fn)]) 14 (.int s)) 15 (.int i)) 8 (.int s)) 9 (.int i)
theorem aLa{fn:A}{s i:Nat}:SS (aIM fn s i) s i:=⟨rfl,rfl,rfl,rfl,rfl,rfl⟩
theorem ScT.frz{x:A}{T:List (Nat × HB)}{es:List Edt}{h:cM}(hS:ScT x T es none)(hT:Ky T h):FrzD 0 h x (.sl tD (pX es)):=by
 rcases hS with⟨rfl,rfl,rfl,_⟩ | ⟨q,R,C,T3,T4,rfl,rfl,hR,hC,h3⟩
 ·exact .nil _
 obtain⟨rfl,rfl⟩:C=[]∧T4=[]:=by
  rcases hC with⟨_,h1,h2⟩ | ⟨e,y,h1,_⟩
  ·exact⟨h1,h2⟩
  ·cases h1
 simp only[zP] at hT ⊢;have gq:h[q]? = some (.cells tD R):=hT (q,_) (by simp);have get:∀ (i:Nat) (r:List D),(pX es)[i]? = some r→∃ (hi:i<es.length) (y:A),r=aIK es[i]∧R.getD (0+i) []=Bx es[i] y∧aL4 T3 y es[i].ins:=fun i r hi=>by
  have cY:i<es.length:=by have:=(zA.1 hi).1;rwa [vS] at this
  obtain⟨y,h1,h2⟩:=hR.2 i _ (zB cY);refine⟨cY,y,?_,?_,h2⟩
  ·rw[pX,zK,zB cY] at hi;simpa using hi.symm
  ·rw[Nat.zero_add,zC,h1];rfl
 refine .ref (zI _) gq (by rw[vS,hR.1]) (fun i r hi=>?_) (fun i r j d hi hj=>?_)
 ·obtain⟨_,y,rfl,h2,_⟩:=get i r hi;rw[h2];rfl
 ·obtain⟨_,y,rfl,h2,h4⟩:=get i r hi;rw[h2];rcases j with _ | _ | _ | j
  ·cases hj;exact .d _
  ·cases hj;exact .d _
  ·cases hj;rcases h4 with⟨rfl,h5⟩ | ⟨p,rfl,h5⟩
   ·rw[h5];exact .nil _
   ·exact yA (.inr ⟨p,rfl,hT (p,_) (List.mem_cons_of_mem _ h5)⟩)
  ·simp[aIK] at hj
theorem aGu{f fw f1:FuncId}(H:FnIs P f N [.t 4] (jZ fw))(hN:2≤N)(a b:List Gl)(ha:a.length≤50000)(hb:b.length≤50000)
  (Hw:FnP Γ P fw [.d (.sl dW (cP a)),.d (.sl dW (cP b))] (.fn f1 [.iptr [.sl dW (cP a)],.iptr [.sl dW (cP b)]])) (HG:aBw Γ P f1 [.iptr [.sl dW (cP a)],.iptr [.sl dW (cP b)]] (Jw a b)) :
  FnP Γ P f [.d (.sl dW (cP a)),.d (.sl dW (cP b))] (.d (.sl tD (pX (mH a b)))):=by
 refine .of_W H (by simpa using hN) ?_;have hwl:=Az a b 0;unfold jZ;refine wR ?_;simp only[xq,reduceIte,qE,qA,qL,qD];refine wR ?_;simp only[xq,reduceIte,qE,qA,qL,qD];refine wR ?_;simp only[xq,reduceIte,qE,qA,qL,qD];refine cN ?_;refine wR ?_;simp only[xq,reduceIte,qE,qA,qL,qD];refine dF (Hw) rfl ?_;simp only[xq,reduceIte,qE,qA,qL,qD];let fnv:A:=.fn f1 [.iptr [.sl dW (cP a)],.iptr [.sl dW (cP b)]];let sl0:Nat→A:=dB [(3,.ptr 0 1 0 0),(5,.ptr 1 1 0 0),(6,.ptr 2 1 0 0),(7,.ptr 3 1 0 0),(13,fnv)];let h0:cM:=[.cells eW [[.d (.sl dW (cP b))]],.cells eW [[.nil]],.cells eB1 [[.bool false]],.cells fL [[.int 0]]];refine dX (s':=⟨sl0,h0⟩) (by simp only[sl0,h0];exact Co.keep _ (by simp[cJ,cK,fnv])) ?_;let I:Nat→List (Nat × HB)→Prop:=fun k L=>∃ es cur i j x T,L=scL b x cur.isSome j T∧ScT x T es cur∧ScI a b k es cur i j;refine cS (Jd (Γ:=Γ.ctx) (xs:=Jw a b) (f:=f1) (caps:=[.iptr [.sl dW (cP a)],.iptr [.sl dW (cP b)]]) rfl HG I (fun _ _=>False)
  (scL b .nil false 0 []) ⟨[],none,0,0,.nil,[],rfl,.inl ⟨rfl,rfl,rfl,rfl⟩,zI _,zI _,rfl,rfl,zL _,zL _,zL _⟩ ?_
  (fun k _=>aIM fnv (scP a b k).1 (scP a b k).2) (fun _=>[]) ?_ ?_ ?_ ?_ ?_)
 ·intro p hp;simp only[scL,List.mem_cons,List.not_mem_nil,or_false] at hp;rcases hp with rfl | rfl | rfl | rfl<;>rfl
 ·intro k xa hk;rw[(Ln hk).2];rfl
 ·intro k xa h rl hk cY;rw[(Ln hk).2];refine wR ?_;simp only[xq,reduceIte,qE,qA,qL,qD,sJ];refine cU ?_;simp only[xq,reduceIte,qE,qA,qL,qD,sJ,aIM,zP];rfl
 ·intro k xa L h hk hI hL cY;obtain⟨hks,rfl⟩:=Ln hk;obtain⟨es,cur,i,j,x,T,rfl,hS,hI⟩:=hI;obtain⟨s,i',hp⟩:∃ s i',scP a b k=(s,i'):=⟨_,_,rfl⟩;rw[hp] at hks;simp only[hp];obtain⟨rfl,hz,hnz⟩:=hI.step hks;have hkl:k<(nL a b 0).length:=(zA.1 hks).1;simp only[zP];have q:=aLa (fn:=fnv) (s:=s) (i:=i')
  by_cases hs0:s=0
  ·obtain⟨hjb,hI'⟩:=hz hs0;subst hs0;have g2:h[2]? = some (.cells eB1 [[.bool cur.isSome]]):=hL (2,_) (by simp);have g3:h[3]? = some (.cells fL [[.int j]]):=hL (3,_) (by simp);have w2:IntKind.i64.wrap ((j:Int)+1)=((j+1:Nat):Int):=by rw[cX (by omega)];omega
   have hT:Ky T h:=fun p hp=>hL p (by simp[hp]);have nT:∀ z∈T,z.1≠2∧z.1≠3:=fun z hz=>by
    have hzh:=hT z hz;rcases hS with⟨_,rfl,_⟩ | ⟨q,R,C,T3,T4,rfl,rfl,hR,hC,h3⟩
    ·simp at hz
    ·rcases List.mem_cons.1 hz with rfl | hz
     ·exact⟨iO hzh g2 (by simp),iO hzh g3 (by simp)⟩
     ·have:∃ l,z.2=eY l:=by
       rcases aE.1 hz with hz | hz
       ·exact h3 z hz
       ·exact aIL hC z hz
      obtain⟨l,hl⟩:=this;rw[hl] at hzh;exact⟨iO hzh g2 (by simp),iO hzh g3 (by simp)⟩
   refine⟨.normal,scL b x false (j+1) T,(h.set 2 (.cells eB1 [[.bool false]])).set 3 (.cells fL [[.int ((j+1:Nat):Int)]]),?_,fun rl=>?_,.inl ⟨rfl,_,_,_,_,_,_,rfl,hS.close,hI'⟩⟩
   ·have t0:=Turn.upd (.cells eB1 [[.bool false]]) hL (by simp[mP]:2∈mP _);have t1:=Turn.upd (.cells fL [[.int ((j+1:Nat):Int)]]) t0.has (by rw[nB];simp[mP]:3∈mP _);have:=t0.trans t1;have u0:qF T 2 (.cells eB1 [[.bool false]])=T:=Pv fun z hz=>(nT z hz).1;have u1:qF T 3 (.cells fL [[.int ((j+1:Nat):Int)]])=T:=Pv fun z hz=>(nT z hz).2;simp only[scL,yD,u0,u1,reduceIte,qE] at this;exact this
   ·refine cS ?_;refine cN ?_;refine wR ?_;simp only[xq,reduceIte,qE,qA,qL,qD,q.s8];refine cL rfl (fun hd=>?_) (fun hd=>by simp at hd);refine wR ?_;simp only[xq,reduceIte,qE,qA,qL,qD,q.s6,g2];have g3':∀ X,(h.set 2 X)[3]? = some (.cells fL [[.int j]]):=fun X=>by rw[zM (by decide)];exact g3
    refine wR ?_;simp only[xq,reduceIte,qE,qA,qL,qD,q.s7,g3',w2];refine dJ ?_;simp only[xq,reduceIte,qE,qA,qL,qD]
  ·obtain⟨hs,h1,h2⟩:=hnz hs0;have c0:(cur.getD ⟨i',0,[]⟩).del=(cur.getD ⟨0,0,[]⟩).del∧(cur.getD ⟨i',0,[]⟩).ins=(cur.getD ⟨0,0,[]⟩).ins:=by cases cur<;>exact⟨rfl,rfl⟩
   have b1:=hI.del;have b2:=hI.ins;have b3:=hI.es;have b4:=hI.hj;have skip:∀ (rl:Option Nat) (Q:Exit→St→Prop),(∀ sl',SS sl' s i'→W Γ.ctx P N rl h.length (.seq Gs Gt) (yX 1 Q) ⟨sl',h⟩)→W Γ.ctx P N rl h.length (.block 1 (.seq (.seq (.reg [
     { dst:=some 16,op:=.mov (.t 8) },
     { dst:=some 17,op:=.bin .eql (.t 16) (.k (.int 0)) }])
    (.cond (.t 17)
     (.seq (.reg [
      { dst:=none,op:=.store 1 (.t 6) (.k (.bool false)) }])
     (.seq (.reg [
      { dst:=some 18,op:=.load 1 false (.t 7) },
      { dst:=some 19,op:=.bin .add (.t 18) (.k (.int 1)) },
      { dst:=none,op:=.store 1 (.t 7) (.t 19) }])
     (.exit 1)))
     .skip))
    (.seq Gs Gt))) Q ⟨aIM fnv s i',h⟩:=by
    intro rl Q hQ;refine cS (cN ?_);refine wR ?_;simp only[xq,reduceIte,qE,qA,qL,qD,q.s8];refine cL rfl (fun hd=>absurd (by simpa using hd) hs0) (fun hd=>cQ ?_);exact hQ _ ⟨q.s3,q.s5,q.s6,q.s7,q.s8,q.s9⟩
   obtain⟨x1,T1,hp1,hS1,t1,w1⟩:=aNv (P:=P) (N:=N) (s:=s) (i:=i') hS hL (by omega);obtain⟨T2,hp2,hS2,t2,w2⟩:=aNw (P:=P) (N:=N) (s:=s) (i:=i') hS1 t1.has (by omega) (by rw[c0.1];omega) (by rw[c0.2];omega) (by omega) hs;have t12:=t1.trans t2;have hW:∀ rl,W Γ.ctx P N rl h.length (.block 1 (.seq (.seq (.reg [
     { dst:=some 16,op:=.mov (.t 8) },
     { dst:=some 17,op:=.bin .eql (.t 16) (.k (.int 0)) }])
    (.cond (.t 17)
     (.seq (.reg [
      { dst:=none,op:=.store 1 (.t 6) (.k (.bool false)) }])
     (.seq (.reg [
      { dst:=some 18,op:=.load 1 false (.t 7) },
      { dst:=some 19,op:=.bin .add (.t 18) (.k (.int 1)) },
      { dst:=none,op:=.store 1 (.t 7) (.t 19) }])
     (.exit 1)))
     .skip))
    (.seq Gs Gt))) (fun e s'=>e = .normal∧s'.heap=hp2) ⟨aIM fnv s i',h⟩:=fun rl=>by
    refine skip rl _ fun sl' q'=>cN (yY (fun e s' hq=>?_) (w1 sl' q' _ rl _));obtain⟨rfl,q2,hh⟩:=hq;obtain⟨sl2,Xk⟩:=s';simp only at hh q2;subst hh;refine yY (fun e s2 hq=>?_) (w2 sl2 q2 _ rl _);obtain⟨rfl,h4⟩:=hq;rcases hs with rfl | ⟨rfl,_⟩
    ·simp only[if_true,xq,reduceIte,qE,qA,qL,qD];exact h4
    ·simp only[if_neg (show ¬ (2:Nat)=1 by decide),xq,reduceIte,qE,qA,qL,qD];exact h4
   rcases hs with rfl | ⟨rfl,_⟩
   ·have hI':=h1 rfl;simp only[if_true] at hS2 t12;rw[Yp] at hI';exact⟨.normal,_,hp2,t12,hW,.inl ⟨rfl,es,some _,_,j,x1,T2,rfl,hS2,hI'⟩⟩
   ·have hI':=h2 rfl;simp only[if_neg (show ¬ (2:Nat)=1 by decide)] at hS2 t12;rw[Yq] at hI';exact⟨.normal,_,hp2,t12,hW,.inl ⟨rfl,es,some _,_,j+1,x1,T2,rfl,hS2,hI'⟩⟩
 ·intro L' h' tn hI;obtain⟨es,cur,i,j,x,T,rfl,hS,hI⟩:=hI;have he:=hI.e;rw[Yo,aG,Pu] at he;have hS:=hS.close;rw[he] at hS;have g1:h'[1]? = some (.cells eW [[x]]):=tn.has (1,_) (by simp);simp only[xq,reduceIte,qE,qA,qL,qD,sl0];refine wR ?_;simp only[xq,reduceIte,qE,qA,qL,qD,g1];refine cT (.frz ?_);simp only[xq,reduceIte,qE,qA,qL,qD];exact .d (hS.frz fun p hp=>tn.has p (by simp[hp]))
 ·intro e0 L' h' _ hf;exact hf.elim
end
end Go.Proofs.YtlllnjhgjijnkaaGreatDoor.Nx

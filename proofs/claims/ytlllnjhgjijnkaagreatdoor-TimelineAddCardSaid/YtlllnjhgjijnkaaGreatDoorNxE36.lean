import Derived.Test.YtlllnjhgjijnkaaGreatDoorNxE34
import Derived.Test.YtlllnjhgjijnkaaGreatDoorNxE21
import Derived.Test.YtlllnjhgjijnkaaGreatDoorNxE29
set_option linter.all false
open List renaming getElem?_eq_some_iff → zA, getElem?_eq_getElem → zB, getD_eq_getElem?_getD → zC, getElem?_set_self → zN, append_nil → zP, append_assoc → zS, map_cons → zU, map_nil → zV, length_append → zb, not_mem_nil → zc, take_length → zh, getElem_mem → zi, mem_cons → zp, replicate_zero → zr, length_take → zs, length_drop → zt
open Bool renaming true_eq_false → zE, and_eq_true → zf
open Nat renaming zero_le → zI, le_refl → zL
open Int renaming toNat_natCast → zQ
open Nat renaming reduceEqDiff → qE, reduceAdd → qA, reduceLT → qL, reduceLeDiff → qD
set_option maxHeartbeats 4000000
open List renaming take_of_length_le → aA, mem_append → aB, replicate → aC, take_add_one → aD, take → aE
namespace Go.Proofs.YtlllnjhgjijnkaaGreatDoor.Nx
open Go
section
variable {P:Program}{N:Nat}{Γ:dP}
def aJq:XC :=
(.seq (.reg [
   { dst:=some 9,op:=.mov (.k .nil) }])
  (.seq (.reg [
   { dst:=some 90,op:=.mov (.t 9) },
   { dst:=some 91,op:=.mov (.t 7) },
   { dst:=some 92,op:=.faddr 2 (.t 3) },
   { dst:=some 93,op:=.load 1 false (.t 92) },
   { dst:=some 94,op:=.mov (.t 7) },
   { dst:=some 95,op:=.len false (.t 94) },
   { dst:=some 96,op:=.minmax false [(.t 93),(.t 95)] },
   { dst:=some 97,op:=.slice ⟨3,32⟩ (.t 91) none (some (.t 96)) none },
   { dst:=some 98,op:=.append ⟨3,32⟩ (.t 90) (.t 97) },
   { dst:=some 9,op:=.mov (.t 98) }])
  (.seq (.block 2 (.loop (.seq (.seq (.reg [
   { dst:=some 99,op:=.mov (.t 9) },
   { dst:=some 100,op:=.len false (.t 99) },
   { dst:=some 101,op:=.faddr 2 (.t 3) },
   { dst:=some 102,op:=.load 1 false (.t 101) },
   { dst:=some 103,op:=.bin .lss (.t 100) (.t 102) }])
  (.cond (.t 103)
   .skip
   (.exit 2)))
  (.block 3 (.reg [
   { dst:=some 104,op:=.mov (.t 9) },
   { dst:=some 105,op:=.build [(.str ⟨#[]⟩),(.bool false),(.int 0)] [(0,1,(.k (.str ⟨#[32]⟩)))] },
   { dst:=some 106,op:=.bslice ⟨3,32⟩ [(.str ⟨#[]⟩),(.bool false),(.int 0)] 1 [(0,(.t 105))] },
   { dst:=some 107,op:=.append ⟨3,32⟩ (.t 104) (.t 106) },
   { dst:=some 9,op:=.mov (.t 107) }])))))
  (.seq (.reg [
   { dst:=some 108,op:=.mov (.t 9) },
   { dst:=some 109,op:=.faddr 5 (.t 3) },
   { dst:=some 110,op:=.load 1 false (.t 109) },
   { dst:=some 111,op:=.append ⟨3,32⟩ (.t 108) (.t 110) },
   { dst:=some 9,op:=.mov (.t 111) }])
  (.seq (.seq (.reg [
   { dst:=some 112,op:=.faddr 2 (.t 3) },
   { dst:=some 113,op:=.load 1 false (.t 112) },
   { dst:=some 114,op:=.mov (.t 7) },
   { dst:=some 115,op:=.len false (.t 114) },
   { dst:=some 116,op:=.bin .lss (.t 113) (.t 115) }])
  (.cond (.t 116)
   (.reg [
    { dst:=some 117,op:=.mov (.t 9) },
    { dst:=some 118,op:=.mov (.t 7) },
    { dst:=some 119,op:=.faddr 2 (.t 3) },
    { dst:=some 120,op:=.load 1 false (.t 119) },
    { dst:=some 121,op:=.faddr 3 (.t 3) },
    { dst:=some 122,op:=.load 1 false (.t 121) },
    { dst:=some 123,op:=.bin .add (.t 120) (.t 122) },
    { dst:=some 124,op:=.slice ⟨3,32⟩ (.t 118) (some (.t 123)) none none },
    { dst:=some 125,op:=.append ⟨3,32⟩ (.t 117) (.t 124) },
    { dst:=some 9,op:=.mov (.t 125) }])
   .skip))
  (.reg [
   { dst:=some 126,op:=.mov (.t 9) },
   { dst:=some 7,op:=.mov (.t 126) }]))))))
def aJr:XC :=
(.seq (.reg [
   { dst:=some 7,op:=.mov (.k .nil) }])
  (.seq (.reg [
   { dst:=some 62,op:=.mov (.t 6) },
   { dst:=some 63,op:=.faddr 3 (.t 3) },
   { dst:=some 64,op:=.load 1 false (.t 63) },
   { dst:=some 65,op:=.bin .add (.t 62) (.t 64) },
   { dst:=some 8,op:=.mov (.t 65) }])
  (.seq (.reg [
   { dst:=some 66,op:=.mov (.t 8) },
   { dst:=some 67,op:=.faddr 1 (.t 3) },
   { dst:=some 68,op:=.load 1 false (.t 67) },
   { dst:=some 69,op:=.bin .geq (.t 66) (.t 68) },
   { dst:=some 70,op:=.mov (.t 69) },
   { dst:=some 71,op:=.mov (.t 8),guard:=some (70,true) },
   { dst:=some 72,op:=.faddr 4 (.t 3),guard:=some (70,true) },
   { dst:=some 73,op:=.load 1 false (.t 72),guard:=some (70,true) },
   { dst:=some 74,op:=.bin .lss (.t 71) (.t 73),guard:=some (70,true) },
   { dst:=some 75,op:=.pick (.t 70) (.t 74) (.k (.bool false)) }])
  (.cond (.t 75)
   (.reg [
    { dst:=some 76,op:=.faddr 2 (.t 2) },
    { dst:=some 77,op:=.load 1 false (.t 76) },
    { dst:=some 78,op:=.mov (.t 8) },
    { dst:=some 79,op:=.iaddr ⟨1,24⟩ (.t 77) (.t 78) },
    { dst:=some 80,op:=.load 1 false (.t 79) },
    { dst:=some 7,op:=.mov (.t 80) }])
   .skip))))
abbrev stL(i:Nat):List (Nat × A):=[(2,.ptr 0 1 0 0),(3,.ptr 1 1 0 0),(4,.ptr 2 1 0 0),(5,.ptr 3 1 0 0),(6,.int i)]
structure StS(sl:Nat→A)(i:Nat):Prop where
 s2:sl 2 = .ptr 0 1 0 0
 s3:sl 3 = .ptr 1 1 0 0
 s4:sl 4 = .ptr 2 1 0 0
 s5:sl 5 = .ptr 3 1 0 0
 s6:sl 6 = .int i
theorem aCP{l g:List Gl}{a b:Nat}(hb:b≤l.length-a):(jC l a).take a++g++(jC l a).drop (a+b)=(l.take (min a l.length)++aC (a-l.length) eL)++g++(if a<l.length then l.drop (a+b) else []):=by
 unfold jC;split
 ·rename_i h;rw[show a-l.length=0 by omega,zr,zP,zP,show min a l.length=a by omega]
 ·rename_i h;rw[show min a l.length=l.length by omega,zh,aA (by simp;omega),List.drop_eq_nil_of_le (by simp;omega)]
theorem aJs{sl:Nat→A}{H:cM}{i:Nat}{l:List Gl}{c:Cg}{col cnt:Nat}(q:StS sl i)(h7:sl 7 = .d (.sl dW (cP l)))(Ff:c.col=col)(aEC:c.count=cnt)(hc1:col≤264)(hc2:cnt≤l.length-col)(hl:l.length≤50000)(hg:c.gl.length≤1000)(hc:H[1]? = some (iA c))(hu:∀ B∈H,HB.under H.length B)(h4:4≤H.length) :
  W Γ.ctx P N none 0 aJq (fun e s=>e = .normal∧∃ s1,Co 0 s s1∧s1=⟨dB (stL i++[(7,.d (.sl dW (cP ((jC l col).take col++c.gl++(jC l col).drop (col+cnt)))))]),H⟩) ⟨sl,H⟩:=by
 rw[aCP hc2];have g1:∀ t:cM,(H++t)[1]? = some (iA c):=fun t=>fB hc;have mn:eB false (col:Int) (l.length:Int)=((min col l.length:Nat):Int):=by unfold eB;simp only[Bool.false_eq_true,if_false];split<;>omega
 let U:List Gl→St:=fun m=>⟨dB [(2,.ptr 0 1 0 0),(3,.ptr 1 1 0 0),(4,.ptr 2 1 0 0),(5,.ptr 3 1 0 0),(6,.int i),(7,.d (.sl dW (cP l))),(9,.ref H.length m.length 0 m.length true)],H++[eY m]⟩;unfold aJq;refine wR ?_;simp only[xq,reduceIte,qE,qA,qL,qD];refine dX (Co.nil 9 dW (by decide) (by simp[cJ])) ?_;refine dX (s':=U []) (Co.keep _ (by simp[cJ,q.s2,q.s3,q.s4,q.s5,q.s6,h7])) ?_;simp only[U];refine wR ?_;simp only[xq,reduceIte,qE,qA,qL,qD,g1,Cg.ds,Ff,mn,cR,Int.natCast_zero,Int.sub_zero,jI,dA,eE];refine⟨by omega,by omega,by omega,by omega,?_⟩;obtain⟨m0,hm0⟩:∃ m0,m0=l.take (min col l.length):=⟨_,rfl⟩;have aOc:m0.length=min col l.length:=by rw[hm0,zs];omega
 simp only[xq,reduceIte,qE,qA,qL,qD,dA,eE,cR,List.length_nil,Nat.zero_add,zQ,Nat.sub_zero,Int.toNat_zero,List.drop_zero,← hm0,aOc,zV];refine⟨by simp only[dL];omega,by simp only[maxLen];omega,?_⟩;have hu2:∀ (m:List Gl),∀ B∈H++[eY m],HB.under (H++[eY m]).length B:=by
  intro m B hB;rcases aB.1 hB with hB | hB
  ·exact HB.under_mono (hu B hB) (by simp)
  ·simp only[List.mem_singleton] at hB;subst hB;exact aAh
 have hsp:∀ m:List Gl,((cP m).map fun r=>r.map A.d)++[[.str ⟨#[32]⟩,.bool false,.int 0]]=(cP (m++[eL])).map fun r=>r.map A.d:=fun m=>by simp[cP];rfl
 let m1:Nat→List Gl:=fun k=>m0++aC k eL;have Xi:∀ k,(m1 k).length=min col l.length+k:=fun k=>by simp[m1,aOc]
 have aPN:∀ k,m1 (k+1)=m1 k++[eL]:=fun k=>by simp[m1,List.replicate_succ',zS]
 refine eJ (· = U (m1 (col-l.length))) ?_ ?_
 ·refine cS ?_;refine dX (s':=U (m1 0)) (by
   have:m1 0=m0:=by simp[m1]
   simp only[U,this];exact Co.keep _ (by simp[cJ,cK,aOc])) ?_
  refine dN (fun q s=>∃ k,k≤col-l.length∧q=col-l.length-k∧s=U (m1 k)) ⟨0,zI _,rfl,rfl⟩ ?_;rintro q' s ⟨k,hk,rfl,rfl⟩;simp only[U];refine cN (cN ?_);refine cU ?_;simp only[xq,reduceIte,qE,qA,qL,qD,g1,dA,Cg.ds,Ff,cR,Xi];refine cL rfl (fun hd=>cQ ?_) (fun hd=>dJ ?_)
  ·have cY:k<col-l.length:=by
    have hd:=of_decide_eq_true hd;omega
   simp only[xq,reduceIte,qE,qA,qL,qD];refine cS ?_;refine cU ?_;simp only[xq,reduceIte,qE,qA,qL,qD,dA,fC,eE,zS,Se,Xi,hsp,← aPN,cR];refine⟨by simp only[dL];omega,by simp only[maxLen];omega,?_⟩;refine⟨col-l.length-(k+1),U (m1 (k+1)),by omega,?_,k+1,cY,rfl,by simp only[U,Xi]⟩;simp only[U];rw[show ∀ (x y:HB),H++[x,y]=(H++[x])++[y] from fun x y=>by simp];exact Co.back _ (by simp[cJ,cK,A.under,Xi];omega) (zI _) (hu2 _)
  ·have hke:k=col-l.length:=by
    have hd:=of_decide_eq_false hd;omega
   subst hke;simp only[xq,reduceIte,qE,qA,qL,qD];exact⟨_,Co.keep _ (by simp[cJ,cK,Xi]),rfl⟩
 rintro _ rfl;obtain⟨m2,hm2⟩:∃ m2,m2=m1 (col-l.length):=⟨_,rfl⟩;have aRg:m2.length=max col (min col l.length):=by rw[hm2,Xi];omega
 have aQX:m0++aC (col-l.length) eL=m2:=hm2.symm;rw[← hm2,aQX];clear hm2 Xi aPN hsp;simp only[U];have aEA:∀ a b:List Gl,((cP a).map fun r=>r.map A.d)++((cP b).map fun r=>r.map A.d)=(cP (a++b)).map fun r=>r.map A.d:=fun a b=>by simp[cP]
 refine wR ?_;simp only[xq,reduceIte,qE,qA,qL,qD,g1,dA,eE,Cg.ds,Se,cR,aEA];refine⟨by simp only[dL,zb];omega,by simp only[maxLen,zb];omega,?_⟩;refine eJ (· = U (m2++c.gl++(if col<l.length then l.drop (col+cnt) else []))) ?_ ?_
 ·refine wR ?_;simp only[xq,reduceIte,qE,qA,qL,qD,g1,dA,Cg.ds,Ff,cR];refine cL rfl (fun hd=>?_) (fun hd=>cQ ?_)
  ·have cY:col<l.length:=by
    have hd:=of_decide_eq_true hd;omega
   have w1:IntKind.i64.wrap ((col:Int)+(cnt:Int))=((col+cnt:Nat):Int):=by rw[cX (by omega)];omega
   have hsl:((cP l).drop (col+cnt)).take (l.length-(col+cnt))=cP (l.drop (col+cnt)):=by
    rw[aA (by rw[zt,cR];exact zL _)];simp[cP,List.map_drop]
   rw[if_pos cY];have e2:((l.length:Int)-((col+cnt:Nat):Int)).toNat=l.length-(col+cnt):=by omega
   refine cU ?_;simp only[xq,reduceIte,qE,qA,qL,qD,g1,dA,eE,Cg.ds,Ff,aEC,w1,cR,zQ,e2,hsl,aEA];refine⟨by omega,by omega,by omega,by omega,by simp only[dL,zt];omega,by simp only[maxLen,zt];omega,?_⟩;exact⟨_,Co.keep _ (by simp[cJ,cK,Nat.add_assoc]),rfl⟩
  ·have cY:¬ col<l.length:=by
    have hd:=of_decide_eq_false hd;omega
   rw[if_neg cY,zP];exact⟨rfl,_,Co.keep _ (by simp[cJ,cK]),rfl⟩
 rintro _ rfl;simp only[U];generalize m2++c.gl++(if col<l.length then l.drop (col+cnt) else [])=m;refine cU ?_;simp only[xq,reduceIte,qE,qA,qL,qD];refine⟨_,Co.frz (s:=⟨_,H++[eY m]⟩) (stL i++[(7,.d (.sl dW (cP m)))]) H.length ?_ (zI _) (by simp) (by simpa using hu),?_⟩
 ·intro p hp;have hfr:=kE (k:=H.length) (id:=H.length) (off:=0) (len:=m.length) (full:=true) (e:=dW) (h:=H++[eY m]) (rows:=cP m) (zL _) dA (by rw[cR];omega);rw[cR,List.drop_zero,aA (by rw[cR];exact zL _)] at hfr;simp only[stL,List.cons_append,List.nil_append,zp,zc,or_false] at hp;rcases hp with rfl | rfl | rfl | rfl | rfl | rfl
  ·exact .same (decide_eq_true (show(0:Nat)<H.length by omega))
  ·exact .same (decide_eq_true (show(1:Nat)<H.length by omega))
  ·exact .same (decide_eq_true (show(2:Nat)<H.length by omega))
  ·exact .same (decide_eq_true (show(3:Nat)<H.length by omega))
  ·exact .same rfl
  ·exact .d hfr
 ·simp
theorem aJt{sl:Nat→A}{H:cM}{i:Nat}{v:Vw}{c:Cg}(q:StS sl i)(hi:i≤1000)(h0:H[0]? = some (fX v))(hc:H[1]? = some (iA c))(hc1:0≤c.row∧c.upto≤v.rows.length ∧ -1000≤c.count∧c.count≤1000) :
  W Γ.ctx P N none 0 aJr (fun e s=>e = .normal∧∃ s1,Co 0 s s1∧s1=⟨dB (stL i++[(7,.d (.sl dW (cP (if c.row≤(i:Int)+c.count∧(i:Int)+c.count<c.upto then iD v.rows ((i:Int)+c.count) else []))))]),H⟩) ⟨sl,H⟩:=by
 have w2:IntKind.i64.wrap ((i:Int)+c.count)=(i:Int)+c.count:=cX (by omega);unfold aJr;refine wR ?_;simp only[xq,reduceIte,qE,qA,qL,qD];refine wR ?_;simp only[xq,reduceIte,qE,qA,qL,qD,q.s3,q.s6,hc,Cg.ds,w2]
 by_cases h1:c.row≤(i:Int)+c.count
 ·have d1:decide (c.row≤(i:Int)+c.count)=true:=decide_eq_true h1
  by_cases h2:(i:Int)+c.count<c.upto
  ·have d2:decide ((i:Int)+c.count<c.upto)=true:=decide_eq_true h2;obtain⟨j,hj⟩:∃ j:Nat,(i:Int)+c.count=j:=⟨((i:Int)+c.count).toNat,by omega⟩;have qO:j<v.rows.length:=by omega
   have hra:iD v.rows ((i:Int)+c.count)=v.rows[j]:=by
    unfold iD;rw[hj,zQ,zC,zB qO];rfl
   rw[if_pos ⟨h1,h2⟩,hra];refine wR ?_;simp only[xq,reduceIte,qE,qA,qL,qD,q.s3,hc,Cg.ds,d1,d2];refine cL rfl (fun hd=>?_) (fun hd=>by cases hd);refine cU ?_;simp only[xq,reduceIte,qE,qA,qL,qD,q.s2,h0,Vw.ds,hj,cW,eC qO,zQ];refine⟨by omega,by omega,?_⟩;exact⟨_,Co.keep _ (by simp[cJ,q.s2,q.s3,q.s4,q.s5,q.s6]),rfl⟩
  ·have d2:decide ((i:Int)+c.count<c.upto)=false:=decide_eq_false h2;rw[if_neg (fun h=>h2 h.2)];refine wR ?_;simp only[xq,reduceIte,qE,qA,qL,qD,q.s3,hc,Cg.ds,d1,d2];refine cL rfl (fun hd=>by cases hd) (fun hd=>cQ ?_);exact⟨rfl,_,Co.trans (Co.nild 7 dW (by simp[cJ])) (Co.keep _ (by simp[cJ,q.s2,q.s3,q.s4,q.s5,q.s6,cP])),rfl⟩
 ·have d1:decide (c.row≤(i:Int)+c.count)=false:=decide_eq_false h1;rw[if_neg (fun h=>h1 h.1)];refine wR ?_;simp only[xq,reduceIte,qE,qA,qL,qD,q.s3,hc,Cg.ds,d1,cV,zE];refine cL rfl (fun hd=>by cases hd) (fun hd=>cQ ?_);exact⟨rfl,_,Co.trans (Co.nild 7 dW (by simp[cJ])) (Co.keep _ (by simp[cJ,q.s2,q.s3,q.s4,q.s5,q.s6,cP])),rfl⟩
end
section
variable {P:Program}{N:Nat}{Γ:dP}
theorem aMb{a b c d B:HB}{t t':cM}:(a::b::c::d::(t++B::t'))[t.length+4]? = some B:=by simp
theorem aHl{v:Vw}{c:Cg}(hk:c.kind≠1):(dV v c).rows.length=v.rows.length:=by
 unfold dV;rw[if_neg hk];split
 ·exact rY
 ·split
  ·simp
  ·rfl
def preRow(v:Vw)(c:Cg)(i:Nat):List Gl :=
 if c.kind=2 then(if c.row≤(i:Int)∧(i:Int)<c.upto then(if c.row≤(i:Int)+c.count∧(i:Int)+c.count<c.upto then iD v.rows ((i:Int)+c.count) else []) else v.rows.getD i [])
 else if c.kind=3∧(i:Int)=c.row then(jC (v.rows.getD i []) c.col.toNat).take c.col.toNat++c.gl++(jC (v.rows.getD i []) c.col.toNat).drop (c.col.toNat+c.count.toNat) else v.rows.getD i []
theorem aCQ{v:Vw}{c:Cg}(ed:Ed v)(hk:c.kind=2∨c.kind=3)(hr:0≤c.row){i:Nat}(hi:i<v.rows.length):dE (preRow v c i)=(dV v c).rows.getD i []:=by
 have tg:∀ j,dE (v.rows.getD j [])=v.rows.getD j []:=fun j=>by
  rcases pV (rows:=v.rows) (n:=j) with h | h
  ·rw[h];rfl
  ·exact mG (ed.tr _ h)
 have k1:¬ c.kind=1:=by omega
 unfold preRow dV;simp only[if_neg k1];rcases hk with hk | hk
 ·simp only[if_pos hk];have e:(gI v.rows c.row c.upto c.count).getD i []=gY v.rows c.row c.upto c.count i:=by
   rw[zC,gI,List.getElem?_map,List.getElem?_range hi];rfl
  rw[e,gY];split
  ·split
   ·unfold iD;exact tg _
   ·rfl
  ·exact tg _
 ·have k2:¬ c.kind=2:=by omega
  simp only[if_neg k2,if_pos hk]
  by_cases Zi:(i:Int)=c.row
  ·have h3:c.kind=3∧(i:Int)=c.row:=⟨hk,Zi⟩;rw[if_pos h3];have e:c.row.toNat=i:=by omega
   rw[e,zC (l:=v.rows.set i _),zN hi];unfold iD;rw[e];rfl
  ·have h3:¬ (c.kind=3∧(i:Int)=c.row):=fun h=>Zi h.2;rw[if_neg h3,zC (l:=v.rows.set _ _),List.getElem?_set_ne (by omega),← zC];exact tg _
theorem aEu{v:Vw}{c:Cg}(hk:c.kind=2∨c.kind=3):∀ x,kY (dV v c) x=kY v x:=by
 intro x;unfold dV kY;rcases hk with hk | hk
 ·rw[if_neg (by omega),if_pos hk]
 ·rw[if_neg (by omega),if_neg (by omega),if_pos hk]
abbrev aFq(Γ:dP)(P:Program)(f:FuncId):Prop:=∀ (v:Vw) (h w:Int),1≤h∧h≤60→0≤w∧w≤1000→(∀ r∈v.rows,r.length≤50000)→v.rows.length≤1000→FnP Γ P f [fF v,.int h,.int w] (fF (qK v h w))
theorem aJu{f fz ft:FuncId}(H:FnIs P f N [.c 4 6 true] (As fz ft))(hN:2≤N)(Hz:aFq Γ P fz)(Ht:∀ l:List Gl,l.length≤1000000→FnP Γ P ft [.d (.sl dW (cP l))] (.d (.sl dW (cP (dE l)))))
  (v:Vw) (c:Cg) (dZ:StepPre v c):FnP Γ P f [fF v,pG c] (fF (dV v c)):=by
 refine .of_W H (by simpa using hN) ?_;obtain⟨q1,q2,q3,q4⟩:=qZ dZ.ok;have hs:=gF.1 dZ.ed.sz;have eG:=dZ.ed.len;unfold As;simp only[fF,Vw.ds,pG,Cg.ds,zU,zV];refine wR ?_;simp only[xq,reduceIte,qE,qA,qL,qD];refine cN ?_;refine wR ?_;simp only[xq,reduceIte,qE,qA,qL,qD];refine cL rfl (fun hk=>?_) (fun hk=>cQ ?_)
 ·have hk:c.kind=1:=by simpa using hk
  rw[eM,if_pos hk,zf,fP,fP] at q3;have hz:=Hz v c.row c.col (by omega) (by omega) dZ.row (by omega);have mO:dV v c=qK v c.row c.col:=by rw[dV,if_pos hk]
  rw[mO];simp only[fF,Vw.ds,zU,zV] at hz;refine wR ?_;simp only[xq,reduceIte,qE,qA,qL,qD];refine dF (hz) rfl ?_;simp only[xq,reduceIte,qE,qA,qL,qD];refine cT ⟨.inr rfl,?_⟩;simp only[dK,eH,dM,xq,reduceIte,qE,qA,qL,qD,dI,aE];exact .same rfl
 have Cb:¬ c.kind=1:=by simpa using hk
 simp only[xq,reduceIte,qE,qA,qL,qD];refine wR ?_;simp only[xq,reduceIte,qE,qA,qL,qD];refine cN ?_;refine wR ?_;simp only[xq,reduceIte,qE,qA,qL,qD];refine cL rfl (fun hk=>?_) (fun hk=>cQ ?_)
 ·have hk:c.kind=4:=by simpa using hk
  have mO:dV v c={ v with row:=c.row,col:=c.col,vis:=decide (c.count=1) }:=by rw[dV,if_neg Cb,if_neg (by omega),if_neg (by omega)]
  rw[mO];refine wR ?_;simp only[xq,reduceIte,qE,qA,qL,qD];refine wR ?_;simp only[xq,reduceIte,qE,qA,qL,qD];refine wR ?_;simp only[xq,reduceIte,qE,qA,qL,qD];refine wR ?_;simp only[xq,reduceIte,qE,qA,qL,qD];refine cT ⟨.inr rfl,?_⟩;simp only[dK,eH,dM,xq,reduceIte,qE,qA,qL,qD,dI,aE];exact .same rfl
 have hk4:¬ c.kind=4:=by simpa using hk
 have aOb:c.kind=2∨c.kind=3:=by omega
 have fK:0≤c.row:=by
  rcases aOb with hk | hk
  ·rw[eM,if_neg Cb,if_pos hk] at q3;simp at q3;omega
  ·rw[eM,if_neg Cb,if_neg (by omega),if_pos hk] at q3;simp only[zf,fP] at q3;omega
 let R:=(dV v c).rows;have hRl:R.length=v.rows.length:=aHl Cb;have htk:∀ i,i<v.rows.length→R.take (i+1)=R.take i++[dE (preRow v c i)]:=fun i hi=>by
  rw[aCQ dZ.ed aOb fK hi,aD,zC];show _=_++[(R[i]?).getD []];rw[zB (by omega)];rfl
 simp only[xq,reduceIte,qE,qA,qL,qD];refine wR ?_;simp only[xq,reduceIte,qE,qA,qL,qD];refine cN ?_;refine wR ?_;simp only[xq,reduceIte,qE,qA,qL,qD];refine cS ?_;let S:A→cM→Nat→St:=fun x t i=>⟨dB (stL i),fX v::iA c::jJ::Ue v x::t⟩;refine dX (s':=S .nil [] 0) (Co.keep _ (by simp[cJ,cK])) ?_;refine dN (fun m s=>∃ i x t,i≤v.rows.length∧m=v.rows.length-i∧s=S x t i∧Uc t 4 (R.take i) x∧∀ B∈t,HB.under 0 B) ⟨0,.nil,[],zI _,rfl,rfl,.inl ⟨rfl,rfl⟩,by simp⟩ ?_;rintro m s ⟨i,x,t,hi,rfl,rfl,ho,hut⟩;simp only[S];refine cN (cN ?_);refine cU ?_;simp only[xq,reduceIte,qE,qA,qL,qD,Vw.ds,cW];refine cL rfl (fun hc=>cQ ?_) (fun hc=>dJ ?_)
 ·have cY:i<v.rows.length:=by simpa using hc
  have w1:IntKind.i64.wrap ((i:Int)+1)=((i+1:Nat):Int):=by rw[cX (by omega)];omega
  have gv:v.rows.getD i []=v.rows[i]:=by rw[zC,zB cY];rfl
  have Mu:=dZ.row _ (zi cY);obtain⟨Hp,hHp⟩:∃ Hp,Hp=fX v::iA c::jJ::Ue v x::t:=⟨_,rfl⟩;have p0:Hp[0]? = some (fX v):=by rw[hHp];rfl
  have p1:Hp[1]? = some (iA c):=by rw[hHp];rfl
  have La:4≤Hp.length:=by rw[hHp];simp
  have hxu:x.under Hp.length=true:=by
   rcases ho with⟨rfl,_⟩ | ⟨q,rfl,hq,_⟩
   ·rfl
   ·have:=(zA.1 hq).1;simp only[A.under,decide_eq_true_eq,hHp,List.length_cons];omega
  have hup:∀ B∈Hp,HB.under Hp.length B:=by
   intro B hB;rw[hHp] at hB;simp only[zp] at hB;rcases hB with rfl | rfl | rfl | rfl | hB
   ·exact aGA
   ·exact Eh
   ·intro r hr y hy;simp only[zp,zc,or_false] at hr;subst hr;simp only[Ox,zp,zc,or_false] at hy;rcases hy with rfl | rfl | rfl | rfl | rfl | rfl<;>rfl
   ·intro r hr y hy;simp only[zp,zc,or_false] at hr;subst hr;simp only[kY,zp,zc,or_false] at hy;rcases hy with rfl | rfl | rfl | rfl | rfl | rfl
    ·rfl
    ·rfl
    ·exact hxu
    ·rfl
    ·rfl
    ·rfl
   ·exact HB.under_mono (hut B hB) (zI _)
  rw[← hHp];simp only[xq,reduceIte,qE,qA,qL,qD];refine cN (cS ?_);refine wR ?_;simp only[xq,reduceIte,qE,qA,qL,qD,p0,Vw.ds,cW,eC cY,zQ];refine⟨by omega,by omega,?_⟩;have aPU:∀ m1:List Gl,(c.kind=2→c.row≤(i:Int)∧(i:Int)<c.upto→m1=if c.row≤(i:Int)+c.count∧(i:Int)+c.count<c.upto then iD v.rows ((i:Int)+c.count) else [])→(¬ (c.kind=2∧c.row≤(i:Int)∧(i:Int)<c.upto)→m1=v.rows[i])→True:=fun _ _ _=>trivial;obtain⟨m1,Vr⟩:∃ m1,m1=if c.kind=2∧c.row≤(i:Int)∧(i:Int)<c.upto then(if c.row≤(i:Int)+c.count∧(i:Int)+c.count<c.upto then iD v.rows ((i:Int)+c.count) else []) else v.rows[i]:=⟨_,rfl⟩;refine eJ (· = ⟨dB (stL i++[(7,.d (.sl dW (cP m1)))]),Hp⟩) ?_ ?_
  ·by_cases h2:c.kind=2
   ·have d0:decide (c.kind=2)=true:=decide_eq_true h2;have hq3:=q3;rw[eM,if_neg Cb,if_pos h2] at hq3;simp only[zf,decide_eq_true_eq] at hq3
    by_cases h3:c.row≤(i:Int)
    ·have d1:decide (c.row≤(i:Int))=true:=decide_eq_true h3
     by_cases h4:(i:Int)<c.upto
     ·have d2:decide ((i:Int)<c.upto)=true:=decide_eq_true h4;rw[if_pos ⟨h2,h3,h4⟩] at Vr;refine wR ?_;simp only[xq,reduceIte,qE,qA,qL,qD,p1,Cg.ds,d0,d1,d2];refine cL rfl (fun hd=>?_) (fun hd=>by cases hd);rw[Vr];exact aJt (sl:=_) ⟨rfl,rfl,rfl,rfl,rfl⟩ (by omega) p0 p1 (by omega)
     ·have d2:decide ((i:Int)<c.upto)=false:=decide_eq_false h4;rw[if_neg (fun h=>h4 h.2.2)] at Vr;refine wR ?_;simp only[xq,reduceIte,qE,qA,qL,qD,p1,Cg.ds,d0,d1,d2];refine cL rfl (fun hd=>by cases hd) (fun hd=>cQ ?_);rw[Vr];exact⟨rfl,_,Co.keep _ (by simp[cJ,cK]),rfl⟩
    ·have d1:decide (c.row≤(i:Int))=false:=decide_eq_false h3;rw[if_neg (fun h=>h3 h.2.1)] at Vr;refine wR ?_;simp only[xq,reduceIte,qE,qA,qL,qD,p1,Cg.ds,d0,d1,cV,zE];refine cL rfl (fun hd=>by cases hd) (fun hd=>cQ ?_);rw[Vr];exact⟨rfl,_,Co.keep _ (by simp[cJ,cK]),rfl⟩
   ·have d0:decide (c.kind=2)=false:=decide_eq_false h2;rw[if_neg (fun h=>h2 h.1)] at Vr;refine wR ?_;simp only[xq,reduceIte,qE,qA,qL,qD,p1,Cg.ds,d0,cV,zE];refine cL rfl (fun hd=>by cases hd) (fun hd=>cQ ?_);rw[Vr];exact⟨rfl,_,Co.keep _ (by simp[cJ,cK]),rfl⟩
  rintro _ rfl;have hpr:preRow v c i=if c.kind=3∧(i:Int)=c.row then(jC m1 c.col.toNat).take c.col.toNat++c.gl++(jC m1 c.col.toNat).drop (c.col.toNat+c.count.toNat) else m1:=by
   unfold preRow;rw[gv,Vr]
   by_cases h2:c.kind=2
   ·rw[if_pos h2,if_neg (show ¬ (c.kind=3∧(i:Int)=c.row) by omega)]
    by_cases h3:c.row≤(i:Int)∧(i:Int)<c.upto
    ·have h23:c.kind=2∧c.row≤(i:Int)∧(i:Int)<c.upto:=⟨h2,h3⟩;rw[if_pos h3,if_pos h23]
    ·rw[if_neg h3,if_neg (fun h=>h3 h.2)]
   ·rw[if_neg h2,if_neg (fun h:c.kind=2∧_=>h2 h.1)]
  have Xi:m1.length≤50000:=by
   rw[Vr];split
   ·split
    ·exact aGw dZ.row
    ·exact zI _
   ·exact Mu
  clear aPU;have aPR:(preRow v c i).length≤60000:=by
   rw[hpr];split
   ·rename_i h3;rw[eM,if_neg Cb,if_neg (by omega),if_pos h3.1] at q3;simp only[zf,fP] at q3;have:=aIF (l:=m1) (n:=c.col.toNat);have:=dZ.gl;simp only[zb,zs,zt];omega
   ·omega
  refine eJ (· = ⟨dB (stL i++[(7,.d (.sl dW (cP (preRow v c i))))]),Hp⟩) ?_ ?_
  ·by_cases h2:c.kind=3
   ·have d0:decide (c.kind=3)=true:=decide_eq_true h2
    by_cases h3:(i:Int)=c.row
    ·have d1:decide ((i:Int)=c.row)=true:=decide_eq_true h3;have aQW:m1=v.rows[i]:=by rw[Vr,if_neg (by omega)]
     rw[eM,if_neg Cb,if_neg (by omega),if_pos h2] at q3;simp only[zf,fP] at q3;have hra:iD v.rows c.row=m1:=by
      unfold iD;rw[← h3,zQ,gv,aQW]
     rw[hra] at q3;rw[hpr,if_pos ⟨h2,h3⟩];refine wR ?_;simp only[xq,reduceIte,qE,qA,qL,qD,p1,Cg.ds,d0,d1];refine cL rfl (fun hd=>?_) (fun hd=>by cases hd);exact aJs (sl:=_) ⟨rfl,rfl,rfl,rfl,rfl⟩ rfl (col:=c.col.toNat) (cnt:=c.count.toNat) (by omega) (by omega) (by omega) (by omega) Xi dZ.gl p1 hup La
    ·have d1:decide ((i:Int)=c.row)=false:=decide_eq_false h3;rw[hpr,if_neg (fun h=>h3 h.2)];refine wR ?_;simp only[xq,reduceIte,qE,qA,qL,qD,p1,Cg.ds,d0,d1];refine cL rfl (fun hd=>by cases hd) (fun hd=>cQ ?_);exact⟨rfl,_,Co.keep _ (by simp[cJ,cK]),rfl⟩
   ·have d0:decide (c.kind=3)=false:=decide_eq_false h2;rw[hpr,if_neg (fun h=>h2 h.1)];refine wR ?_;simp only[xq,reduceIte,qE,qA,qL,qD,p1,Cg.ds,d0,cV,zE];refine cL rfl (fun hd=>by cases hd) (fun hd=>cQ ?_);exact⟨rfl,_,Co.keep _ (by simp[cJ,cK]),rfl⟩
  rintro _ rfl;have hT:=Ht (preRow v c i) (by omega);obtain⟨nr,hnr⟩:∃ nr,nr=dE (preRow v c i):=⟨_,rfl⟩;rw[← hnr] at hT;have aOh:=htk i cY;rw[← hnr] at aOh;have Ze:(R.take i).length=i:=by rw[zs];omega
  obtain⟨o,hod⟩:∃ o,o=R.take i:=⟨_,rfl⟩;rw[← hod] at ho aOh Ze;clear hpr aPR Xi Vr hup hxu p0 p1 La;rw[hHp];have next:∀ (sl:Nat→A) (x2:A) (t2:cM),sl 2 = .ptr 0 1 0 0→sl 3 = .ptr 1 1 0 0→sl 4 = .ptr 2 1 0 0→sl 5 = .ptr 3 1 0 0→sl 6 = .int ((i+1:Nat):Int)→Uc t2 4 (o++[nr]) x2→(∀ B∈t2,HB.under 0 B) →
    ∃ m' s'',m'<v.rows.length-i∧Co 0 ⟨sl,fX v::iA c::jJ::Ue v x2::t2⟩ s''∧∃ i x t,i≤v.rows.length∧m'=v.rows.length-i∧s''=S x t i∧Uc t 4 (R.take i) x∧∀ B∈t,HB.under 0 B:=by
   intro sl x2 t2 q2 q3 q4 q5 q6 ho2 hu2;refine⟨v.rows.length-(i+1),S x2 t2 (i+1),by omega,Co.keep _ (by simp[q2,q3,q4,q5,q6]),i+1,x2,t2,cY,rfl,rfl,by rw[aOh];exact ho2,hu2⟩
  have hu1:∀ (y:HB),y=yI [nr]→HB.under 0 y:=fun y hy=>by subst hy;exact aAh
  rcases ho with⟨rfl,kG⟩ | ⟨q,rfl,hq,fM⟩
  ·refine eD (by simp) ?_;simp only[xq,reduceIte,qE,qA,qL,qD,kY];refine dF (hT) rfl ?_;simp only[xq,reduceIte,qE,qA,qL,qD,aMb,fC,iV,dA,eT,eE,rW,zS];rw[if_neg (by simp)];refine⟨by decide,by decide,?_⟩;simp only[xq,reduceIte,qE,qA,qL,qD,kY];refine cU ?_;simp only[xq,reduceIte,qE,qA,qL,qD,w1];have he:(t++[yI [nr],yI [nr]])[t.length+1]? = some (yI [nr]):=by rw[eT]
   refine next _ (.ref (t.length+1+4) 1 0 1 true) (t++[yI [nr],yI [nr]]) ?_ ?_ ?_ ?_ ?_ (.inr ⟨t.length+1,?_,?_,by simp⟩) ?_
   iterate 5 rfl
   ·rw[kG];rfl
   ·rw[kG];exact he
   ·intro B hB;rcases aB.1 hB with hB | hB
    ·exact hut B hB
    ·simp only[zp,zc,or_false,or_self] at hB;exact hu1 B hB
  ·have Et:=(zA.1 hq).1;have gq:∀ t':cM,(t++t')[q]? = some (yI o):=fun t'=>fB hq;have sq:∀ (t':cM) X,(t++t').set q X=t.set q X++t':=fun t' X=>List.set_append_left _ _ Et;refine eD (by simp) ?_;simp only[xq,reduceIte,qE,qA,qL,qD,kY];refine dF (hT) rfl ?_;simp only[xq,reduceIte,qE,qA,qL,qD,aMb,fC,iV,dA,eT,eE,rW,zS,gq,sq,cW,Ze];refine⟨by simp only[dL];omega,by simp only[maxLen];omega,?_⟩;simp only[xq,reduceIte,qE,qA,qL,qD,kY];refine cU ?_;simp only[xq,reduceIte,qE,qA,qL,qD,w1];have e:yI (o++[nr]) = .cells eW (((dH o).map fun r=>r.map A.d)++[[.d (.sl dW (cP nr))]]):=by simp only[yI,Ud,List.map_append];rfl
   refine next _ (.ref (q+4) (i+1) 0 (i+1) true) (t.set q (.cells eW (((dH o).map fun r=>r.map A.d)++[[.d (.sl dW (cP nr))]]))++[yI [nr],.res]) ?_ ?_ ?_ ?_ ?_ (.inr ⟨q,?_,?_,by simp⟩) ?_
   iterate 5 rfl
   ·rw[zb,Ze];rfl
   ·rw[List.getElem?_append_left (by simpa using Et),zN Et,e]
   ·intro B hB;rcases aB.1 hB with hB | hB
    ·rcases List.mem_or_eq_of_mem_set hB with hB | rfl
     ·exact hut B hB
     ·rw[← e];exact aAh
    ·simp only[zp,zc,or_false] at hB;rcases hB with rfl | rfl
     ·exact hu1 _ rfl
     ·trivial
 ·have gZ:i=v.rows.length:=by simp at hc;omega
  subst gZ;rw[← hRl,zh] at ho;simp only[xq,reduceIte,qE,qA,qL,qD];refine wR ?_;simp only[xq,reduceIte,qE,qA,qL,qD,kY];refine cT ⟨.inr rfl,?_⟩;simp only[dK,eH,dM,xq,reduceIte,qE,qA,qL,qD,dI,aE];have:=aFp (h:=[fX v,iA c,Ue v x,Ue v x]) (t:=t) (v:=dV v c) ho;rw[aEu aOb] at this;exact this
end
section
variable {P:Program}{N:Nat}{Γ:dP}
abbrev aAO(Γ:dP)(P:Program)(f:FuncId):Prop:=∀ (v:Vw) (c:Cg),StepPre v c→FnP Γ P f [fF v,pG c] (fF (dV v c))
theorem aHm{f fv ff fs fw:FuncId}(H:FnIs P f N [.c 4 6 true,.t 5,.t 6] (mX fv ff fs fw))(hN:2≤N)(Hv:sY Γ P fv)(Hf:aEf Γ P ff)(Hs:aAO Γ P fs)(Hw:∀ l:List Gl,FnP Γ P fw [.d (.sl dW (cP l))] (.int (dG l))):aGz Γ P f:=by
 intro v l fE hl;refine .of_W H (by simpa using hN) (xR 1 rfl fun⟨xH,dT,_⟩=>?_);rw[dD] at dT xH;have vI:l.length≤dL:=fI dT;have aA2:=vI;simp only[dL] at aA2;have hv0:=Hv v fE.sm;unfold mX;simp only[fF,Vw.ds,zU,zV] at hv0 ⊢;refine wR ?_;simp only[xq,reduceIte,qE,qA,qL,qD];refine cN ?_;refine wR ?_;simp only[xq,reduceIte,qE,qA,qL,qD];refine dF (hv0) rfl ?_;simp only[xq,reduceIte,qE,qA,qL,qD];refine cL rfl (fun hk=>?_) (fun hk=>cQ ?_)
 ·have hk:¬ dO v=0:=by simpa using hk
  refine wR ?_;simp only[xq,reduceIte,qE,qA,qL,qD];refine cT ?_;simp only[xq,reduceIte,qE,qA,qL,qD];refine aE9 (row:=Ox) rfl rfl rfl ?_ ?_ ?_<;>simp only[dU,if_neg hk]
  ·exact Sa
  ·rfl
  ·rfl
 have hk:dO v=0:=by simpa using hk
 obtain⟨hed,_⟩:=fH.1 hk;have Qb:dU v l=jO v 0 l:=by rw[dU,if_pos hk]
 rw[Qb];simp only[xq,reduceIte,qE,qA,qL,qD];refine cN ?_;refine wR ?_;simp only[xq,reduceIte,qE,qA,qL,qD];refine cS ?_;let S:Vw→Nat→St:=fun w i=>⟨dB [(1,eV l),(2,.ptr 0 1 0 0),(4,.ptr 1 1 0 0),(7,.int i)],[fX w,jJ]⟩;refine dX (s':=S v 0) (Co.keep _ (by simp[cJ,cK])) ?_;refine dN (fun m s=>∃ (i:Nat) (w:Vw),i≤l.length∧m=l.length-i∧s=S w i∧jO w i (l.drop i)=jO v 0 l∧Ed w∧mL w (l.drop i)) ⟨0,v,zI _,rfl,rfl,rfl,hed,fE⟩ ?_;rintro m s ⟨i,w,hi,rfl,rfl,Xl,hew,hrk⟩;simp only[S];refine cN (cN ?_);refine cU ?_;simp only[xq,reduceIte,qE,qA,qL,qD,dD];refine cL rfl (fun hc=>cQ ?_) (fun hc=>dJ ?_)
 ·have cY:i<l.length:=by simpa using hc
  have w1:IntKind.i64.wrap ((i:Int)+1)=((i+1:Nat):Int):=by rw[cX (by omega)];omega
  obtain⟨c,Kt⟩:∃ c,c=l[i]:=⟨_,rfl⟩;have hcm:c∈l:=by rw[Kt];exact zi cY
  have lG:=hl c hcm;rw[List.drop_eq_getElem_cons cY,← Kt] at Xl hrk;have Cc:(eP l).getD i []=c.ds:=by rw[jP cY,← Kt]
  have hC:=Hf w c hew hrk.1 lG.txt;simp only[fF,Vw.ds,pG,Cg.ds,zU,zV] at hC;simp only[xq,reduceIte,qE,qA,qL,qD];refine cN (cS ?_);refine cN ?_;refine cN (eD (by simp) ?_);simp only[xq,reduceIte,qE,qA,qL,qD,Vw.ds,dD,Cc,Cg.ds,zQ,zr,zP];refine⟨by omega,by omega,?_⟩;refine dF (hC) rfl ?_;simp only[xq,reduceIte,qE,qA,qL,qD];refine wR ?_;simp only[xq,reduceIte,qE,qA,qL,qD];refine cL rfl (fun hd=>?_) (fun hd=>cQ ?_)
  ·have hd:¬ iM w c=0:=by simpa using hd
   rw[jO,if_neg hd] at Xl;refine wR ?_;simp only[xq,reduceIte,qE,qA,qL,qD];refine cT ?_;simp only[xq,reduceIte,qE,qA,qL,qD];rw[← Xl];exact aE9 (row:=Ox) rfl rfl rfl Sa rfl rfl
  ·have hd:iM w c=0:=by simpa using hd
   rw[jO,if_pos hd] at Xl;have hS:=Hs w c ⟨hew,hd,fun r hr=>hrk.1.row r hr,lG.len⟩;simp only[fF,Vw.ds,pG,Cg.ds,zU,zV] at hS;simp only[xq,reduceIte,qE,qA,qL,qD];refine eD (by simp) ?_;simp only[xq,reduceIte,qE,qA,qL,qD,Vw.ds,dD,Cc,Cg.ds,zQ,zr,zP];refine⟨by omega,by omega,?_⟩;refine dF (hS) rfl ?_;simp only[xq,reduceIte,qE,qA,qL,qD,Vw.ds];refine cU ?_;simp only[xq,reduceIte,qE,qA,qL,qD,w1];exact⟨l.length-(i+1),S (dV w c) (i+1),by omega,Co.keep _ (by simp[cJ,cK]),i+1,dV w c,cY,rfl,rfl,Xl,hew.step hd,hrk.2 hd⟩
 ·have gZ:i=l.length:=by simp at hc;omega
  subst gZ;rw[List.drop_length,jO] at Xl;have hwl:=hew.len;have hws:=gF.1 hew.sz;simp only[xq,reduceIte,qE,qA,qL,qD];refine cN ?_;refine wR ?_;simp only[xq,reduceIte,qE,qA,qL,qD];refine cS ?_;let T:Nat→St:=fun j=>⟨dB [(1,eV l),(2,.ptr 0 1 0 0),(4,.ptr 1 1 0 0),(9,.int j)],[fX w,jJ]⟩;refine dX (s':=T 0) (Co.keep _ (by simp[cJ,cK])) ?_;refine dN (fun m s=>∃ j:Nat,j≤w.rows.length∧m=w.rows.length-j∧s=T j∧((w.rows.take j).any fun r=>decide (w.width<(dG r:Int)))=false) ⟨0,zI _,rfl,rfl,by simp⟩ ?_;rintro m s ⟨j,hj,rfl,rfl,Vn⟩;simp only[T];refine cN (cN ?_);refine cU ?_;simp only[xq,reduceIte,qE,qA,qL,qD,Vw.ds,cW];refine cL rfl (fun hc=>cQ ?_) (fun hc=>dJ ?_)
  ·have cY:j<w.rows.length:=by simpa using hc
   have w1:IntKind.i64.wrap ((j:Int)+1)=((j+1:Nat):Int):=by rw[cX (by omega)];omega
   simp only[xq,reduceIte,qE,qA,qL,qD];refine cN (cS ?_);refine cN (eD (by simp) ?_);simp only[xq,reduceIte,qE,qA,qL,qD,Vw.ds,cW,eC cY,zQ,zr,zP];refine⟨by omega,by omega,?_⟩;refine dF (Hw w.rows[j]) rfl ?_;simp only[xq,reduceIte,qE,qA,qL,qD];refine cL rfl (fun hd=>?_) (fun hd=>cQ ?_)
   ·have hd:w.width<(dG w.rows[j]:Int):=by simpa using hd
    have Xo:tC w=true:=by
     rw[tC,List.any_eq_true];exact⟨_,zi cY,by simpa using hd⟩
    rw[Xo,if_pos rfl] at Xl;refine wR ?_;simp only[xq,reduceIte,qE,qA,qL,qD,dD];refine cT ?_;simp only[xq,reduceIte,qE,qA,qL,qD];rw[← Xl];exact aE9 (row:=Ox) rfl rfl rfl Sa rfl rfl
   ·have hd:¬ w.width<(dG w.rows[j]:Int):=by simpa using hd
    simp only[xq,reduceIte,qE,qA,qL,qD];refine cU ?_;simp only[xq,reduceIte,qE,qA,qL,qD,w1];refine⟨w.rows.length-(j+1),T (j+1),by omega,Co.keep _ (by simp[cJ,cK]),j+1,cY,rfl,rfl,?_⟩;rw[aD,zB cY,Option.toList_some,List.any_append,Vn];simpa using hd
  ·have hje:j=w.rows.length:=by simp at hc;omega
   subst hje;rw[zh] at Vn;have Xo:tC w=false:=Vn;rw[Xo,if_neg Bool.false_ne_true] at Xl;simp only[xq,reduceIte,qE,qA,qL,qD];refine wR ?_;simp only[xq,reduceIte,qE,qA,qL,qD,Vw.ds];refine cT ?_;rw[← Xl];exact aE9 (row:=w.ds.map .d) rfl rfl rfl (.same rfl) rfl rfl
end
end Go.Proofs.YtlllnjhgjijnkaaGreatDoor.Nx

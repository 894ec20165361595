import Derived.Test.YtlllnjhgjijnkaaGreatDoorNxJ0
import Derived.Test.YtlllnjhgjijnkaaGreatDoorNxEval
import Derived.Test.YtlllnjhgjijnkaaGreatDoorNxE29
set_option linter.all false
open List renaming getElem?_eq_getElem → zB, getD_eq_getElem?_getD → zC, getElem?_set_ne → zM, getElem?_set_self → zN, map_cons → zU, map_nil → zV, mem_cons_self → zW, mem_of_getElem? → zY, mem_cons_of_mem → zZ, length_cons → za, not_mem_nil → zc, drop_eq_getElem_cons → zd, take_length → zh, mem_cons → zp, length_nil → zq, eq_nil_of_length_eq_zero → zx
open Bool renaming true_eq_false → zE, and_eq_true → zf
open Option.some renaming injEq → zH
open Nat renaming zero_le → zI
open Int renaming toNat_natCast → zQ
open Nat renaming reduceEqDiff → qE, reduceAdd → qA, reduceLT → qL, reduceLeDiff → qD
set_option maxHeartbeats 4000000
open Bool renaming or_eq_false_iff → aA, not_eq_false' → aF, not_eq_true' → aI, or_eq_true → aK
open And renaming intro → aB
open List renaming take_add_one → aC, getElem?_cons_zero → aD, take_zero → aE, getLastD_cons → aG, drop_length → aJ
open Nat renaming add_sub_cancel → aH
namespace Go.Proofs.YtlllnjhgjijnkaaGreatDoor.Nx
open Go
section
variable {P:Program}{N:Nat}{Γ:dP}
abbrev Gx(Γ:dP)(P:Program)(f:FuncId):Prop:=∀ (v:Vw) (n:Int),Sm v 50000→FnP Γ P f [fF v,.int n] (rT (Lz v n))
abbrev Bf(Γ:dP)(P:Program)(f:FuncId):Prop:=∀ t:Tl, -1000000000000≤t.first∧t.first≤1000000000000→t.steps.length≤1000000→FnP Γ P f [rT t] (.int (aFe t))
theorem aFh{k:Nat}{h:cM}{t:Tl}(hs:t.steps=[]):FrzA k h (.agg (tlW t .nil)) (rT t):=by
 have:rT t = .agg [.int t.first,.int t.began,.int t.base.width,.int t.base.height,.d (.sl eW (dH t.base.rows)),.int t.base.row,.int t.base.col,.bool t.base.vis,.d (.sl eSt [])]:=by
  simp only[rT,Tl.ds,hs,zU,zV,fD]
 rw[this];exact mT rfl (mT rfl (mT rfl (mT rfl (mT rfl (mT rfl (mT rfl (mT rfl (aEa (.d (.nil _)) To))))))))
theorem rU{k:Nat}{h:cM}:FrzA k h (.agg [.int 0,.int 0,.int 0,.int 0,.nil,.int 0,.int 0,.bool false,.nil]) (rT lC) :=
 mT rfl (mT rfl (mT rfl (mT rfl (aEa (.d (.nil _)) (mT rfl (mT rfl (mT rfl (aEa (.d (.nil _)) To))))))))
theorem aLp{f fv fo:FuncId}(H:FnIs P f N [.c 4 9 true] (uG fv fo))(hN:2≤N)(Hv:sY Γ P fv)(Ho:aCv Γ P fo):Gx Γ P f:=by
 intro v n sm;refine .of_W H (by simpa using hN) ?_;have hv:=Hv v sm;have ho:=Ho v;unfold uG;simp only[fF,Vw.ds,zU,zV] at hv ho ⊢;refine wR ?_;simp only[xq,reduceIte,qE,qA,qL,qD];let g:Bool:=(!decide (dO v=0)||decide (n<0))||decide ((1099511627776:Int)<n);let S:St:=⟨dB [(1,.int n),(2,.ptr 0 1 0 0),(4,.ptr 1 1 0 0),(15,.bool g)],[fX v,Py]⟩;refine cN ?_;refine eJ (· = S) (cU ?_) ?_
 ·simp only[xq,reduceIte,qE,qA,qL,qD];refine dF (hv) rfl ?_;simp only[xq,reduceIte,qE,qA,qL,qD];cases e1:decide (dO v=0)
  ·simp only[xq,reduceIte,qE,qA,qL,qD,e1,cV,zE];exact⟨_,Co.keep _ (by simp[cJ,cK,g,e1]),rfl⟩
  ·cases e2:decide (n<0)
   ·simp only[xq,reduceIte,qE,qA,qL,qD,e1,e2,cV,zE];exact⟨_,Co.keep _ (by simp[cJ,cK,g,e1,e2]),rfl⟩
   ·simp only[xq,reduceIte,qE,qA,qL,qD,e1,e2,cV,zE];exact⟨_,Co.keep _ (by simp[cJ,cK,g,e1,e2]),rfl⟩
 rintro _ rfl;simp only[S];refine cL rfl (fun hg=>?_) (fun hg=>cQ ?_)
 ·have hT:Lz v n=lC:=by
   rw[Lz,if_pos];simp only[g,aK,aI,decide_eq_true_eq,decide_eq_false_iff_not] at hg;rcases hg with(h | h) | h
   ·exact .inl h
   ·exact .inr (.inl h)
   ·exact .inr (.inr h)
  rw[hT];refine wR ?_;simp only[xq,reduceIte,qE,qA,qL,qD];refine cT ⟨.inr rfl,?_⟩;simp only[dK,eH,dM,cJ,reduceIte,qE,cK,gQ,xq,reduceIte,qE,qA,qL,qD,dI];exact rU
 ·have hT:Lz v n=⟨0,n,v,[]⟩:=by
   rw[Lz,if_neg];simp only[g,aA,aF,decide_eq_true_eq,decide_eq_false_iff_not] at hg;rintro(h | h | h)
   ·exact h hg.1.1
   ·exact hg.1.2 h
   ·exact hg.2 h
  rw[hT];refine wR ?_;simp only[xq,reduceIte,qE,qA,qL,qD,Vw.ds];refine dF (ho) rfl ?_;simp only[xq,reduceIte,qE,qA,qL,qD];refine cT ⟨.inr rfl,?_⟩;simp only[dK,eH,dM,cJ,reduceIte,qE,cK,gQ,xq,reduceIte,qE,qA,qL,qD,dI];exact aFh (t:=⟨0,n,v,[]⟩) rfl
theorem aI6{f:FuncId}(H:FnIs P f N [.t 2] sK)(hN:1≤N):Bf Γ P f:=by
 intro t hf hl;refine .of_W H (by simpa using hN) ?_;have w1:IntKind.i64.wrap (t.first+(t.steps.length:Int))=aFe t:=by rw[cX (by omega)];rfl
 unfold sK;simp only[rT,Tl.ds,zU,zV];refine wR ?_;simp only[xq,reduceIte,qE,qA,qL,qD];refine wR ?_;simp only[xq,reduceIte,qE,qA,qL,qD,dR,w1];refine cT (.tmp ?_ rfl);simp only[cJ,reduceIte]
theorem aAD{t:Tl}(h:iW t=0):(0≤t.first∧t.first≤999999999)∧t.steps.length≤200:=by
 unfold iW at h;split at h
 ·cases h
 ·rename_i h1;split at h
  ·rename_i h2;exact absurd h h2
  ·split at h
   ·cases h
   ·omega
theorem aG6{f fv fa:FuncId}(H:FnIs P f N [.t 2] (qS fv fa))(hN:1≤N)(Hv:sY Γ P fv)(Ha:aGz Γ P fa):Do Γ P f:=by
 intro t lG;refine .of_W H (by simpa using hN) ?_;have hv:=Hv t.base lG.sm;unfold qS;simp only[rT,Tl.ds,fF,Vw.ds,zU,zV] at hv ⊢;have fin:∀ (sl:Nat→A) (h:cM) (r:Int),sl 2 = .int r→iW t=r→Bw [.t 2] (.int (iW t)) .ret ⟨sl,h⟩:=fun sl h r h2 hr=>by
  rw[hr];exact .tmp h2 rfl
 refine wR ?_;simp only[xq,reduceIte,qE,qA,qL,qD];let g:Bool:=((decide (t.first<0)||decide (999999999<t.first))||decide (t.began<0))||decide ((1099511627776:Int)<t.began);refine cN ?_;refine eJ (· = ⟨dB [(1,.ptr 0 1 0 0),(2,.int 0),(28,.bool g)],[rE t]⟩) (cU ?_) ?_
 ·cases e1:decide (t.first<0)
  ·cases e2:decide (999999999<t.first)
   ·cases e3:decide (t.began<0)
    ·simp only[xq,reduceIte,qE,qA,qL,qD,e1,e2,e3,cV,zE];exact⟨_,Co.keep _ (by simp[cJ,cK,g,e1,e2,e3]),rfl⟩
    ·simp only[xq,reduceIte,qE,qA,qL,qD,e1,e2,e3,cV,zE];exact⟨_,Co.keep _ (by simp[cJ,cK,g,e1,e2,e3]),rfl⟩
   ·simp only[xq,reduceIte,qE,qA,qL,qD,e1,e2,cV,zE];exact⟨_,Co.keep _ (by simp[cJ,cK,g,e1,e2]),rfl⟩
  ·simp only[xq,reduceIte,qE,qA,qL,qD,e1,cV,zE];exact⟨_,Co.keep _ (by simp[cJ,cK,g,e1]),rfl⟩
 rintro _ rfl;have hg0:(t.first<0∨999999999<t.first∨t.began<0∨nV<t.began)↔g=true:=by
  simp only[g,aK,decide_eq_true_eq];constructor
  ·rintro(h | h | h | h)
   ·exact .inl (.inl (.inl h))
   ·exact .inl (.inl (.inr h))
   ·exact .inl (.inr h)
   ·exact .inr h
  ·rintro(((h | h) | h) | h)
   ·exact .inl h
   ·exact .inr (.inl h)
   ·exact .inr (.inr (.inl h))
   ·exact .inr (.inr (.inr h))
 refine cL rfl (fun hg=>?_) (fun hg=>cQ ?_)
 ·refine wR ?_;simp only[xq,reduceIte,qE,qA,qL,qD];exact cT (fin _ _ 2 rfl (by rw[iW,if_pos (hg0.2 hg)]))
 have hg1:¬ (t.first<0∨999999999<t.first∨t.began<0∨nV<t.began):=fun h=>by rw[hg0.1 h] at hg;cases hg
 simp only[xq,reduceIte,qE,qA,qL,qD];refine cN ?_;refine wR ?_;simp only[xq,reduceIte,qE,qA,qL,qD,Tl.ds];refine dF (hv) rfl ?_;simp only[xq,reduceIte,qE,qA,qL,qD];refine wR ?_;simp only[xq,reduceIte,qE,qA,qL,qD];refine cL rfl (fun hk=>?_) (fun hk=>cQ ?_)
 ·have hk:dO t.base≠0:=by simpa using hk
  refine wR ?_;simp only[xq,reduceIte,qE,qA,qL,qD];exact cT (fin _ _ (dO t.base) rfl (by rw[iW,if_neg hg1,if_pos hk]))
 have hk:¬ dO t.base≠0:=by simpa using hk
 simp only[xq,reduceIte,qE,qA,qL,qD];refine cN ?_;refine wR ?_;simp only[xq,reduceIte,qE,qA,qL,qD,Tl.ds,dR];refine cL rfl (fun hl=>?_) (fun hl=>cQ ?_)
 ·refine wR ?_;simp only[xq,reduceIte,qE,qA,qL,qD];exact cT (fin _ _ 5 rfl (by rw[iW,if_neg hg1,if_neg hk,if_pos (by have:=of_decide_eq_true hl;omega)]))
 have hl:¬ 200<t.steps.length:=by have:=of_decide_eq_false hl;omega
 have aEB:iW t=Bc t.began t.base t.steps:=by rw[iW,if_neg hg1,if_neg hk,if_neg hl]
 simp only[xq,reduceIte,qE,qA,qL,qD];refine cN (eD (by simp[cJ,cK,dB,A.touch]) ?_);simp only[xq,reduceIte,qE,qA,qL,qD,Tl.ds];refine cN ?_;refine wR ?_;simp only[xq,reduceIte,qE,qA,qL,qD,dR,Tl.ds];refine cS ?_;let S:Nat→Vw→Int→St:=fun i w last=>⟨dB [(1,.ptr 0 1 0 0),(4,.ptr 1 1 0 0),(5,.int last),(44,aCt t.steps),(45,.int t.steps.length),(46,.int i)],[rE t,fX w]⟩;refine dX (s':=S 0 t.base t.began) (Co.keep _ (by simp[cJ,cK,Tl.ds])) ?_;refine dN (fun m s=>∃ i w last,m=t.steps.length-i∧s=S i w last∧TWalk t.base t.steps i w∧Bc last w (t.steps.drop i)=iW t) ⟨0,t.base,t.began,rfl,rfl,.zero lG,by rw[aEB];rfl⟩ ?_;rintro m s ⟨i,w,last,rfl,rfl,tw,Fe⟩;have aPI:=tw.le;simp only[S];refine wR ?_;simp only[xq,reduceIte,qE,qA,qL,qD];refine cN (cL rfl (fun hc=>cQ ?_) (fun hc=>dJ ?_))
 ·have cY:i<t.steps.length:=by simpa using hc
  have w1:IntKind.i64.wrap ((i:Int)+1)=((i+1:Nat):Int):=by rw[cX (by omega)];omega
  obtain⟨s,hs⟩:∃ s,s=t.steps[i]:=⟨_,rfl⟩;have fE:=tw.run cY;have iH:=tw.step cY;have hsg:(fD t.steps).getD i []=s.ds:=by rw[lY cY,← hs]
  rw[zd cY,Bc] at Fe;rw[← hs] at fE iH Fe;have Qb:=Ha w s.chs fE.1 fE.2;obtain⟨w',i',e',hq'⟩:∃ w' i' e',dU w s.chs=(w',i',e'):=⟨_,_,_,rfl⟩;rw[hq'] at Qb iH Fe;simp only at iH Fe;simp only[apA,fF,Vw.ds,zU,zV] at Qb;simp only[xq,reduceIte,qE,qA,qL,qD];refine cN (cS ?_);refine wR ?_;simp only[xq,reduceIte,qE,qA,qL,qD,dR,hsg,Stp.ds,zQ]
  repeat refine aB (by omega) ?_
  refine cN (cS ?_);refine wR ?_;simp only[xq,reduceIte,qE,qA,qL,qD];refine cL rfl (fun h1=>?_) (fun h1=>?_)
  ·have h1:s.time<last:=by simpa using h1
   rw[if_pos h1] at Fe;refine wR ?_;simp only[xq,reduceIte,qE,qA,qL,qD];exact cT (fin _ _ 10 rfl Fe.symm)
  have h1:¬ s.time<last:=by simpa using h1
  rw[if_neg h1] at Fe;refine wR ?_;simp only[xq,reduceIte,qE,qA,qL,qD];refine cL rfl (fun h2=>?_) (fun h2=>cQ ?_)
  ·have h2:nV<s.time:=by simpa[nV] using h2
   rw[if_pos h2] at Fe;refine wR ?_;simp only[xq,reduceIte,qE,qA,qL,qD];exact cT (fin _ _ 2 rfl Fe.symm)
  have h2:¬ nV<s.time:=by simpa[nV] using h2
  rw[if_neg h2] at Fe;simp only[xq,reduceIte,qE,qA,qL,qD];refine wR ?_;simp only[xq,reduceIte,qE,qA,qL,qD,Vw.ds];refine dF (Qb) rfl ?_;simp only[xq,reduceIte,qE,qA,qL,qD];refine cN ?_;refine cN ?_;refine cU ?_;simp only[xq,reduceIte,qE,qA,qL,qD,Vw.ds];refine cL rfl (fun h3=>?_) (fun h3=>cQ ?_)
  ·have h3:e'≠0:=by simpa using h3
   rw[if_pos h3] at Fe;refine wR ?_;simp only[xq,reduceIte,qE,qA,qL,qD];exact cT (fin _ _ e' rfl Fe.symm)
  have h3:¬ e'≠0:=by simpa using h3
  rw[if_neg h3] at Fe;have h3:e'=0:=by simpa using h3
  subst h3;have hw:=iH rfl;simp only[xq,reduceIte,qE,qA,qL,qD];refine Lg 2 1 (by decide) (by simp) (by simp) rfl (by simp[cJ,cK,Aa,A.touch]) ?_;simp only[xq,reduceIte,qE,qA,qL,qD,List.replicate_zero,Vw.ds,Stp.ds];refine cU ?_;simp only[xq,reduceIte,qE,qA,qL,qD,w1];refine⟨t.steps.length-(i+1),S (i+1) w' s.time,by omega,Co.to (s:=⟨_,[rE t,fX w',.cells eSt [s.ds.map .d],fX w']⟩) [(1,.ptr 0 1 0 0),(4,.ptr 1 1 0 0),(5,.int s.time),(44,aCt t.steps),(45,.int t.steps.length),(46,.int ((i+1:Nat):Int))] 2 ?_ (zI _) (by simp) ?_,i+1,w',s.time,rfl,rfl,hw,Fe⟩
  ·simp[cJ,cK,A.under]
  ·intro B hB;simp only[List.take_succ_cons,aE,zp,zc,or_false] at hB;rcases hB with rfl | rfl
   ·exact rG (rows:=[t.ds])
   ·exact rG (rows:=[w'.ds])
 ·have Zi:i=t.steps.length:=by simp at hc;omega
  subst Zi;rw[aJ,Bc] at Fe;simp only[xq,reduceIte,qE,qA,qL,qD];refine wR ?_;simp only[xq,reduceIte,qE,qA,qL,qD];exact cT (fin _ _ 0 rfl Fe.symm)
abbrev aAE(Γ:dP)(P:Program)(f:FuncId):Prop:=∀ (t:Tl) (n:Int),TOk t.base t.steps→FnP Γ P f [rT t,.int n] (.tup [.int (Dm t n).1,.int (Dm t n).2])
def Wf(n:Int)(l:List Stp):Nat:=(l.filter fun s=>decide (s.time≤n)).length
theorem aG7{n:Int}{l:List Stp}{i:Nat}(hi:i<l.length):Wf n (l.take (i+1))=Wf n (l.take i)+if l[i].time≤n then 1 else 0:=by
 rw[aC,zB hi,Wf,List.filter_append,List.length_append];simp only[Option.toList_some,List.filter_cons,List.filter_nil]
 by_cases h:l[i].time≤n<;>simp[h,Wf]
theorem aLq{n:Int}{l:List Stp}:Wf n l≤l.length:=List.length_filter_le _ _
theorem aI7{f fc:FuncId}(H:FnIs P f N [.t 4,.t 5] (sL fc))(hN:2≤N)(Hc:Do Γ P fc):aAE Γ P f:=by
 intro t n lG;refine .of_W H (by simpa using hN) ?_;have hc:=Hc t lG;unfold sL;simp only[rT,Tl.ds,zU,zV] at hc ⊢;have fin:∀ (sl:Nat→A) (h:cM) (a b:Int),sl 4 = .int a→sl 5 = .int b→Dm t n=(a,b)→Bw [.t 4,.t 5] (.tup [.int (Dm t n).1,.int (Dm t n).2]) .ret ⟨sl,h⟩:=fun sl h a b h1 h2 hr=>by
  rw[hr];refine⟨.inr rfl,?_⟩;simp only[dK,eH,dM,h1,h2];exact .same rfl
 refine wR ?_;simp only[xq,reduceIte,qE,qA,qL,qD];refine cN ?_;refine wR ?_;simp only[xq,reduceIte,qE,qA,qL,qD,Tl.ds];refine dF (hc) rfl ?_;simp only[xq,reduceIte,qE,qA,qL,qD];refine wR ?_;simp only[xq,reduceIte,qE,qA,qL,qD];refine cL rfl (fun hk=>?_) (fun hk=>cQ ?_)
 ·have hk:iW t≠0:=by simpa using hk
  refine wR ?_;simp only[xq,reduceIte,qE,qA,qL,qD];exact cT (fin _ _ 0 (iW t) rfl rfl (by rw[Dm,if_pos hk]))
 have hk:iW t=0:=by simpa using hk
 obtain⟨hf,hl⟩:=aAD hk;simp only[xq,reduceIte,qE,qA,qL,qD];refine cN ?_;refine wR ?_;simp only[xq,reduceIte,qE,qA,qL,qD,Tl.ds];refine cL rfl (fun h1=>?_) (fun h1=>cQ ?_)
 ·have h1:n<t.began:=by simpa using h1
  refine wR ?_;simp only[xq,reduceIte,qE,qA,qL,qD];exact cT (fin _ _ 0 2 rfl rfl (by rw[Dm,if_neg (by simpa using hk),if_pos h1]))
 have h1:¬ n<t.began:=by simpa using h1
 have rK:Dm t n=(t.first+(Wf n t.steps:Int),0):=by rw[Dm,if_neg (by simpa using hk),if_neg h1];rfl
 simp only[xq,reduceIte,qE,qA,qL,qD];refine wR ?_;simp only[xq,reduceIte,qE,qA,qL,qD,Tl.ds];refine cN ?_;refine wR ?_;simp only[xq,reduceIte,qE,qA,qL,qD,Tl.ds,dR];refine cS ?_;let S:Nat→cM→St:=fun i hp=>⟨dB [(1,.int n),(7,.int (t.first+(Wf n (t.steps.take i):Int))),(22,aCt t.steps),(23,.int t.steps.length),(24,.int i)],hp⟩;refine dX (s':=S 0 [rE t]) (Co.keep _ (by simp[cJ,cK,Tl.ds,Wf])) ?_;refine dN (fun m s=>∃ i hp,i≤t.steps.length∧m=t.steps.length-i∧s=S i hp) ⟨0,_,zI _,rfl,rfl⟩ ?_;rintro m s ⟨i,hp,hi,rfl,rfl⟩;simp only[S];refine wR ?_;simp only[xq,reduceIte,qE,qA,qL,qD];refine cN (cL rfl (fun hc=>cQ ?_) (fun hc=>dJ ?_))
 ·have cY:i<t.steps.length:=by simpa using hc
  have w1:IntKind.i64.wrap ((i:Int)+1)=((i+1:Nat):Int):=by rw[cX (by omega)];omega
  have Zg:=aLq (n:=n) (l:=t.steps.take i);have aRd:Wf n (t.steps.take i)≤200:=by rw[List.length_take] at Zg;omega
  have Il:=aG7 (n:=n) cY;obtain⟨s,hs⟩:∃ s,s=t.steps[i]:=⟨_,rfl⟩;have hsg:(fD t.steps).getD i []=s.ds:=by rw[lY cY,← hs]
  rw[← hs] at Il;generalize Wf n (t.steps.take i)=c at *;have w2:IntKind.i64.wrap (t.first+(c:Int)+1)=t.first+(c:Int)+1:=cX (by omega);simp only[xq,reduceIte,qE,qA,qL,qD];refine cN (cS ?_);refine wR ?_;simp only[xq,reduceIte,qE,qA,qL,qD,dR,hsg,Stp.ds,zQ,dA,eE]
  repeat refine aB (by omega) ?_
  refine wR ?_;simp only[xq,reduceIte,qE,qA,qL,qD,dA,Stp.ds];refine cL rfl (fun h2=>?_) (fun h2=>cQ ?_)
  ·have h2:s.time≤n:=by simpa using h2
   rw[if_pos h2] at Il;refine cU ?_;simp only[xq,reduceIte,qE,qA,qL,qD,w2];refine cU ?_;simp only[xq,reduceIte,qE,qA,qL,qD,w1];exact⟨t.steps.length-(i+1),S (i+1) _,by omega,Co.keep _ (by simp[cJ,cK,Il];omega),i+1,_,cY,rfl,rfl⟩
  ·have h2:¬ s.time≤n:=by simpa using h2
   rw[if_neg h2] at Il;simp only[xq,reduceIte,qE,qA,qL,qD];refine cU ?_;simp only[xq,reduceIte,qE,qA,qL,qD,w1];exact⟨t.steps.length-(i+1),S (i+1) _,by omega,Co.keep _ (by simp[cJ,cK,Il]),i+1,_,cY,rfl,rfl⟩
 ·have Zi:i=t.steps.length:=by simp at hc;omega
  subst Zi;rw[zh];simp only[xq,reduceIte,qE,qA,qL,qD];refine wR ?_;simp only[xq,reduceIte,qE,qA,qL,qD];exact cT (fin _ _ _ _ rfl rfl rK)
end
section
variable {P:Program}{N:Nat}{Γ:dP}
def Tq(t:Tl)(k:Nat):Vw:=(fQ t.base t.steps).getD k lA
theorem pZ{f:Int}{v:Vw}{l:List Stp}{k:Nat}{xa:List A}(h:(Tn f v l)[k]? = some xa):∃ w,(fQ v l)[k]? = some w∧xa=[.int (f+(k:Int)),fF w]:=by
 rw[Tn,List.getElem?_mapIdx,Option.map_eq_some_iff] at h;obtain⟨w,h1,h2⟩:=h;exact⟨w,h1,h2.symm⟩
theorem Gy{t:Tl}{k:Nat}{w:Vw}(h:(fQ t.base t.steps)[k]? = some w):Tq t k=w:=by rw[Tq,zC,h];rfl
theorem aI8{t:Tl}:Tq t (fW t.base t.steps).length=qG t.base t.steps:=by
 rw[Tq,fQ,qG];generalize fW t.base t.steps=l;generalize t.base=v
 induction l generalizing v with
 | nil=>rfl
 | cons x l ih=>rw[za,List.getD_cons_succ,aG];exact ih x
theorem Turn.one{H:cM}{q:Nat}{B B':HB}(hq:q<H.length):Turn [(q,B)] [(q,B')] H (H.set q B') :=
 ⟨fun p hp=>by simp only[zp,zc,or_false] at hp;subst hp;exact zN hq,by simp,
  fun p _ hn=>by rw[zM];rintro rfl;exact hn (by simp[mP]),fun p hp=>.inl hp⟩
abbrev Kh(Γ:dP)(P:Program)(f f1:FuncId):Prop:=(∀ t:Tl,FnP Γ P f [rT t] (.fn f1 [.iptr t.ds])) ∧
 ∀ t:Tl,TOk t.base t.steps → -1000000000000≤t.first∧t.first≤1000000000000→t.steps.length≤1000000→aBw Γ P f1 [.iptr t.ds] (Tn t.first t.base t.steps)
abbrev Tr(Γ:dP)(P:Program)(f:FuncId):Prop:=∀ t:Tl,TOk t.base t.steps → -1000000000000≤t.first∧t.first≤1000000000000→t.steps.length≤1000000 →
 FnP Γ P f [rT t] (.tup [fF (qG t.base t.steps),.int (Ke t.began t.steps)])
def aQz(t:Tl)(k:Nat)(L:List (Nat × HB)):Prop:=(k=0∧L=[(2,jJ)])∨(0<k∧L=[(2,fX (Tq t (k-1)))])
theorem aI9{f fv f1:FuncId}(H:FnIs P f N [.c 2 6 true,.t 3] (qT fv))(hN:1≤N)(Hv:Kh Γ P fv f1):Tr Γ P f:=by
 intro t lG hf hl;refine .of_W H (by simpa using hN) ?_;have hv:=Hv.1 t;have HG:=Hv.2 t lG hf hl;unfold qT;simp only[rT,Tl.ds,zU,zV] at hv ⊢;refine wR ?_;simp only[xq,reduceIte,qE,qA,qL,qD];refine wR ?_;simp only[xq,reduceIte,qE,qA,qL,qD];refine cN ?_;refine wR ?_;simp only[xq,reduceIte,qE,qA,qL,qD,Tl.ds];refine dF (hv) rfl ?_;simp only[xq,reduceIte,qE,qA,qL,qD];let sl0:Nat→A:=dB [(1,.ptr 0 1 0 0),(2,.ptr 1 1 0 0),(3,.int 0),(4,.ptr 2 1 0 0),(9,.fn f1 [.iptr t.ds])];refine dX (s':=⟨sl0,[rE t,jJ,jJ]⟩) (by simp only[sl0];exact Co.keep _ (by simp[cJ,cK,Tl.ds])) ?_;refine cS (Jd (Γ:=Γ.ctx) (xs:=Tn t.first t.base t.steps) (f:=f1) (caps:=[.iptr t.ds]) rfl HG (aQz t) (fun _ _=>False) [(2,jJ)] (.inl ⟨rfl,rfl⟩) ?_
  (fun k n=>upd (upd (upd sl0 10 (.int (t.first+(k:Int)))) 11 (fF (Tq t k))) 6 (.ptr n 1 0 0)) (fun k=>[fX (Tq t k)]) ?_ ?_ ?_ ?_ ?_)
 ·intro p hp;simp only[zp,zc,or_false] at hp;subst hp;rfl
 ·intro k xa hk;obtain⟨w,_,rfl⟩:=pZ hk;rfl
 ·intro k xa h rl hk cY;obtain⟨w,hw,rfl⟩:=pZ hk;refine cU ?_;simp only[xq,reduceIte,qE,qA,qL,qD,sJ,dA,eE,fF,Vw.ds,Gy hw];rfl
 ·intro k xa L h hk hI hL cY;obtain⟨w,hw,rfl⟩:=pZ hk;simp only[Gy hw];simp only[za,zq] at cY;have mO:∃ B,L=[(2,B)]∧∃ r,B = .cells pA [r]∧r.length=6:=by
   rcases hI with⟨_,rfl⟩ | ⟨_,rfl⟩
   ·exact⟨_,rfl,_,rfl,rfl⟩
   ·exact⟨_,rfl,_,rfl,by simp[Vw.ds]⟩
  obtain⟨B,rfl,r,rfl,hr⟩:=mO;have hb2:h[2]? = some (.cells pA [r]):=hL _ (zW ..);have e0:∀ tt:cM,(h++tt)[2]? = some (.cells pA [r]):=fun tt=>fB hb2;obtain⟨r0,r1,r2,r3,r4,r5,rfl⟩:∃ a b c d e g,r=[a,b,c,d,e,g]:=by
   match r,hr with
   | [a,b,c,d,e,g],_=>exact⟨a,b,c,d,e,g,rfl⟩
  refine⟨.normal,[(2,fX w)],(h++[fX w]).set 2 (fX w),Turn.one (by simp;omega),fun rl=>?_,.inl ⟨rfl,.inr ⟨Nat.succ_pos _,by rw[aH,Gy hw]⟩⟩⟩;refine cS (cU ?_);simp only[xq,reduceIte,qE,qA,qL,qD,sl0,e0,dA,Vw.ds];rfl
 ·intro L' h' T hI;rw[Dn] at hI;have hL':L'=[(2,fX (qG t.base t.steps))]:=by
   rcases hI with⟨h0,_⟩ | ⟨_,h1⟩
   ·omega
   ·rw[h1,aH,aI8]
  subst hL';have b0:h'[0]? = some (rE t):=T.keep 0 (by simp) (by simp[mP]);have b1:h'[1]? = some jJ:=T.keep 1 (by simp) (by simp[mP]);have b2:h'[2]? = some (fX (qG t.base t.steps)):=T.has _ (zW ..);have eG:3≤h'.length:=T.len;have s1:∀ X,(h'.set 1 X)[1]? = some X:=fun X=>zN (by omega);generalize qG t.base t.steps=w at *;simp only[xq,reduceIte,qE,qA,qL,qD,sl0];refine cN ?_;refine wR ?_;simp only[xq,reduceIte,qE,qA,qL,qD,b0,Tl.ds,dR];refine wR ?_;simp only[xq,reduceIte,qE,qA,qL,qD];refine cL rfl (fun hc=>?_) (fun hc=>cQ ?_)
  ·have sD:0<t.steps.length:=by have:=of_decide_eq_true hc;omega
   have w1:IntKind.i64.wrap ((t.steps.length:Int)-1)=((t.steps.length-1:Nat):Int):=by rw[cX (by omega)];omega
   have cY:t.steps.length-1<t.steps.length:=by omega
   have hsg:=lY cY;have hfn:Ke t.began t.steps=t.steps[t.steps.length-1].time:=by
    rw[Ke,List.getLastD_eq_getLast?,List.getLast?_eq_getElem?,List.length_map,List.getElem?_map,zB cY];rfl
   rw[hfn];refine cN (Lg 0 1 (by decide) (by simp;omega) (by simp;omega) rfl (by simp[cJ,cK,Aa,A.touch]) ?_);simp only[xq,reduceIte,qE,qA,qL,qD,b0,b1,b2,s1,Tl.ds,Vw.ds,dR,w1,hsg,Stp.ds]
   repeat refine aB (by omega) ?_
   refine cT ⟨.inr rfl,?_⟩;simp only[dK,eH,dM,cJ,reduceIte,qE,cK,gQ,xq,reduceIte,qE,qA,qL,qD,dI,s1];exact .same rfl
  ·have kG:t.steps=[]:=by have:=of_decide_eq_false hc;exact zx (by omega)
   have hfn:Ke t.began t.steps=t.began:=by rw[kG];rfl
   rw[hfn];simp only[xq,reduceIte,qE,qA,qL,qD];refine cN (Lg 0 1 (by decide) (by simp;omega) (by simp;omega) rfl (by simp[cJ,cK,Aa,A.touch]) ?_);simp only[xq,reduceIte,qE,qA,qL,qD,b0,b1,b2,s1,Tl.ds,Vw.ds];refine cT ⟨.inr rfl,?_⟩;simp only[dK,eH,dM,cJ,reduceIte,qE,cK,gQ,xq,reduceIte,qE,qA,qL,qD,dI,s1];exact .same rfl
 ·intro e0 L' h' T hE;exact hE.elim
theorem aPs{h:cM}{a b:HB}(h0:h[0]? = some a)(h1:h[1]? = some b):h.take 2=[a,b]:=by
 match h,h0,h1 with
 | x::y::l,h0,h1 =>
  simp only[aD,zH] at h0;simp only[List.getElem?_cons_succ,aD,zH] at h1;subst h0 h1;rfl
 | [x],_,h1=>cases h1
 | [],h0,_=>cases h0
theorem Ma{n:Nat}:HB.under n Py:=by
 intro r hr y hy;simp only[zp,zc,or_false] at hr;subst hr;simp only[zp,zc,or_false] at hy;rcases hy with rfl | rfl | rfl | rfl | rfl | rfl | rfl | rfl | rfl<;>rfl
abbrev aAF(Γ:dP)(P:Program)(f:FuncId):Prop:=∀ t:Tl,TOk t.base t.steps → -1000000000000≤t.first∧t.first≤1000000000000→t.steps.length≤1000000→t.steps≠[]→FnP Γ P f [rT t] (rT (Kf t))
def tE(t:Tl):Tl:={ t with base:=(fW t.base t.steps).headD t.base }
def drI(t:Tl)(k:Nat)(L:List (Nat × HB)):Prop:=k≤1∧L=[(0,rE t)]
def drE(t:Tl)(e:Exit)(L:List (Nat × HB)):Prop:=e = .exit 0∧L=[(0,rE (tE t))]
theorem aLr{f fv f1:FuncId}(H:FnIs P f N [.c 2 9 true] (sN fv))(hN:1≤N)(Hv:Kh Γ P fv f1):aAF Γ P f:=by
 intro t lG hf hl fM;refine .of_W H (by simpa using hN) ?_;have hv:=Hv.1 t;have HG:=Hv.2 t lG hf hl;have sD:0<t.steps.length:=List.length_pos_iff.2 fM;unfold sN;simp only[rT,Tl.ds,zU,zV] at hv ⊢;refine wR ?_;simp only[xq,reduceIte,qE,qA,qL,qD];let sl0:Nat→A:=dB [(1,.ptr 0 1 0 0),(2,.ptr 1 1 0 0),(6,.fn f1 [.iptr t.ds])];have qH:∀ h':cM,2≤h'.length→h'[0]? = some (rE (tE t))→h'[1]? = some Py→∃ s1,Co 0 ⟨sl0,h'⟩ s1∧s1=⟨dB [(1,.ptr 0 1 0 0),(2,.ptr 1 1 0 0)],[rE (tE t),Py]⟩:=by
  intro h' h2 b0 b1;have ht:=aPs b0 b1;refine⟨_,Co.to (s:=⟨sl0,h'⟩) [(1,.ptr 0 1 0 0),(2,.ptr 1 1 0 0)] 2 (by simp[sl0,cK,A.under]) (zI _) h2 ?_,by simp only[ht]⟩;simp only[ht];intro B hB;simp only[zp,zc,or_false] at hB;rcases hB with rfl | rfl
  ·exact rG (rows:=[(tE t).ds])
  ·exact Ma
 refine eJ (· = ⟨dB [(1,.ptr 0 1 0 0),(2,.ptr 1 1 0 0)],[rE (tE t),Py]⟩) ?_ ?_
 ·refine wR ?_;simp only[xq,reduceIte,qE,qA,qL,qD,Tl.ds];refine dF (hv) rfl ?_;simp only[xq,reduceIte,qE,qA,qL,qD];refine dX (s':=⟨sl0,[rE t,Py]⟩) (by simp only[sl0];exact Co.keep _ (by simp[cJ,cK,Tl.ds])) ?_;refine cS (Jd (Γ:=Γ.ctx) (xs:=Tn t.first t.base t.steps) (f:=f1) (caps:=[.iptr t.ds]) rfl HG (drI t) (drE t) [(0,rE t)] ⟨zI _,rfl⟩ ?_
   (fun k n=>upd (upd (upd (upd sl0 7 (.int (t.first+(k:Int)))) 8 (fF (Tq t k))) 3 (.int (t.first+(k:Int)))) 4 (.ptr n 1 0 0)) (fun k=>[fX (Tq t k)]) ?_ ?_ ?_ ?_ ?_)
  ·intro p hp;simp only[zp,zc,or_false] at hp;subst hp;rfl
  ·intro k xa hk;obtain⟨w,_,rfl⟩:=pZ hk;rfl
  ·intro k xa h rl hk cY;obtain⟨w,hw,rfl⟩:=pZ hk;refine wR ?_;simp only[xq,reduceIte,qE,qA,qL,qD,sJ];refine cU ?_;simp only[xq,reduceIte,qE,qA,qL,qD,dA,eE,fF,Vw.ds,Gy hw];rfl
  ·intro k xa L h hk hI hL cY;obtain⟨w,hw,rfl⟩:=pZ hk;obtain⟨Cb,rfl⟩:=hI;simp only[Gy hw];simp only[za,zq] at cY;have Qc:h[0]? = some (rE t):=hL _ (zW ..);have e0:∀ tt:cM,(h++tt)[0]? = some (rE t):=fun tt=>fB Qc;rcases Nat.le_one_iff_eq_zero_or_eq_one.1 Cb with rfl | rfl
   ·have hd:decide (t.first<t.first+((0:Nat):Int))=false:=decide_eq_false (by omega);refine⟨.normal,[(0,rE t)],h++[fX w],Turn.refl (hL.app _),fun rl=>?_,.inl ⟨rfl,Nat.le_refl _,rfl⟩⟩;refine cS ?_;refine wR ?_;simp only[xq,reduceIte,qE,qA,qL,qD,sl0,e0,Tl.ds,hd];refine cL rfl (fun hd=>by cases hd) (fun _=>cQ ?_);simp only[xq,reduceIte,qE,qA,qL,qD]
   ·have hd:decide (t.first<t.first+((1:Nat):Int))=true:=decide_eq_true (by omega);have aJZ:w=(tE t).base:=by
     have h1:(fW t.base t.steps)[0]? = some w:=hw;show w=(fW t.base t.steps).headD t.base;cases hs:fW t.base t.steps with
     | nil=>rw[hs] at h1;cases h1
     | cons x l=>rw[hs] at h1;cases h1;rfl
    refine⟨.exit 0,[(0,rE (tE t))],(h++[fX w]).set 0 (rE (tE t)),Turn.one (by simp),fun rl=>?_,.inr ⟨.inr ⟨_,rfl⟩,rfl,rfl⟩⟩;refine cS ?_;refine wR ?_;simp only[xq,reduceIte,qE,qA,qL,qD,sl0,e0,Tl.ds,hd];refine cL rfl (fun _=>?_) (fun hd=>by cases hd);refine wR ?_;simp only[xq,reduceIte,qE,qA,qL,qD,dA,e0,Vw.ds,Tl.ds];refine dJ ?_;simp only[xq,reduceIte,qE,qA,qL,qD,aJZ];rfl
  ·intro L' h' T hI;rw[Dn] at hI;obtain⟨hk,rfl⟩:=hI;have hdb:tE t=t:=by
    have:fW t.base t.steps=[]:=zx (by omega);unfold tE;rw[this];rfl
   have b0:h'[0]? = some (rE t):=T.has _ (zW ..);have b1:h'[1]? = some Py:=T.keep 1 (by simp) (by simp[mP]);simp only[xq,reduceIte,qE,qA,qL,qD];exact qH h' T.len (by rw[hdb];exact b0) b1
  ·rintro e0 L' h' T ⟨rfl,rfl⟩;have b0:h'[0]? = some (rE (tE t)):=T.has _ (zW ..);have b1:h'[1]? = some Py:=T.keep 1 (by simp) (by simp[mP]);simp only[xq,reduceIte,qE,qA,qL,qD];exact qH h' T.len b0 b1
 rintro _ rfl;obtain⟨s,l,hsl⟩:∃ s l,t.steps=s::l:=by
  cases hs:t.steps with
  | nil=>exact absurd hs fM
  | cons s l=>exact⟨s,l,rfl⟩
 have hdt:Kf t=⟨t.first+1,s.time,(tE t).base,l⟩:=by rw[Kf,tE,hsl];rfl
 have w1:IntKind.i64.wrap ((tE t).first+1)=(tE t).first+1:=cX (by show _≤t.first+1∧t.first+1≤_;omega);have hds:fD (tE t).steps=s.ds::fD l:=by show fD t.steps=_;rw[hsl];rfl
 refine cN (eD (by simp[cJ,cK,dB,A.touch]) ?_);simp only[xq,reduceIte,qE,qA,qL,qD,Tl.ds,hds,w1,Stp.ds]
 repeat refine aB (by omega) ?_
 refine wR ?_;simp only[xq,reduceIte,qE,qA,qL,qD];refine cT ⟨.inr rfl,?_⟩;simp only[dK,eH,dM,cJ,reduceIte,qE,cK,gQ,xq,reduceIte,qE,qA,qL,qD,dI];rw[hdt];have ht:∀ x:List D,List.take ((((fD l).length+1:Nat):Int)-1).toNat (List.drop (Int.toNat 1) (x::fD l))=fD l:=fun x=>by
  show List.take _ (fD l)=_;exact List.take_of_length_le (by omega)
 simp only[ht];exact .same rfl
end
section
variable {P:Program}{N:Nat}{Γ:dP}
abbrev yG(n:Int):HB:=.cells ⟨1,8⟩ [[.int n]]
def vwE(x:Vw × Int):A:=.tup [fF x.1,.int x.2]
abbrev aJa(Γ:dP)(P:Program)(f:FuncId):Prop:=∀ (t:Tl) (n:Int),TOk t.base t.steps→FnP Γ P f [rT t,.int n] (vwE (atT t n))
theorem Turn.two{H:cM}{o p q:Nat}{X B B' C C':HB}(ho:H[o]? = some X)(hp:p<H.length)(hq:q<H.length)(h1:o≠p)(h2:o≠q)(fM:p≠q):Turn [(o,X),(p,B),(q,C)] [(o,X),(p,B'),(q,C')] H ((H.set p B').set q C') :=
 ⟨fun x hx=>by
  simp only[zp,zc,or_false] at hx;rcases hx with rfl | rfl | rfl
  ·rw[zM (Ne.symm h2),zM (Ne.symm h1)];exact ho
  ·rw[zM (Ne.symm fM),zN hp]
  ·exact zN (by simpa using hq),by simp,
  fun x _ hn=>by
   have h1:x≠p:=by rintro rfl;exact hn (by simp[mP])
   have h2:x≠q:=by rintro rfl;exact hn (by simp[mP])
   rw[zM (Ne.symm h2),zM (Ne.symm h1)],fun x hx=>.inl hx⟩
def atI(t:Tl)(n:Int)(k:Nat)(L:List (Nat × HB)):Prop:=(∀ j:Nat,j<k→t.first+(j:Int)≠n)∧L=[(1,yG n),(2,jJ),(3,yG 0)]
def atE(t:Tl)(n:Int)(e:Exit)(L:List (Nat × HB)):Prop:=e = .ret∧∃ (k:Nat) (w:Vw),(fQ t.base t.steps)[k]? = some w∧t.first+(k:Int)=n∧L=[(1,yG n),(2,fX w),(3,yG 0)]
theorem rH{k:Nat}{h:cM}{x y x' y':A}(h1:FrzA k h x x')(h2:FrzA k h y y'):FrzA k h (.tup [x,y]) (.tup [x',y']):=by
 refine .tup rfl fun j z hj=>?_;rcases j with _ | _ | j
 ·cases hj;exact h1
 ·cases hj;exact h2
 ·simp at hj
theorem aFi{k:Nat}{h:cM}:FrzA k h (.agg Ox) (fF lA) :=
 mT rfl (mT rfl (aEa (.d (.nil _)) (mT rfl (mT rfl (mT rfl To)))))
theorem aNL{f fc fv fo f1:FuncId}(H:FnIs P f N [.c 4 6 true,.c 5 1 false] (wN fc fv fo))(hN:2≤N)(Hc:Do Γ P fc)(Hv:Kh Γ P fv f1)(Ho:aCv Γ P fo):aJa Γ P f:=by
 intro t n lG;refine .of_W H (by simpa using hN) ?_;have hc:=Hc t lG;have hv:=Hv.1 t;unfold wN;simp only[rT,Tl.ds,zU,zV] at hc hv ⊢;refine wR ?_;simp only[xq,reduceIte,qE,qA,qL,qD];refine cN ?_;refine wR ?_;simp only[xq,reduceIte,qE,qA,qL,qD,Tl.ds];refine dF (hc) rfl ?_;simp only[xq,reduceIte,qE,qA,qL,qD];refine wR ?_;simp only[xq,reduceIte,qE,qA,qL,qD];refine cL rfl (fun hk=>?_) (fun hk=>cQ ?_)
 ·have hk:iW t≠0:=by simpa using hk
  have hat:atT t n=(lA,iW t):=by rw[atT,if_pos hk]
  rw[hat];refine wR ?_;simp only[xq,reduceIte,qE,qA,qL,qD];refine cT ⟨.inr rfl,?_⟩;simp only[dK,eH,dM,cJ,reduceIte,qE,cK,gQ,xq,reduceIte,qE,qA,qL,qD,dI];exact rH aFi (.same rfl)
 have hk:iW t=0:=by simpa using hk
 obtain⟨hf,hl⟩:=aAD hk;have HG:=Hv.2 t lG (by omega) (by omega);have hat:atT t n=if t.first≤n∧n-t.first≤((fW t.base t.steps).length:Int) then((fQ t.base t.steps).getD (n-t.first).toNat lA,0) else(lA,2):=by
  rw[atT,if_neg (by simpa using hk)];rfl
 simp only[xq,reduceIte,qE,qA,qL,qD];refine cN ?_;refine wR ?_;simp only[xq,reduceIte,qE,qA,qL,qD,Tl.ds];refine dF (hv) rfl ?_;simp only[xq,reduceIte,qE,qA,qL,qD];let sl0:Nat→A:=dB [(2,.ptr 0 1 0 0),(3,.ptr 1 1 0 0),(4,.ptr 2 1 0 0),(5,.ptr 3 1 0 0),(16,.fn f1 [.iptr t.ds])];refine dX (s':=⟨sl0,[rE t,yG n,jJ,yG 0]⟩) (by simp only[sl0];exact Co.keep _ (by simp[cJ,cK,Tl.ds])) ?_;refine cS (Jd (Γ:=Γ.ctx) (xs:=Tn t.first t.base t.steps) (f:=f1) (caps:=[.iptr t.ds]) rfl HG (atI t n) (atE t n) [(1,yG n),(2,jJ),(3,yG 0)] ⟨fun j hj=>absurd hj (Nat.not_lt_zero _),rfl⟩ ?_
  (fun k m=>upd (upd (upd (upd sl0 17 (.int (t.first+(k:Int)))) 18 (fF (Tq t k))) 7 (.int (t.first+(k:Int)))) 8 (.ptr m 1 0 0)) (fun k=>[fX (Tq t k)]) ?_ ?_ ?_ ?_ ?_)
 ·intro p hp;simp only[zp,zc,or_false] at hp;rcases hp with rfl | rfl | rfl<;>rfl
 ·intro k xa hk;obtain⟨w,_,rfl⟩:=pZ hk;rfl
 ·intro k xa h rl hk cY;obtain⟨w,hw,rfl⟩:=pZ hk;refine wR ?_;simp only[xq,reduceIte,qE,qA,qL,qD,sJ];refine cU ?_;simp only[xq,reduceIte,qE,qA,qL,qD,dA,eE,fF,Vw.ds,Gy hw];rfl
 ·intro k xa L h hk hI hL cY;obtain⟨w,hw,rfl⟩:=pZ hk;obtain⟨Cb,rfl⟩:=hI;simp only[Gy hw];simp only[za,zq] at cY;have e1:h[1]? = some (yG n):=hL _ (zW ..);have e2:h[2]? = some jJ:=hL _ (zZ _ (zW ..));have e3:h[3]? = some (yG 0):=hL _ (zZ _ (zZ _ (zW ..)));have g1:∀ tt:cM,(h++tt)[1]? = some (yG n):=fun tt=>fB e1;have g2:∀ tt:cM,(h++tt)[2]? = some jJ:=fun tt=>fB e2;have g3:∀ (tt:cM) X,((h++tt).set 2 X)[3]? = some (yG 0):=fun tt X=>by rw[zM (by decide)];exact fB e3
  have ho:=Ho w;simp only[fF,Vw.ds,zU,zV] at ho
  by_cases hn:t.first+(k:Int)=n
  ·have hd:decide (t.first+(k:Int)=n)=true:=decide_eq_true hn;refine⟨.ret,[(1,yG n),(2,fX w),(3,yG 0)],((h++[fX w]).set 2 (fX w)).set 3 (yG 0),Turn.two (g1 _) (by simp;omega) (by simp;omega) (by decide) (by decide) (by decide),fun rl=>?_,.inr ⟨.inl rfl,rfl,k,w,hw,hn,rfl⟩⟩;refine cS ?_;refine wR ?_;simp only[xq,reduceIte,qE,qA,qL,qD,sl0,g1,hd];refine cL rfl (fun _=>?_) (fun hd=>by cases hd);refine wR ?_;simp only[xq,reduceIte,qE,qA,qL,qD,sl0,dA,g2,g3,Vw.ds];refine dF (ho) rfl ?_;simp only[xq,reduceIte,qE,qA,qL,qD,g2,g3];refine cT ?_;simp only[xq,reduceIte,qE,qA,qL,qD];rfl
  ·have hd:decide (t.first+(k:Int)=n)=false:=decide_eq_false hn;refine⟨.normal,[(1,yG n),(2,jJ),(3,yG 0)],h++[fX w],Turn.refl (hL.app _),fun rl=>?_,.inl ⟨rfl,fun j hj=>?_,rfl⟩⟩
   ·refine cS ?_;refine wR ?_;simp only[xq,reduceIte,qE,qA,qL,qD,sl0,g1,hd];refine cL rfl (fun hd=>by cases hd) (fun _=>cQ ?_);simp only[xq,reduceIte,qE,qA,qL,qD]
   ·rcases Nat.lt_succ_iff_lt_or_eq.1 hj with hj | rfl
    ·exact Cb j hj
    ·exact hn
 ·intro L' h' T hI;rw[Dn] at hI;obtain⟨Cb,rfl⟩:=hI;have aEI:atT t n=(lA,2):=by
   rw[hat,if_neg];rintro⟨q1,q2⟩;exact Cb (n-t.first).toNat (by omega) (by omega)
  have b2:h'[2]? = some jJ:=T.has _ (zZ _ (zW ..));have b3:h'[3]? = some (yG 0):=T.has _ (zZ _ (zZ _ (zW ..)));have eG:4≤h'.length:=T.len;have s2:∀ X,(h'.set 2 X)[3]? = some (yG 0):=fun X=>by rw[zM (by decide)];exact b3
  have s3:∀ X Y,((h'.set 2 X).set 3 Y)[3]? = some Y:=fun X Y=>zN (by simp;omega);have s4:∀ X Y,((h'.set 2 X).set 3 Y)[2]? = some X:=fun X Y=>by rw[zM (by decide),zN (by omega)]
  rw[aEI];simp only[xq,reduceIte,qE,qA,qL,qD,sl0];refine wR ?_;simp only[xq,reduceIte,qE,qA,qL,qD,b2,b3,s2];refine cT ⟨.inr rfl,?_⟩;simp only[dK,eH,dM,cJ,reduceIte,qE,cK,gQ,xq,reduceIte,qE,qA,qL,qD,dI,s3,s4];exact rH aFi (.same rfl)
 ·rintro e0 L' h' T ⟨rfl,k,w,hw,hn,rfl⟩;have aQT:=(List.getElem?_eq_some_iff.1 hw).1;simp only[fQ,za] at aQT;have aEI:atT t n=(w,0):=by
   rw[hat,if_pos (by omega),show(n-t.first).toNat=k by omega,zC,hw];rfl
  have b2:h'[2]? = some (fX w):=T.has _ (zZ _ (zW ..));have b3:h'[3]? = some (yG 0):=T.has _ (zZ _ (zZ _ (zW ..)));rw[aEI];simp only[xq,reduceIte,qE,qA,qL,qD];refine⟨.inr rfl,?_⟩;simp only[sl0];simp only[dK,eH,dM,cJ,reduceIte,qE,cK,gQ,xq,reduceIte,qE,qA,qL,qD,dI,b2,b3,Vw.ds];exact .same rfl
end
section
variable {P:Program}{N:Nat}{Γ:dP}
theorem FnD.toP{f:FuncId}{args:List A}{r r':A}{h':cM}(hf:FnD Γ.ctx P f args [] r h')(hr:FrzA 0 h' r r'):FnP Γ P f args r':=by
 refine⟨hf.ent,fun M w vs bnd T fR=>?_⟩;have S0:SimH w M [] []:=by
  refine⟨rfl,fun id e rows hh=>?_,fun id o hh=>?_,fun id hh=>?_,fun i j b p q hi=>?_⟩<;>simp at *
 refine(hf.run M w [] vs bnd S0 (.of_t T) fR).mono fun e w' he=>?_;obtain⟨v,ρ',rfl,q1,q2,q3⟩:=he;have nD:=hr.rep q2 (zI _) q1;simp only[aE] at nD;have g':Evo 0 [] [] w [] [] w':=by
  have:=q3.trans (Evo.take (n0:=0) (k:=0) (h:=h') (ρ:=ρ') (w:=w') (Nat.le_refl _) (zI _));simpa using this
 exact⟨v,rfl,nD,g'⟩
theorem aCz{t:Tl}(h:iW t=0):dO t.base=0∧Bc t.began t.base t.steps=0:=by
 unfold iW at h;split at h
 ·cases h
 ·split at h
  ·rename_i h2;exact absurd h h2
  ·rename_i h2;split at h
   ·cases h
   ·exact⟨by simpa using h2,h⟩
end
section
variable {P:Program}{N:Nat}{Γ:dP}
theorem Yz{v:Vw}{s:Stp}{l:List Stp}(h:(dU v s.chs).2.2=0):qG v (s::l)=qG (dU v s.chs).1 l:=by
 rw[qG,qG,fW,if_pos h,aG]
theorem aCA:∀ {l:List Stp} {v:Vw} {s:Stp},TOk v l→mL (qG v l) s.chs→(∀ c∈s.chs,CgOk c)→((dU (qG v l) s.chs).2.2=0→Sm (dU (qG v l) s.chs).1 50000)→TOk v (l++[s])
 | [],v,s,_,h1,h2,h3=>⟨h1,h2,h3⟩
 | x::l,v,s,h,h1,h2,h3=>⟨h.1,h.2.1,fun he=>by
  rw[Yz he] at h1 h3;exact aCA (h.2.2 he) h1 h2 h3⟩
theorem aEg:∀ {l:List Stp} {v:Vw} {b:Int},dO v=0→Bc b v l=0→dO (qG v l)=0∧(fW v l).length=l.length
 | [],v,b,hv,_=>⟨hv,rfl⟩
 | s::l,v,b,hv,hc=>by
  rw[Bc] at hc;split at hc
  ·cases hc
  ·split at hc
   ·cases hc
   ·split at hc
    ·rename_i h1;exact absurd hc h1
    ·rename_i h1;have h1:(dU v s.chs).2.2=0:=by simpa using h1
     obtain⟨a,b⟩:=aEg ((Db v s.chs).1 h1).2.2 hc;rw[Yz h1,fW,if_pos h1,za,za,b];exact⟨a,rfl⟩
theorem Pz{k:Nat}{h h2:cM}{id:Nat}{e:Elt}{rows:List (List A)}(h1:h[id]? = some (.cells e rows))(Xe:h2[id]? = some (.cells e rows))(hu:HB.under k (.cells e rows)):aPb k h h2 id :=
 ⟨e,rows,rows,h1,Xe,rfl,fun q r r2 hq hq2=>by
  rw[hq] at hq2;cases hq2;refine⟨rfl,fun j y hj=>?_⟩;have:=hu r (zY hq) y (zY hj);exact⟨by rw[zC,hj];exact .same this,this⟩⟩
def tlE(x:Tl × Int):A:=.tup [rT x.1,.int x.2]
abbrev Gz(Γ:dP)(P:Program)(f:FuncId):Prop:=∀ (t:Tl) (v:Vw) (n:Int),TOk t.base t.steps→Sm v 140→Sm (qG t.base t.steps) 140→FnP Γ P f [rT t,fF v,.int n] (tlE (Dl t v n))
abbrev aCB(Γ:dP)(P:Program)(f:FuncId):Prop:=∀ (t:Tl) (h:cM),FnD Γ.ctx P f [rT t] h (.agg (tlW t (.ref (h.length+2) t.steps.length 0 t.steps.length true)))
 (h++[tlX t (.ref (h.length+2) t.steps.length 0 t.steps.length true),tlX t (.ref (h.length+2) t.steps.length 0 t.steps.length true),stB t.steps])
theorem aLs{f fc fv ff fy fe fd fr:FuncId}(H:FnIs P f N [.c 6 9 true,.t 7] (uH fc fv ff fy fe fd fr))(hN:3≤N)(Hc:Do Γ P fc)(Hv:sY Γ P fv)(Hf:Tr Γ P ff)(Hy:aCB Γ P fy)(He:Lp Γ P fe)
  (Hd:Lx Γ P fd) (Hr:aAF Γ P fr):Gz Γ P f:=by
 intro t v n lG sv sw;obtain⟨r,hr⟩:∃ r,Dl t v n=r:=⟨_,rfl⟩;rw[hr];refine .of_W H (by simpa using hN) ?_;have hc:=Hc t lG;have hv:=Hv v (sv.mono (by omega));unfold uH;simp only[rT,fF,Tl.ds,Vw.ds,zU,zV] at hc hv ⊢;refine wR ?_;simp only[xq,reduceIte,qE,qA,qL,qD];refine cN ?_;refine wR ?_;simp only[xq,reduceIte,qE,qA,qL,qD,Tl.ds];refine dF (hc) rfl ?_;simp only[xq,reduceIte,qE,qA,qL,qD];refine wR ?_;simp only[xq,reduceIte,qE,qA,qL,qD];refine cL rfl (fun hk=>?_) (fun hk=>cQ ?_)
 ·have hk:iW t≠0:=by simpa using hk
  rw[show r=(lC,iW t) by rw[← hr,Dl,if_pos hk]];refine wR ?_;simp only[xq,reduceIte,qE,qA,qL,qD];refine cT ⟨.inr rfl,?_⟩;simp only[dK,eH,dM,cJ,reduceIte,qE,cK,gQ,xq,reduceIte,qE,qA,qL,qD,dI];exact rH rU (.same rfl)
 have hk:iW t=0:=by simpa using hk
 obtain⟨hf,hl⟩:=aAD hk;obtain⟨Bl,Il⟩:=aCz hk;obtain⟨hfv,hfl⟩:=aEg Bl Il;have qH:=Hf t lG (by omega) (by omega);obtain⟨w,hw⟩:∃ w,w=qG t.base t.steps:=⟨_,rfl⟩;obtain⟨last,aC3⟩:∃ last,last=Ke t.began t.steps:=⟨_,rfl⟩;rw[← hw,← aC3] at qH;rw[← hw] at sw hfv;have lN:r=if dO v≠0 then(lC,dO v) else if n<0∨nV<n then(lC,2) else if n<last then(lC,10) else if w=v then(t,0)
   else if 200<(t.steps++[(⟨n,gX w v⟩:Stp)]).length then(Kf { t with steps:=t.steps++[⟨n,gX w v⟩] },0) else({ t with steps:=t.steps++[⟨n,gX w v⟩] },0):=by
  rw[← hr,Dl,if_neg (by simpa using hk),hw,aC3]
 simp only[rT,fF,Tl.ds,Vw.ds,zU,zV] at qH;simp only[xq,reduceIte,qE,qA,qL,qD];refine cN ?_;refine wR ?_;simp only[xq,reduceIte,qE,qA,qL,qD,Vw.ds];refine dF (hv) rfl ?_;simp only[xq,reduceIte,qE,qA,qL,qD];refine wR ?_;simp only[xq,reduceIte,qE,qA,qL,qD];refine cL rfl (fun h1=>?_) (fun h1=>cQ ?_)
 ·have h1:dO v≠0:=by simpa using h1
  rw[if_pos h1] at lN;rw[lN];refine wR ?_;simp only[xq,reduceIte,qE,qA,qL,qD];refine cT ⟨.inr rfl,?_⟩;simp only[dK,eH,dM,cJ,reduceIte,qE,cK,gQ,xq,reduceIte,qE,qA,qL,qD,dI];exact rH rU (.same rfl)
 have h1:¬ dO v≠0:=by simpa using h1
 rw[if_neg h1] at lN;simp only[xq,reduceIte,qE,qA,qL,qD];refine wR ?_;simp only[xq,reduceIte,qE,qA,qL,qD,Tl.ds];refine dF (qH) rfl ?_;simp only[xq,reduceIte,qE,qA,qL,qD];let H4:cM:=[rE t,fX v,Py,fX w];let S1:Nat→Bool→St:=fun j b=>⟨dB [(2,.int n),(3,.ptr 0 1 0 0),(4,.ptr 1 1 0 0),(6,.ptr 2 1 0 0),(10,.ptr 3 1 0 0),(11,.int last),(j,.bool b)],H4⟩;refine cN (cS ?_);refine eJ (· = S1 29 (decide (n<0)||decide ((1099511627776:Int)<n))) ?_ ?_
 ·refine wR ?_;simp only[xq,reduceIte,qE,qA,qL,qD];refine cL rfl (fun h2=>cQ ?_) (fun h2=>?_)
  ·exact⟨rfl,_,Co.keep _ (by simp[cJ,cK,h2]),rfl⟩
  ·refine cU ?_;simp only[xq,reduceIte,qE,qA,qL,qD];exact⟨_,Co.keep _ (by simp[cJ,cK,h2]),rfl⟩
 rintro _ rfl;simp only[S1,H4];refine cL rfl (fun h2=>?_) (fun h2=>?_)
 ·have h2:n<0∨nV<n:=by simpa[nV] using h2
  rw[if_pos h2] at lN;rw[lN];refine wR ?_;simp only[xq,reduceIte,qE,qA,qL,qD];refine cT ?_;simp only[xq,reduceIte,qE,qA,qL,qD];refine⟨.inr rfl,?_⟩;simp only[dK,eH,dM,cJ,reduceIte,qE,cK,gQ,xq,reduceIte,qE,qA,qL,qD,dI];exact rH rU (.same rfl)
 have h2:¬ (n<0∨nV<n):=by
  simp only[aA,decide_eq_false_iff_not] at h2;rintro(h | h)
  ·exact h2.1 h
  ·exact h2.2 h
 rw[if_neg h2] at lN;refine wR ?_;simp only[xq,reduceIte,qE,qA,qL,qD];refine cL rfl (fun h3=>?_) (fun h3=>cQ ?_)
 ·have h3:n<last:=by simpa using h3
  rw[if_pos h3] at lN;rw[lN];refine wR ?_;simp only[xq,reduceIte,qE,qA,qL,qD];refine cT ?_;simp only[xq,reduceIte,qE,qA,qL,qD];refine⟨.inr rfl,?_⟩;simp only[dK,eH,dM,cJ,reduceIte,qE,cK,gQ,xq,reduceIte,qE,qA,qL,qD,dI];exact rH rU (.same rfl)
 have h3:¬ n<last:=by simpa using h3
 rw[if_neg h3] at lN;simp only[xq,reduceIte,qE,qA,qL,qD];refine wR ?_;simp only[xq,reduceIte,qE,qA,qL,qD,Tl.ds];refine qJ (Hy t _) ?_;simp only[xq,reduceIte,qE,qA,qL,qD,tlW,Tl.ds];let x:A:=.ref 6 t.steps.length 0 t.steps.length true;let H7:cM:=[tlX t x,fX v,Py,fX w,tlX t x,tlX t x,stB t.steps];refine dX (s':=⟨dB [(2,.int n),(3,.ptr 0 1 0 0),(4,.ptr 1 1 0 0),(6,.ptr 2 1 0 0),(10,.ptr 3 1 0 0)],H7⟩) (Co.keep _ (by simp[cJ,cK])) ?_;have he:=He w v;simp only[fF,Vw.ds,zU,zV] at he;simp only[H7,x];refine cN ?_;refine wR ?_;simp only[xq,reduceIte,qE,qA,qL,qD,Vw.ds];refine dF (he) rfl ?_;simp only[xq,reduceIte,qE,qA,qL,qD];refine cL rfl (fun h4=>?_) (fun h4=>cQ ?_)
 ·have h4:w=v:=by simpa using h4
  rw[if_pos h4] at lN;rw[lN];refine wR ?_;simp only[xq,reduceIte,qE,qA,qL,qD,tlW];refine cT ⟨.inr rfl,?_⟩;simp only[dK,eH,dM,cJ,reduceIte,qE,cK,gQ,xq,reduceIte,qE,qA,qL,qD,dI];exact rH (aFg (q:=6) (zI _) rfl) (.same rfl)
 have h4:¬ w=v:=by simpa using h4
 rw[if_neg h4] at lN;have Gb:dO v=0:=by simpa using h1
 have hd:=Hd w v sw sv;obtain⟨t2,ht2⟩:∃ t2:Tl,t2={ t with steps:=t.steps++[⟨n,gX w v⟩] }:=⟨_,rfl⟩;have aA4:t2.steps=t.steps++[⟨n,gX w v⟩]:=by rw[ht2]
 have aHC:t2.steps.length=t.steps.length+1:=by rw[aA4];simp
 have aQ0:TOk t2.base t2.steps:=by
  rw[ht2];refine aCA lG ?_ ?_ ?_
  ·rw[← hw];exact Sx hfv Gb (sw.mono (by omega)) (sv.mono (by omega))
  ·exact aFb sv
  ·rw[← hw,Ka hfv Gb];exact fun _=>sv.mono (by omega)
 rw[← ht2] at lN;simp only[fF,Vw.ds,zU,zV] at hd;simp only[xq,reduceIte,qE,qA,qL,qD];refine eJ (· = ⟨dB [(3,.ptr 0 1 0 0),(6,.ptr 2 1 0 0)],[rE t2,fX v,Py]⟩) (eD (by simp) ?_) ?_
 ·simp only[xq,reduceIte,qE,qA,qL,qD,tlW,Vw.ds];refine dF (hd) rfl ?_;simp only[xq,reduceIte,qE,qA,qL,qD,tlW,Vw.ds];let x2:A:=.ref 6 (t.steps.length+1) 0 (t.steps.length+1) true;let HX:cM:=[tlX t x2,fX v,Py,fX w,tlX t (.ref 6 t.steps.length 0 t.steps.length true),tlX t (.ref 6 t.steps.length 0 t.steps.length true),
   .cells eSt ((fD t.steps).map (fun r=>r.map A.d)++[[.int n,eV (gX w v)]]),.cells eSt [[.int n,eV (gX w v)]],.res]
  have h6:HX[6]? = some (stB t2.steps):=by
   have e:(fD t2.steps).map (fun r=>r.map A.d)=(fD t.steps).map (fun r=>r.map A.d)++[[.int n,eV (gX w v)]]:=by rw[aA4,Tj,List.map_append];rfl
   show some (HB.cells eSt _)=some (HB.cells eSt ((fD t2.steps).map fun r=>r.map A.d));rw[e]
  have Vp:=aEb (k:=3) (by decide) h6;rw[aHC] at Vp;refine⟨dR.symm,by simp only[dL];omega,by simp only[maxLen];omega,_,Co.frzH (s:=⟨_,HX⟩) [(3,.ptr 0 1 0 0),(6,.ptr 2 1 0 0)] 3 [rE t2,fX v,Py] ?_ (zI _) (by simp[HX]) rfl ?_,rfl⟩
  ·intro p hp;simp only[zp,zc,or_false] at hp;rcases hp with rfl | rfl
   ·exact⟨.same rfl,rfl⟩
   ·exact⟨.same rfl,rfl⟩
  ·intro id hid;rcases(by omega:id=0∨id=1∨id=2) with rfl | rfl | rfl
   ·refine⟨eTl,[tlW t x2],[t2.ds.map .d],rfl,rfl,rfl,fun q r r2 hq hq2=>?_⟩;cases q with
    | succ q=>simp at hq
    | zero =>
     cases hq;cases hq2;refine⟨rfl,fun j y hj=>?_⟩;rw[ht2] at hj;rcases j with _ | _ | _ | _ | _ | _ | _ | _ | _ | j
     ·cases hj;exact⟨.same rfl,rfl⟩
     ·cases hj;exact⟨.same rfl,rfl⟩
     ·cases hj;exact⟨.same rfl,rfl⟩
     ·cases hj;exact⟨.same rfl,rfl⟩
     ·cases hj;exact⟨.same rfl,rfl⟩
     ·cases hj;exact⟨.same rfl,rfl⟩
     ·cases hj;exact⟨.same rfl,rfl⟩
     ·cases hj;exact⟨.same rfl,rfl⟩
     ·have hy:y=aCt t2.steps:=by rw[ht2];cases hj;rfl
      subst hy;exact⟨Vp,rfl⟩
     ·simp[Tl.ds] at hj
   ·exact Pz rfl rfl (rG (rows:=[v.ds]))
   ·exact Pz rfl rfl Ma
 rintro _ rfl;refine eJ (· = ⟨dB [(3,.ptr 0 1 0 0),(6,.ptr 2 1 0 0)],[rE r.1,fX v,Py]⟩) ?_ ?_
 ·refine wR ?_;simp only[xq,reduceIte,qE,qA,qL,qD,Tl.ds,dR,aHC];refine cL rfl (fun h5=>?_) (fun h5=>cQ ?_)
  ·have h5:200<t2.steps.length:=by have:=of_decide_eq_true h5;omega
   rw[← aA4,if_pos h5] at lN;have hdr:=Hr t2 aQ0 (by rw[ht2];simp only;omega) (by omega) (by intro h;rw[h] at h5;simp at h5);rw[lN];simp only[rT,Tl.ds,zU,zV] at hdr;refine cU ?_;simp only[xq,reduceIte,qE,qA,qL,qD,Tl.ds];refine dF (hdr) rfl ?_;simp only[xq,reduceIte,qE,qA,qL,qD,Tl.ds];exact⟨_,Co.keep _ (by simp[cJ,cK]),rfl⟩
  ·have h5:¬ 200<t2.steps.length:=by have:=of_decide_eq_false h5;omega
   rw[← aA4,if_neg h5] at lN;rw[lN];exact⟨rfl,_,Co.keep _ (by simp[cJ,cK]),rfl⟩
 rintro _ rfl;have hr2:r.2=0:=by
  rw[lN];split<;>rfl
 refine wR ?_;simp only[xq,reduceIte,qE,qA,qL,qD,Tl.ds];refine cT ⟨.inr rfl,?_⟩;simp only[dK,eH,dM,cJ,reduceIte,qE,cK,gQ,xq,reduceIte,qE,qA,qL,qD,dI];rw[tlE,hr2];exact .same rfl
end
section
variable {P:Program}{N:Nat}{Γ:dP}
abbrev aCC(l:List Mom):A:=.d (.sl eMo (rF l))
abbrev moB(m:Mom):HB:=.cells eMo [m.ds.map .d]
def fineM(l:List Mom):Bool:=decide (l.length≤8)&&l.all fun m => !greatV m.view
theorem aJb{l:List Mom}(h:fineM l=true):l.length≤8∧∀ m∈l,Sm m.view 140:=by
 simp only[fineM,zf,decide_eq_true_eq,List.all_eq_true,aI] at h;exact⟨h.1,fun m hm=>(aGx (h.2 m hm)).1⟩
abbrev aEh(Γ:dP)(P:Program)(f:FuncId):Prop:=∀ l:List Mom,FnP Γ P f [aCC l] (.bool (fineM l))
theorem aLt{f fg:FuncId}(H:FnIs P f N [.t 2] (Ad fg))(hN:1≤N)(Hg:∀ v:Vw,FnP Γ P fg [fF v] (.bool (greatV v))):aEh Γ P f:=by
 intro l;refine .of_W H (by simpa using hN) ?_;unfold Ad;have fin:∀ (sl:Nat→A) (h:cM) (r:Bool),sl 2 = .bool r→fineM l=r→Bw [.t 2] (.bool (fineM l)) .ret ⟨sl,h⟩:=fun sl h r h2 hr=>by
  rw[hr];exact .tmp h2 rfl
 refine wR ?_;simp only[xq,reduceIte,qE,qA,qL,qD];refine cN ?_;refine wR ?_;simp only[xq,reduceIte,qE,qA,qL,qD,jT];refine cL rfl (fun hl=>?_) (fun hl=>cQ ?_)
 ·have hl:¬ l.length≤8:=by have:=of_decide_eq_true hl;omega
  refine wR ?_;simp only[xq,reduceIte,qE,qA,qL,qD];exact cT (fin _ _ false rfl (by simp[fineM,hl]))
 have hl:l.length≤8:=by have:=of_decide_eq_false hl;omega
 have hf:fineM l=l.all fun m => !greatV m.view:=by simp[fineM,hl]
 simp only[xq,reduceIte,qE,qA,qL,qD];refine cN ?_;refine wR ?_;simp only[xq,reduceIte,qE,qA,qL,qD,jT];refine cS ?_;let S:Nat→cM→St:=fun i hp=>⟨dB [(8,aCC l),(9,.int l.length),(10,.int i)],hp⟩;refine dX (s':=S 0 []) (Co.keep _ (by simp[cJ,cK])) ?_;refine dN (fun m s=>∃ i hp,i≤l.length∧m=l.length-i∧s=S i hp∧((l.drop i).all fun m => !greatV m.view)=fineM l) ⟨0,_,zI _,rfl,rfl,by rw[hf];rfl⟩ ?_;rintro m s ⟨i,hp,hi,rfl,rfl,sC⟩;simp only[S];refine wR ?_;simp only[xq,reduceIte,qE,qA,qL,qD];refine cN (cL rfl (fun hc=>cQ ?_) (fun hc=>dJ ?_))
 ·have cY:i<l.length:=by simpa using hc
  have w1:IntKind.i64.wrap ((i:Int)+1)=((i+1:Nat):Int):=by rw[cX (by omega)];omega
  obtain⟨m,hm⟩:∃ m,m=l[i]:=⟨_,rfl⟩;have hmg:(rF l).getD i []=m.ds:=by rw[Tk cY,← hm]
  rw[zd cY,List.all_cons,← hm] at sC;have hg:=Hg m.view;simp only[fF,Vw.ds,zU,zV] at hg;simp only[xq,reduceIte,qE,qA,qL,qD];refine cN (cS ?_);refine wR ?_;simp only[xq,reduceIte,qE,qA,qL,qD,jT,hmg,Mom.ds,zQ,dA,eE]
  repeat refine aB (by omega) ?_
  refine wR ?_;simp only[xq,reduceIte,qE,qA,qL,qD,dA,Mom.ds];refine dF (hg) rfl ?_;simp only[xq,reduceIte,qE,qA,qL,qD];refine cL rfl (fun h1=>?_) (fun h1=>cQ ?_)
  ·rw[h1] at sC;refine wR ?_;simp only[xq,reduceIte,qE,qA,qL,qD];exact cT (fin _ _ false rfl sC.symm)
  ·rw[h1] at sC;simp only[xq,reduceIte,qE,qA,qL,qD];refine cU ?_;simp only[xq,reduceIte,qE,qA,qL,qD,w1];exact⟨l.length-(i+1),S (i+1) _,by omega,Co.keep _ (by simp[cJ,cK]),i+1,_,cY,rfl,rfl,sC⟩
 ·have Zi:i=l.length:=by simp at hc;omega
  subst Zi;rw[aJ] at sC;simp only[xq,reduceIte,qE,qA,qL,qD];refine wR ?_;simp only[xq,reduceIte,qE,qA,qL,qD];exact cT (fin _ _ true rfl sC.symm)
end
section
variable {P:Program}{N:Nat}{Γ:dP}
def awA:Vw:=⟨3,1,[[]],0,0,false⟩
def awB:Vw:=⟨3,1,[[⟨⟨#[120]⟩,false,0⟩]],0,0,false⟩
theorem aEi{f fn fa fw ft fl fe:FuncId}(H:FnIs P f N [.t 0] (wM fn fa fw ft fl fe))(Hn:Gx Γ P fn)(Ha:Gz Γ P fa)(Hw:aAE Γ P fw)(Ht:aJa Γ P ft)(Hl:Bf Γ P fl)(He:Lp Γ P fe)
  (ha:dO awA=0) (hb:dO awB=0):FnP Γ P f [] (.bool true):=by
 refine .of_W H (by simp) ?_;unfold wM;have fM:¬ awA=awB:=by decide
 have sa:Sm awA 140:=⟨by simp[awA],by simp[awA]⟩;have sb:Sm awB 140:=⟨by simp[awB],by intro r hr g hg;simp only[awB,zp,zc,or_false] at hr;subst hr;simp only[zp,zc,or_false] at hg;subst hg;decide⟩;let m0:Mom:=⟨awA,5⟩;let m1:Mom:=⟨awB,7⟩;have k0:iF m0 []:=⟨ha,by decide,by decide⟩;have k1:iF m0 [m1]:=⟨ha,by decide,by decide,hb,by decide,by decide⟩;have s0:∀ x∈[m0],Sm x.view 140:=by simp[m0,sa]
 have s1:∀ x∈[m0,m1],Sm x.view 140:=by simp[m0,m1,sa,sb]
 have hn:FnP Γ P fn [fF awA,.int 5] (rT (kF 0 m0 [])):=by
  have:=Hn awA 5 (sa.mono (by omega));rw[Lz,if_neg (by rw[ha];decide)] at this;exact this
 have h1:FnP Γ P fa [rT (kF 0 m0 []),fF awB,.int 7] (tlE (kF 0 m0 [m1],0)):=by
  have:=Ha (kF 0 m0 []) awB 7 (Gw k0 s0) sb sa;rw[aAC k0 (by decide) (by decide),if_neg (by rw[hb];decide),if_neg (by decide),if_neg (by decide),show(mN m0 []).view=awA from rfl,if_neg fM,if_neg (by decide)] at this;exact this
 have h2:FnP Γ P fa [rT (kF 0 m0 [m1]),fF awB,.int 9] (tlE (kF 0 m0 [m1],0)):=by
  have:=Ha (kF 0 m0 [m1]) awB 9 (Gw k1 s1) sb (by show Sm (qG m0.view (iQ m0 [m1])) 140;rw[aAB k1];exact sb);rw[aAC k1 (by decide) (by decide),if_neg (by rw[hb];decide),if_neg (by decide),if_neg (by decide),show(mN m0 [m1]).view=awB from rfl,if_pos rfl] at this;exact this
 have h3:FnP Γ P fw [rT (kF 0 m0 [m1]),.int 6] (.tup [.int 0,.int 0]):=by
  have:=Hw (kF 0 m0 [m1]) 6 (Gw k1 s1);rw[aCs k1 (by decide) (by decide)] at this;exact this
 have h4:FnP Γ P fw [rT (kF 0 m0 [m1]),.int 8] (.tup [.int 1,.int 0]):=by
  have:=Hw (kF 0 m0 [m1]) 8 (Gw k1 s1);rw[aCs k1 (by decide) (by decide)] at this;exact this
 have h5:FnP Γ P ft [rT (kF 0 m0 [m1]),.int 1] (vwE (awB,0)):=by
  have:=Ht (kF 0 m0 [m1]) 1 (Gw k1 s1);rw[aNG k1 (by decide) (by decide),if_pos (by decide)] at this;exact this
 have h6:FnP Γ P fl [rT (kF 0 m0 [m1])] (.int 1):=Hl (kF 0 m0 [m1]) (by decide) (by decide);have h7:=He awB awB;rw[decide_eq_true rfl] at h7;clear_value m0 m1;generalize kF 0 m0 []=t0 at *;generalize kF 0 m0 [m1]=t1 at *;simp only[tlE,vwE,rT,Tl.ds,fF,Vw.ds,zU,zV] at hn h1 h2 h3 h4 h5 h6 h7;refine wR ?_;simp only[xq,reduceIte,qE,qA,qL,qD];refine wR ?_;simp only[xq,reduceIte,qE,qA,qL,qD];refine wR ?_;simp only[xq,reduceIte,qE,qA,qL,qD];refine dX (Co.frz [(1,.iptr awA.ds),(2,.iptr awB.ds)] 0 ?_ (zI _) (zI _) (by simp)) ?_
 ·intro p hp;simp only[zp,zc,or_false] at hp;rcases hp with rfl | rfl
  ·exact(aIm (dflt:=⟨3,32⟩) 10).1 _ _ rfl
  ·exact(aIm (dflt:=⟨3,32⟩) 10).1 _ _ rfl
 simp only[aE];refine wR ?_;simp only[xq,reduceIte,qE,qA,qL,qD,Vw.ds];refine dF (hn) rfl ?_;simp only[xq,reduceIte,qE,qA,qL,qD];refine wR ?_;simp only[xq,reduceIte,qE,qA,qL,qD,Vw.ds,Tl.ds];refine dF (h1) rfl ?_;simp only[xq,reduceIte,qE,qA,qL,qD];refine wR ?_;simp only[xq,reduceIte,qE,qA,qL,qD,Vw.ds,Tl.ds];refine dF (h2) rfl ?_;simp only[xq,reduceIte,qE,qA,qL,qD];refine wR ?_;simp only[xq,reduceIte,qE,qA,qL,qD,Tl.ds];refine dF (h3) rfl ?_;simp only[xq,reduceIte,qE,qA,qL,qD];refine wR ?_;simp only[xq,reduceIte,qE,qA,qL,qD,Tl.ds];refine dF (h4) rfl ?_;simp only[xq,reduceIte,qE,qA,qL,qD];refine wR ?_;simp only[xq,reduceIte,qE,qA,qL,qD,Tl.ds];refine dF (h5) rfl ?_;simp only[xq,reduceIte,qE,qA,qL,qD];have d0:decide ((0:Int)=0)=true:=by decide
 have d1:decide ((1:Int)=1)=true:=by decide
 refine Zz fun K hK=>?_;have fin:∀ (sl:Nat→A) (h:cM),sl 0 = .bool true→K ⟨sl,h⟩:=fun sl h h0=>hK _ (cT (.tmp h0 rfl));clear hK;refine fS 12 fun K1 hK1=>?_;simp only[xq,reduceIte,qE,qA,qL,qD,d0,d1];refine hK1 _ ?_;clear hK1 K1;refine fS 9 fun K1 hK1=>?_;simp only[xq,reduceIte,qE,qA,qL,qD,d0,d1,Tl.ds];refine dF (h6) rfl ?_;simp only[xq,reduceIte,qE,qA,qL,qD,d0,d1];refine hK1 _ ?_;clear hK1 K1;refine fS 10 fun K1 hK1=>?_;simp only[xq,reduceIte,qE,qA,qL,qD,d0,d1];refine hK1 _ ?_;clear hK1 K1;simp only[xq,reduceIte,qE,qA,qL,qD,d0,d1,Vw.ds];refine dF (h7) rfl ?_;simp only[xq,reduceIte,qE,qA,qL,qD];exact fin _ _ rfl
end
section
variable {P:Program}{N:Nat}{Γ:dP}
theorem aG8{m0 m x:Mom}{ins:List Mom}(h:x∈Fx m0 ins m):x∈ins∨x=m:=by
 unfold Fx at h;split at h
 ·exact .inl h
 ·split at h
  ·exact .inl h
  ·split at h
   ·exact .inl h
   ·split at h
    ·exact .inl h
    ·rcases List.mem_append.1 h with h | h
     ·exact .inl h
     ·exact .inr (List.mem_singleton.1 h)
end
section
variable {P:Program}{N:Nat}{Γ:dP}
abbrev aAG(Γ:dP)(P:Program)(f:FuncId):Prop:=∀ a b:Tl,FnP Γ P f [rT a,rT b] (.bool (decide (a=b)))
def headT(a b:Tl):Bool:=((decide (a.first=b.first)&&decide (a.began=b.began))&&decide (a.base=b.base))&&decide (a.steps.length=b.steps.length)
theorem aJc{a b:Tl}(h:headT a b=true)(hs:a.steps=b.steps):a=b:=by
 simp only[headT,zf,decide_eq_true_eq] at h;obtain⟨⟨⟨h1,h2⟩,h3⟩,_⟩:=h;cases a;cases b;simp only at h1 h2 h3 hs;subst h1 h2 h3 hs;rfl
theorem aJd{f fv fc:FuncId}(H:FnIs P f N [.t 4] (Ae fv fc))(hN:2≤N)(Hv:Lp Γ P fv)(Hc:Yy Γ P fc):aAG Γ P f:=by
 intro a b;refine .of_W H (by simpa using hN) ?_;have hv:=Hv a.base b.base;unfold Ae;simp only[rT,fF,Vw.ds,Tl.ds,zU,zV] at hv ⊢;refine tK 0 8 rfl rfl fun⟨_,xH,_⟩=>?_;rw[dR] at xH;have xH:=fI xH;simp only[dL] at xH;have fin:∀ (sl:Nat→A) (h:cM) (r:Bool),sl 4 = .bool r→decide (a=b)=r→Bw [.t 4] (.bool (decide (a=b))) .ret ⟨sl,h⟩:=fun sl h r h2 hr=>by
  rw[hr];exact .tmp h2 rfl
 refine wR ?_;simp only[xq,reduceIte,qE,qA,qL,qD];refine cN ?_;refine eJ (· = ⟨dB [(2,.ptr 0 1 0 0),(3,.ptr 1 1 0 0),(34,.bool (!headT a b))],[rE a,rE b]⟩) (cU ?_) ?_
 ·refine fS 6 fun K1 hK1=>?_;simp only[xq,reduceIte,qE,qA,qL,qD];refine hK1 _ ?_;clear hK1 K1;refine fS 7 fun K1 hK1=>?_;cases e1:decide (a.first=b.first)
  ·simp only[xq,reduceIte,qE,qA,qL,qD,cV,zE];refine hK1 _ ?_;clear hK1 K1;simp only[xq,reduceIte,qE,qA,qL,qD,cV,zE];exact⟨_,Co.keep _ (by simp[cJ,cK,headT,e1,Tl.ds]),rfl⟩
  ·simp only[xq,reduceIte,qE,qA,qL,qD,cV,zE];refine hK1 _ ?_;clear hK1 K1;refine fS 8 fun K1 hK1=>?_;cases e2:decide (a.began=b.began)
   ·simp only[xq,reduceIte,qE,qA,qL,qD,cV,zE];refine hK1 _ ?_;clear hK1 K1;simp only[xq,reduceIte,qE,qA,qL,qD,cV,zE];exact⟨_,Co.keep _ (by simp[cJ,cK,headT,e1,e2,Tl.ds]),rfl⟩
   ·simp only[xq,reduceIte,qE,qA,qL,qD,cV,zE];refine dF (hv) rfl ?_;simp only[xq,reduceIte,qE,qA,qL,qD];refine hK1 _ ?_;clear hK1 K1;cases e3:decide (a.base=b.base)
    ·simp only[xq,reduceIte,qE,qA,qL,qD,cV,zE];exact⟨_,Co.keep _ (by simp[cJ,cK,headT,e1,e2,e3,Tl.ds]),rfl⟩
    ·simp only[xq,reduceIte,qE,qA,qL,qD,cV,zE,dR];refine⟨_,Co.keep _ ?_,rfl⟩;have:decide ((a.steps.length:Int)=(b.steps.length:Int))=decide (a.steps.length=b.steps.length):=by rw[decide_eq_decide];omega
     simp[cJ,cK,headT,e1,e2,e3,Tl.ds,this]
 rintro _ rfl;refine cL rfl (fun h1=>?_) (fun h1=>cQ ?_)
 ·have h1:headT a b=false:=by simpa using h1
  refine wR ?_;simp only[xq,reduceIte,qE,qA,qL,qD];refine cT (fin _ _ false rfl ?_);refine decide_eq_false ?_;rintro rfl;simp[headT] at h1
 have h1:headT a b=true:=by simpa using h1
 have eG:a.steps.length=b.steps.length:=by simp only[headT,zf,decide_eq_true_eq] at h1;exact h1.2
 simp only[xq,reduceIte,qE,qA,qL,qD];refine cN ?_;refine wR ?_;simp only[xq,reduceIte,qE,qA,qL,qD];refine cS ?_;let S:Nat→St:=fun i=>⟨dB [(2,.ptr 0 1 0 0),(3,.ptr 1 1 0 0),(5,.int i)],[rE a,rE b]⟩;refine dX (s':=S 0) (Co.keep _ (by simp[cJ,cK])) ?_;refine dN (fun m s=>∃ i,i≤a.steps.length∧m=a.steps.length-i∧s=S i∧a.steps.take i=b.steps.take i) ⟨0,zI _,rfl,rfl,by simp⟩ ?_;rintro m s ⟨i,hi,rfl,rfl,dZ⟩;simp only[S];refine cN (cN ?_);refine cU ?_;simp only[xq,reduceIte,qE,qA,qL,qD,Tl.ds,dR];refine cL rfl (fun hc=>cQ ?_) (fun hc=>dJ ?_)
 ·have cY:i<a.steps.length:=by simpa using hc
  have Dz:i<b.steps.length:=by omega
  have w1:IntKind.i64.wrap ((i:Int)+1)=((i+1:Nat):Int):=by rw[cX (by omega)];omega
  obtain⟨x,hx⟩:∃ x,x=a.steps[i]:=⟨_,rfl⟩;obtain⟨y,hy⟩:∃ y,y=b.steps[i]:=⟨_,rfl⟩;have hxr:(fD a.steps).getD i []=x.ds:=by rw[lY cY,hx]
  have hyr:(fD b.steps).getD i []=y.ds:=by rw[lY Dz,hy]
  have Il:=Hc x.chs y.chs;simp only[xq,reduceIte,qE,qA,qL,qD];refine cN (cS ?_);refine eJ (· = ⟨dB [(2,.ptr 0 1 0 0),(3,.ptr 1 1 0 0),(5,.int i),(70,.bool (!decide (x.time=y.time) || !decide (x.chs=y.chs)))],[rE a,rE b]⟩) (eD (by simp) ?_) ?_
  ·refine fS 14 fun K1 hK1=>?_;simp only[xq,reduceIte,qE,qA,qL,qD,Tl.ds,dR,hxr,hyr,Stp.ds,zQ]
   repeat refine aB (by omega) ?_
   refine hK1 _ ?_;clear hK1 K1;cases e1:decide (x.time=y.time)
   ·simp only[xq,reduceIte,qE,qA,qL,qD,cV,zE];exact⟨_,Co.keep _ (by simp[cJ,cK]),rfl⟩
   ·simp only[xq,reduceIte,qE,qA,qL,qD,Tl.ds,dR,hxr,hyr,Stp.ds,zQ,cV,zE]
    repeat refine aB (by omega) ?_
    refine dF (Il) rfl ?_;simp only[xq,reduceIte,qE,qA,qL,qD];exact⟨_,Co.keep _ (by simp[cJ,cK]),rfl⟩
  rintro _ rfl;refine cL rfl (fun h2=>?_) (fun h2=>cQ ?_)
  ·refine wR ?_;simp only[xq,reduceIte,qE,qA,qL,qD];refine cT (fin _ _ false rfl ?_);refine decide_eq_false ?_;rintro rfl;rw[← hy] at hx;subst hx;simp at h2
  ·have hxy:x=y:=by
    simp only[aA,aF,decide_eq_true_eq] at h2;cases x;cases y;simp only at h2;obtain⟨rfl,rfl⟩:=h2;rfl
   simp only[xq,reduceIte,qE,qA,qL,qD];refine cU ?_;simp only[xq,reduceIte,qE,qA,qL,qD,w1];refine⟨a.steps.length-(i+1),S (i+1),by omega,Co.keep _ (by simp[cJ,cK]),i+1,cY,rfl,rfl,?_⟩;rw[aC,aC,dZ,zB cY,zB Dz,← hx,← hy,hxy]
 ·have Zi:i=a.steps.length:=by simp at hc;omega
  subst Zi;rw[zh,eG,zh] at dZ;simp only[xq,reduceIte,qE,qA,qL,qD];refine wR ?_;simp only[xq,reduceIte,qE,qA,qL,qD];exact cT (fin _ _ true rfl (decide_eq_true (aJc h1 dZ)))
end
end Go.Proofs.YtlllnjhgjijnkaaGreatDoor.Nx

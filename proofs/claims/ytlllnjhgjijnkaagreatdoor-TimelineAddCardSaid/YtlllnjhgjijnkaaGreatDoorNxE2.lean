import Derived.Test.YtlllnjhgjijnkaaGreatDoorNxE0
set_option linter.all false
open List renaming getElem?_eq_some_iff → zA, getElem?_eq_getElem → zB, getD_eq_getElem?_getD → zC, getElem?_append_left → zF, getElem?_append_right → zG, getElem?_map → zK, getElem?_set_ne → zM, getElem?_set_self → zN, append_nil → zP, append_assoc → zS, map_cons → zU, map_nil → zV, not_mem_nil → zc, getElem_mem → zi, mem_cons → zp, replicate_zero → zr, set_append_left → zu
open Bool renaming true_eq_false → zE
open Option.some renaming injEq → zH
open Nat renaming zero_le → zI, le_refl → zL
open Int renaming toNat_natCast → zQ
open Nat renaming reduceEqDiff → qE, reduceAdd → qA, reduceLT → qL, reduceLeDiff → qD
set_option maxHeartbeats 2000000
open List renaming replicate → aA, length_set → aB, mem_iff_getElem? → aD, mem_or_eq_of_mem_set → aH, getElem?_set → aI, mem_map → aJ, length_drop → aK, mem_append → aL, length_map → aM
open Bool renaming not_eq_true' → aC, false_and → aE, false_eq_true → aF, not_eq_false' → aG
namespace Go.Proofs.YtlllnjhgjijnkaaGreatDoor.Nx
open Go
section
variable {P:Program}{N:Nat}{Γ:dP}
theorem Eg{Γ:Ctx}{rl:Option Nat}{n0:Nat}{c:XC}{Q:Exit→St→Prop}{s:St}(h:(∀ B∈s.heap,HB.under s.heap.length B)→W Γ P N rl n0 c Q s):W Γ P N rl n0 c Q s :=
 Zy (fun z M ρ a w S=>by
  intro B hB;obtain⟨i,hi⟩:=aD.1 hB;cases B with
  | cells e rows =>
   obtain⟨_,_,_,_,k5⟩:=S.sim.cells i e rows hi;intro r hr x hx;obtain⟨j,hj⟩:=aD.1 hr;obtain⟨l,hl⟩:=aD.1 hx;rcases k5 with⟨_,k5⟩ | ⟨b,p,cs,t,_,_,_,_,_,k5⟩
   ·subst k5;simp at hr
   ·obtain⟨v,_,_,hv⟩:=k5 j r l x hj hl;exact hv.under
  | obj o=>trivial
  | res=>trivial) h
theorem Co.back{n0:Nat}{sl:Nat→A}{h t:cM}(l:List (Nat × A))(hl:∀ p∈l,sl p.1=p.2∧p.2.under h.length=true)(hn:n0≤h.length)(hu:∀ B∈h,HB.under h.length B):Co n0 ⟨sl,h++t⟩ ⟨dB l,h⟩:=by
 have:=Co.to (n0:=n0) (s:=⟨sl,h++t⟩) l h.length hl hn (by simp) (by simpa using hu);simpa using this
theorem fB{h t:cM}{q:Nat}{B:HB}(hq:h[q]? = some B):(h++t)[q]? = some B:=by
 rw[zF (zA.1 hq).1];exact hq
theorem fC{h t:cM}{k:Nat}:(h++t)[h.length+k]? = t[k]? := by rw[zG (by omega)];congr 1;omega
theorem iV{h t:cM}{k:Nat}{X:HB}:(h++t).set (h.length+k) X=h++t.set k X:=by rw[List.set_append_right _ _ (by omega)];congr 2;omega
theorem eO{F:Fns}{b:Nat}{K:St→Prop}{H:cM}(n:Nat)(R:(Nat→A)→Prop){l:List XOper}{s:St}(h1:∀ K':St→Prop,(∀ sl,R sl→K' ⟨sl,H⟩)→kH F b (l.take n) s K')(h2:∀ sl,R sl→kH F b (l.drop n) ⟨sl,H⟩ K):kH F b l s K :=
 fS n fun K' hK'=>h1 K' fun sl hr=>hK' _ (h2 sl hr)
structure Sm(v:Vw)(n:Nat):Prop where
 row:∀ r∈v.rows,r.length≤n
 txt:∀ r∈v.rows,∀ g∈r,g.text.size≤1000
set_option maxRecDepth 10000 in
theorem aGh{f fb:FuncId}{Δ:Ctx}(H:FnIs P f N [.t 4] (iL fb))(hN:2≤N)(Hb:∀ n a b,FnP Δ.t P fb [.int n,.int a,.int b] (.bool (btw n a b))){v:Vw}(c:Cg)(ed:Ed v){m:Nat}(sm:Sm v m)(hm:m≤100000)
  {h:cM} {id k:Nat} {R:List (List A)} (hb:Δ.b≤h.length) (e:EdIs h id v k R):FnD Δ P f [.ptr id 1 0 0,pG c] h (.bool (eM v c)) h:=by
 refine .of_W H (by simpa using hN) hb (Eg fun hu=>?_);have hs:=gF.1 ed.sz;have eG:=ed.len;have gid:∀ t:cM,(h++t)[id]? = some (.cells pA [eK v k R.length]):=fun t=>fB e.hid;have gk:∀ t:cM,(h++t)[k]? = some (.cells eW R):=fun t=>fB e.hk;have rK:Gk [.t 4] (.bool (eM v c)) h .ret ⟨dB [(4,.bool (eM v c))],h⟩:=⟨.inr rfl,by simp[dK,eH,dM,cK]⟩;have fin:∀ (sl:Nat→A) (t:cM) (Q:Exit→St→Prop),sl 4 = .bool (eM v c)→Q .ret ⟨dB [(4,.bool (eM v c))],h⟩→W Δ P N none h.length .ret Q ⟨sl,h++t⟩:=fun sl t Q h4 hQ =>
  dX (Co.back _ (by simp[h4,A.under]) (zL _) hu) (cT hQ)
 have w1:IntKind.i64.wrap (v.height-1)=v.height-1:=cX (by omega);have w2:IntKind.i64.wrap (v.width-1)=v.width-1:=cX (by omega);unfold iL;simp only[pG,Cg.ds,zU,zV];refine wR ?_;simp only[xq,reduceIte,qE,qA,qL,qD,dA,iA,Cg.ds,eE];refine cN ?_;refine wR ?_;simp only[xq,reduceIte,qE,qA,qL,qD,dA,iA,Cg.ds];refine cS ?_;refine wR ?_;simp only[xq,reduceIte,qE,qA,qL,qD];refine cL rfl (fun hk=>?_) (fun hk=>?_)
 ·have hk:c.kind=1:=by simpa using hk
  have hr:eM v c=(btw c.row 1 60&&btw c.col 1 132):=by rw[eM,if_pos hk]
  have h1:=Hb c.row 1 60;have h2:=Hb c.col 1 132;cases e1:btw c.row 1 60
  ·rw[e1] at h1;refine wR ?_;simp only[xq,reduceIte,qE,qA,qL,qD,dA,iA,Cg.ds];refine dF (h1) rfl ?_;simp only[xq,reduceIte,qE,qA,qL,qD,cV,zE];refine fin _ _ _ ?_ ?_
   ·simp only[cJ,reduceIte,hr,e1,aE]
   ·simp only[xq,reduceIte,qE,qA,qL,qD];exact rK
  ·rw[e1] at h1;refine wR ?_;simp only[xq,reduceIte,qE,qA,qL,qD,dA,iA,Cg.ds];refine dF (h1) rfl ?_;simp only[xq,reduceIte,qE,qA,qL,qD,cV,zE,dA,iA,Cg.ds];refine dF (h2) rfl ?_;simp only[xq,reduceIte,qE,qA,qL,qD];refine fin _ _ _ ?_ ?_
   ·simp only[cJ,reduceIte,hr,e1,Bool.true_and]
   ·simp only[xq,reduceIte,qE,qA,qL,qD];exact rK
 have Cb:¬ c.kind=1:=by simpa using hk
 refine wR ?_;simp only[xq,reduceIte,qE,qA,qL,qD];refine cL rfl (fun hk=>?_) (fun hk=>?_)
 ·have hk:c.kind=2:=by simpa using hk
  have hr:eM v c=(((((decide (0≤c.row)&&decide (c.row<c.upto))&&decide (c.upto≤v.height)) && !decide (c.count=0))&&decide (c.count<c.upto-c.row))&&decide (c.row-c.upto<c.count)):=by rw[eM,if_neg Cb,if_pos hk]
  have done:∀ (sl:Nat→A) (t:cM) (b:Bool),sl 4 = .bool b→b=eM v c→W Δ P N none h.length .ret (yX 0 (My (W Δ P N none h.length (iL fb).r.r (Gk [.t 4] (.bool (eM v c)) h)) (Gk [.t 4] (.bool (eM v c)) h))) ⟨sl,h++t⟩:=by
   intro sl t b h4 Zf;subst Zf;refine fin _ _ _ h4 ?_;simp only[xq,reduceIte,qE,qA,qL,qD];exact rK
  have w3:(0≤c.row∧c.row<c.upto)∧c.upto≤v.height→IntKind.i64.wrap (c.upto-c.row)=c.upto-c.row∧IntKind.i64.wrap (c.row-c.upto)=c.row-c.upto:=fun q=>⟨cX (by omega),cX (by omega)⟩;obtain⟨B1,hB1⟩:∃ B,B=(decide (0≤c.row)&&decide (c.row<c.upto)):=⟨_,rfl⟩;obtain⟨B2,hB2⟩:∃ B,B=(B1&&decide (c.upto≤v.height)):=⟨_,rfl⟩;obtain⟨B3,hB3⟩:∃ B,B=(B2 && !decide (c.count=0)):=⟨_,rfl⟩;obtain⟨B4,hB4⟩:∃ B,B=(B3&&decide (c.count<c.upto-c.row)):=⟨_,rfl⟩;have hB:eM v c=(B4&&decide (c.row-c.upto<c.count)):=by rw[hr,hB4,hB3,hB2,hB1]
  have h2t:B2=true→(0≤c.row∧c.row<c.upto)∧c.upto≤v.height:=fun h=>by
   rw[hB2,hB1] at h;simpa using h
  have h3t:B3=true→B2=true:=fun h=>by rw[hB3] at h;simp at h;exact h.1
  have h4t:B4=true→B3=true:=fun h=>by rw[hB4] at h;simp at h;exact h.1
  refine uE (by simp) fun K hK=>?_;simp only[zr,zP];refine eO (H:=h++[iA c]) 10 (fun sl=>sl 0 = .ptr id 1 0 0∧sl 3 = .ptr h.length 1 0 0∧sl 28 = .bool B1) (fun K' hK'=>?_) ?_
  ·cases e1:decide (0≤c.row)
   ·simp only[xq,reduceIte,qE,qA,qL,qD,dA,iA,Cg.ds,e1,cV,zE];exact hK' _ ⟨rfl,rfl,by rw[hB1,e1];rfl⟩
   ·simp only[xq,reduceIte,qE,qA,qL,qD,dA,iA,Cg.ds,e1,cV,zE];exact hK' _ ⟨rfl,rfl,by rw[hB1,e1];rfl⟩
  rintro sl ⟨s0,s3,sF⟩;refine eO (H:=h++[iA c]) 10 (fun sl=>sl 0 = .ptr id 1 0 0∧sl 3 = .ptr h.length 1 0 0∧sl 38 = .bool B2) (fun K' hK'=>?_) ?_
  ·cases B1
   ·simp only[xq,reduceIte,qE,qA,qL,qD,s0,s3,sF,cV,zE];refine hK' _ ?_;simp[cJ,s0,s3,hB2]
   ·simp only[xq,reduceIte,qE,qA,qL,qD,s0,s3,sF,dA,iA,Cg.ds,gid,eK,cV,zE];refine hK' _ ?_;simp[cJ,s0,s3,hB2]
  clear s0 s3 sF sl;rintro sl ⟨s0,s3,sF⟩;refine eO (H:=h++[iA c]) 5 (fun sl=>sl 0 = .ptr id 1 0 0∧sl 3 = .ptr h.length 1 0 0∧sl 43 = .bool B3) (fun K' hK'=>?_) ?_
  ·cases B2
   ·simp only[xq,reduceIte,qE,qA,qL,qD,s0,s3,sF,cV,zE];refine hK' _ ?_;simp[cJ,s0,s3,hB3]
   ·simp only[xq,reduceIte,qE,qA,qL,qD,s0,s3,sF,dA,iA,Cg.ds,cV,zE];refine hK' _ ?_;simp[cJ,s0,s3,hB3]
  clear s0 s3 sF sl;rintro sl ⟨s0,s3,sF⟩;refine eO (H:=h++[iA c]) 10 (fun sl=>sl 0 = .ptr id 1 0 0∧sl 3 = .ptr h.length 1 0 0∧sl 53 = .bool B4) (fun K' hK'=>?_) ?_
  ·cases hb3:B3
   ·rw[hb3] at sF hB4;simp only[xq,reduceIte,qE,qA,qL,qD,s0,s3,sF,cV,zE];refine hK' _ ?_;simp[cJ,s0,s3,hB4]
   ·have w:=(w3 (h2t (h3t hb3))).1;rw[hb3] at sF hB4;simp only[xq,reduceIte,qE,qA,qL,qD,s0,s3,sF,dA,iA,Cg.ds,w,cV,zE];refine hK' _ ?_;simp[cJ,s0,s3,hB4]
  clear s0 s3 sF sl;rintro sl ⟨s0,s3,sF⟩;cases hb4:B4
  ·rw[hb4] at sF hB;simp only[xq,reduceIte,qE,qA,qL,qD,s0,s3,sF,cV,zE];refine hK _ ?_;exact done _ _ false (by simp[cJ]) (by rw[hB];rfl)
  ·have w:=(w3 (h2t (h3t (h4t hb4)))).2;rw[hb4] at sF hB;simp only[xq,reduceIte,qE,qA,qL,qD,s0,s3,sF,dA,iA,Cg.ds,w,cV,zE];refine hK _ ?_;exact done _ _ (decide (c.row-c.upto<c.count)) (by simp[cJ]) (by rw[hB];rfl)
 have Mt:¬ c.kind=2:=by simpa using hk
 refine wR ?_;simp only[xq,reduceIte,qE,qA,qL,qD];refine cL rfl (fun hk=>?_) (fun hk=>?_)
 ·have hk:c.kind=3:=by simpa using hk
  have hr:eM v c=((btw c.row 0 (v.height-1)&&btw c.col 0 264)&&btw c.count 0 (max 0 (((iD v.rows c.row).length:Int)-c.col))):=by rw[eM,if_neg Cb,if_neg Mt,if_pos hk]
  let U:Bool→St:=fun b=>⟨dB [(0,.ptr id 1 0 0),(3,.ptr h.length 1 0 0),(81,.bool b)],h++[iA c]⟩;refine cN (eJ (· = U (!(btw c.row 0 (v.height-1)&&btw c.col 0 264))) (eD (by simp) ?_) ?_)
  ·have h1:=Hb c.row 0 (v.height-1);have h2:=Hb c.col 0 264;cases e1:btw c.row 0 (v.height-1)
   ·rw[e1] at h1;simp only[xq,reduceIte,qE,qA,qL,qD,dA,iA,Cg.ds,gid,eK,w1,zP];refine dF (h1) rfl ?_;simp only[xq,reduceIte,qE,qA,qL,qD,cV,zE];exact⟨_,Co.keep _ (by simp[cJ,cK]),rfl⟩
   ·rw[e1] at h1;simp only[xq,reduceIte,qE,qA,qL,qD,dA,iA,Cg.ds,gid,eK,w1,zP];refine dF (h1) rfl ?_;simp only[xq,reduceIte,qE,qA,qL,qD,cV,zE,dA,iA,Cg.ds];refine dF (h2) rfl ?_;simp only[xq,reduceIte,qE,qA,qL,qD];exact⟨_,Co.keep _ (by simp[cJ,cK]),rfl⟩
  rintro _ rfl;simp only[U];refine cL rfl (fun hd=>?_) (fun hd=>cQ ?_)
  ·have hd:(btw c.row 0 (v.height-1)&&btw c.col 0 264)=false:=by
    rw[← aC] ; exact hd
   refine wR ?_;simp only[xq,reduceIte,qE,qA,qL,qD];refine fin _ _ _ ?_ ?_
   ·simp only[cJ,reduceIte,hr,hd,aE]
   ·simp only[xq,reduceIte,qE,qA,qL,qD];exact rK
  have hd:btw c.row 0 (v.height-1)=true∧btw c.col 0 264=true:=by simpa using hd
  have b1:=fP.1 hd.1;have b2:=fP.1 hd.2;obtain⟨j,hj⟩:∃ j:Nat,c.row=j:=⟨c.row.toNat,by omega⟩;have qO:j<v.rows.length:=by omega
  obtain⟨x,hx,fK⟩:=e.row j _ (zB qO);have hra:iD v.rows c.row=v.rows[j]:=by
   unfold iD;rw[hj,zQ,zC,zB qO];rfl
  have Mu:=sm.row _ (zi qO);have w5:IntKind.i64.wrap ((v.rows[j].length:Int)-c.col)=(v.rows[j].length:Int)-c.col:=cX (by omega);have xH:eB true 0 ((v.rows[j].length:Int)-c.col)=max 0 ((v.rows[j].length:Int)-c.col):=by
   unfold eB;simp only[if_true];split<;>omega
  have h3:=Hb c.count 0 (max 0 ((v.rows[j].length:Int)-c.col));have hr2:eM v c=btw c.count 0 (max 0 ((v.rows[j].length:Int)-c.col)):=by rw[hr,hd.1,hd.2,hra];rfl
  have hjc:decide ((j:Int)<(v.rows.length:Int))=true:=decide_eq_true (by omega);simp only[xq,reduceIte,qE,qA,qL,qD];rcases fK with⟨rfl,kG⟩ | ⟨q,rfl,hq⟩
  ·have w5':IntKind.i64.wrap ((0:Int)-c.col)=(v.rows[j].length:Int)-c.col:=by rw[kG];exact cX (by omega)
   refine cN (eD (by simp) ?_);simp only[xq,reduceIte,qE,qA,qL,qD,dA,iA,Cg.ds,gid,gk,eK,hj,hx,zQ,zP,w5',xH];refine⟨by omega,by omega,?_⟩;refine dF (h3) rfl ?_;simp only[xq,reduceIte,qE,qA,qL,qD];refine fin _ _ _ ?_ ?_
   ·simp only[cJ,reduceIte,hr2]
   ·simp only[xq,reduceIte,qE,qA,qL,qD];exact rK
  ·have gq:∀ t:cM,(h++t)[q]? = some (eY v.rows[j]):=fun t=>fB hq;refine cN (eD (by simp) ?_);simp only[xq,reduceIte,qE,qA,qL,qD,dA,iA,Cg.ds,gid,gk,gq,eK,hj,hx,zQ,zP,w5,xH,cR];refine⟨by omega,by omega,?_⟩;refine dF (h3) rfl ?_;simp only[xq,reduceIte,qE,qA,qL,qD];refine fin _ _ _ ?_ ?_
   ·simp only[cJ,reduceIte,hr2]
   ·simp only[xq,reduceIte,qE,qA,qL,qD];exact rK
 have hk3:¬ c.kind=3:=by simpa using hk
 refine cQ ?_;simp only[xq,reduceIte,qE,qA,qL,qD];have hr:eM v c=((btw c.row 0 (v.height-1)&&btw c.col 0 (v.width-1))&&btw c.count 0 1):=by rw[eM,if_neg Cb,if_neg Mt,if_neg hk3]
 have h1:=Hb c.row 0 (v.height-1);have h2:=Hb c.col 0 (v.width-1);have h3:=Hb c.count 0 1;cases e1:btw c.row 0 (v.height-1)
 ·rw[e1] at h1;refine cN (eD (by simp) ?_);simp only[xq,reduceIte,qE,qA,qL,qD,dA,iA,Cg.ds,gid,eK,w1,zP];refine dF (h1) rfl ?_;simp only[xq,reduceIte,qE,qA,qL,qD,cV,zE];refine fin _ _ _ ?_ rK;simp only[cJ,reduceIte,hr,e1,aE]
 cases e2:btw c.col 0 (v.width-1)
 ·rw[e1] at h1;rw[e2] at h2;refine cN (eD (by simp) ?_);simp only[xq,reduceIte,qE,qA,qL,qD,dA,iA,Cg.ds,gid,eK,w1,zP];refine dF (h1) rfl ?_;simp only[xq,reduceIte,qE,qA,qL,qD,cV,zE,dA,iA,Cg.ds,gid,eK,w2];refine dF (h2) rfl ?_;simp only[xq,reduceIte,qE,qA,qL,qD,cV,zE];refine fin _ _ _ ?_ rK;simp only[cJ,reduceIte,hr,e1,e2,aE,Bool.and_false]
 ·rw[e1] at h1;rw[e2] at h2;refine cN (eD (by simp) ?_);simp only[xq,reduceIte,qE,qA,qL,qD,dA,iA,Cg.ds,gid,eK,w1,zP];refine dF (h1) rfl ?_;simp only[xq,reduceIte,qE,qA,qL,qD,cV,zE,dA,iA,Cg.ds,gid,eK,w2];refine dF (h2) rfl ?_;simp only[xq,reduceIte,qE,qA,qL,qD,cV,zE,dA,iA,Cg.ds];refine dF (h3) rfl ?_;simp only[xq,reduceIte,qE,qA,qL,qD];refine fin _ _ _ ?_ rK;simp only[cJ,reduceIte,hr,e1,e2,Bool.true_and]
end
section
variable {P:Program}{N:Nat}{Γ:dP}
abbrev aBX(Δ:Ctx)(P:Program)(f:FuncId):Prop:=∀ {v:Vw} (c:Cg),Ed v→∀ {m:Nat},Sm v m→m≤100000→∀ {h:cM} {id k:Nat} {R:List (List A)},Δ.b≤h.length→EdIs h id v k R→FnD Δ P f [.ptr id 1 0 0,pG c] h (.bool (eM v c)) h
theorem Eh{c:Cg}{k:Nat}:HB.under k (iA c):=by
 intro r hr x hx;simp only[zp,zc,or_false] at hr;subst hr;obtain⟨d,_,rfl⟩:=aJ.1 hx;rfl
theorem HB.under_mono{B:HB}{k m:Nat}(h:B.under k)(hm:k≤m):B.under m:=by
 cases B with
 | cells e rows=>exact fun r hr x hx=>A.under_mono (h r hr x hx) hm
 | _=>trivial
theorem aDL{f fb fbl fr fp:FuncId}{Δ:Ctx}(H:FnIs P f N [.t 4] (lH fb fbl fr fp))(hN:2≤N)(Hb:∀ n a b,FnP Δ.t P fb [.int n,.int a,.int b] (.bool (btw n a b)))(Hbl:∀ c,FnP Δ.t P fbl [pG c] (.bool (blankG c)))
  (Hr:aBX Δ P fr) (Hp:∀ g:Gl,g.text.size≤1000→FnP Δ.t P fp [Np g] (.int (eR g))) {v:Vw} (c:Cg) (ed:Ed v) {m:Nat} (sm:Sm v m) (hm:m≤100000) (hg:∀ g∈c.gl,g.text.size≤1000)
  {h:cM} {id k:Nat} {R:List (List A)} (hb:Δ.b≤h.length) (e:EdIs h id v k R):FnD Δ P f [.ptr id 1 0 0,pG c] h (.int (iM v c)) h:=by
 refine .of_W H (by simpa using hN) hb (Eg fun hu=>tK 1 5 rfl rfl fun⟨_,dT,_⟩=>?_);have rK:Gk [.t 4] (.int (iM v c)) h .ret ⟨dB [(4,.int (iM v c))],h⟩:=⟨.inr rfl,by simp[dK,eH,dM,cK]⟩;have fin:∀ (sl:Nat→A) (t:cM) (Q:Exit→St→Prop),sl 4 = .int (iM v c)→Q .ret ⟨dB [(4,.int (iM v c))],h⟩→W Δ P N none h.length .ret Q ⟨sl,h++t⟩:=fun sl t Q h4 hQ =>
  dX (Co.back _ (by simp[h4,A.under]) (zL _) hu) (cT hQ)
 have hR:=Hr c ed sm hm (h:=h++[iA c]) (by simp;omega) (e.app _);simp only[pG,Cg.ds,zU,zV] at hR;have hB:=Hbl c;simp only[pG,Cg.ds,zU,zV] at hB;unfold lH;simp only[pG,Cg.ds,zU,zV];refine wR ?_;simp only[xq,reduceIte,qE,qA,qL,qD,dA,eE];refine cN ?_;refine cS ?_;refine wR ?_;simp only[xq,reduceIte,qE,qA,qL,qD,dA];refine dF (Hb c.kind 1 4) rfl ?_;simp only[xq,reduceIte,qE,qA,qL,qD];refine cL rfl (fun hk=>?_) (fun hk=>?_)
 ·have hk:btw c.kind 1 4=false:=by rw[← aC];exact hk
  refine wR ?_;simp only[xq,reduceIte,qE,qA,qL,qD];refine fin _ _ _ ?_ ?_
  ·simp only[cJ,reduceIte,iM,hk,aF]
  ·simp only[xq,reduceIte,qE,qA,qL,qD];exact rK
 have Cb:btw c.kind 1 4=true:=by rw[← aG];exact hk
 refine wR ?_;simp only[xq,reduceIte,qE,qA,qL,qD,dA];refine dF (hB) rfl ?_;simp only[xq,reduceIte,qE,qA,qL,qD];refine cL rfl (fun hk=>?_) (fun hk=>?_)
 ·have hk:blankG c=false:=by rw[← aC];exact hk
  refine wR ?_;simp only[xq,reduceIte,qE,qA,qL,qD];refine fin _ _ _ ?_ ?_
  ·simp only[cJ,reduceIte,iM,Cb,hk,aF]
  ·simp only[xq,reduceIte,qE,qA,qL,qD];exact rK
 have Mt:blankG c=true:=by rw[← aG];exact hk
 refine wR ?_;simp only[xq,reduceIte,qE,qA,qL,qD,dA];refine qJ hR ?_;simp only[xq,reduceIte,qE,qA,qL,qD];refine cL rfl (fun hk=>?_) (fun hk=>cQ ?_)
 ·have hk:eM v c=false:=by rw[← aC];exact hk
  refine wR ?_;simp only[xq,reduceIte,qE,qA,qL,qD];refine fin _ _ _ ?_ ?_
  ·simp only[cJ,reduceIte,iM,Cb,Mt,hk,aF]
  ·simp only[xq,reduceIte,qE,qA,qL,qD];exact rK
 have hk3:eM v c=true:=by rw[← aG];exact hk
 have Vf:iM v c=Fo eR c.gl:=by rw[iM,Cb,Mt,hk3];rfl
 simp only[xq,reduceIte,qE,qA,qL,qD];refine cN ?_;refine wR ?_;simp only[xq,reduceIte,qE,qA,qL,qD,dA,iA,Cg.ds,cR];have vI:c.gl.length≤dL:=fI (by rw[cR] at dT;exact dT);have aA2:=vI;simp only[dL] at aA2;refine cS ?_;let S:Nat→St:=fun i=>⟨dB [(3,.ptr h.length 1 0 0),(23,.d (.sl dW (cP c.gl))),(24,.int c.gl.length),(25,.int i)],h++[iA c]⟩;refine dX (s':=S 0) (Co.keep _ (by simp[cJ,cK])) ?_;refine dN (fun q s=>∃ i,i≤c.gl.length∧q=c.gl.length-i∧s=S i∧Fo eR c.gl=Fo eR (c.gl.drop i)) ⟨0,zI _,rfl,rfl,rfl⟩ ?_;rintro q s' ⟨i,hi,rfl,rfl,Vp⟩;simp only[S];refine wR ?_;simp only[xq,reduceIte,qE,qA,qL,qD];refine cN (cL rfl (fun hc=>cQ ?_) (fun hc=>dJ ?_))
 ·have cY:i<c.gl.length:=by simpa using hc
  have hG:=Hp c.gl[i] (hg _ (zi cY));simp only[Np,Gl.row,zU,zV] at hG;rw[xX cY] at Vp;have w1:IntKind.i64.wrap ((i:Int)+1)=((i+1:Nat):Int):=by rw[cX (by omega)];omega
  simp only[xq,reduceIte,qE,qA,qL,qD];refine cN (cS ?_);refine wR ?_;simp only[xq,reduceIte,qE,qA,qL,qD,cR,eS cY,Gl.row,zQ,fC,iV,zS];refine⟨by omega,by omega,?_⟩;refine wR ?_;simp only[xq,reduceIte,qE,qA,qL,qD,fC];refine dF (hG) rfl ?_;simp only[xq,reduceIte,qE,qA,qL,qD];refine wR ?_;simp only[xq,reduceIte,qE,qA,qL,qD];refine cL rfl (fun hd=>?_) (fun hd=>cQ ?_)
  ·have hd:¬ eR c.gl[i]=0:=by simpa using hd
   rw[if_neg hd] at Vp;refine wR ?_;simp only[xq,reduceIte,qE,qA,qL,qD];refine fin _ _ _ ?_ ?_
   ·simp only[cJ,reduceIte,Vf,Vp]
   ·simp only[xq,reduceIte,qE,qA,qL,qD];exact rK
  ·have hd:eR c.gl[i]=0:=by simpa using hd
   rw[if_pos hd] at Vp;simp only[xq,reduceIte,qE,qA,qL,qD];refine cU ?_;simp only[xq,reduceIte,qE,qA,qL,qD,w1];refine⟨c.gl.length-(i+1),S (i+1),by omega,?_,i+1,cY,rfl,rfl,Vp⟩;have hu2:∀ B∈h++[iA c],HB.under (h++[iA c]).length B:=by
    intro B hB;rcases aL.1 hB with hB | hB
    ·exact HB.under_mono (hu B hB) (by simp)
    ·simp only[List.mem_singleton] at hB;subst hB;exact Eh
   rw[List.append_cons];exact Co.back (h:=h++[iA c]) _ (by simp[cJ,cK,A.under]) (by simp) hu2
 ·have gZ:i=c.gl.length:=by simp at hc;omega
  subst gZ;rw[List.drop_length] at Vp;simp only[xq,reduceIte,qE,qA,qL,qD];refine wR ?_;simp only[xq,reduceIte,qE,qA,qL,qD];refine fin _ _ _ ?_ rK;simp only[cJ,reduceIte,Vf,Vp,Fo]
end
section
variable {P:Program}{N:Nat}{Γ:dP}
theorem Br{h t:cM}{q:Nat}{X:HB}(hq:q<h.length):(h++t).set q X=h.set q X++t:=zu _ _ hq
theorem xY{h t:cM}{q:Nat}{X:HB}(hq:q<h.length):(h.set q X++t)[q]? = some X:=by
 rw[zF (by simpa using hq),zN hq]
theorem vR{h t:cM}{q p:Nat}{X B:HB}(fM:q≠p)(hp:h[p]? = some B):(h.set q X++t)[p]? = some B:=by
 have cY:=(zA.1 hp).1;rw[zF (by simpa using cY),zM fM];exact hp
theorem aIC{h t:cM}{q:Nat}{X Y:HB}(hq:q<h.length):(h.set q X++t).set q Y=h.set q Y++t:=by
 rw[zu _ _ (by simpa using hq),List.set_set]
theorem aID{h t:cM}{q k:Nat}{X:HB}:(h.set q X++t)[h.length+k]? = t[k]? := by
 rw[zG (by simp)];congr 1;simp
theorem aAp{h t:cM}{q:Nat}{X B:HB}:(h.set q X++B::t)[h.length]? = some B:=by
 rw[zG (by simp)];simp
def gK(h h':cM)(id:Nat):Prop:=∀ (p:Nat) (e:Elt) (rows:List (List A)),h[p]? = some (.cells e rows)→e.sz=6→p≠id→h'[p]? = some (.cells e rows)
theorem gK.refl{h:cM}{id:Nat}:gK h h id:=fun _ _ _ hp _ _=>hp
theorem gK.trans{a b c:cM}{id:Nat}(h1:gK a b id)(h2:gK b c id):gK a c id:=fun p e rows hp he fM=>h2 p e rows (h1 p e rows hp he fM) he fM
theorem gK.app{h t:cM}{id:Nat}:gK h (h++t) id:=fun p e rows hp _ _=>by
 rw[zF (zA.1 hp).1];exact hp
theorem gK.set{h:cM}{id:Nat}{X:HB}:gK h (h.set id X) id:=fun p e rows hp _ fM=>by
 rw[zM (Ne.symm fM)];exact hp
theorem gK.setO{h:cM}{id q:Nat}{X:HB}{e:Elt}{rows:List (List A)}(hq:h[q]? = some (.cells e rows))(he:e.sz≠6):gK h (h.set q X) id:=fun p e' rows' hp Zh _=>by
 have:q≠p:=by
  rintro rfl;rw[hq] at hp;cases hp;exact he Zh
 rw[zM this];exact hp
abbrev nQ(Δ:Ctx)(P:Program)(f:FuncId)(pre:Vw→Cg→Prop)(F:Vw→Cg→Vw):Prop:=∀ {v:Vw} {c:Cg},pre v c→∀ {h:cM} {id k:Nat} {R:List (List A)},Δ.b≤h.length→EdIs h id v k R →
 ∃ h' k' R',FnD Δ P f [.ptr id 1 0 0,pG c] h (.tup []) h'∧h.length≤h'.length∧EdIs h' id (F v c) k' R'∧gK h h' id
theorem aIE{v:Vw}{k M m:Nat}(hk:k<m):HB.under m (.cells pA [eK v k M]):=by
 intro r hr x hx;simp only[zp,zc,or_false] at hr;subst hr;simp only[eK,zp,zc,or_false] at hx;rcases hx with rfl | rfl | rfl | rfl | rfl | rfl<;>simp[A.under,hk]
theorem aNt{Γ:Ctx}{rl:Option Nat}{n0:Nat}{c:XC}{s:St}{H:cM}(hH:∀ B∈H,HB.under H.length B)(hn:n0≤H.length)(h:W Γ P N rl n0 c (fun e s=>(e = .normal∨e = .ret)∧∃ sl t,s=⟨sl,H++t⟩) s):W Γ P N rl n0 c (Gk [] (.tup []) H) s :=
 aHU (fun e s hq=>by
  obtain⟨he,sl,t,rfl⟩:=hq;exact⟨⟨dB [],H⟩,Co.back [] (by simp) hn hH,he,by simp[dK,dM]⟩) h
theorem EdIs.setId{h:cM}{id:Nat}{v w:Vw}{k:Nat}{R:List (List A)}(e:EdIs h id v k R)(hr:w.rows=v.rows):EdIs (h.set id (.cells pA [eK w k R.length])) id w k R:=by
 have fM:id≠k:=by
  rintro rfl;have:=e.hid.symm.trans e.hk;simp only[zH,HB.cells.injEq] at this;exact absurd (congrArg Elt.sz this.1) (by decide)
 refine⟨zN e.id_lt,by rw[zM fM];exact e.hk,by rw[hr];exact e.len,fun i r hi=>?_,by rw[hr];exact e.dis⟩;rw[hr] at hi;obtain⟨x,h1,h2⟩:=e.row i r hi;refine⟨x,h1,?_⟩;rcases h2 with h2 | ⟨q,h2,h3⟩
 ·exact .inl h2
 ·refine .inr ⟨q,h2,?_⟩;rw[zM ?_]
  ·exact h3
  ·rintro rfl;have:=e.hid.symm.trans h3;simp only[zH,HB.cells.injEq] at this;exact absurd (congrArg Elt.sz this.1) (by decide)
theorem aGi{f:FuncId}{Δ:Ctx}(H:FnIs P f N [] kU)(hN:2≤N):nQ Δ P f (fun _ c=>c.kind=4) dV:=by
 intro v c hk h id k R hb e;have iH:dV v c={ v with row:=c.row,col:=c.col,vis:=decide (c.count=1) }:=by
  simp[dV,hk]
 have cY:=e.id_lt;have fM:id≠h.length:=by omega
 refine⟨h.set id (.cells pA [eK (dV v c) k R.length]),k,R,?_,by simp,e.setId (by rw[iH]),.set⟩;refine .of_W H (by simpa using hN) hb (Eg fun hu=>?_);have hu2:∀ B∈h.set id (.cells pA [eK (dV v c) k R.length]),HB.under (h.set id (.cells pA [eK (dV v c) k R.length])).length B:=by
  intro B hB;rw[aB];rcases aH hB with hB | rfl
  ·exact hu B hB
  ·exact aIE e.k_lt
 refine aNt hu2 (by simp) ?_;have gid:∀ t:cM,(h++t)[id]? = some (.cells pA [eK v k R.length]):=fun t=>fB e.hid;have gs:∀ X (t:cM),(h.set id X++t)[id]? = some X:=fun X t=>xY cY;have sl:∀ X (t:cM),(h++t).set id X=h.set id X++t:=fun X t=>Br cY;have ss:∀ X Y (t:cM),(h.set id X++t).set id Y=h.set id Y++t:=fun X Y t=>aIC cY;unfold kU;simp only[pG,Cg.ds,zU,zV];refine wR ?_;simp only[xq,reduceIte,qE,qA,qL,qD,dA,eE];refine Lg id h.length fM (by simp;omega) (by simp) rfl (by simp[cJ,cK,Aa,A.touch]) ?_;simp only[xq,reduceIte,qE,qA,qL,qD,dA,aAp,gid,gs,sl,ss,eK,zP];exact⟨.inl trivial,_,_,by rw[iH]⟩
end
section
variable {P:Program}{N:Nat}{Γ:dP}
theorem kE{k id off len:Nat}{full:Bool}{e:Elt}{h:cM}{rows:List (List D)}(hk:k≤id)(hh:h[id]? = some (.cells e (rows.map fun r=>r.map .d)))(hl:off+len≤rows.length) :
  FrzD k h (.ref id rows.length off len full) (.sl e ((rows.drop off).take len)):=by
 have eG:(rows.map fun r=>r.map A.d).length=rows.length:=by simp
 rw[← eG];have get:∀ i r,((rows.drop off).take len)[i]? = some r→(rows.map fun r=>r.map A.d).getD (off+i) []=r.map .d:=by
  intro i r hi;rw[List.getElem?_take] at hi;split at hi
  ·rw[List.getElem?_drop] at hi;rw[zC,zK,hi];rfl
  ·cases hi
 refine .ref hk hh ?_ (fun i r hi=>?_) (fun i r j d hi hj=>?_)
 ·simp;omega
 ·rw[get i r hi];simp
 ·rw[get i r hi,zC,zK,hj];exact .d d
theorem aGj{h:cM}{id:Nat}{x y z:A}{a b c:List Gl}(hh:h[id]? = some (.cells eW [[x],[y],[z]]))(hx:FrzD 0 h x (.sl dW (cP a)))(hy:FrzD 0 h y (.sl dW (cP b)))(hz:FrzD 0 h z (.sl dW (cP c))) :
  FrzA 0 h (.ref id 3 0 3 true) (.d (.sl eW (dH [a,b,c]))):=by
 refine .d (.ref (rows:=[[x],[y],[z]]) (zI _) hh rfl (fun i r hi=>?_) (fun i r j d hi hj=>?_))
 ·match i,hi with
  | 0,hi=>simp[dH] at hi;subst hi;rfl
  | 1,hi=>simp[dH] at hi;subst hi;rfl
  | 2,hi=>simp[dH] at hi;subst hi;rfl
  | i+3,hi=>simp[dH] at hi
 ·match i,hi with
  | 0,hi =>
   simp[dH] at hi;subst hi
   match j,hj with
   | 0,hj=>simp at hj;subst hj;exact hx
   | j+1,hj=>simp at hj
  | 1,hi =>
   simp[dH] at hi;subst hi
   match j,hj with
   | 0,hj=>simp at hj;subst hj;exact hy
   | j+1,hj=>simp at hj
  | 2,hi =>
   simp[dH] at hi;subst hi
   match j,hj with
   | 0,hj=>simp at hj;subst hj;exact hz
   | j+1,hj=>simp at hj
  | i+3,hi=>simp[dH] at hi
theorem aIF{l:List Gl}{n:Nat}:(jC l n).length=max l.length n:=by
 simp[jC];omega
theorem Oa{fc ft:FuncId}{Δ:Ctx}(Hc:∀ ls:List (List Gl),ls.length≤1000→ls.flatten.length≤100000→sW P fc (.d (.sl eW (dH ls))) ls.flatten)(Ht:∀ l:List Gl,sW P ft (.d (.sl dW (cP l))) (dE l))
  {Hb:cM} {n0 id b q k j col cnt:Nat} {R:List (List A)} {v:Vw} {c:Cg} {r:List Gl} {sl:Nat→A} (hn0:n0≤Hb.length) (hb:Δ.b≤n0) (hu:∀ B∈Hb,HB.under Hb.length B)
  (s0:sl 0 = .ptr id 1 0 0) (s3:sl 3 = .ptr b 1 0 0) (s4:sl 4 = .ref q r.length 0 r.length true)
  (gid:Hb[id]? = some (.cells pA [eK v k R.length])) (gk:Hb[k]? = some (.cells eW R)) (gb:Hb[b]? = some (iA c)) (gq:Hb[q]? = some (eY r))
  (Ff:c.col=col) (aEC:c.count=cnt) (fK:c.row=j) (hj:j<v.rows.length) (hjR:v.rows.length≤R.length) {x:A} (hRj:R[j]? = some [x]) (Ij:cnt≤r.length-col) (Zg:col≤264) (Mu:r.length≤50000) (Im:c.gl.length≤1000) :
  W Δ P N none n0 (fO fc ft).r.r (Gk [] (.tup []) ((Hb.set q (eY (jC r col))).set k (.cells eW (R.set j [.ref (Hb.length+2) (iN r col cnt c.gl).length 0 (iN r col cnt c.gl).length true])) ++
   [.cells eW [[.ref q (jC r col).length 0 col true],[.d (.sl dW (cP c.gl))],[.ref q (jC r col).length (col+cnt) ((jC r col).length-(col+cnt)) true]],eY ((jC r col).take col++c.gl++(jC r col).drop (col+cnt)),eY (iN r col cnt c.gl)])) ⟨sl,Hb⟩:=by
 have qlt:q<Hb.length:=(zA.1 gq).1;have klt:k<Hb.length:=(zA.1 gk).1;have tne:∀ {p:Nat} {e:Elt} {rows:List (List A)},Hb[p]? = some (.cells e rows)→e.sz≠3→q≠p:=by
  rintro p e rows hp hs rfl;have:=gq.symm.trans hp;simp only[zH,HB.cells.injEq] at this;exact hs (congrArg Elt.sz this.1).symm
 have qid:q≠id:=tne gid (by decide);have qk:q≠k:=tne gk (by decide);have qb:q≠b:=tne gb (by decide);simp only[fO,XC.r];let S:Nat→St:=fun i=>⟨dB [(0,.ptr id 1 0 0),(3,.ptr b 1 0 0),(4,.ref q (r.length+i) 0 (r.length+i) true)],Hb.set q (eY (r++aA i eL))⟩;have hS0:Hb.set q (eY (r++aA 0 eL))=Hb:=by
  rw[zr,zP];apply List.ext_getElem?
  intro p;rw[aI];split
  ·rename_i hp;subst hp;exact gq.symm
  ·rfl
 have hl:∀ i,(cP (r++aA i eL)).length=r.length+i:=fun i=>by simp[cP]
 refine eJ (· = S (col-r.length)) ?_ ?_
 ·refine cS ?_;refine dX (s':=S 0) ?_ ?_
  ·have:S 0=⟨dB [(0,.ptr id 1 0 0),(3,.ptr b 1 0 0),(4,.ref q (r.length+0) 0 (r.length+0) true)],Hb⟩:=by simp only[S,hS0]
   rw[this];exact Co.keep _ (by simp[s0,s3,s4])
  refine dN (fun m s=>∃ i,i≤col-r.length∧m=col-r.length-i∧s=S i) ⟨0,zI _,rfl,rfl⟩ ?_;rintro m s ⟨i,hi,rfl,rfl⟩;have gs:∀ X (t:cM),(Hb.set q X++t)[q]? = some X:=fun X t=>xY qlt;have gs':∀ X,(Hb.set q X)[q]? = some X:=fun X=>zN qlt;have ss:∀ X Y (t:cM),(Hb.set q X++t).set q Y=Hb.set q Y++t:=fun X Y t=>aIC qlt;have gb':∀ X,(Hb.set q X)[b]? = some (iA c):=fun X=>by rw[zM qb];exact gb
  have gt0:∀ X B (t:cM),(Hb.set q X++B::t)[Hb.length]? = some B:=fun X B t=>aAp;simp only[S];refine cN ?_;refine wR ?_;simp only[xq,reduceIte,qE,qA,qL,qD,gs',gb',iA,Cg.ds,Ff,eY,aM,hl];refine cL rfl (fun hc=>cQ ?_) (fun hc=>dJ ?_)
  ·have cY:r.length+i<col:=by simp at hc;omega
   have aQF:((cP (r++aA i eL)).map fun r=>r.map A.d)++[[.str ⟨#[32]⟩,.bool false,.int 0]]=(cP (r++aA (i+1) eL)).map fun r=>r.map A.d:=by
    rw[List.replicate_succ',← zS];simp[cP,Gl.row,eL]
   simp only[xq,reduceIte,qE,qA,qL,qD];refine cS ?_;refine cU ?_;simp only[xq,reduceIte,qE,qA,qL,qD,gs,gs',gt0,ss,eY,aM,hl,aQF,aB];refine⟨by simp only[dL];omega,by simp only[maxLen];omega,?_⟩;refine⟨col-r.length-(i+1),S (i+1),by omega,?_,i+1,by omega,rfl,rfl⟩;refine Co.back (h:=Hb.set q (eY (r++aA (i+1) eL))) _ ?_ (by simpa using hn0) ?_
   ·simp[cJ,cK,A.under,Nat.add_assoc,qlt,(zA.1 gid).1,(zA.1 gb).1]
   ·intro B hB;rw[aB];rcases aH hB with hB | rfl
    ·exact hu B hB
    ·intro r' qC x' Qf;simp only[cP,List.map_map,aJ,Function.comp] at qC;obtain⟨g,_,rfl⟩:=qC;simp only[Gl.row,zU,zV,zp,zc,or_false] at Qf;rcases Qf with rfl | rfl | rfl<;>rfl
  ·have Zi:i=col-r.length:=by simp at hc;omega
   subst Zi;simp only[xq,reduceIte,qE,qA,qL,qD];exact⟨S (col-r.length),Co.keep _ (by simp[cJ,cK]),rfl⟩
 rintro _ rfl;have aKa:r.length+(col-r.length)=(jC r col).length:=by simp[jC]
 have aQ1:r++aA (col-r.length) eL=jC r col:=rfl;have aQ4:iN r col cnt c.gl=dE ((jC r col).take col++c.gl++(jC r col).drop (col+cnt)):=rfl;have aPR:(jC r col).length≤50264:=by rw[← aKa];omega
 have hpc:col+cnt≤(jC r col).length:=by rw[← aKa];omega
 obtain⟨cat,aEA⟩:∃ cat,cat=(jC r col).take col++c.gl++(jC r col).drop (col+cnt):=⟨_,rfl⟩;have aPA:cat.length≤100000:=by
  rw[aEA];simp only[List.length_append,List.length_take,aK];omega
 simp only[S,aKa,aQ1,aQ4,← aEA];generalize jC r col=pad at *;obtain⟨Hl,hHl⟩:∃ Hl,Hl=Hb.set q (eY pad):=⟨_,rfl⟩;rw[← hHl];have hHll:Hl.length=Hb.length:=by rw[hHl,aB]
 have up:∀ {p:Nat} {B:HB},q≠p→Hb[p]? = some B→∀ t:cM,(Hl++t)[p]? = some B:=fun fM hp t=>by
  rw[hHl];exact vR fM hp
 have lid:=up qid gid;have lk:=up qk gk;have lb:=up qb gb;have lq:∀ t:cM,(Hl++t)[q]? = some (eY pad):=fun t=>by rw[hHl];exact xY qlt
 have klt2:k<Hl.length:=by omega
 have sk:∀ X (t:cM),(Hl++t).set k X=Hl.set k X++t:=fun X t=>Br klt2;have hC:∀ H1:cM,H1=Hl++[.cells eW [[.ref q pad.length 0 col true],[.d (.sl dW (cP c.gl))],[.ref q pad.length (col+cnt) (pad.length-(col+cnt)) true]]]→FnD Δ P fc [.ref Hl.length 3 0 3 true] H1 (.ref H1.length cat.length 0 cat.length true) (H1++[eY cat]):=by
  rintro H1 rfl;refine sW.lend (y:=.d (.sl eW (dH [pad.take col,c.gl,pad.drop (col+cnt)]))) (l:=cat) ?_ ?_ rfl
  ·have:=Hc [pad.take col,c.gl,pad.drop (col+cnt)] (by simp) (by
    have:[pad.take col,c.gl,pad.drop (col+cnt)].flatten=cat:=by rw[aEA];simp
    rw[this];exact aPA)
   have hf:[pad.take col,c.gl,pad.drop (col+cnt)].flatten=cat:=by rw[aEA];simp
   rw[hf] at this;exact this
  ·refine aGj (dA) ?_ (.d _) ?_
   ·have:=kE (k:=0) (off:=0) (len:=col) (full:=true) (e:=dW) (rows:=cP pad) (zI q) (lq [HB.cells eW [[.ref q pad.length 0 col true],[.d (.sl dW (cP c.gl))],[.ref q pad.length (col+cnt) (pad.length-(col+cnt)) true]]]) (by rw[cR];omega);rw[cR,List.drop_zero,jI] at this;exact this
   ·have:=kE (k:=0) (off:=col+cnt) (len:=pad.length-(col+cnt)) (full:=true) (e:=dW) (rows:=cP pad) (zI q) (lq [HB.cells eW [[.ref q pad.length 0 col true],[.d (.sl dW (cP c.gl))],[.ref q pad.length (col+cnt) (pad.length-(col+cnt)) true]]]) (by rw[cR];omega);rw[cR] at this;have e:((cP pad).drop (col+cnt)).take (pad.length-(col+cnt))=cP (pad.drop (col+cnt)):=by
     rw[List.take_of_length_le (by rw[aK,cR];exact zL _)];simp[cP,List.map_drop]
    rw[e] at this;exact this
 have hT:∀ (H:cM) (m:Nat),m=H.length→FnD Δ P ft [.ref m cat.length 0 cat.length true] (H++[eY cat]) (.ref (H++[eY cat]).length (dE cat).length 0 (dE cat).length true) ((H++[eY cat])++[eY (dE cat)]):=by
  rintro H _ rfl;refine sW.lend (Ht cat) ?_ rfl;have:=iJ (id:=H.length) (full:=true) (e:=dW) (rows:=cP cat) (h:=H++[eY cat]) dA;rw[cR] at this;exact this
 have w1:IntKind.i64.wrap ((col:Int)+(cnt:Int))=((col+cnt:Nat):Int):=by rw[cX (by omega)];omega
 have t1:(((pad.length:Nat):Int)-((col+cnt:Nat):Int)).toNat=pad.length-(col+cnt):=by omega
 refine eD (by simp) ?_;simp only[xq,reduceIte,qE,qA,qL,qD,lid,lk,lb,lq,eK,iA,Cg.ds,Ff,aEC,fK,cR,w1,t1,Int.natCast_zero,Int.sub_zero,Int.toNat_zero,zQ,dA,eE]
 repeat refine And.intro (by omega) ?_
 refine Cp (hC _ rfl) ?_;simp only[xq,reduceIte,qE,qA,qL,qD];refine Cp (hT _ _ (by simp)) ?_;simp only[xq,reduceIte,qE,qA,qL,qD,lk,sk,zS,hRj,zQ,fC];refine⟨by omega,by omega,?_⟩;refine⟨.inl rfl,?_⟩;simp only[dK,dM,hHll,true_and]
structure StepPre(v:Vw)(c:Cg):Prop where
 ed:Ed v
 ok:iM v c=0
 row:∀ r∈v.rows,r.length≤50000
 gl:c.gl.length≤1000
theorem EdIs.ne{h:cM}{id:Nat}{v:Vw}{k:Nat}{R:List (List A)}(e:EdIs h id v k R){q:Nat}{r:List Gl}(hq:h[q]? = some (eY r)):q≠id∧q≠k∧id≠k:=by
 refine⟨?_,?_,?_⟩
 ·rintro rfl;have:=e.hid.symm.trans hq;simp only[zH,HB.cells.injEq] at this;exact absurd (congrArg Elt.sz this.1) (by decide)
 ·rintro rfl;have:=e.hk.symm.trans hq;simp only[zH,HB.cells.injEq] at this;exact absurd (congrArg Elt.sz this.1) (by decide)
 ·rintro rfl;have:=e.hid.symm.trans e.hk;simp only[zH,HB.cells.injEq] at this;exact absurd (congrArg Elt.sz this.1) (by decide)
theorem EdIs.setRow{h h':cM}{id:Nat}{v:Vw}{k:Nat}{R:List (List A)}(e:EdIs h id v k R){j p:Nat}{r:List Gl}{x:A}(hj:j<v.rows.length)(hx:R[j]? = some [x])(hid:h'[id]? = h[id]?)
  (hk:h'[k]? = some (.cells eW (R.set j [.ref p r.length 0 r.length true]))) (hp:h'[p]? = some (eY r)) (hpn:h.length≤p) (pF:∀ q rr,h[q]? = some (eY rr)→(∀ n,x ≠ .ref q n 0 n true)→h'[q]? = some (eY rr)) :
  EdIs h' id { v with rows:=v.rows.set j r } k (R.set j [.ref p r.length 0 r.length true]):=by
 have hjR:j<R.length:=by have:=e.len;omega
 refine⟨?_,hk,by simpa using e.len,fun i s hi=>?_,fun i i' q n m hi nX h1 h2=>?_⟩
 ·rw[hid,e.hid];simp[eK]
 ·simp only[aI] at hi
  by_cases hij:j=i
  ·subst hij;rw[if_pos rfl,if_pos hj] at hi;cases hi;exact⟨_,by rw[zN hjR],.inr ⟨p,rfl,hp⟩⟩
  ·rw[if_neg hij] at hi;obtain⟨y,h1,h2⟩:=e.row i s hi;refine⟨y,by rw[zM hij];exact h1,?_⟩;rcases h2 with h2 | ⟨q,rfl,h3⟩
   ·exact .inl h2
   ·refine .inr ⟨q,rfl,pF q _ h3 ?_⟩;rintro n rfl;refine hij (e.dis j i q n s.length hj ?_ hx h1);exact(zA.1 hi).1
 ·simp only[aB] at hi nX;have old:∀ {i:Nat} {q n:Nat},i<v.rows.length→R[i]? = some [.ref q n 0 n true]→q<h.length:=by
   intro i q n hi hR;obtain⟨y,g1,g2⟩:=e.row i _ (zB hi);rw[hR] at g1;cases g1;rcases g2 with⟨g2,_⟩ | ⟨q',g2,g3⟩
   ·cases g2
   ·cases g2;exact(zA.1 g3).1
  rw[aI] at h1 h2
  by_cases hi1:j=i
  ·by_cases hi2:j=i'
   ·omega
   ·subst hi1;rw[if_pos rfl,if_pos hjR] at h1;rw[if_neg hi2] at h2;cases h1;have:=old nX h2;omega
  ·rw[if_neg hi1] at h1
   by_cases hi2:j=i'
   ·subst hi2;rw[if_pos rfl,if_pos hjR] at h2;cases h2;have:=old hi h1;omega
   ·rw[if_neg hi2] at h2;exact e.dis i i' q n m hi nX h1 h2
theorem aK0{Hb t:cM}{q k p:Nat}{X Y:HB}(hp:p<Hb.length)(h1:k≠p)(h2:q≠p):((Hb.set q X).set k Y++t)[p]? = Hb[p]? := by
 rw[zF (by simpa using hp),zM h1,zM h2]
theorem aPf{Hb t:cM}{q k:Nat}{X Y:HB}(hp:k<Hb.length):((Hb.set q X).set k Y++t)[k]? = some Y:=by
 rw[zF (by simpa using hp),zN (by simpa using hp)]
theorem aPg{Hb t:cM}{q k i:Nat}{X Y:HB}:((Hb.set q X).set k Y++t)[Hb.length+i]? = t[i]? := by
 rw[zG (by simp)];congr 1;simp
theorem aGk{f fc ft:FuncId}{Δ:Ctx}(H:FnIs P f N [] (fO fc ft))(hN:2≤N)(Hc:∀ ls:List (List Gl),ls.length≤1000→ls.flatten.length≤100000→sW P fc (.d (.sl eW (dH ls))) ls.flatten)(Ht:∀ l:List Gl,sW P ft (.d (.sl dW (cP l))) (dE l)) :
  nQ Δ P f (fun v c=>c.kind=3∧StepPre v c) dV:=by
 rintro v c ⟨hk,dZ⟩ h id k R hb e;obtain⟨q1,q2,q3,q4⟩:=qZ dZ.ok;have eG:=dZ.ed.len;have hs:=gF.1 dZ.ed.sz;simp only[eM,hk,if_neg (show ¬ (3:Int)=1 by decide),if_neg (show ¬ (3:Int)=2 by decide),if_true,Bool.and_eq_true,fP] at q3;obtain⟨j,fK⟩:∃ j:Nat,c.row=j:=⟨c.row.toNat,by omega⟩;obtain⟨col,Ff⟩:∃ j:Nat,c.col=j:=⟨c.col.toNat,by omega⟩;obtain⟨cnt,aEC⟩:∃ j:Nat,c.count=j:=⟨c.count.toNat,by omega⟩;have hj:j<v.rows.length:=by omega
 have hra:iD v.rows c.row=v.rows[j]:=by
  unfold iD;rw[fK,zQ,zC,zB hj];rfl
 rw[hra] at q3;have Mu:=dZ.row _ (zi hj);have iH:dV v c={ v with rows:=v.rows.set j (iN v.rows[j] col cnt c.gl) }:=by
  simp only[dV,hk,if_neg (show ¬ (3:Int)=1 by decide),if_neg (show ¬ (3:Int)=2 by decide),if_true,hra];rw[fK,Ff,aEC];simp
 have hjR:v.rows.length≤R.length:=e.len;obtain⟨x,hx,hr⟩:=e.row j _ (zB hj);have gid:∀ t:cM,(h++t)[id]? = some (.cells pA [eK v k R.length]):=fun t=>fB e.hid;have gk:∀ t:cM,(h++t)[k]? = some (.cells eW R):=fun t=>fB e.hk;have idlt:=e.id_lt;have klt:=e.k_lt
 -- the first region
 have first:∀ (Q:St→Prop),(∀ sl:Nat→A,sl 0 = .ptr id 1 0 0→sl 3 = .ptr h.length 1 0 0→sl 4=x→W Δ P N none h.length (fO fc ft).r.r (fun e s=>(e = .normal∨e = .ret)∧Q s) ⟨sl,h++[iA c]⟩) →
   W Δ P N none h.length (fO fc ft) (fun e s=>(e = .normal∨e = .ret)∧Q s) ⟨dB (gQ 0 [.ptr id 1 0 0,pG c]),h⟩:=by
  intro Q hQ;unfold fO at hQ ⊢;simp only[XC.r] at hQ;simp only[pG,Cg.ds,zU,zV];refine wR ?_;simp only[xq,reduceIte,qE,qA,qL,qD,dA,eE];refine cN (eD (by simp) ?_);simp only[xq,reduceIte,qE,qA,qL,qD,dA,gid,gk,eK,fK,hx,zQ,zP];refine⟨by omega,by omega,?_⟩;rw[← fK];refine hQ _ ?_ ?_ ?_<;>simp[cJ,cK]
 have aKc:∀ {t:cM} {m:Nat},(∀ B∈h,HB.under h.length B)→h.length≤m→(∀ B∈t,HB.under m B)→∀ B∈h++t,HB.under m B:=by
  intro t m h1 h2 h3 B hB;rcases aL.1 hB with hB | hB
  ·exact HB.under_mono (h1 B hB) h2
  ·exact h3 B hB
 have under_row:∀ {m:Nat} {l:List Gl},HB.under m (eY l):=by
  intro m l r' qC x' Qf;simp only[cP,List.map_map,aJ,Function.comp] at qC;obtain⟨g,_,rfl⟩:=qC;simp only[Gl.row,zU,zV,zp,zc,or_false] at Qf;rcases Qf with rfl | rfl | rfl<;>rfl
 rcases hr with⟨rfl,kG⟩ | ⟨q,rfl,hq⟩
 ·-- a row that is nil
  let Hb:cM:=h++[iA c,eY []];refine⟨(Hb.set (h.length+1) (eY (jC [] col))).set k (.cells eW (R.set j [.ref (Hb.length+2) (iN [] col cnt c.gl).length 0 (iN [] col cnt c.gl).length true])) ++
   [.cells eW [[.ref (h.length+1) (jC [] col).length 0 col true],[.d (.sl dW (cP c.gl))],[.ref (h.length+1) (jC [] col).length (col+cnt) ((jC [] col).length-(col+cnt)) true]],eY ((jC [] col).take col++c.gl++(jC [] col).drop (col+cnt)),eY (iN [] col cnt c.gl)],k,R.set j [.ref (Hb.length+2) (iN [] col cnt c.gl).length 0 (iN [] col cnt c.gl).length true],?_,by simp[Hb];omega,?_,?_⟩
  ·refine .of_W H (by simpa using hN) hb (Eg fun hu=>first _ fun sl s0 s3 s4=>?_);refine dX (Co.nil 4 dW (by decide) s4) ?_;have hl1:(h++[iA c]).length=h.length+1:=by simp
   have hh:(h++[iA c])++[HB.cells dW []]=h++[iA c,eY []]:=by simp[eY,cP]
   simp only[hl1,hh];refine Oa (sl:=upd sl 4 (.ref (h.length+1) 0 0 0 true)) (Hb:=h++[iA c,eY []]) (r:=[]) (b:=h.length) (q:=h.length+1) (c:=c) (v:=v) (id:=id) (R:=R) Hc Ht (by simp) hb (aKc hu (by simp) ?_) (by simp[cJ,s0]) (by simp[cJ,s3]) (by simp[cJ]) (gid _) (gk _) (dA) (eT) Ff aEC fK hj hjR hx (by rw[kG] at q3;simp at q3 ⊢; omega) (by omega) (by simp) dZ.gl;intro B hB;simp only[zp,zc,or_false] at hB;rcases hB with rfl | rfl
   ·exact Eh
   ·exact under_row (l:=[])
  ·rw[iH,kG];have fM:id≠k:=by
    rintro rfl;have:=e.hid.symm.trans e.hk;simp only[zH,HB.cells.injEq] at this;exact absurd (congrArg Elt.sz this.1) (by decide)
   have Qd:Hb.length=h.length+2:=by simp[Hb]
   have hbo:∀ p,p<h.length→Hb[p]? = h[p]? := fun p hp=>zF hp;refine e.setRow (x:=.nil) hj hx ?_ (aPf (by omega)) aPg (by omega) (fun q rr hq _=>?_)
   ·rw[aK0 (by omega) (Ne.symm fM) (by omega),hbo _ idlt]
   ·have aPW:=(zA.1 hq).1;rw[aK0 (by omega) (Ne.symm (e.ne hq).2.1) (by omega),hbo _ aPW];exact hq
  ·have k1:Hb[h.length+1]? = some (eY []):=eT;have k2:(Hb.set (h.length+1) (eY (jC [] col)))[k]? = some (.cells eW R):=by
    rw[zM (by omega)];exact gk _
   exact(gK.app (t:=[iA c,eY []])).trans ((gK.setO k1 (by decide)).trans ((gK.setO k2 (by decide)).trans .app))
 ·let Hb:cM:=h++[iA c];have aPW:=(zA.1 hq).1;obtain⟨n1,n2,n3⟩:=e.ne hq;refine⟨(Hb.set q (eY (jC v.rows[j] col))).set k (.cells eW (R.set j [.ref (Hb.length+2) (iN v.rows[j] col cnt c.gl).length 0 (iN v.rows[j] col cnt c.gl).length true])) ++
   [.cells eW [[.ref q (jC v.rows[j] col).length 0 col true],[.d (.sl dW (cP c.gl))],[.ref q (jC v.rows[j] col).length (col+cnt) ((jC v.rows[j] col).length-(col+cnt)) true]],eY ((jC v.rows[j] col).take col++c.gl++(jC v.rows[j] col).drop (col+cnt)),eY (iN v.rows[j] col cnt c.gl)],k,R.set j [.ref (Hb.length+2) (iN v.rows[j] col cnt c.gl).length 0 (iN v.rows[j] col cnt c.gl).length true],?_,by simp[Hb];omega,?_,?_⟩
  ·refine .of_W H (by simpa using hN) hb (Eg fun hu=>first _ fun sl s0 s3 s4=>?_);refine Oa (Hb:=h++[iA c]) (r:=v.rows[j]) (b:=h.length) (q:=q) (c:=c) (v:=v) (id:=id) (R:=R) Hc Ht (by simp) hb (aKc hu (by simp) ?_) s0 s3 s4 (gid _) (gk _) (dA) (fB hq) Ff aEC fK hj hjR hx (by omega) (by omega) (by omega) dZ.gl;intro B hB;simp only[zp,zc,or_false] at hB;subst hB;exact Eh
  ·rw[iH];have Qd:Hb.length=h.length+1:=by simp[Hb]
   have hbo:∀ p,p<h.length→Hb[p]? = h[p]? := fun p hp=>zF hp;refine e.setRow (x:=.ref q v.rows[j].length 0 v.rows[j].length true) hj hx ?_ (aPf (by omega)) aPg (by omega) (fun q' rr hq' Qf=>?_)
   ·rw[aK0 (by omega) (Ne.symm n3) n1,hbo _ idlt]
   ·have aPX:=(zA.1 hq').1;have hqq:q≠q':=by
     rintro rfl;exact Qf _ rfl
    rw[aK0 (by omega) (Ne.symm (e.ne hq').2.1) hqq,hbo _ aPX];exact hq'
  ·have k1:Hb[q]? = some (eY v.rows[j]):=fB hq;have k2:(Hb.set q (eY (jC v.rows[j] col)))[k]? = some (.cells eW R):=by
    rw[zM n2];exact gk _
   exact(gK.app (t:=[iA c])).trans ((gK.setO k1 (by decide)).trans ((gK.setO k2 (by decide)).trans .app))
end
end Go.Proofs.YtlllnjhgjijnkaaGreatDoor.Nx

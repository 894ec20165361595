import Derived.Test.YtlllnjhgjijnkaaGreatDoorNxE2
import Derived.Test.YtlllnjhgjijnkaaGreatDoorNxW8
set_option linter.all false
open List renaming getElem?_eq_some_iff → zA, getElem?_eq_getElem → zB, getD_eq_getElem?_getD → zC, getElem?_append_left → zF, getElem?_append_right → zG, getElem?_map → zK, getElem?_set_ne → zM, getElem?_set_self → zN, append_nil → zP, append_assoc → zS, map_cons → zU, map_nil → zV, length_append → zb, not_mem_nil → zc, drop_eq_getElem_cons → zd, length_map → zg, take_length → zh, getElem?_range → zj, getElem?_eq_none → zk, getElem?_take → zm, mem_cons → zp, length_take → zs
open Bool renaming true_eq_false → zE
open Option.some renaming injEq → zH
open Nat renaming zero_le → zI, le_refl → zL
open Int renaming toNat_natCast → zQ
open Nat renaming reduceEqDiff → qE, reduceAdd → qA, reduceLT → qL, reduceLeDiff → qD
set_option maxHeartbeats 2000000
open Option renaming map_some → aA, toList_some → aM
open List renaming length_set → aB, mem_singleton → aD, take_of_length_le → aE, length_singleton → aF, range → aG, take_succ_cons → aH, ext_getElem? → aJ, map_append → aK, replicate → aL, take_add_one → aO, cons_append → aP, mem_append → aS
open And renaming intro → aC
open Nat renaming sub_self → aI, lt_or_ge → aN
open Int renaming natCast_zero → aQ, toNat → aR
namespace Go.Proofs.YtlllnjhgjijnkaaGreatDoor.Nx
open Go
section
variable {P:Program}{N:Nat}{Γ:dP}
def XC.l:XC→XC
 | .seq x _=>x
 | x=>x
def XC.b:XC→XC
 | .block _ x=>x
 | x=>x
def XC.lp:XC→XC
 | .loop x=>x
 | x=>x
theorem EdIs.idk{h:cM}{id:Nat}{v:Vw}{k:Nat}{R:List (List A)}(e:EdIs h id v k R):id≠k:=by
 rintro rfl;have:=e.hid.symm.trans e.hk;simp only[zH,HB.cells.injEq] at this;exact absurd (congrArg Elt.sz this.1) (by decide)
theorem EdIs.setK{h g:cM}{id:Nat}{v w:Vw}{k:Nat}{R R':List (List A)}(e:EdIs h id v k R)(eG:w.rows.length≤R'.length)
  (fK:∀ (i:Nat) (r:List Gl),w.rows[i]? = some r→(R'[i]? = R[i]? ∧ v.rows[i]? = some r)∨(R'[i]? = some [.nil]∧r=[]))
  (hg:∀ q,q<h.length→g[q]? = h[q]?):EdIs ((g.set k (.cells eW R')).set id (.cells pA [eK w k R'.length])) id w k R':=by
 have hid:=e.id_lt;have hk:=e.k_lt;have gl:∀ q,q<h.length→q<g.length:=fun q hq=>by
  have:=hg q hq;rw[zB hq] at this;exact(zA.1 this).1
 have aQN:=gl _ hid;have hgk:=gl _ hk;refine⟨zN (by simpa using aQN),by rw[zM e.idk,zN hgk],eG,fun i r hi=>?_,fun i j q n m hi hj h1 h2=>?_⟩
 ·rcases fK i r hi with⟨h1,h2⟩ | ⟨h1,h2⟩
  ·obtain⟨x,g1,g2⟩:=e.row i r h2;refine⟨x,h1.trans g1,?_⟩;rcases g2 with g2 | ⟨q,g2,g3⟩
   ·exact .inl g2
   ·have fM:=e.ne g3;have hq:=(zA.1 g3).1;exact .inr ⟨q,g2,by rw[zM (Ne.symm fM.1),zM (Ne.symm fM.2.1),hg q hq];exact g3⟩
  ·exact⟨_,h1,.inl ⟨rfl,h2⟩⟩
 ·have key:∀ {i q n:Nat},i<w.rows.length→R'[i]? = some [.ref q n 0 n true]→R[i]? = some [.ref q n 0 n true]∧i<v.rows.length:=by
   intro i q n hi hr;rcases fK i _ (zB hi) with⟨h1,h2⟩ | ⟨h1,_⟩
   ·exact⟨h1.symm.trans hr,(zA.1 h2).1⟩
   ·rw[h1] at hr;cases hr
  obtain⟨a1,a2⟩:=key hi h1;obtain⟨b1,b2⟩:=key hj h2;exact e.dis i j q n m a2 b2 a1 b1
def iR(v:Vw)(i:Nat):Vw:={ v with rows:=v.rows++aL i [] }
theorem aGm{fw ft:FuncId}{Δ:Ctx}{n0:Nat}{v:Vw}{Hh:Nat}(hv:v.height=Hh)(hH:Hh≤1000)(hvl:v.rows.length≤1000){g:cM}{id k:Nat}{R:List (List A)}(e:EdIs g id v k R) :
  ∃ g' k' R',g.length≤g'.length∧EdIs g' id (iR v (Hh-v.rows.length)) k' R'∧gK g g' id∧WE Δ P N none n0 (cZ fw ft).r.r.l ⟨dB [(0,.ptr id 1 0 0)],g⟩ .normal ⟨dB [(0,.ptr id 1 0 0)],g'⟩:=by
 have key:=aBY (Γ:=Δ) (P:=P) (N:=N) (rl:=none) (n0:=n0) (j:=0) (x:=(cZ fw ft).r.r.l.b.lp)
  (fun m s=>∃ i g' k' R',i≤Hh-v.rows.length∧m=Hh-v.rows.length-i∧g.length≤g'.length∧EdIs g' id (iR v i) k' R'∧gK g g' id∧s=⟨dB [(0,.ptr id 1 0 0)],g'⟩)
  (fun s=>∃ g' k' R',g.length≤g'.length∧EdIs g' id (iR v (Hh-v.rows.length)) k' R'∧gK g g' id∧s=⟨dB [(0,.ptr id 1 0 0)],g'⟩) (fun m s hI=>?_) (m:=Hh-v.rows.length) (s:=⟨dB [(0,.ptr id 1 0 0)],g⟩) ⟨0,g,k,R,zI _,rfl,zL _,by simpa[iR] using e,.refl,rfl⟩
 ·obtain⟨s1,⟨g',k',R',h1,h2,h3,rfl⟩,hW⟩:=key;exact⟨g',k',R',h1,h2,h3,hW⟩
 obtain⟨i,g',k',R',hi,rfl,Im,e',hk6,rfl⟩:=hI;have idlt:=e'.id_lt;have klt:=e'.k_lt;have idk:=e'.idk;have hgr:(iR v i).rows.length=v.rows.length+i:=by simp[iR]
 have hgh:(iR v i).height=Hh:=hv;have aPE:(iR v (i+1)).height=Hh:=hv;have gid:g'[id]? = some (.cells pA [eK (iR v i) k' R'.length]):=e'.hid;have gk:g'[k']? = some (.cells eW R'):=e'.hk;have gZ:v.rows.length+i≤R'.length:=by rw[← hgr];exact e'.len
 by_cases cY:v.rows.length+i<Hh
 ·left
  have d1:decide (((v.rows.length+i:Nat):Int)<(Hh:Int))=true:=decide_eq_true (by omega);have dT:(v.rows.length+i+1) * 24≤dL:=by simp only[dL];omega
  have Vj:v.rows.length+i+1≤maxLen:=by simp only[maxLen];omega
  let G:cM:=g'++[HB.cells eW [[A.nil]]];have gid1:∀ t:cM,(g'++t)[id]? = some (.cells pA [eK (iR v i) k' R'.length]):=fun t=>fB gid;have gk1:∀ t:cM,(g'++t)[k']? = some (.cells eW R'):=fun t=>fB gk;have gsk:∀ X (t:cM),((g'++t).set k' X)[id]? = some (.cells pA [eK (iR v i) k' R'.length]):=fun X t=>by
   rw[zM (Ne.symm idk)];exact fB gid
  have step:∀ R2:List (List A),v.rows.length+i+1≤R2.length→(∀ a,a<v.rows.length+i→R2[a]? = R'[a]?)→R2[v.rows.length+i]? = some [A.nil] →
    (∀ K:St→Prop,(∀ (sl:Nat→A) (hp:cM),sl 0 = .ptr id 1 0 0→hp=((G.set k' (.cells eW R2)).set id (.cells pA [eK (iR v (i+1)) k' R2.length]))→K ⟨sl,hp⟩)→W Δ P N none n0 (cZ fw ft).r.r.l.b.lp (fun e s=>e = .normal∧K s) ⟨dB [(0,.ptr id 1 0 0)],g'⟩) →
    ∃ m' s2,m'<Hh-v.rows.length-i∧(∃ i g' k' R',i≤Hh-v.rows.length∧m'=Hh-v.rows.length-i∧g.length≤g'.length∧EdIs g' id (iR v i) k' R'∧gK g g' id∧s2=⟨dB [(0,.ptr id 1 0 0)],g'⟩)∧WE Δ P N none n0 (cZ fw ft).r.r.l.b.lp ⟨dB [(0,.ptr id 1 0 0)],g'⟩ .normal s2:=by
   intro R2 hl2 pF vG hW;refine⟨Hh-v.rows.length-(i+1),⟨dB [(0,.ptr id 1 0 0)],(G.set k' (.cells eW R2)).set id (.cells pA [eK (iR v (i+1)) k' R2.length])⟩,by omega,⟨i+1,_,k',R2,by omega,rfl,by simp[G];omega,e'.setK (by simp[iR];omega) (fun a r ha=>?_) (fun q hq=>zF hq),hk6.trans ((gK.app (t:=[HB.cells eW [[A.nil]]])).trans ((gK.setO (gk1 _) (by decide)).trans .set)),rfl⟩,?_⟩
   ·have hal:=(zA.1 ha).1;have aQO:(iR v (i+1)).rows=(iR v i).rows++[[]]:=by simp[iR,List.replicate_succ',zS]
    rw[aQO] at ha hal;rw[zb,aF,hgr] at hal;rcases aN a (v.rows.length+i) with h' | h'
    ·left
     rw[zF (by omega)] at ha;exact⟨pF a h',ha⟩
    ·right
     have:a=v.rows.length+i:=by omega
     subst this;rw[zG (by omega),hgr,aI] at ha;cases ha;exact⟨vG,rfl⟩
   ·refine hW (fun s=>Co n0 s _) fun sl hp h0 he=>?_;subst he;exact Co.keep _ (by simp[h0])
  by_cases hfull:v.rows.length+i=R'.length
  ·refine step (R'++[[.nil]]) (by simp;omega) (fun a ha=>zF (by omega)) (by rw[zG (by omega)];simp[hfull]) fun K hK=>?_;simp only[cZ,XC.r,XC.l,XC.b,XC.lp];refine cN ?_;refine cN (eD (by simp) ?_);simp only[xq,reduceIte,qE,qA,qL,qD,gid,gk,eK,hgr,hgh,zP,d1];refine cL rfl (fun _=>cQ ?_) (fun hc=>by cases hc);simp only[xq,reduceIte,qE,qA,qL,qD];refine cS ?_;refine cU ?_;simp only[xq,reduceIte,qE,qA,qL,qD,gid,gid1,gk,gk1,gsk,eK,hgr,hgh,hfull,dA];refine⟨by rw[← hfull];exact dT,by rw[← hfull];exact Vj,?_⟩;refine hK _ _ (by simp[cJ,cK]) ?_;have hl:(iR v (i+1)).rows.length=R'.length+1:=by rw[← hfull];simp[iR];omega
   simp only[G,eK,hl,aPE,zb,aF];rfl
  ·have aN5:v.rows.length+i<R'.length:=by omega
   have aN6:¬ (v.rows.length+i=R'.length):=hfull;have ht:(R'.take (v.rows.length+i)).length=v.rows.length+i:=by rw[zs];omega
   have hl2:(R'.take (v.rows.length+i)++[[A.nil]]++R'.drop (v.rows.length+i+1)).length=R'.length:=by
    simp only[zb,ht,aF,List.length_drop];omega
   refine step (R'.take (v.rows.length+i)++[[.nil]]++R'.drop (v.rows.length+i+1)) (by omega) (fun a ha=>?_) ?_ fun K hK=>?_
   ·rw[zS,zF (by omega),zm,if_pos ha]
   ·rw[zS,zG (by omega),ht,aI];rfl
   simp only[cZ,XC.r,XC.l,XC.b,XC.lp];refine cN ?_;refine cN (eD (by simp) ?_);simp only[xq,reduceIte,qE,qA,qL,qD,gid,gk,eK,hgr,hgh,zP,d1];refine cL rfl (fun _=>cQ ?_) (fun hc=>by cases hc);simp only[xq,reduceIte,qE,qA,qL,qD];refine cS ?_;refine cU ?_;simp only[xq,reduceIte,qE,qA,qL,qD,gid,gid1,gk,gk1,gsk,eK,hgr,hgh,if_neg aN6,dA];refine⟨dT,Vj,aN5,?_⟩;refine hK _ _ (by simp[cJ,cK]) ?_;have hl:(iR v (i+1)).rows.length=v.rows.length+i+1:=by simp[iR];omega
   simp only[G,eK,hl,hl2,aPE];rfl
 ·right
  refine⟨⟨dB [(0,.ptr id 1 0 0)],g'⟩,⟨g',k',R',Im,?_,hk6,rfl⟩,?_⟩
  ·have:Hh-v.rows.length=i:=by omega
   rw[this];exact e'
  ·have d1:decide (((v.rows.length+i:Nat):Int)<(Hh:Int))=false:=decide_eq_false (by omega);simp only[cZ,XC.r,XC.l,XC.b,XC.lp];refine cN ?_;refine cN (eD (by simp) ?_);simp only[xq,reduceIte,qE,qA,qL,qD,gid,gk,eK,hgr,hgh,zP,d1];refine cL rfl (fun hc=>by cases hc) (fun _=>dJ ?_);simp only[xq,reduceIte,qE,qA,qL,qD];exact Co.keep _ (by simp[cJ,cK])
theorem EdIs.cut{h:cM}{id:Nat}{v:Vw}{k:Nat}{R:List (List A)}(e:EdIs h id v k R)(n:Nat)(hn:n≤v.rows.length):EdIs (h.set id (.cells pA [eK { v with rows:=v.rows.take n } k R.length])) id { v with rows:=v.rows.take n } k R:=by
 have hl:(v.rows.take n).length=n:=by rw[zs];omega
 refine⟨zN e.id_lt,by rw[zM e.idk];exact e.hk,by simp only[hl];have:=e.len;omega,fun i r hi=>?_,fun i j q a b hi hj=>?_⟩
 ·simp only[zm] at hi;split at hi
  ·obtain⟨x,h1,h2⟩:=e.row i r hi;refine⟨x,h1,?_⟩;rcases h2 with h2 | ⟨q,h2,h3⟩
   ·exact .inl h2
   ·exact .inr ⟨q,h2,by rw[zM (Ne.symm (e.ne h3).1)];exact h3⟩
  ·cases hi
 ·simp only[hl] at hi hj;exact e.dis i j q a b (by omega) (by omega)
def vL(v:Vw)(i:Nat):Vw:={ v with rows:=(v.rows.take i).map (lR v.width)++v.rows.drop i }
theorem aB0{v:Vw}{i:Nat}:(vL v i).rows.length=v.rows.length:=by simp[vL];omega
theorem aGn{v:Vw}{i:Nat}(h:i<v.rows.length):vL v (i+1)={ vL v i with rows:=(vL v i).rows.set i (lR v.width v.rows[i]) }:=by
 have hl:((v.rows.take i).map (lR v.width)).length=i:=by simp;omega
 simp only[vL];congr 1;rw[List.set_append_right _ _ (by omega),hl,aI,zd h,List.set_cons_zero,aO,zB h,aM,aK,zS];rfl
theorem aIH{v:Vw}{i:Nat}(h:i<v.rows.length):(vL v i).rows[i]? = some v.rows[i]:=by
 have hl:((v.rows.take i).map (lR v.width)).length=i:=by simp;omega
 simp only[vL];rw[zG (by omega),hl,aI,List.getElem?_drop,Nat.add_zero,zB h]
theorem aE7(w:Int):∀ (l:List Gl) (i:Nat),i≤l.length→(∀ j,j≤i→(dG (l.take j):Int)≤w)→mR w l=l.take i++mR (w-dG (l.take i)) (l.drop i)
 | l,0,_,_=>by simp[dG]
 | [],i+1,h,_=>by simp at h
 | g::l,i+1,h,hw=>by
  have h1:=hw 1 (by omega);simp only[aH,List.take_zero,dG] at h1;rw[mR,if_neg (by omega),aE7 (w-(gw g:Nat)) l i (by simpa using h) (fun j hj=>by
   have:=hw (j+1) (by omega);rw[aH,dG] at this;omega)]
  rw[aH,dG,List.drop_succ_cons,aP];congr 3
  push_cast
  omega
end
section
variable {P:Program}{N:Nat}{Γ:dP}
theorem aB1{l:List Gl}{i:Nat}(hi:i<l.length):((cP l).drop i).take 1=cP [l[i]]:=by
 rw[cP,← List.map_drop,← List.map_take,zd hi];rfl
def Jr(fw ft:FuncId):XC:=(cZ fw ft).r.r.r.r.l.r.b.lp.r.r.l.b.r
theorem aII{fw ft:FuncId}{Δ:Ctx}{n0:Nat}(Hw:∀ l:List Gl,FnP Δ.t P fw [.d (.sl dW (cP l))] (.int (dG l)))(Ht:∀ l:List Gl,sW P ft (.d (.sl dW (cP l))) (dE l))
  {g:cM} {id k q i M n1:Nat} {R:List (List A)} {v:Vw} {r:List Gl} {x:A} (hw0:0≤v.width∧v.width≤1000) (gid:g[id]? = some (.cells pA [eK v k R.length])) (gk:g[k]? = some (.cells eW R)) (gq:g[q]? = some (eY r)) (Mu:r.length≤50000) (hi:i<v.rows.length) (hx:R[i]? = some [x]) :
  WE Δ P N none n0 (Jr fw ft) ⟨dB [(0,.ptr id 1 0 0),(4,.int i),(5,.ref q r.length 0 r.length true),(62,.ref k R.length 0 M true),(63,.int n1),(64,.int i)],g⟩ .normal
   ⟨dB [(0,.ptr id 1 0 0),(62,.ref k R.length 0 M true),(63,.int n1),(64,.int i)],g.set k (.cells eW (R.set i [.ref g.length (lR v.width r).length 0 (lR v.width r).length true]))++[eY (lR v.width r)]⟩:=by
 have gid1:∀ t:cM,(g++t)[id]? = some (.cells pA [eK v k R.length]):=fun t=>fB gid;have gk1:∀ t:cM,(g++t)[k]? = some (.cells eW R):=fun t=>fB gk;have klt:k<g.length:=(zA.1 gk).1;obtain⟨cn,hcn⟩:=Sb v.width r;let S:Nat→St:=fun n=>⟨dB [(0,.ptr id 1 0 0),(4,.int i),(5,.ref q r.length 0 r.length true),(6,.int n),(7,.int (dG (r.take n))),(62,.ref k R.length 0 M true),(63,.int n1),(64,.int i)],g⟩;let T:Nat→St:=fun n=>⟨dB [(0,.ptr id 1 0 0),(4,.int i),(5,.ref q r.length 0 r.length true),(6,.int n),(62,.ref k R.length 0 M true),(63,.int n1),(64,.int i)],g⟩;simp only[Jr,cZ,XC.r,XC.l,XC.b,XC.lp];have Zg:=congrArg List.length hcn;rw[zs] at Zg;have aHy:mR v.width r=r.take (mR v.width r).length:=by
  rw[Zg,hcn];rcases Nat.le_total cn r.length with h | h
  ·rw[Nat.min_eq_left h]
  ·rw[Nat.min_eq_right h,aE h,zh]
 refine wR ?_;simp only[xq,reduceIte,qE,qA,qL,qD];refine eJ (· = T (mR v.width r).length) ?_ ?_
 ·refine cS ?_;refine dX (s':=S 0) (Co.keep _ (by simp[cJ,cK,dG])) ?_;refine dN (fun m s=>∃ n,n≤r.length∧m=r.length-n∧s=S n∧∀ j,j≤n→(dG (r.take j):Int)≤v.width) ⟨0,zI _,rfl,rfl,fun j hj=>by
   have:j=0:=by omega
   subst this;simpa[dG] using hw0.1⟩ ?_
  rintro m s ⟨n,hn,rfl,rfl,dZ⟩;have hat:=aE7 v.width r n hn dZ;have aRa:=Ef (r.take n);simp only[zs] at aRa;simp only[S];refine cN ?_;refine wR ?_;simp only[xq,reduceIte,qE,qA,qL,qD,gq,eY,zg,cR];refine cL rfl (fun hc=>cQ ?_) (fun hc=>dJ ?_)
  ·have cY:n<r.length:=by simpa using hc
   have Gc:=Nt cY;have hgw:gw r[n]≤2:=by unfold gw;split<;>omega
   have w1:IntKind.i64.wrap ((n:Int)+1)=((n+1:Nat):Int):=by rw[cX (by omega)];omega
   have w2:IntKind.i64.wrap ((dG (r.take n):Int)+(dG [r[n]]:Int))=((dG (r.take (n+1)):Nat):Int):=by
    have:dG [r[n]]=gw r[n]:=by simp[dG]
    rw[this,cX (by omega),Gc];omega
   have t1:(((n+1:Nat):Int)-(n:Int)).toNat=1:=by omega
   have Dx:FnD Δ P fw [.ref q r.length n 1 true] g (.int (dG [r[n]])) (g++[]):=by
    rw[zP];refine FnP.lend (Hw [r[n]]) Ps (.cons ?_ .nil);have:=kE (k:=0) (off:=n) (len:=1) (full:=true) (e:=dW) (rows:=cP r) (zI q) gq (by rw[cR];omega);rw[cR,aB1 cY] at this;exact .d this
   simp only[xq,reduceIte,qE,qA,qL,qD];refine cS ?_;refine cN ?_;refine wR ?_;simp only[xq,reduceIte,qE,qA,qL,qD,gq,eY,zg,cR,w1,t1,zQ,Nat.zero_add]
   repeat refine aC (by omega) ?_
   refine Cp Dx ?_;simp only[xq,reduceIte,qE,qA,qL,qD,zP,w2];refine wR ?_;simp only[xq,reduceIte,qE,qA,qL,qD,gid,eK];refine cL rfl (fun hd=>dJ ?_) (fun hd=>cQ ?_)
   ·have hd:v.width<((dG (r.take (n+1)):Nat):Int):=of_decide_eq_true hd;have qH:(mR v.width r).length=n:=by
     rw[hat,zd cY,mR,if_pos (by rw[Gc] at hd;omega),zP,zs];omega
    simp only[xq,reduceIte,qE,qA,qL,qD];exact⟨T (mR v.width r).length,Co.keep _ (by simp[cJ,cK,qH]),rfl⟩
   ·have hd:((dG (r.take (n+1)):Nat):Int)≤v.width:=by have:=of_decide_eq_false hd;omega
    simp only[xq,reduceIte,qE,qA,qL,qD];refine cU ?_;simp only[xq,reduceIte,qE,qA,qL,qD,w1];refine⟨r.length-(n+1),S (n+1),by omega,Co.keep _ ?_,n+1,cY,rfl,rfl,fun j hj=>?_⟩
    ·simp[cJ,cK]
    ·rcases aN j (n+1) with h | h
     ·exact dZ j (by omega)
     ·have:j=n+1:=by omega
      subst this;exact hd
  ·have gZ:n=r.length:=by simp at hc;omega
   subst gZ;have qH:(mR v.width r).length=r.length:=by
    rw[hat,List.drop_length,zh];simp[mR]
   simp only[xq,reduceIte,qE,qA,qL,qD];exact⟨T (mR v.width r).length,Co.keep _ (by simp[cJ,cK,qH]),rfl⟩
 rintro _ rfl;have aRe:(mR v.width r).length≤r.length:=by rw[Zg];omega
 have hT:FnD Δ P ft [.ref q r.length 0 (mR v.width r).length true] g (.ref g.length (lR v.width r).length 0 (lR v.width r).length true) (g++[eY (lR v.width r)]):=by
  refine sW.lend (y:=.d (.sl dW (cP (mR v.width r)))) (Ht _) ?_ rfl;have:=kE (k:=0) (off:=0) (len:=(mR v.width r).length) (full:=true) (e:=dW) (rows:=cP r) (zI q) gq (by rw[cR];omega);rw[cR,List.drop_zero,jI,← aHy] at this;exact .d this
 simp only[T];refine eD (by simp) ?_;simp only[xq,reduceIte,qE,qA,qL,qD,gid,gid1,gk,gk1,gq,eK,eY,zg,cR,aQ,Int.sub_zero,Int.toNat_zero,zQ,zP]
 repeat refine aC (by omega) ?_
 refine Cp hT ?_;simp only[xq,reduceIte,qE,qA,qL,qD,gid1,gk1,hx,zQ]
 repeat refine aC (by omega) ?_
 rw[Br klt];exact Co.keep _ (by simp[cJ,cK])
end
section
variable {P:Program}{N:Nat}{Γ:dP}
theorem aK2{f fw ft:FuncId}{Δ:Ctx}(H:FnIs P f N [] (cZ fw ft))(hN:2≤N)(Hw:∀ l:List Gl,FnP Δ.t P fw [.d (.sl dW (cP l))] (.int (dG l)))(Ht:∀ l:List Gl,sW P ft (.d (.sl dW (cP l))) (dE l)) :
  nQ Δ P f (fun v c=>c.kind=1∧StepPre v c) dV:=by
 rintro v c ⟨hk,dZ⟩ h id k R hb e;obtain⟨q1,q2,q3,q4⟩:=qZ dZ.ok;have eG:=dZ.ed.len;have hs:=gF.1 dZ.ed.sz;have ho:=Da.1 dZ.ed.out;simp only[eM,hk,if_true,Bool.and_eq_true,fP] at q3;obtain⟨Hh,fK⟩:∃ j:Nat,c.row=j:=⟨c.row.toNat,by omega⟩;have idlt:=e.id_lt;have fM:id≠h.length:=by omega
 -- the new size is put down
 let v1:Vw:={ v with height:=c.row,width:=c.col };let hA:cM:=h.set id (.cells pA [eK v1 k R.length])++[iA c];have eA:EdIs hA id v1 k R:=(e.setId (w:=v1) rfl).app _;have gid:∀ t:cM,(h++t)[id]? = some (.cells pA [eK v k R.length]):=fun t=>fB e.hid;have gs:∀ X (t:cM),(h.set id X++t)[id]? = some X:=fun X t=>xY idlt;have sl:∀ X (t:cM),(h++t).set id X=h.set id X++t:=fun X t=>Br idlt;have ss:∀ X Y (t:cM),(h.set id X++t).set id Y=h.set id Y++t:=fun X Y t=>aIC idlt;have w0:WE Δ P N none h.length (cZ fw ft).l ⟨dB (gQ 0 [.ptr id 1 0 0,pG c]),h⟩ .normal ⟨dB [(0,.ptr id 1 0 0),(3,.ptr h.length 1 0 0)],h++[iA c]⟩:=by
  simp only[cZ,XC.r,XC.l,pG,Cg.ds,zU,zV];refine cU ?_;simp only[xq,reduceIte,qE,qA,qL,qD,dA,eE];exact Co.keep _ (by simp[cJ,cK])
 have w1:WE Δ P N none h.length (cZ fw ft).r.l ⟨dB [(0,.ptr id 1 0 0),(3,.ptr h.length 1 0 0)],h++[iA c]⟩ .normal ⟨dB [(0,.ptr id 1 0 0)],hA⟩:=by
  simp only[cZ,XC.r,XC.l];refine Lg id h.length fM (by simp;omega) (by simp) rfl (by simp[cK,Aa,A.touch]) ?_;simp only[xq,reduceIte,qE,qA,qL,qD,dA,aAp,gid,gs,sl,ss,eK,iA,Cg.ds,zP];exact Co.keep _ (by simp[cJ,cK])
 obtain⟨g1,k1,R1,hg1,e1,Cb,wB⟩:=aGm (P:=P) (fw:=fw) (ft:=ft) (Δ:=Δ) (N:=N) (n0:=h.length) (v:=v1) (Hh:=Hh) fK (by omega) (by show v.rows.length≤1000;omega) eA;let v2:Vw:={ iR v1 (Hh-v1.rows.length) with rows:=(iR v1 (Hh-v1.rows.length)).rows.take Hh };have Im:Hh≤(iR v1 (Hh-v1.rows.length)).rows.length:=by simp[iR];omega
 have aOi:v2.rows.length=Hh:=by show(List.take _ _).length=_;rw[zs];omega
 have e2:=e1.cut Hh Im
 -- the slice is cut
 have wC:WE Δ P N none h.length ((cZ fw ft).r.r.r.l) ⟨dB [(0,.ptr id 1 0 0)],g1⟩ .normal ⟨dB [(0,.ptr id 1 0 0)],g1.set id (.cells pA [eK v2 k1 R1.length])⟩:=by
  have gid:=e1.hid;have gk:=e1.hk;have hh:(iR v1 (Hh-v1.rows.length)).height=Hh:=fK;have hR:=e1.len;have aQ9:v2.height=Hh:=fK;simp only[cZ,XC.r,XC.l];refine eD (by simp) ?_;simp only[xq,reduceIte,qE,qA,qL,qD,gid,gk,eK,hh,zP,aQ,Int.sub_zero,zQ,Int.toNat_zero]
  repeat refine aC (by omega) ?_
  have:eK v2 k1 R1.length=[.int (iR v1 (Hh-v1.rows.length)).width,.int Hh,.ref k1 R1.length 0 Hh true,.int (iR v1 (Hh-v1.rows.length)).row,.int (iR v1 (Hh-v1.rows.length)).col,.bool (iR v1 (Hh-v1.rows.length)).vis]:=by
   simp only[eK,aOi,aQ9];rfl
  rw[← eK,this];exact Co.keep _ (by simp[cJ,cK])
 -- the rows are cut
 let g2:cM:=g1.set id (.cells pA [eK v2 k1 R1.length]);have hg2:g1.length=g2.length:=by simp[g2]
 have aRk:v2.width=c.col:=rfl;have Mu:∀ r∈v2.rows,r.length≤50000:=by
  intro r hr;have hr:r∈v.rows++aL (Hh-v1.rows.length) []:=List.mem_of_mem_take hr;rcases aS.1 hr with hr | hr
  ·exact dZ.row r hr
  ·rw[List.eq_of_mem_replicate hr];simp
 let Ds (i:Nat) (R:List (List A)) (g:cM):St:=⟨dB [(0,.ptr id 1 0 0),(62,.ref k1 R.length 0 Hh true),(63,.int Hh),(64,.int i)],g⟩;have wD0:WE Δ P N none h.length ((cZ fw ft).r.r.r.r.l.l) ⟨dB [(0,.ptr id 1 0 0)],g2⟩ .normal (Ds 0 R1 g2):=by
  have gs1:∀ X,(g1.set id X)[id]? = some X:=fun X=>zN e1.id_lt;have gk1:∀ X,(g1.set id X)[k1]? = some (.cells eW R1):=fun X=>by rw[zM e1.idk];exact e1.hk
  simp only[cZ,XC.r,XC.l];refine cU ?_;simp only[g2,Ds,xq,reduceIte,qE,qA,qL,qD,gs1,gk1,eK,aOi];exact Co.keep _ (by simp[cJ,cK])
 obtain⟨s3,⟨g3,R3,hg3,e3,hk3,rfl⟩,wD⟩:=aBY (Γ:=Δ) (P:=P) (N:=N) (rl:=none) (n0:=h.length) (j:=2) (x:=(cZ fw ft).r.r.r.r.l.r.b.lp)
  (fun m s=>∃ i g R,i≤Hh∧m=Hh-i∧g2.length≤g.length∧EdIs g id (vL v2 i) k1 R∧gK g2 g id∧s=Ds i R g)
  (fun s=>∃ g R,g2.length≤g.length∧EdIs g id (vL v2 Hh) k1 R∧gK g2 g id∧s=⟨dB [(0,.ptr id 1 0 0)],g⟩) (fun m s hI=>by
   obtain⟨i,g,R,hi,rfl,Im,eg,hkg,rfl⟩:=hI;simp only[Ds]
   by_cases cY:i<Hh
   ·left
    have Vg:i<v2.rows.length:=by omega
    have hic:i<(vL v2 i).rows.length:=by rw[aB0];exact Vg
    obtain⟨x,hx,hr⟩:=eg.row i _ (aIH Vg);have gk:=eg.hk;have d1:decide ((i:Int)<(Hh:Int))=true:=decide_eq_true (by omega);have hRl:=eg.len;have aQ3:=Mu _ (List.getElem_mem Vg);rw[aB0,aOi] at hRl;have w1:IntKind.i64.wrap ((i:Int)+1)=((i+1:Nat):Int):=by rw[cX (by omega)];omega
    -- from a state with the row as an own block on
    have tail:∀ (g':cM) (q:Nat),g.length≤g'.length→gK g g' id→EdIs g' id (vL v2 i) k1 R→g'[q]? = some (eY v2.rows[i]) →
      (∀ Q:St→Prop,(∀ sl:Nat→A,sl 0 = .ptr id 1 0 0→sl 4 = .int i→sl 5 = .ref q v2.rows[i].length 0 v2.rows[i].length true→sl 62 = .ref k1 R.length 0 Hh true→sl 63 = .int Hh→sl 64 = .int i →
       W Δ P N none h.length (Jr fw ft) (yX 3 (My (W Δ P N none h.length (cZ fw ft).r.r.r.r.l.r.b.lp.r.r.r (fun e s'=>e = .normal∧Q s')) (fun e s'=>e = .normal∧Q s'))) ⟨sl,g'⟩) →
       W Δ P N none h.length (cZ fw ft).r.r.r.r.l.r.b.lp (fun e s'=>e = .normal∧Q s') (Ds i R g)) →
      ∃ m' s2,m'<Hh-i∧(∃ i g R,i≤Hh∧m'=Hh-i∧g2.length≤g.length∧EdIs g id (vL v2 i) k1 R∧gK g2 g id∧s2=Ds i R g)∧WE Δ P N none h.length (cZ fw ft).r.r.r.r.l.r.b.lp (Ds i R g) .normal s2:=by
     intro g' q hgg hkk eg' hq hW;let R':=R.set i [A.ref g'.length (lR v2.width v2.rows[i]).length 0 (lR v2.width v2.rows[i]).length true];let gf:cM:=g'.set k1 (.cells eW R')++[eY (lR v2.width v2.rows[i])];have hef:EdIs gf id (vL v2 (i+1)) k1 R':=by
      rw[aGn Vg];refine eg'.setRow (p:=g'.length) (r:=lR v2.width v2.rows[i]) hic hx ?_ ?_ ?_ (zL _) (fun q' rr hq' _=>?_)
      ·show(g'.set k1 _++_)[id]? = _;exact(vR (Ne.symm eg'.idk) eg'.hid).trans eg'.hid.symm
      ·exact xY eg'.k_lt
      ·exact aAp
      ·exact vR (Ne.symm (eg'.ne hq').2.1) hq'
     refine⟨Hh-(i+1),Ds (i+1) R' gf,by omega,⟨i+1,gf,R',cY,rfl,by simp[gf];omega,hef,hkg.trans (hkk.trans ((gK.setO eg'.hk (by decide)).trans .app)),rfl⟩,?_⟩;refine hW (fun s'=>Co h.length s' (Ds (i+1) R' gf)) fun sl h0 h4 h5 h62 h63 h64=>?_;refine yY ?_ (WE.co (s':=⟨dB [(0,.ptr id 1 0 0),(4,.int i),(5,.ref q v2.rows[i].length 0 v2.rows[i].length true),(62,.ref k1 R.length 0 Hh true),(63,.int Hh),(64,.int i)],g'⟩) (Co.keep _ (by simp[h0,h4,h5,h62,h63,h64]))
      (aII (fw:=fw) (ft:=ft) (n0:=h.length) (v:=vL v2 i) (x:=x) (M:=Hh) (n1:=Hh) Hw Ht (by show 0≤c.col∧c.col≤1000;omega) eg'.hid eg'.hk hq aQ3 hic hx))
     rintro e1 s1 ⟨rfl,hco⟩;have hRlen:R'.length=R.length:=by simp[R']
     show W Δ P N none h.length _ _ s1;refine dX hco ?_;simp only[cZ,XC.r,XC.l,XC.b,XC.lp];refine cU ?_;simp only[xq,reduceIte,qE,qA,qL,qD,w1];simp only[Ds,hRlen];exact Co.keep _ (by simp[cJ,cK])
    rcases hr with⟨rfl,kG⟩ | ⟨q,rfl,hq⟩
    ·refine tail (g++[eY []]) g.length (by simp) .app (eg.app _) (by rw[kG];exact dA) fun Q hQ=>?_;rw[kG] at hQ;simp only[Jr,cZ,XC.r,XC.l,XC.b,XC.lp] at hQ ⊢;simp only[Ds];refine wR ?_;simp only[xq,reduceIte,qE,qA,qL,qD,d1];refine cN (cL rfl (fun _=>cQ ?_) (fun hc=>by cases hc));simp only[xq,reduceIte,qE,qA,qL,qD];refine cN (cS ?_);refine wR ?_;simp only[xq,reduceIte,qE,qA,qL,qD,gk,hx,zQ]
     repeat refine aC (by omega) ?_
     refine dX (Co.nil 5 dW (by decide) (by simp[cJ])) ?_;refine hQ _ ?_ ?_ ?_ ?_ ?_ ?_<;>simp[cJ,cK]
    ·refine tail g q (zL _) .refl eg hq fun Q hQ=>?_;simp only[Jr,cZ,XC.r,XC.l,XC.b,XC.lp] at hQ ⊢;simp only[Ds];refine wR ?_;simp only[xq,reduceIte,qE,qA,qL,qD,d1];refine cN (cL rfl (fun _=>cQ ?_) (fun hc=>by cases hc));simp only[xq,reduceIte,qE,qA,qL,qD];refine cN (cS ?_);refine wR ?_;simp only[xq,reduceIte,qE,qA,qL,qD,gk,hx,zQ]
     repeat refine aC (by omega) ?_
     refine hQ _ ?_ ?_ ?_ ?_ ?_ ?_<;>simp[cJ,cK]
   ·right
    have Zi:i=Hh:=by omega
    subst Zi;have d1:decide ((i:Int)<(i:Int))=false:=decide_eq_false (by omega);refine⟨⟨dB [(0,.ptr id 1 0 0)],g⟩,⟨g,R,Im,eg,hkg,rfl⟩,?_⟩;simp only[cZ,XC.r,XC.l,XC.b,XC.lp];refine wR ?_;simp only[xq,reduceIte,qE,qA,qL,qD,d1];refine cN (cL rfl (fun hc=>by cases hc) (fun _=>dJ ?_));simp only[xq,reduceIte,qE,qA,qL,qD];exact Co.keep _ (by simp[cJ,cK])) ⟨0,g2,R1,zI _,rfl,zL _,by simpa[vL] using e2,.refl,rfl⟩
 -- the cursor
 let v5:Vw:={ vL v2 Hh with row:=min v.row (c.row-1),col:=min v.col (c.col-1) };have aP1:v1.rows.length=v.rows.length:=rfl;have iH:dV v c=v5:=by
  simp only[dV,hk,if_true,qK,v5,vL];have:v2.rows.take Hh=v2.rows:=aE (by omega);rw[this,List.drop_eq_nil_of_le (by omega),zP];simp only[v2,iR,fK,zQ];congr 1
  ·exact fK.symm
  apply aJ;intro i;rw[zK,zK,zm]
  by_cases hi:i<Hh
  ·rw[zj hi,if_pos hi];simp only[aA]
   by_cases hi2:i<v.rows.length
   ·rw[zF hi2,zC,zB hi2];rfl
   ·rw[zG (by rw[aP1];omega),List.getElem?_replicate,if_pos (by rw[aP1];omega),zC,zk (by omega)];rfl
  ·rw[if_neg hi,zk (by simpa using hi)];rfl
 have e5:=e3.setId (w:=v5) rfl;rw[← iH] at e5;have wE:WE Δ P N none h.length ((cZ fw ft).r.r.r.r.r) ⟨dB [(0,.ptr id 1 0 0)],g3⟩ .normal ⟨dB [(0,.ptr id 1 0 0)],g3.set id (.cells pA [eK (dV v c) k1 R3.length])⟩:=by
  rw[iH];have gid:=e3.hid;have idl3:=e3.id_lt;have gs:∀ X,(g3.set id X)[id]? = some X:=fun X=>zN idl3;have ss:∀ X Y,(g3.set id X).set id Y=g3.set id Y:=fun X Y=>by rw[List.set_set]
  have a1:(vL v2 Hh).height=c.row:=rfl;have a2:(vL v2 Hh).width=c.col:=rfl;have a3:(vL v2 Hh).row=v.row:=rfl;have a4:(vL v2 Hh).col=v.col:=rfl;have w1:IntKind.i64.wrap (c.row-1)=c.row-1:=cX (by omega);have w2:IntKind.i64.wrap (c.col-1)=c.col-1:=cX (by omega);have m1:eB false v.row (c.row-1)=min v.row (c.row-1):=by unfold eB;simp;split<;>omega
  have m2:eB false v.col (c.col-1)=min v.col (c.col-1):=by unfold eB;simp;split<;>omega
  simp only[cZ,XC.r,XC.l];refine eD (by simp) ?_;simp only[xq,reduceIte,qE,qA,qL,qD,gid,gs,ss,eK,a1,a2,a3,a4,w1,w2,m1,m2,zP];exact Co.keep _ (by simp[cJ,cK])
 refine⟨g3.set id (.cells pA [eK (dV v c) k1 R3.length]),k1,R3,?_,?_,e5,(gK.set.trans (gK.app (t:=[iA c]))).trans (Cb.trans (gK.set.trans (hk3.trans .set)))⟩
 ·have hA':h.length≤hA.length:=by simp[hA]
  have key:WE Δ P N none h.length (cZ fw ft) ⟨dB (gQ 0 [.ptr id 1 0 0,pG c]),h⟩ .normal ⟨dB [(0,.ptr id 1 0 0)],g3.set id (.cells pA [eK (dV v c) k1 R3.length])⟩:=by
   exact w0.seq (w1.seq (wB.seq (wC.seq ((wD0.seq wD).seq wE))))
  exact FnD.of_WE H (by simpa using hN) hb key (.inl rfl) rfl
 ·have:h.length≤hA.length:=by simp[hA]
  simp only[aB];omega
end
section
variable {P:Program}{N:Nat}{Γ:dP}
def lW(n t b y:Int):Bool:=((((decide (0≤t)&&decide (t<b))&&decide (b≤n)) && !decide (y=0))&&decide (y<b-t))&&decide (t-b<y)
theorem Oc{f:FuncId}(H:FnIs P f N [.t 8] lK)(hN:4≤N)(n t b y:Int)(hn:n≤1000000000000000000):FnP Γ P f [.int n,.int t,.int b,.int y] (.bool (lW n t b y)):=by
 refine .of_W H (by simpa using hN) ?_;have w3:(0≤t∧t<b)∧b≤n→IntKind.i64.wrap (b-t)=b-t∧IntKind.i64.wrap (t-b)=t-b:=fun q=>⟨cX (by omega),cX (by omega)⟩;obtain⟨B1,hB1⟩:∃ B,B=(decide (0≤t)&&decide (t<b)):=⟨_,rfl⟩;obtain⟨B2,hB2⟩:∃ B,B=(B1&&decide (b≤n)):=⟨_,rfl⟩;obtain⟨B3,hB3⟩:∃ B,B=(B2 && !decide (y=0)):=⟨_,rfl⟩;obtain⟨B4,hB4⟩:∃ B,B=(B3&&decide (y<b-t)):=⟨_,rfl⟩;have hB:lW n t b y=(B4&&decide (t-b<y)):=by rw[lW,hB4,hB3,hB2,hB1]
 have h2t:B2=true→(0≤t∧t<b)∧b≤n:=fun h=>by
  rw[hB2,hB1] at h;simpa using h
 have h3t:B3=true→B2=true:=fun h=>by rw[hB3] at h;simp at h;exact h.1
 have h4t:B4=true→B3=true:=fun h=>by rw[hB4] at h;simp at h;exact h.1
 unfold lK;refine wR ?_;simp only[xq,reduceIte,qE,qA,qL,qD];refine Zz fun K hK=>?_;let RR (F:Nat) (B:Bool):(Nat→A)→Prop:=fun sl=>sl 0 = .int n∧sl 1 = .int t∧sl 2 = .int b∧sl 3 = .int y∧sl F = .bool B;refine eO (H:=[]) 7 (RR 15 B1) (fun K' hK'=>?_) ?_
 ·cases e1:decide (0≤t)
  ·simp only[xq,reduceIte,qE,qA,qL,qD,e1,cV,zE];refine hK' _ ?_;simp[RR,cJ,cK,hB1,e1]
  ·simp only[xq,reduceIte,qE,qA,qL,qD,e1,cV,zE];refine hK' _ ?_;simp[RR,cJ,cK,hB1,e1]
 rintro sl ⟨s0,s1,s2,s3,sF⟩;refine eO (H:=[]) 5 (RR 20 B2) (fun K' hK'=>?_) ?_
 ·cases B1
  ·simp only[xq,reduceIte,qE,qA,qL,qD,s0,s1,s2,s3,sF,cV,zE];refine hK' _ ?_;simp[RR,cJ,s0,s1,s2,s3,hB2]
  ·simp only[xq,reduceIte,qE,qA,qL,qD,s0,s1,s2,s3,sF,cV,zE];refine hK' _ ?_;simp[RR,cJ,s0,s1,s2,s3,hB2]
 clear s0 s1 s2 s3 sF sl;rintro sl ⟨s0,s1,s2,s3,sF⟩;refine eO (H:=[]) 4 (RR 24 B3) (fun K' hK'=>?_) ?_
 ·cases B2
  ·simp only[xq,reduceIte,qE,qA,qL,qD,s0,s1,s2,s3,sF,cV,zE];refine hK' _ ?_;simp[RR,cJ,s0,s1,s2,s3,hB3]
  ·simp only[xq,reduceIte,qE,qA,qL,qD,s0,s1,s2,s3,sF,cV,zE];refine hK' _ ?_;simp[RR,cJ,s0,s1,s2,s3,hB3]
 clear s0 s1 s2 s3 sF sl;rintro sl ⟨s0,s1,s2,s3,sF⟩;refine eO (H:=[]) 7 (RR 31 B4) (fun K' hK'=>?_) ?_
 ·cases hb3:B3
  ·rw[hb3] at sF hB4;simp only[xq,reduceIte,qE,qA,qL,qD,s0,s1,s2,s3,sF,cV,zE];refine hK' _ ?_;simp[RR,cJ,s0,s1,s2,s3,hB4]
  ·have w:=(w3 (h2t (h3t hb3))).1;rw[hb3] at sF hB4;simp only[xq,reduceIte,qE,qA,qL,qD,s0,s1,s2,s3,sF,w,cV,zE];refine hK' _ ?_;simp[RR,cJ,s0,s1,s2,s3,hB4]
 clear s0 s1 s2 s3 sF sl;rintro sl ⟨s0,s1,s2,s3,sF⟩;cases hb4:B4
 ·rw[hb4] at sF hB;simp only[xq,reduceIte,qE,qA,qL,qD,s0,s1,s2,s3,sF,cV,zE];refine hK _ (cT (.tmp ?_ rfl));simp[cJ,hB]
 ·have w:=(w3 (h2t (h3t (h4t hb4)))).2;rw[hb4] at sF hB;simp only[xq,reduceIte,qE,qA,qL,qD,s0,s1,s2,s3,sF,w,cV,zE];refine hK _ (cT (.tmp ?_ rfl));simp[cJ,hB]
theorem aGo{f:FuncId}(H:FnIs P f N [.t 2] fN)(hN:1≤N):sW P f .nil []:=by
 intro Δ h hb;refine .of_W H (by simpa using hN) hb ?_;unfold fN;refine wR ?_;simp only[xq,reduceIte,qE,qA,qL,qD];refine cN ?_;refine wR ?_;simp only[xq,reduceIte,qE,qA,qL,qD,nG,xS];refine cL (t:=true) (by simp[ev,cJ]) (fun _=>?_) (fun h=>by cases h);refine wR ?_;simp only[xq,reduceIte,qE,qA,qL,qD];refine dX (Co.nil 2 dW (by decide) (by simp[cJ])) ?_;refine cT ⟨.inr rfl,?_⟩;simp only[dK,eH,dM,cJ,reduceIte,qE,cK,xq,reduceIte,qE,qA,qL,qD];rfl
def Ll(b j:Nat):Nat:=if j=0 then b else b+2 * j+1
def Ow(b:Nat)(S:Nat→List Gl)(j:Nat):List A:=[.ref (Ll b j) (S j).length 0 (S j).length true]
def Sg(b:Nat)(S:Nat→List Gl)(i:Nat):HB:=.cells eW ((aG i).map (Ow b S))
def kI(b:Nat)(S:Nat→List Gl):Nat→cM
 | 0=>[]
 | 1=>[eY (S 0),.cells eW [Ow b S 0],Sg b S 1]
 | i+2=>(kI b S (i+1)).set 2 (Sg b S (i+2))++[eY (S (i+1)),.cells eW [Ow b S (i+1)]]
theorem rZ{b:Nat}{S:Nat→List Gl}:∀ i,(kI b S (i+1)).length=2 * i+3
 | 0=>rfl
 | i+1=>by rw[kI,zb,aB,rZ i];simp;omega
theorem aB2{b:Nat}{S:Nat→List Gl}:∀ i,(kI b S (i+1))[2]? = some (Sg b S (i+1))
 | 0=>rfl
 | i+1=>by
  rw[kI,zF (by rw[aB,rZ];omega),zN (by rw[rZ];omega)]
theorem aB3{b:Nat}{S:Nat→List Gl}:∀ i j,j≤i→(kI b S (i+1))[Ll 0 j]? = some (eY (S j))
 | 0,j,h=>by
  have:j=0:=by omega
  subst this;rfl
 | i+1,j,h=>by
  have hp:Ll 0 j≠2:=by unfold Ll;split<;>omega
  rcases aN j (i+1) with h' | h'
  ·have hl:Ll 0 j<(kI b S (i+1)).length:=by rw[rZ];unfold Ll;split<;>omega
   rw[kI,zF (by rw[aB];exact hl),zM (Ne.symm hp)];exact aB3 i j (by omega)
  ·have:j=i+1:=by omega
   subst this;have hpe:Ll 0 (i+1)=2 * i+3:=by unfold Ll;rw[if_neg (by omega)];omega
   rw[kI,zG (by rw[aB,rZ,hpe];omega),aB,rZ,hpe,aI];rfl
theorem aK3{b i j:Nat}(h:Ll b i=Ll b j):i=j:=by
 unfold Ll at h;split at h<;>split at h<;>omega
theorem aK4{b j:Nat}:Ll b j=b+Ll 0 j:=by
 unfold Ll;split<;>omega
theorem aB4{b:Nat}{S:Nat→List Gl}:∀ i,∀ B∈kI b S i,aNl b B
 | 0,B,h=>by cases h
 | 1,B,h=>by
  have hr:∀ j,∀ x∈Ow b S j,aDA b x:=fun j x hx=>by
   simp only[Ow,aD] at hx;exact .inr ⟨_,_,_,_,_,hx,by unfold Ll;split<;>omega⟩
  simp only[kI,zp,zc,or_false] at h;rcases h with rfl | rfl | rfl
  ·exact aAo
  ·intro r qC x hx;simp only[aD] at qC;subst qC;exact hr _ x hx
  ·intro r qC x hx;obtain⟨j,_,rfl⟩:=List.mem_map.1 qC;exact hr _ x hx
 | i+2,B,h=>by
  have hr:∀ j,∀ x∈Ow b S j,aDA b x:=fun j x hx=>by
   simp only[Ow,aD] at hx;exact .inr ⟨_,_,_,_,_,hx,by unfold Ll;split<;>omega⟩
  rw[kI] at h;rcases aS.1 h with h | h
  ·rcases List.mem_or_eq_of_mem_set h with h | rfl
   ·exact aB4 (i+1) B h
   ·intro r qC x hx;obtain⟨j,_,rfl⟩:=List.mem_map.1 qC;exact hr _ x hx
  ·simp only[zp,zc,or_false] at h;rcases h with rfl | rfl
   ·exact aAo
   ·intro r qC x hx;simp only[aD] at qC;subst qC;exact hr _ x hx
end
section
variable {P:Program}{N:Nat}{Γ:dP}
theorem aGp{n t b y:Int}:lW n t b y=true↔0≤t∧t<b∧b≤n∧y≠0∧y<b-t∧t-b<y:=by
 simp[lW];omega
theorem aGq{b:Nat}{S:Nat→List Gl}:b+(kI b S 0).length=Ll b 0:=by simp[kI,Ll]
theorem aB5{b:Nat}{S:Nat→List Gl}(i:Nat):b+(kI b S i).length=Ll b i:=by
 cases i with
 | zero=>exact aGq
 | succ i=>rw[rZ];unfold Ll;rw[if_neg (by omega)];omega
theorem aDN{f fp fc:FuncId}{Δ:Ctx}(H:FnIs P f N [.t 8,.t 9] (pT fp fc))(hN:4≤N)(Hp:∀ n t b y:Int,n≤1000000000000000000→FnP Δ.t P fp [.int n,.int t,.int b,.int y] (.bool (lW n t b y)))
  (Hc:∀ l:List Gl,sW P fc (.d (.sl dW (cP l))) l) (Hn:sW P fc .nil []) (l:List (List Gl)) (t b y:Int) (hp:lW l.length t b y=true) (hl:l.length≤1000) (h:cM) (hb:Δ.b≤h.length) :
  FnD Δ P f [.d (.sl eW (dH l)),.int t,.int b,.int y] h (.tup [.ref (h.length+2) l.length 0 l.length true,.int 0]) (h++kI h.length (gY l t b y) l.length):=by
 obtain⟨p1,p2,p3,p4,p5,p6⟩:=aGp.1 hp;refine .of_W H (by simpa using hN) hb ?_;have hP:=Hp l.length t b y (by omega);rw[hp] at hP;unfold pT;refine wR ?_;simp only[xq,reduceIte,qE,qA,qL,qD];refine cN ?_;refine wR ?_;simp only[xq,reduceIte,qE,qA,qL,qD,cW];refine dF (hP) rfl ?_;simp only[xq,reduceIte,qE,qA,qL,qD];refine cL rfl (fun hc=>by cases hc) (fun _=>cQ ?_);simp only[xq,reduceIte,qE,qA,qL,qD];refine wR ?_;simp only[xq,reduceIte,qE,qA,qL,qD];refine cN ?_;refine wR ?_;simp only[xq,reduceIte,qE,qA,qL,qD,cW];refine cS ?_;obtain⟨S,hS⟩:∃ S,S=gY l t b y:=⟨_,rfl⟩;rw[← hS];obtain⟨b0,Qc⟩:∃ b0,b0=h.length:=⟨_,rfl⟩;let out:Nat→A:=fun i=>if i=0 then .nil else .ref (b0+2) i 0 i true;let St0:Nat→St:=fun i=>⟨dB [(0,.d (.sl eW (dH l))),(1,.int t),(2,.int b),(3,.int y),(10,out i),(21,.d (.sl eW (dH l))),(22,.int l.length),(23,.int i)],h++kI b0 S i⟩;refine dX (s':=St0 0) (by
  simp only[St0,kI,zP];exact Co.keep _ (by simp[cJ,cK,out])) ?_
 refine dN (fun m s=>∃ i,i≤l.length∧m=l.length-i∧s=St0 i) ⟨0,zI _,rfl,rfl⟩ ?_;rintro m s ⟨i,hi,rfl,rfl⟩;simp only[St0];refine wR ?_;simp only[xq,reduceIte,qE,qA,qL,qD];refine cN (cL rfl (fun hc=>cQ ?_) (fun hc=>dJ ?_))
 ·have cY:i<l.length:=by simpa using hc
  have w1:IntKind.i64.wrap ((i:Int)+1)=((i+1:Nat):Int):=by rw[cX (by omega)];omega
  have w2:IntKind.i64.wrap ((i:Int)+y)=(i:Int)+y:=cX (by omega);have hgi:l.getD i []=l[i]:=by rw[zC,zB cY];rfl
  -- the row is cloned and put behind the others
  have fin:∀ (sl:Nat→A) (x:A),sl 12=x→sW P fc x (S i)→sl 0 = .d (.sl eW (dH l))→sl 1 = .int t→sl 2 = .int b→sl 3 = .int y→sl 10=out i→sl 21 = .d (.sl eW (dH l))→sl 22 = .int l.length→sl 23 = .int i →
    W Δ P N none h.length (.reg [
     { dst:=some 51,op:=.mov (.t 10) },
     { dst:=some 52,op:=.mov (.t 12) },
     { dst:=some 53,op:=.callr (.f fc) [(.t 52)] },
     { dst:=some 54,op:=.bslice ⟨1,24⟩ [.nil] 1 [(0,(.t 53))] },
     { dst:=some 55,op:=.append ⟨1,24⟩ (.t 51) (.t 54) },
     { dst:=some 10,op:=.mov (.t 55) }]) (fun e s'=>e = .normal∧∃ sl',s'=⟨sl',h++kI b0 S (i+1)⟩∧sl' 0 = .d (.sl eW (dH l))∧sl' 1 = .int t∧sl' 2 = .int b∧sl' 3 = .int y∧sl' 10=out (i+1)∧sl' 21 = .d (.sl eW (dH l))∧sl' 22 = .int l.length∧sl' 23 = .int i) ⟨sl,h++kI b0 S i⟩:=by
   intro sl x s12 hx s0 s1 s2 s3 s10 s21 s22 s23;have Dx:=hx Δ (h++kI b0 S i) (by simp;omega);have eG:(h++kI b0 S i).length=Ll b0 i:=by rw[zb,← Qc,aB5]
   rw[eG] at Dx;refine cU ?_;simp only[xq,reduceIte,qE,qA,qL,qD,s12];refine Cp Dx ?_;have gk:∀ (t:cM) (k:Nat),(h++t)[b0+k]? = t[k]? := fun t k=>by rw[Qc];exact fC
   have g0:∀ (B:HB) (t:cM),(h++B::t)[b0]? = some B:=fun B t=>by rw[Qc];exact dA
   cases i with
   | zero =>
    simp only[xq,reduceIte,qE,qA,qL,qD,s10,out,kI,zP,g0,gk,zS,← Qc,Ll,if_neg (show ¬ ([[A.ref b0 (S 0).length 0 (S 0).length true]]=([]:List (List A))) by simp)];refine⟨by simp only[dL];omega,by simp only[maxLen];omega,?_⟩;refine⟨_,rfl,?_⟩;simp[cJ,s0,s1,s2,s3,s21,s22,s23]
   | succ j =>
    have Dy:b0+(kI b0 S (j+1)).length=Ll b0 (j+1):=aB5 _;have h3:3≤(kI b0 S (j+1)).length:=by rw[rZ];omega
    have g2:∀ t,(h++(kI b0 S (j+1)++t))[b0+2]? = some (Sg b0 S (j+1)):=fun t=>by
     rw[gk,zF (by omega)];exact aB2 j
    have g3:∀ a g,(h++(kI b0 S (j+1)++[a,g]))[Ll b0 (j+1)+1]? = some g:=fun a g=>by
     rw[← Dy,Nat.add_assoc,gk,zG (by omega)];simp
    have g3':∀ a g,(h++(kI b0 S (j+1)++[a,g]))[b0+((kI b0 S (j+1)).length+1)]? = some g:=fun a g=>by
     rw[gk,zG (by omega)];simp
    have tH:((aG (j+1)).map (Ow b0 S))++[[.ref (Ll b0 (j+1)) (S (j+1)).length 0 (S (j+1)).length true]]=(aG (j+2)).map (Ow b0 S):=by
     rw[List.range_succ (n:=j+1),aK];rfl
    have Xm:(h++(kI b0 S (j+1)++[eY (S (j+1)),.cells eW [[.ref (Ll b0 (j+1)) (S (j+1)).length 0 (S (j+1)).length true]]])).set (b0+2) (.cells eW ((aG (j+2)).map (Ow b0 S)))=h++kI b0 S (j+1+1):=by
     rw[Qc,iV,kI,List.set_append_left _ _ (by rw[← Qc];omega),← Qc];rfl
    have fM:¬ (j+1=0):=by omega
    simp only[xq,reduceIte,qE,qA,qL,qD,s10,out,if_neg fM,zS,← Qc,Dy,g2,g3,g3',Sg,zg,List.length_range];refine⟨by simp only[dL];omega,by simp only[maxLen];omega,?_⟩;rw[tH,Xm];refine⟨_,rfl,?_⟩;simp[cJ,s0,s1,s2,s3,s21,s22,s23]
  simp only[xq,reduceIte,qE,qA,qL,qD];refine cN (cS ?_);refine wR ?_;simp only[xq,reduceIte,qE,qA,qL,qD,eC cY,cW,zQ]
  repeat refine aC (by omega) ?_
  refine eJ (fun s=>∃ sl x,s=⟨sl,h++kI b0 S i⟩∧sl 12=x∧sW P fc x (S i)∧sl 0 = .d (.sl eW (dH l))∧sl 1 = .int t∧sl 2 = .int b∧sl 3 = .int y∧sl 10=out i∧sl 21 = .d (.sl eW (dH l))∧sl 22 = .int l.length∧sl 23 = .int i) ?_ ?_
  ·have hSi:S i=gY l t b y i:=by rw[hS]
   have stop:∀ (sl:Nat→A) (x:A),sl 12=x→sW P fc x (S i)→sl 0 = .d (.sl eW (dH l))→sl 1 = .int t→sl 2 = .int b→sl 3 = .int y→sl 10=out i→sl 21 = .d (.sl eW (dH l))→sl 22 = .int l.length→sl 23 = .int i →
     ∃ s1,Co h.length ⟨sl,h++kI b0 S i⟩ s1∧∃ sl x,s1=⟨sl,h++kI b0 S i⟩∧sl 12=x∧sW P fc x (S i)∧sl 0 = .d (.sl eW (dH l))∧sl 1 = .int t∧sl 2 = .int b∧sl 3 = .int y∧sl 10=out i∧sl 21 = .d (.sl eW (dH l))∧sl 22 = .int l.length∧sl 23 = .int i :=
    fun sl x h1 h2 h3 h4 h5 h6 h7 h8 h9 Ve=>⟨_,Co.refl _,sl,x,rfl,h1,h2,h3,h4,h5,h6,h7,h8,h9,Ve⟩
   by_cases Qe:t≤(i:Int)∧(i:Int)<b
   ·have d1:decide (t≤(i:Int))=true:=decide_eq_true Qe.1;have d2:decide ((i:Int)<b)=true:=decide_eq_true Qe.2;refine wR ?_;simp only[xq,reduceIte,qE,qA,qL,qD,d1,d2];refine cL rfl (fun _=>?_) (fun hc=>by cases hc);refine wR ?_;simp only[xq,reduceIte,qE,qA,qL,qD];refine wR ?_;simp only[xq,reduceIte,qE,qA,qL,qD,w2]
    by_cases hin2:t≤(i:Int)+y∧(i:Int)+y<b
    ·have d3:decide (t≤(i:Int)+y)=true:=decide_eq_true hin2.1;have d4:decide ((i:Int)+y<b)=true:=decide_eq_true hin2.2;obtain⟨q,hq⟩:∃ q:Nat,(i:Int)+y=q:=⟨((i:Int)+y).toNat,by omega⟩;have Et:q<l.length:=by omega
     have hSq:S i=l[q]:=by
      rw[hSi,gY,if_pos Qe,if_pos hin2,hq,iD,zQ,zC,zB Et];rfl
     refine wR ?_;simp only[xq,reduceIte,qE,qA,qL,qD,d3,d4];refine cL rfl (fun _=>?_) (fun hc=>by cases hc);refine cU ?_;simp only[xq,reduceIte,qE,qA,qL,qD,hq,eC Et,cW,zQ]
     repeat refine aC (by omega) ?_
     refine stop _ (.d (.sl dW (cP l[q]))) ?_ (by rw[hSq];exact Hc _) ?_ ?_ ?_ ?_ ?_ ?_ ?_ ?_<;>simp[cJ,cK]
    ·have hSq:S i=[]:=by rw[hSi,gY,if_pos Qe,if_neg hin2]
     cases d3:decide (t≤(i:Int)+y)
     ·refine wR ?_;simp only[xq,reduceIte,qE,qA,qL,qD,d3,cV,zE];refine cL rfl (fun hc=>by cases hc) (fun _=>cQ ?_);simp only[xq,reduceIte,qE,qA,qL,qD];refine stop _ .nil ?_ (by rw[hSq];exact Hn) ?_ ?_ ?_ ?_ ?_ ?_ ?_ ?_<;>simp[cJ,cK]
     ·have d4:decide ((i:Int)+y<b)=false:=decide_eq_false (by have:=of_decide_eq_true d3;omega);refine wR ?_;simp only[xq,reduceIte,qE,qA,qL,qD,d3,d4,cV,zE];refine cL rfl (fun hc=>by cases hc) (fun _=>cQ ?_);simp only[xq,reduceIte,qE,qA,qL,qD];refine stop _ .nil ?_ (by rw[hSq];exact Hn) ?_ ?_ ?_ ?_ ?_ ?_ ?_ ?_<;>simp[cJ,cK]
   ·have hSq:S i=l[i]:=by rw[hSi,gY,if_neg Qe,hgi]
    cases d1:decide (t≤(i:Int))
    ·refine wR ?_;simp only[xq,reduceIte,qE,qA,qL,qD,d1,cV,zE];refine cL rfl (fun hc=>by cases hc) (fun _=>cQ ?_);simp only[xq,reduceIte,qE,qA,qL,qD];refine stop _ (.d (.sl dW (cP l[i]))) ?_ (by rw[hSq];exact Hc _) ?_ ?_ ?_ ?_ ?_ ?_ ?_ ?_<;>simp[cJ,cK]
    ·have d2:decide ((i:Int)<b)=false:=decide_eq_false (by have:=of_decide_eq_true d1;omega);refine wR ?_;simp only[xq,reduceIte,qE,qA,qL,qD,d1,d2,cV,zE];refine cL rfl (fun hc=>by cases hc) (fun _=>cQ ?_);simp only[xq,reduceIte,qE,qA,qL,qD];refine stop _ (.d (.sl dW (cP l[i]))) ?_ (by rw[hSq];exact Hc _) ?_ ?_ ?_ ?_ ?_ ?_ ?_ ?_<;>simp[cJ,cK]
  rintro _ ⟨sl,x,rfl,h12,hx,h0,h1,h2,h3,Ve,h21,h22,h23⟩;refine yY ?_ (fin sl x h12 hx h0 h1 h2 h3 Ve h21 h22 h23);rintro e1 s1 ⟨rfl,sl',rfl,k0,k1,k2,k3,k10,k21,k22,k23⟩;simp only[xq,reduceIte,qE,qA,qL,qD];refine cU ?_;simp only[xq,reduceIte,qE,qA,qL,qD,k23,w1];refine⟨l.length-(i+1),St0 (i+1),by omega,Co.keep _ ?_,i+1,cY,rfl,rfl⟩;simp[cJ,cK,k0,k1,k2,k3,k10,k21,k22,k23]
 ·have gZ:i=l.length:=by simp at hc;omega
  subst gZ;simp only[xq,reduceIte,qE,qA,qL,qD];refine wR ?_;simp only[xq,reduceIte,qE,qA,qL,qD];refine cT ⟨.inr rfl,?_⟩;have fM:¬ l.length=0:=by omega
  simp only[dK,eH,dM,cJ,reduceIte,qE,cK,gQ,xq,reduceIte,qE,qA,qL,qD,dI,out,if_neg fM,Qc]
end
section
variable {P:Program}{N:Nat}{Γ:dP}
theorem yA{h:cM}{x:A}{r:List Gl}(hr:Bq h x r):FrzD 0 h x (.sl dW (cP r)):=by
 rcases hr with⟨rfl,rfl⟩ | ⟨q,rfl,hq⟩
 ·exact .nil _
 ·have:=kE (k:=0) (off:=0) (len:=r.length) (full:=true) (e:=dW) (rows:=cP r) (zI q) hq (by rw[cR];omega);rw[cR,List.drop_zero,aE (by rw[cR];exact zL _)] at this;exact this
theorem EdIs.frz{h:cM}{id:Nat}{v:Vw}{k:Nat}{R:List (List A)}(e:EdIs h id v k R):FrzD 0 h (.ref k R.length 0 v.rows.length true) (.sl eW (dH v.rows)):=by
 have get:∀ {i:Nat} {r:List D},(dH v.rows)[i]? = some r→∃ (hi:i<v.rows.length) (x:A),r=[.sl dW (cP v.rows[i])]∧R.getD (0+i) []=[x]∧Bq h x v.rows[i]:=by
  intro i r hi;have cY:i<v.rows.length:=by have:=(zA.1 hi).1;rwa [cW] at this
  obtain⟨x,h1,h2⟩:=e.row i _ (zB cY);refine⟨cY,x,?_,?_,h2⟩
  ·rw[dH,zK,zB cY] at hi;simpa using hi.symm
  ·rw[Nat.zero_add,zC,h1];rfl
 refine .ref (zI _) e.hk (cW) (fun i r hi=>?_) (fun i r j d hi hj=>?_)
 ·obtain⟨_,x,rfl,h2,_⟩:=get hi;rw[h2];rfl
 ·obtain⟨_,x,rfl,h2,h3⟩:=get hi;rw[h2]
  match j,hj with
  | 0,hj=>simp at hj;subst hj;exact yA h3
  | j+1,hj=>simp at hj
theorem aGr{f fr:FuncId}{Δ:Ctx}(H:FnIs P f N [] (kT fr))(hN:2≤N)
  (Hr:∀ (Δ':Ctx),Δ'.t=Δ.t→∀ (l:List (List Gl)) (t b y:Int),lW l.length t b y=true→l.length≤1000→∀ h:cM,Δ'.b≤h.length→FnD Δ' P fr [.d (.sl eW (dH l)),.int t,.int b,.int y] h (.tup [.ref (h.length+2) l.length 0 l.length true,.int 0]) (h++kI h.length (gY l t b y) l.length)) :
  nQ Δ P f (fun v c=>c.kind=2∧StepPre v c) dV:=by
 rintro v c ⟨hk,dZ⟩ h id k R hb e;obtain⟨q1,q2,q3,q4⟩:=qZ dZ.ok;have eG:=dZ.ed.len;have hs:=gF.1 dZ.ed.sz;have aPS:lW v.rows.length c.row c.upto c.count=true:=by
  simp only[eM,hk,if_neg (show ¬ (2:Int)=1 by decide),if_true] at q3;rw[lW,eG];exact q3
 have hn1:1≤v.rows.length:=by omega
 obtain⟨S,hS⟩:∃ S,S=gY v.rows c.row c.upto c.count:=⟨_,rfl⟩;have iH:dV v c={ v with rows:=(aG v.rows.length).map S }:=by
  simp only[dV,hk,if_neg (show ¬ (2:Int)=1 by decide),if_true,gI,hS]
 have idlt:=e.id_lt;have gid:∀ t:cM,(h++t)[id]? = some (.cells pA [eK v k R.length]):=fun t=>fB e.hid;have sl:∀ X (t:cM),(h++t).set id X=h.set id X++t:=fun X t=>Br idlt;let m:=h.length+1;have Dx:FnD Δ P fr [.ref k R.length 0 v.rows.length true,.int c.row,.int c.upto,.int c.count] (h++[iA c]) (.tup [.ref (m+2) v.rows.length 0 v.rows.length true,.int 0]) ((h++[iA c])++kI m S v.rows.length):=by
  have h0:=Hr Δ.t.ctx rfl v.rows c.row c.upto c.count aPS (by omega) (aL (h++[iA c]).length .res) (zI _);rw[List.length_replicate] at h0;have hl1:(h++[iA c]).length=m:=by simp[m]
  rw[← hS] at h0;have:=FnD.lend (h:=h++[iA c]) (args:=[.ref k R.length 0 v.rows.length true,.int c.row,.int c.upto,.int c.count]) h0 (.inr ⟨_,rfl,fun y hy=>?_⟩) (aB4 _) (.cons (.d (e.app [iA c]).frz) (.cons (.same rfl) (.cons (.same rfl) (.cons (.same rfl) .nil)))) rfl
  ·rw[hl1] at this;exact this
  ·simp only[zp,zc,or_false] at hy;rcases hy with rfl | rfl
   ·exact .inr ⟨_,_,_,_,_,rfl,by omega⟩
   ·exact .inl Ps
 have Mu:(dV v c).rows.length=v.rows.length:=by rw[iH];simp
 refine⟨h.set id (.cells pA [eK (dV v c) (m+2) v.rows.length])++iA c::kI m S v.rows.length,m+2,(aG v.rows.length).map (Ow m S),?_,by simp,?_,gK.set.trans .app⟩
 ·refine .of_W H (by simpa using hN) hb ?_;unfold kT;simp only[pG,Cg.ds,zU,zV];refine wR ?_;simp only[xq,reduceIte,qE,qA,qL,qD,dA,eE];refine cN (eD (by simp) ?_);simp only[xq,reduceIte,qE,qA,qL,qD,dA,gid,eK,zP];refine Cp Dx ?_;simp only[xq,reduceIte,qE,qA,qL,qD,zS];refine wR ?_;simp only[xq,reduceIte,qE,qA,qL,qD];refine cL rfl (fun _=>?_) (fun hc=>by cases hc);refine cU ?_;simp only[xq,reduceIte,qE,qA,qL,qD,gid,sl,eK];refine⟨.inl rfl,?_⟩;have a1:(dV v c).width=v.width:=by rw[iH]
  have a2:(dV v c).height=v.height:=by rw[iH]
  have a3:(dV v c).row=v.row:=by rw[iH]
  have a4:(dV v c).col=v.col:=by rw[iH]
  have a5:(dV v c).vis=v.vis:=by rw[iH]
  simp only[dK,dM,true_and,Mu,a1,a2,a3,a4,a5];rfl
 ·obtain⟨n',hn'⟩:∃ n',v.rows.length=n'+1:=⟨v.rows.length-1,by omega⟩;have tail:∀ (i:Nat),(h.set id (.cells pA [eK (dV v c) (m+2) v.rows.length])++iA c::kI m S v.rows.length)[m+i]? = (kI m S v.rows.length)[i]? := fun i=>by
   have:m+i=h.length+(i+1):=by simp only[m];omega
   rw[this,aID];rfl
  refine⟨?_,?_,by simp[Mu],fun i r hi=>?_,fun i j q n n2 hi hj h1 h2=>?_⟩
  ·rw[xY idlt];simp
  ·rw[tail,hn',aB2];rfl
  ·have cY:=(zA.1 hi).1;rw[Mu] at cY;rw[iH] at hi;simp only[zK,zj cY,aA,zH] at hi;subst hi;refine⟨_,by rw[zK,zj cY];rfl,.inr ⟨Ll m i,rfl,?_⟩⟩;rw[aK4,tail,hn',aB3 n' i (by omega)]
  ·rw[Mu] at hi hj;rw[zK,zj hi] at h1;rw[zK,zj hj] at h2;simp only[Ow,aA,zH,List.cons.injEq,A.ref.injEq,and_true] at h1 h2;exact aK3 (h1.1.trans h2.1.symm)
end
section
variable {P:Program}{N:Nat}{Γ:dP}
theorem aDO{f f1 f2 f3 f4:FuncId}{Δ:Ctx}(H:FnIs P f N [] (lI f1 f2 f3 f4))(hN:2≤N)
  (H1:nQ Δ P f1 (fun v c=>c.kind=1∧StepPre v c) dV) (H2:nQ Δ P f2 (fun v c=>c.kind=2∧StepPre v c) dV) (H3:nQ Δ P f3 (fun v c=>c.kind=3∧StepPre v c) dV) (H4:nQ Δ P f4 (fun _ c=>c.kind=4) dV) :
  nQ Δ P f StepPre dV:=by
 intro v c dZ h id k R hb e;obtain⟨q1,_⟩:=qZ dZ.ok;let tb:HB:=.cells ⟨4,32⟩ [[.fn f1 [],.fn f2 [],.fn f3 [],.fn f4 []]];have walk:∀ (g:FuncId) (h':cM),((c.kind=1∧g=f1)∨(c.kind=2∧g=f2)∨(c.kind=3∧g=f3)∨(c.kind=4∧g=f4))→FnD Δ P g [.ptr id 1 0 0,pG c] (h++[iA c,tb]) (.tup []) h'→FnD Δ P f [.ptr id 1 0 0,pG c] h (.tup []) h':=by
  intro g h' hg hF;simp only[pG,iA,tb,Cg.ds,zU,zV] at hF ⊢;refine .of_W H (by simpa using hN) hb ?_;unfold lI;refine wR ?_;simp only[xq,reduceIte,qE,qA,qL,qD,dA,eE];refine wR ?_;simp only[xq,reduceIte,qE,qA,qL,qD,dA,eT,fC,iV,zS];refine eD (by simp) ?_;rcases hg with⟨hk,rfl⟩ | ⟨hk,rfl⟩ | ⟨hk,rfl⟩ | ⟨hk,rfl⟩
  all_goals
   rw[hk] at hF;simp only[xq,reduceIte,qE,qA,qL,qD,dA,fC,hk,zP,(by decide:IntKind.i64.wrap ((1:Int)-1)=0),(by decide:IntKind.i64.wrap ((2:Int)-1)=1),(by decide:IntKind.i64.wrap ((3:Int)-1)=2),(by decide:IntKind.i64.wrap ((4:Int)-1)=3),(by decide:aR 0=0),(by decide:aR 1=1),(by decide:aR 2=2),(by decide:aR 3=3),Nat.zero_mul,Nat.one_mul,Nat.mul_one];refine⟨by decide,by decide,qJ hF ?_⟩;simp only[xq,reduceIte,qE,qA,qL,qD];exact⟨.inl rfl,by simp[dK,dM]⟩
 have hb2:Δ.b≤(h++[iA c,tb]).length:=by simp;omega
 have hk:c.kind=1∨c.kind=2∨c.kind=3∨c.kind=4:=by omega
 rcases hk with hk | hk | hk | hk
 ·obtain⟨h',k',R',hF,hl,e',hk6⟩:=H1 ⟨hk,dZ⟩ hb2 (e.app _);exact⟨h',k',R',walk f1 h' (.inl ⟨hk,rfl⟩) hF,by simp at hl;omega,e',(gK.app (t:=[iA c,tb])).trans hk6⟩
 ·obtain⟨h',k',R',hF,hl,e',hk6⟩:=H2 ⟨hk,dZ⟩ hb2 (e.app _);exact⟨h',k',R',walk f2 h' (.inr (.inl ⟨hk,rfl⟩)) hF,by simp at hl;omega,e',(gK.app (t:=[iA c,tb])).trans hk6⟩
 ·obtain⟨h',k',R',hF,hl,e',hk6⟩:=H3 ⟨hk,dZ⟩ hb2 (e.app _);exact⟨h',k',R',walk f3 h' (.inr (.inr (.inl ⟨hk,rfl⟩))) hF,by simp at hl;omega,e',(gK.app (t:=[iA c,tb])).trans hk6⟩
 ·obtain⟨h',k',R',hF,hl,e',hk6⟩:=H4 (v:=v) hk hb2 (e.app _);exact⟨h',k',R',walk f4 h' (.inr (.inr (.inr ⟨hk,rfl⟩))) hF,by simp at hl;omega,e',(gK.app (t:=[iA c,tb])).trans hk6⟩
theorem Js{f:FuncId}{Δ:Ctx}(H:FnIs P f N [.t 2] hZ)(hN:1≤N)(l:List (List Gl))(hl:l≠[])(h:cM)(hb:Δ.b≤h.length) :
  FnD Δ P f [.d (.sl eW (dH l))] h (.ref h.length l.length 0 l.length true) (h++[.cells eW ((dH l).map fun r=>r.map .d)]):=by
 refine .of_W H (by simpa using hN) hb (xR 0 rfl fun⟨hm,dT,_⟩=>?_);rw[cW] at hm dT;unfold hZ;refine Xy 0 rfl (fun h0=>?_) ?_
 ·exact absurd (List.map_eq_nil_iff.1 h0) hl
 ·refine wR ?_;simp only[xq,reduceIte,qE,qA,qL,qD];refine cN ?_;refine wR ?_;simp only[xq,reduceIte,qE,qA,qL,qD,nG,xS];refine cL (t:=false) (by simp[ev,cJ]) (fun h=>by cases h) (fun _=>cQ ?_);simp only[xq,reduceIte,qE,qA,qL,qD];refine wR ?_;simp only[xq,reduceIte,qE,qA,qL,qD,dA,eE,cW];refine⟨dT,hm,cT ⟨.inr rfl,?_⟩⟩;simp only[dK,eH,dM,cJ,reduceIte,qE,cK,xq,reduceIte,qE,qA,qL,qD]
def opR(b:Nat)(l:List (List Gl))(i j:Nat):List A:=if j<i then [.ref (b+j) (l.getD j []).length 0 (l.getD j []).length true] else [.d (.sl dW (cP (l.getD j [])))]
def Wb(b:Nat)(l:List (List Gl))(i:Nat):List (List A):=(aG l.length).map (opR b l i)
theorem Jt{b i:Nat}{l:List (List Gl)}:(Wb b l i).length=l.length:=by simp[Wb]
theorem aIJ{b:Nat}{l:List (List Gl)}:Wb b l 0=(dH l).map fun r=>r.map .d:=by
 apply aJ;intro j;simp only[Wb,dH,zK]
 by_cases hj:j<l.length
 ·rw[zj hj,zB hj];simp[opR,zC,zB hj]
 ·rw[zk (by simpa using hj),zk (by omega)];rfl
theorem aE8{b i:Nat}{l:List (List Gl)}(hi:i<l.length):(Wb b l i)[i]? = some [.d (.sl dW (cP l[i]))]:=by
 rw[Wb,zK,zj hi,aA,opR,if_neg (Nat.lt_irrefl i),zC,zB hi];rfl
theorem aK5{b i:Nat}{l:List (List Gl)}(hi:i<l.length):(Wb b l i).set i [.ref (b+i) l[i].length 0 l[i].length true]=Wb b l (i+1):=by
 apply aJ;intro j;rw[List.getElem?_set]
 by_cases hij:i=j
 ·subst hij;rw[if_pos rfl,if_pos (by rw[Jt];exact hi),Wb,zK,zj hi,aA,opR,if_pos (Nat.lt_succ_self i),zC,zB hi];rfl
 ·rw[if_neg hij];simp only[Wb,zK]
  by_cases hj:j<l.length
  ·rw[zj hj];simp only[aA,opR]
   by_cases h1:j<i
   ·rw[if_pos h1,if_pos (by omega)]
   ·rw[if_neg h1,if_neg (by omega)]
  ·rw[zk (by simpa using hj)];rfl
theorem Sh{f fr fc:FuncId}{Δ:Ctx}(H:FnIs P f N [.t 2] (rN fr fc))(hN:1≤N)(Hr:∀ l:List (List Gl),l≠[]→∀ h:cM,Δ.b≤h.length→FnD Δ P fr [.d (.sl eW (dH l))] h (.ref h.length l.length 0 l.length true) (h++[.cells eW ((dH l).map fun r=>r.map .d)]))
  (Hc:∀ l:List Gl,sW P fc (.d (.sl dW (cP l))) l) (v:Vw) (hv:v.rows≠[]) (hvl:v.rows.length≤1000) (h:cM) (hb:Δ.b≤h.length) :
  ∃ t id k R,FnD Δ P f [fF v] h (.ptr id 1 0 0) (h++t)∧EdIs (h++t) id v k R∧h.length≤id∧h.length≤(h++t).length∧gK h (h++t) id:=by
 let n:=v.rows.length;let b:=h.length+2;let vb:HB:=.cells pA [eK v (h.length+1) n];let Hp:Nat→cM:=fun i=>h++vb :: .cells eW (Wb b v.rows i)::(v.rows.take i).map eY;let Hf:cM:=h++vb :: .cells eW (Wb b v.rows n)::(v.rows.map eY++[vb]);have hHfl:Hf.length=b+n+1:=by simp[Hf,b,n];omega
 refine⟨vb :: .cells eW (Wb b v.rows n)::(v.rows.map eY++[vb]),b+n,h.length+1,Wb b v.rows n,?_,?_,by omega,by simp,.app⟩
 ·refine .of_W H (by simpa using hN) hb ?_;unfold rN;simp only[fF,Vw.ds,zU,zV];refine wR ?_;simp only[xq,reduceIte,qE,qA,qL,qD,dA,eE];refine wR ?_;simp only[xq,reduceIte,qE,qA,qL,qD,dA,eE];refine Cp (Hr v.rows hv _ (by simp;omega)) ?_;simp only[xq,reduceIte,qE,qA,qL,qD,dA,eE,zS];refine cN ?_;refine wR ?_;simp only[xq,reduceIte,qE,qA,qL,qD,dA,eT,cW];refine cS ?_;let S:Nat→St:=fun i=>⟨dB [(1,.ptr h.length 1 0 0),(10,.ref (h.length+1) n 0 n true),(11,.int n),(12,.int i)],Hp i⟩;refine dX (s':=S 0) ?_ ?_
  ·simp only[S,Hp,aIJ,List.take_zero,zV];exact Co.keep _ (by simp[cJ,cK,n])
  refine dN (fun m s=>∃ i,i≤n∧m=n-i∧s=S i) ⟨0,zI _,rfl,rfl⟩ ?_;rintro m s ⟨i,hi,rfl,rfl⟩;simp only[S,Hp];refine wR ?_;simp only[xq,reduceIte,qE,qA,qL,qD];refine cN (cL rfl (fun hc=>cQ ?_) (fun hc=>dJ ?_))
  ·have cY:i<v.rows.length:=by simp at hc;omega
   have w1:IntKind.i64.wrap ((i:Int)+1)=((i+1:Nat):Int):=by rw[cX (by omega)];omega
   have eG:(h++vb :: .cells eW (Wb b v.rows i)::(v.rows.take i).map eY).length=b+i:=by simp[b];omega
   have Dx:=Hc v.rows[i] Δ (h++vb :: .cells eW (Wb b v.rows i)::(v.rows.take i).map eY) (by omega);rw[eG] at Dx;have Xm:h++vb :: .cells eW (Wb b v.rows (i+1))::((v.rows.take i).map eY++[eY v.rows[i]])=Hp (i+1):=by
    simp only[Hp];rw[aO,zB cY,aM,aK];rfl
   simp only[xq,reduceIte,qE,qA,qL,qD];refine cN (cS ?_);refine wR ?_;simp only[xq,reduceIte,qE,qA,qL,qD,dA,eT,Jt,aE8 cY,zQ]
   repeat refine aC (by omega) ?_
   refine eD (by simp) ?_;simp only[xq,reduceIte,qE,qA,qL,qD,vb,eK,dA,eT,zP];refine Cp Dx ?_;simp only[xq,reduceIte,qE,qA,qL,qD,vb,eK,dA,eT,rW,Jt,aE8 cY,aK5 cY,zQ,zS]
   repeat refine aC (by omega) ?_
   refine cU ?_;simp only[xq,reduceIte,qE,qA,qL,qD,w1];refine⟨n-(i+1),S (i+1),by omega,?_,i+1,cY,rfl,rfl⟩;simp only[S];rw[← Xm];exact Co.keep _ (by simp[cJ,cK])
  ·have Zi:i=v.rows.length:=by
    have h1:¬ ((i:Int)<(n:Int)):=of_decide_eq_false hc;have h2:n=v.rows.length:=rfl;omega
   have eG:(h++vb :: .cells eW (Wb b v.rows i)::(v.rows.take i).map eY).length=b+i:=by simp[b];omega
   simp only[xq,reduceIte,qE,qA,qL,qD];subst Zi;simp only[vb,eK] at eG;refine wR ?_;simp only[xq,reduceIte,qE,qA,qL,qD,vb,eK,dA,eG];refine cT ⟨.inr rfl,?_⟩;simp only[dK,eH,dM,cJ,reduceIte,qE,cK,gQ,xq,reduceIte,qE,qA,qL,qD,dI];simp only[Hf,vb,eK,zh,zS,aP,n];exact⟨trivial,trivial⟩
 ·have tl:∀ j,Hf[b+j]? = (v.rows.map eY++[vb])[j]? := fun j=>by
   have:b+j=h.length+(j+2):=by simp only[b];omega
   rw[this];simp only[Hf];rw[fC];rfl
  refine⟨?_,?_,by rw[Jt];exact zL _,fun i r hi=>?_,fun i j q m m2 hi hj h1 h2=>?_⟩
  ·refine(tl n).trans ?_;rw[zG (by simp[n]),Jt];simp[n,vb]
  ·rw[eT]
  ·have cY:=(zA.1 hi).1;have hg:v.rows.getD i []=r:=by rw[zC,hi];rfl
   refine⟨.ref (b+i) r.length 0 r.length true,?_,.inr ⟨b+i,rfl,?_⟩⟩
   ·rw[Wb,zK,zj cY,aA,opR,if_pos cY,hg]
   ·refine(tl i).trans ?_;rw[zF (by simpa using cY),zK,hi];rfl
  ·rw[Wb,zK,zj hi,aA,opR,if_pos hi] at h1;rw[Wb,zK,zj hj,aA,opR,if_pos hj] at h2;simp only[zH,List.cons.injEq,A.ref.injEq,and_true] at h1 h2;omega
theorem aGs{f fr fc:FuncId}{Δ:Ctx}(H:FnIs P f N [.t 2] (rN fr fc))(hN:1≤N)(Hr:∀ l:List (List Gl),l≠[]→∀ h:cM,Δ.b≤h.length→FnD Δ P fr [.d (.sl eW (dH l))] h (.ref h.length l.length 0 l.length true) (h++[.cells eW ((dH l).map fun r=>r.map .d)]))
  (Hc:∀ l:List Gl,sW P fc (.d (.sl dW (cP l))) l) (v:Vw) (hv:v.rows≠[]) (hvl:v.rows.length≤1000) (h:cM) (hb:Δ.b≤h.length) :
  ∃ h' id k R,FnD Δ P f [fF v] h (.ptr id 1 0 0) h'∧EdIs h' id v k R∧h.length≤id∧h.length≤h'.length∧gK h h' id:=by
 obtain⟨t,id,k,R,h1,h2,h3,h4,h5⟩:=Sh H hN Hr Hc v hv hvl h hb;exact⟨h++t,id,k,R,h1,h2,h3,h4,h5⟩
end
end Go.Proofs.YtlllnjhgjijnkaaGreatDoor.Nx

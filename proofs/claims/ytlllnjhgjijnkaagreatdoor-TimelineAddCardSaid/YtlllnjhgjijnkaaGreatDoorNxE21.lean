import Derived.Test.YtlllnjhgjijnkaaGreatDoorNxE19
set_option linter.all false
open List renaming getElem?_eq_getElem → zB, getD_eq_getElem?_getD → zC, append_assoc → zS, length_append → zb, getElem_mem → zi, length_take → zs, length_drop → zt
open Nat renaming zero_le → zI, le_refl → zL
open Nat renaming reduceEqDiff → qE, reduceAdd → qA, reduceLT → qL, reduceLeDiff → qD
open List renaming mem_of_mem_drop → aA, mem_of_mem_take → aB, mem_append → aC, mem_or_eq_of_mem_set → aD, drop_eq_nil_of_le → aE, mem_singleton → aG, any_eq_false → aH, getElem?_set → aI, take_length → aJ, nil_append → aK, append_nil → aL
open Bool renaming or_eq_false_iff → aF
namespace Go.Proofs.YtlllnjhgjijnkaaGreatDoor.Nx
open Go
section
variable {P:Program}{N:Nat}{Γ:dP}
def sX(l:List Nat):List (List D):=l.map fun(n:Nat)=>[.sc (.int .i64 (n:Int))]
theorem uZ{l:List Nat}:(sX l).length=l.length:=by simp[sX]
theorem aDU{l:List Nat}{i:Nat}(hi:i<l.length):(sX l).getD i []=[.sc (.int .i64 l[i])]:=by
 rw[sX,zC,List.getElem?_map,zB hi];rfl
theorem aDV{a b:List Nat}:sX (a++b)=sX a++sX b:=by simp[sX]
abbrev aLc(l:List Nat):A:=.d (.sl fL (sX l))
abbrev aDW(l:List Nat):HB:=.cells fL ((sX l).map fun r=>r.map A.d)
theorem aPl{a b:Cg}:(((((decide (a.kind=b.kind)&&decide (a.row=b.row))&&decide (a.col=b.col))&&decide (a.count=b.count))&&decide (a.upto=b.upto))&&decide (a.gl=b.gl))=decide (a=b):=by
 rw[Bool.eq_iff_iff];cases a;cases b;simp[and_assoc]
end
section
theorem Sr{l:List Gl}(h:iU l=false):l.length≤140∧∀ g∈l,g.text.size≤40:=by
 simp only[iU,aF,decide_eq_false_iff_not,aH,decide_eq_true_eq] at h;exact⟨by omega,fun g hg=>by have:=h.2 g hg;omega⟩
theorem Sm.mono{v:Vw}{m n:Nat}(h:Sm v m)(hm:m≤n):Sm v n:=⟨fun r hr=>Nat.le_trans (h.row r hr) hm,h.txt⟩
theorem aIN{w:Int}{l:List Gl}:(mR w l).length≤l.length:=by
 obtain⟨n,hn⟩:=Sb w l;rw[hn,zs];omega
theorem aGv{w:Int}{l:List Gl}:(lR w l).length≤l.length:=Nat.le_trans (iG _) aIN
theorem aGw{rows:List (List Gl)}{m:Int}{n:Nat}(h:∀ r∈rows,r.length≤n):(iD rows m).length≤n:=by
 unfold iD;rcases pV (rows:=rows) (n:=m.toNat) with h1 | h1
 ·rw[h1];exact zI _
 ·exact h _ h1
def Ss(l:List Cg):Bool:=decide (30<l.length)||l.any fun c=>iU c.gl
theorem aGx{v:Vw}(h:greatV v=false):Sm v 140∧v.rows.length≤12:=by
 have h0:=h;simp only[greatV,aF,decide_eq_false_iff_not,aH] at h;refine⟨⟨fun r hr=>(Sr (by simpa using h.2 r hr)).1,fun r hr g hg=>aAm h0 r hr g hg⟩,by have:=h.1.1;omega⟩
theorem aGy{A B:List Gl}(hA:eN A=false)(hB:eN B=false)(hBl:B.length≤264)(hAl:A.length≤20000)(hg:∀ g∈B,eR g=0)(hgB:∀ g∈B,g.text.size≤1000)(hgA:∀ g∈A,g.text.size≤1000)(row:Nat):∀ (es:List Edt) (i j:Nat) (m:Int) (v:Vw) (tail:List Cg),row<v.rows.length→(v.rows.length:Int)=v.height →
  v.rows[row]? = some (B.take j++A.drop i)→m=(j:Int)-i→Jp A B i j es→Sm v 50000→mL { v with rows:=v.rows.set row B } tail→mL v (kD row m es++tail):=by
 intro es
 induction es with
 | nil =>
  intro i j m v tail fK hh hr hm lG hs ht;rw[Jp] at lG;rw[lG] at hr;have:v.rows.set row B=v.rows:=by
   apply List.ext_getElem?
   intro q;rw[aI];split
   ·rename_i h;subst h;rw[hr]
   ·rfl
  rw[this] at ht;simpa[kD] using ht
 | cons e es ih =>
  intro i j m v tail fK hh hr hm lG hs ht;rw[Jp] at lG;obtain⟨j1,h1,h2,h3,h4,h5,h6,h7,h8⟩:=lG;have hRr:v.rows[row]=B.take j1++A.drop e.at':=by
   rw[zB fK] at hr;rw[← h1];exact Option.some.inj hr
  have Ff:(e.at':Int)+m=(j1:Int):=by omega
  have vY:(B.take j1).length=j1:=by rw[zs];omega
  have hRl:v.rows[row].length=j1+(A.length-e.at'):=by rw[hRr,zb,vY,zt]
  have aN9:∀ g∈e.ins,eR g=0:=fun g hg'=>hg g (by rw[h5] at hg';exact aA (aB hg'));obtain⟨s1,s2⟩:=vQ (v:=v) (row:=row) (col:=j1) (cnt:=e.del) (ins:=e.ins) fK hh (by omega) (by omega) aN9;have vG:v.rows[row].take j1++e.ins++v.rows[row].drop (j1+e.del)=B.take (j1+e.ins.length)++A.drop (e.at'+e.del):=by
   rw[hRr,List.take_left' vY,List.drop_append,vY,aE (by rw[vY];omega),aK,show j1+e.del-j1=e.del by omega,List.drop_drop,List.take_add];rw[← h5]
  have htr:eN (B.take (j1+e.ins.length)++A.drop (e.at'+e.del))=false:=by
   rcases h7 with rfl | h7
   ·rw[Jp] at h8;rw[h8];exact hB
   ·exact Yh hA h7 _
  rw[vG,mG htr] at s2;rw[kD,Ff,List.cons_append];refine⟨hs,fun _=>?_⟩;rw[s2];refine ih (e.at'+e.del) (j1+e.ins.length) (m+e.ins.length-e.del) { v with rows:=v.rows.set row (B.take (j1+e.ins.length)++A.drop (e.at'+e.del)) } tail (by simpa using fK) (by simpa using hh) (by simp[aI,fK]) (by omega) h8 ⟨fun r qC=>?_,fun r qC g hg'=>?_⟩ (by simp only[List.set_set];exact ht)
  ·rcases aD qC with qC | rfl
   ·exact hs.row r qC
   ·simp only[zb,zs,zt];omega
  ·rcases aD qC with qC | rfl
   ·exact hs.txt r qC g hg'
   ·rcases aC.1 hg' with hg' | hg'
    ·exact hgB g (aB hg')
    ·exact hgA g (aA hg')
theorem Wc{v:Vw}{row:Nat}{A B:List Gl}(fK:row<v.rows.length)(hh:(v.rows.length:Int)=v.height)(hr:v.rows[row]? = some A)(hA:eN A=false)(hB:eN B=false)(hBl:B.length≤264)(hAl:A.length≤20000)(hg:∀ g∈B,eR g=0)
  (hgB:∀ g∈B,g.text.size≤1000) (hs:Sm v 50000) (tail:List Cg) (ht:mL { v with rows:=v.rows.set row B } tail):mL v (eQ row A B++tail):=by
 have lG:=tY (A:=A) (B:=B) _ A B 0 0 none (zL _) rfl rfl (zI _) (zI _) trivial;unfold eQ;rw[mG hA,mG hB];simp only;have hAm:A∈v.rows:=List.mem_of_getElem? hr;split
 ·have hRr:v.rows[row]=A:=by
   rw[zB fK] at hr;exact Option.some.inj hr
  obtain⟨s1,s2⟩:=vQ (v:=v) (row:=row) (col:=0) (cnt:=A.length) (ins:=B) fK hh (by omega) (by rw[hRr];omega) hg;rw[hRr,List.take_zero,aK,Nat.zero_add,List.drop_length,aL,mG hB] at s2;have:lL row A B=⟨3,row,(0:Nat),A.length,0,B⟩:=by unfold lL;rw[mG hA,mG hB];rfl
  rw[this,List.singleton_append];exact⟨hs,fun _=>by rw[s2];exact ht⟩
 ·exact aGy hA hB hBl hAl hg hgB (hs.txt A hAm) row _ 0 0 0 v tail fK hh (by simpa using hr) (by simp) lG hs ht
theorem aNy{x b:Vw}{n m:Nat}(hx:Sm x m)(hb:Sm b m):Sm { x with rows:=b.rows.take n++x.rows.drop n } m:=by
 refine⟨fun r hr=>?_,fun r hr=>?_⟩
 ·rcases aC.1 hr with hr | hr
  ·exact hb.row r (aB hr)
  ·exact hx.row r (aA hr)
 ·rcases aC.1 hr with hr | hr
  ·exact hb.txt r (aB hr)
  ·exact hx.txt r (aA hr)
theorem Oy{x b:Vw}(ex:Ed x)(hb:dO b=0)(hh:x.height=b.height)(sx:Sm x 20000)(sb:Sm b 20000):∀ (n:Nat),n≤b.rows.length→∀ (tail:List Cg),mL { x with rows:=b.rows.take n++x.rows.drop n } tail→mL x (dY x b n++tail):=by
 obtain⟨eb,hw⟩:=fH.1 hb;have hlx:=ex.len;have hlb:=eb.len;have hsb:=gF.1 eb.sz;intro n
 induction n with
 | zero=>intro _ tail ht;simpa[dY] using ht
 | succ n ih =>
  intro hn tail ht;have Xj:n<b.rows.length:=hn;have hnx:n<x.rows.length:=by omega
  rw[dY,zS];refine ih (by omega) _ ?_;have gx:x.rows.getD n []=x.rows[n]:=by rw[zC,zB hnx];rfl
  have gb:b.rows.getD n []=b.rows[n]:=by rw[zC,zB Xj];rfl
  rw[gx,gb];have xH:x.rows[n]∈x.rows:=zi hnx;have hmb:b.rows[n]∈b.rows:=zi Xj;have vY:(b.rows.take n).length=n:=by rw[zs];omega
  have aLX:=aBU hw hmb;have Mu:=aE4 (r:=b.rows[n]);have Bm:(b.rows.take n++x.rows.drop n)[n]? = some x.rows[n]:=by
   rw[List.getElem?_append_right (by omega),vY,Nat.sub_self,List.getElem?_drop,Nat.add_zero,zB hnx]
  refine Wc (v:={ x with rows:=b.rows.take n++x.rows.drop n }) (row:=n) (A:=x.rows[n]) (B:=b.rows[n])
   (by simp only[zb,vY,zt];omega) (by simp only[zb,vY,zt];omega) Bm (ex.tr _ xH) (eb.tr _ hmb) (by omega) (sx.row _ xH) (eb.gl _ hmb) (sb.txt _ hmb) (aNy (sx.mono (by omega)) (sb.mono (by omega))) tail ?_
  have e:(b.rows.take n++x.rows.drop n).set n b.rows[n]=b.rows.take (n+1)++x.rows.drop (n+1):=by
   rw[List.set_append_right _ _ (by omega),vY,Nat.sub_self,List.drop_eq_getElem_cons hnx,List.set_cons_zero,List.take_add_one,zB Xj,Option.toList_some,zS];rfl
  simp only;rw[e];exact ht
theorem Su{x b:Vw}(ex:Ed x)(hb:dO b=0)(hh:x.height=b.height)(sx:Sm x 20000)(sb:Sm b 20000):mL x (iE x b):=by
 obtain⟨eb,hwb⟩:=fH.1 hb;have hlx:=ex.len;have hlb:=eb.len;unfold iE;refine Oy ex hb hh sx sb b.rows.length (zL _) _ ?_;rw[aJ,aE (by omega),aL];have sm:Sm { x with rows:=b.rows } 50000:=⟨(sb.mono (by omega:20000≤50000)).row,sb.txt⟩;unfold iZ;split
 ·exact sm
 ·refine⟨sm,fun _=>?_⟩;show Sm _ _;simp only[dV,if_neg (show ¬ (4:Int)=1 by decide),if_neg (show ¬ (4:Int)=2 by decide),if_neg (show ¬ (4:Int)=3 by decide)];exact⟨sm.row,sm.txt⟩
theorem aCf{v:Vw}{h w:Int}{n:Nat}(s:Sm v n):Sm (qK v h w) n:=by
 refine⟨fun r hr=>?_,fun r hr g hg=>?_⟩
 ·obtain⟨l,hl',rfl⟩:=uT hr;have:=aGv (w:=w) (l:=l);rcases hl' with rfl | hl'
  ·rw[List.length_nil] at this;omega
  ·have:=s.row l hl';omega
 ·obtain⟨l,hl',rfl⟩:=uT hr;have:=Yd hg;rcases hl' with rfl | hl'
  ·simp at this
  ·exact s.txt l hl' g this
theorem aCg{row:Int}{a b:List Gl}{c:Cg}(h:c∈eQ row a b):∀ g∈c.gl,g∈b:=by
 have lG:=tY (A:=dE a) (B:=dE b) _ _ _ 0 0 none (zL _) rfl rfl (zI _) (zI _) trivial;have Qe:∀ {A B:List Gl} {es:List Edt} {i j:Nat},Jp A B i j es→∀ e∈es,∀ g∈e.ins,g∈B:=by
  intro A B es
  induction es with
  | nil=>intro i j _ e he;simp at he
  | cons e0 es ih =>
   intro i j h e he g hg;rw[Jp] at h;obtain⟨j1,h1,h2,h3,h4,h5,h6,h7,h8⟩:=h;rcases List.mem_cons.1 he with rfl | he
   ·rw[h5] at hg;exact aA (aB hg)
   ·exact ih h8 e he g hg
 unfold eQ at h;simp only at h;split at h
 ·simp only[aG] at h;subst h;intro g hg;exact Cz (Cz hg)
 ·obtain⟨e,he,hc⟩:=Jz h;rw[hc];intro g hg;exact Cz (Qe lG e he g hg)
theorem aDX{row:Int}{a b:List Gl}{c:Cg}(h:c∈eQ row a b):c.gl.length≤b.length:=by
 have lG:=tY (A:=dE a) (B:=dE b) _ _ _ 0 0 none (zL _) rfl rfl (zI _) (zI _) trivial;have hb:=iG b;unfold eQ at h;simp only at h;split at h
 ·simp only[aG] at h;subst h;have:=iG (dE b);show(dE (dE b)).length≤_;omega
 ·obtain⟨e,he,hc⟩:=Jz h;have:=(aAt lG e he).2;rw[hc];omega
theorem Fp{x b:Vw}{c:Cg}:∀ {n:Nat},c∈dY x b n→∃ i<n,c∈eQ i (x.rows.getD i []) (b.rows.getD i [])
 | 0,h=>by simp[dY] at h
 | n+1,h=>by
  rw[dY,aC] at h;rcases h with h | h
  ·obtain⟨i,h1,h2⟩:=Fp h;exact⟨i,by omega,h2⟩
  ·exact⟨n,by omega,h⟩
end
section
variable {P:Program}{N:Nat}{Γ:dP}
theorem aDY{f fg:FuncId}(H:FnIs P f N [.t 2] (wT fg))(hN:1≤N)(Hg:∀ l:List Gl,FnP Γ P fg [.d (.sl dW (cP l))] (.bool (iU l)))(l:List Cg):FnP Γ P f [eV l] (.bool (Ss l)):=by
 refine .of_W H (by simpa using hN) ?_;unfold wT;refine wR ?_;simp only[xq,reduceIte,qE,qA,qL,qD];refine cN ?_;refine wR ?_;simp only[xq,reduceIte,qE,qA,qL,qD,dD];refine cL rfl (fun hk=>?_) (fun hk=>cQ ?_)
 ·refine wR ?_;simp only[xq,reduceIte,qE,qA,qL,qD];refine cT (.tmp ?_ rfl);have hk:30<l.length:=by simp at hk;omega
  simp only[cJ,reduceIte,Ss,decide_eq_true hk,Bool.true_or]
 have hk:¬ 30<l.length:=by simp at hk;omega
 simp only[xq,reduceIte,qE,qA,qL,qD];refine cN ?_;refine wR ?_;simp only[xq,reduceIte,qE,qA,qL,qD];refine cS ?_;let S:Nat→St:=fun i=>⟨dB [(0,eV l),(3,.int i)],[]⟩;refine dX (s':=S 0) (Co.keep _ (by simp[cJ,cK])) ?_;refine dN (fun m s=>∃ i,i≤l.length∧m=l.length-i∧s=S i∧((l.take i).any fun c=>iU c.gl)=false) ⟨0,zI _,rfl,rfl,by simp⟩ ?_;rintro m s ⟨i,hi,rfl,rfl,dZ⟩;simp only[S];refine cN (cN ?_);refine cU ?_;simp only[xq,reduceIte,qE,qA,qL,qD,dD];refine cL rfl (fun hc=>cQ ?_) (fun hc=>dJ ?_)
 ·have cY:i<l.length:=by simpa using hc
  simp only[xq,reduceIte,qE,qA,qL,qD];refine cN (cS ?_);refine wR ?_;simp only[xq,reduceIte,qE,qA,qL,qD,dD,jP cY,Cg.ds,Int.toNat_natCast];refine⟨by omega,by omega,?_⟩;refine dF (Hg l[i].gl) rfl ?_;simp only[xq,reduceIte,qE,qA,qL,qD];refine cL rfl (fun hd=>?_) (fun hd=>cQ ?_)
  ·refine wR ?_;simp only[xq,reduceIte,qE,qA,qL,qD];refine cT ?_;simp only[xq,reduceIte,qE,qA,qL,qD];refine .tmp ?_ rfl;have:(l.any fun c=>iU c.gl)=true:=List.any_eq_true.2 ⟨_,zi cY,hd⟩;simp only[cJ,reduceIte,Ss,this,Bool.or_true]
  ·simp only[xq,reduceIte,qE,qA,qL,qD];refine cU ?_;simp only[xq,reduceIte,qE,qA,qL,qD,gB cY (show l.length≤dL by simp only[dL];omega)];exact⟨l.length-(i+1),S (i+1),by omega,Co.keep _ (by simp[cJ,cK]),i+1,cY,rfl,rfl,lF cY dZ hd⟩
 ·have gZ:i=l.length:=by simp at hc;omega
  subst gZ;rw[aJ] at dZ;simp only[xq,reduceIte,qE,qA,qL,qD];refine wR ?_;simp only[xq,reduceIte,qE,qA,qL,qD];refine cT (.tmp ?_ rfl);simp only[cJ,reduceIte,Ss,dZ,decide_eq_false hk,Bool.or_false]
abbrev aGz(Γ:dP)(P:Program)(f:FuncId):Prop:=∀ (v:Vw) (l:List Cg),mL v l→(∀ c∈l,CgOk c)→FnP Γ P f [fF v,eV l] (apA (dU v l))
abbrev sY(Γ:dP)(P:Program)(f:FuncId):Prop:=∀ v:Vw,Sm v 50000→FnP Γ P f [fF v] (.int (dO v))
abbrev Lp(Γ:dP)(P:Program)(f:FuncId):Prop:=∀ v u:Vw,FnP Γ P f [fF v,fF u] (.bool (decide (v=u)))
end
section
variable {P:Program}{N:Nat}{Γ:dP}
theorem aGA{v:Vw}{k:Nat}:HB.under k (fX v):=by
 intro r hr x hx;simp only[List.mem_cons,List.not_mem_nil,or_false] at hr;subst hr;obtain⟨d,_,rfl⟩:=List.mem_map.1 hx;rfl
end
section
variable {P:Program}{N:Nat}{Γ:dP}
abbrev aGB(Γ:dP)(P:Program)(f:FuncId):Prop:=∀ a b:List Gl,FnP Γ P f [.d (.sl dW (cP a)),.d (.sl dW (cP b))] (.bool (decide (a=b)))
end
end Go.Proofs.YtlllnjhgjijnkaaGreatDoor.Nx

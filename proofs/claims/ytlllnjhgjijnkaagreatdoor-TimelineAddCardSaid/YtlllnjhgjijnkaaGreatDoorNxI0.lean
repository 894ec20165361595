import Derived.Test.YtlllnjhgjijnkaaGreatDoorNxE21
set_option linter.all false
open List renaming mem_singleton → aA, mem_append → aB
namespace Go.Proofs.YtlllnjhgjijnkaaGreatDoor.Nx
open Go
structure Cand where
 gain:Int
 top:Int
 bot:Int
 by':Int
 deriving DecidableEq
def sA:Cand:=⟨0,0,0,0⟩
def Fq(a b:List (List Gl))(top bot y:Int)(i:Nat):Bool :=
 if top≤(i:Int)+y∧(i:Int)+y<bot then decide (iD a ((i:Int)+y)=b.getD i []) else decide (b.getD i []=[])
def jR(p:Nat→Bool)(top:Nat):Nat→Int
 | 0=>0
 | k+1=>jR p top k+if p (top+k) then 1 else 0
def pY(a b:List (List Gl))(top bot y:Int):Int :=
 jR (Fq a b top bot y) top.toNat (bot-top).toNat-jR (fun i=>decide (a.getD i []=b.getD i [])) top.toNat (bot-top).toNat
def iP(y:Int):Int:=max y (-y)
def mI(c d:Cand):Bool :=
 if c=d then false else if c.gain≠d.gain then decide (d.gain<c.gain) else if iP c.by'≠iP d.by' then decide (iP c.by'<iP d.by') else if c.by'≠d.by' then decide (0<c.by')
 else if c.top≠d.top then decide (c.top<d.top) else decide (d.bot<c.bot)
def Yt(a b:List (List Gl))(y top:Int)(best:Cand)(bot:Int):Cand :=
 if 2≤pY a b top bot y∧(best=sA∨mI ⟨pY a b top bot y,top,bot,y⟩ best=true) then⟨pY a b top bot y,top,bot,y⟩ else best
def Oz(a b:List (List Gl))(y top:Int):Nat→Int→Cand→Cand
 | 0,_,best=>best
 | k+1,bot,best=>Oz a b y top k (bot+1) (Yt a b y top best bot)
def Wd(a b:List (List Gl))(n:Nat)(y:Int):Nat→Nat→Cand→Cand
 | 0,_,best=>best
 | k+1,top,best=>Wd a b n y k (top+1) (if y=0 then best else Oz a b y top ((n:Int)+1-(top+iP y+1)).toNat (top+iP y+1) best)
def byC(a b:List (List Gl))(n:Nat):Nat→Int→Cand→Cand
 | 0,_,best=>best
 | k+1,y,best=>byC a b n k (y+1) (Wd a b n y n 0 best)
def qM(a b:List (List Gl))(n:Nat):Cand:=byC a b n (2 * n-1) (1-n) sA
def lM(a b:Vw):Bool:=(decide (a.height=b.height)&&decide ((a.rows.length:Int)=a.height))&&decide ((b.rows.length:Int)=b.height)
def gJ(a b:Vw):Cg × Bool :=
 if lM a b then(if(qM a.rows b.rows a.rows.length).gain<2 then(⟨0,0,0,0,0,[]⟩,false)
  else(⟨2,(qM a.rows b.rows a.rows.length).top,0,(qM a.rows b.rows a.rows.length).by',(qM a.rows b.rows a.rows.length).bot,[]⟩,true))
 else(⟨0,0,0,0,0,[]⟩,false)
theorem vA{a b:Vw}(h:(gJ a b).2=true):(gJ a b).1.kind=2∧(gJ a b).1.col=0∧(gJ a b).1.gl=[]:=by
 unfold gJ at h ⊢;split at h
 ·rename_i hm;split at h
  ·cases h
  ·rename_i hg;rw[if_pos hm,if_neg hg];exact⟨rfl,rfl,rfl⟩
 ·cases h
def gC:List Cg→Int
 | []=>0
 | c::l=>(if c.kind=1∨c.kind=4 then 1 else if c.kind=2 then 3 else if c.kind=3 then lX c else 0)+gC l
theorem Sw:∀ (a b:List Cg),gC (a++b)=gC a+gC b
 | [],b=>by simp[gC]
 | c::a,b=>by rw[List.cons_append,gC,gC,Sw a b];omega
def Lr(a b:Vw):Vw:=if a.width=b.width∧a.height=b.height then a else qK a b.height b.width
def mM(a b:Vw):List Cg:=if a.width=b.width∧a.height=b.height then [] else [gE b]
def Fr(m b:Vw):List Cg:=(gJ m b).1::iE (dU m [(gJ m b).1]).1 b
def sB(m b:Vw):List Cg:=if(gJ m b).2=true∧(dU m [(gJ m b).1]).2.2=0∧gC (Fr m b)<gC (iE m b) then Fr m b else iE m b
def gX(a b:Vw):List Cg:=if dO a=0∧dO b=0 then mM a b++sB (Lr a b) b else []
theorem yE{a b:Vw}(hb:dO b=0):iM a (gE b)=0:=by
 obtain⟨eb,_⟩:=fH.1 hb;have hs:=gF.1 eb.sz;unfold iM gE;rw[if_pos (fP.2 (by simp)),if_pos (by simp[blankG]),if_pos]
 ·rfl
 ·simp only[eM,if_true,Bool.and_eq_true,fP];omega
theorem pC{a b:Vw}:dV a (gE b)=qK a b.height b.width:=by simp[dV,gE]
theorem Dg{a b:Vw}(ha:dO a=0)(hb:dO b=0):dU a [gE b]=(qK a b.height b.width,0,0):=by
 rw[tX ha (yE hb),rA ha (yE hb) (by simp[gE]),pC];rfl
theorem aAu{a b:Vw}(ha:dO a=0)(hb:dO b=0):dO (Lr a b)=0∧(Lr a b).width=b.width∧(Lr a b).height=b.height:=by
 unfold Lr;split
 ·rename_i h;exact⟨ha,h.1,h.2⟩
 ·have:=(Db a [gE b]).1 (by rw[Dg ha hb]);rw[Dg ha hb] at this;exact⟨this.2.2,rfl,rfl⟩
theorem aLd{m b:Vw}(hm:dO m=0)(hb:dO b=0)(hw:m.width=b.width)(hh:m.height=b.height)(k:Int):jO m k (sB m b)=(b,0,0):=by
 have em:=(fH.1 hm).1;unfold sB;split
 ·rename_i h;obtain⟨h1,h2,_⟩:=h;have hc:iM m (gJ m b).1=0:=by
   rw[dU,if_pos hm,jO] at h2;split at h2
   ·assumption
   ·rename_i hc;exact absurd h2 hc
  have hk:=(vA h1).1;have ha:dU m [(gJ m b).1]=(dV m (gJ m b).1,0,0):=by rw[tX hm hc,rA hm hc (by omega)];rfl
  unfold Fr;rw[ha,jO,if_pos hc];have es:=em.step hc;have mO:dV m (gJ m b).1={ m with rows:=gI m.rows (gJ m b).1.row (gJ m b).1.upto (gJ m b).1.count }:=by
   unfold dV;rw[if_neg (by omega),if_pos hk]
  refine aBV es hb ?_ ?_ _
  ·rw[mO];exact hh
  ·rw[mO];exact hw
 ·exact aBV em hb hh hw k
theorem Ka{a b:Vw}(ha:dO a=0)(hb:dO b=0):dU a (gX a b)=(b,0,0):=by
 obtain⟨h1,h2,h3⟩:=aAu ha hb;rw[dU,if_pos ha,gX,if_pos ⟨ha,hb⟩];have hw:=aLd h1 hb h2 h3;unfold mM Lr at *;split
 ·rename_i h;simp only[if_pos h] at hw;exact hw 0
 ·rename_i h;simp only[if_neg h] at hw;rw[List.singleton_append,jO,if_pos (yE hb),pC];exact hw _
theorem aGF{m b:Vw}(hm:dO m=0)(hb:dO b=0)(hh:m.height=b.height)(sm:Sm m 20000)(sb:Sm b 20000):mL m (sB m b):=by
 have em:=(fH.1 hm).1;unfold sB;split
 ·rename_i h;obtain⟨h1,h2,_⟩:=h;have hk:=(vA h1).1;unfold Fr;refine⟨sm.mono (by omega),fun hc=>?_⟩;have ha:dU m [(gJ m b).1]=(dV m (gJ m b).1,0,0):=by rw[tX hm hc,rA hm hc (by omega)];rfl
  rw[ha];have mO:dV m (gJ m b).1={ m with rows:=gI m.rows (gJ m b).1.row (gJ m b).1.upto (gJ m b).1.count }:=by
   unfold dV;rw[if_neg (by omega),if_pos hk]
  refine Su (em.step hc) hb (by rw[mO];exact hh) ?_ sb;rw[mO];refine⟨fun r hr=>?_,fun r hr g hg=>?_⟩
  ·rcases lV hr with rfl | hr
   ·exact Nat.zero_le _
   ·exact sm.row r hr
  ·rcases lV hr with rfl | hr
   ·simp at hg
   ·exact sm.txt r hr g hg
 ·exact Su em hb hh sm sb
theorem aD0{a b:Vw}{n:Nat}(s:Sm a n):Sm (Lr a b) n:=by
 unfold Lr;split
 ·exact s
 ·exact aCf s
theorem Sx{a b:Vw}(ha:dO a=0)(hb:dO b=0)(sa:Sm a 20000)(sb:Sm b 20000):mL a (gX a b):=by
 obtain⟨h1,h2,h3⟩:=aAu ha hb;have hw:=aGF h1 hb h3 (aD0 sa) sb;rw[gX,if_pos ⟨ha,hb⟩];unfold mM Lr at *;split
 ·rename_i h;simp only[if_pos h] at hw;exact hw
 ·rename_i h;simp only[if_neg h] at hw;refine⟨sa.mono (by omega),fun hc=>?_⟩;rw[pC];exact hw
theorem aAv{x b:Vw}(sb:Sm b 140):∀ c∈iE x b,CgOk c:=by
 intro c hc;unfold iE at hc;rcases aB.1 hc with hc | hc
 ·obtain⟨i,_,hc⟩:=Fp hc;have h1:=aDX hc;have h2:=aCg hc;rcases pV (rows:=b.rows) (n:=i) with h3 | h3
  ·rw[h3] at h1 h2;exact⟨by rw[List.length_nil] at h1;omega,fun g hg=>by have:=h2 g hg;simp at this⟩
  ·exact⟨by have:=sb.row _ h3;omega,fun g hg=>sb.txt _ h3 g (h2 g hg)⟩
 ·unfold iZ at hc;split at hc
  ·simp at hc
  ·simp only[aA] at hc;subst hc;exact⟨by simp,by simp⟩
theorem aNz{m b:Vw}(sb:Sm b 140):∀ c∈sB m b,CgOk c:=by
 intro c hc;unfold sB at hc;split at hc
 ·rename_i h;rcases List.mem_cons.1 hc with rfl | hc
  ·have hg:=(vA h.1).2.2;exact⟨by rw[hg];simp,by rw[hg];simp⟩
  ·exact aAv sb c hc
 ·exact aAv sb c hc
theorem aFb{a b:Vw}(sb:Sm b 140):∀ c∈gX a b,CgOk c:=by
 intro c hc;unfold gX at hc;split at hc
 ·rcases aB.1 hc with hc | hc
  ·unfold mM at hc;split at hc
   ·simp at hc
   ·simp only[aA] at hc;subst hc;exact⟨by simp[gE],by simp[gE]⟩
  ·exact aNz sb c hc
 ·simp at hc
end Go.Proofs.YtlllnjhgjijnkaaGreatDoor.Nx

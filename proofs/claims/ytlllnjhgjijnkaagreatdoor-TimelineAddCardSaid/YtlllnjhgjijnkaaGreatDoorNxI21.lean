import Derived.Test.YtlllnjhgjijnkaaGreatDoorNxI0
import Derived.Test.YtlllnjhgjijnkaaGreatDoorNxE6
import Derived.Test.YtlllnjhgjijnkaaGreatDoorNxI2
import Derived.Test.YtlllnjhgjijnkaaGreatDoorNxD15
set_option linter.all false
open List renaming getElem?_eq_some_iff → zA, getElem?_eq_getElem → zB, getD_eq_getElem?_getD → zC, getElem?_append_left → zF, getElem?_append_right → zG, getElem?_map → zK, append_nil → zP, append_assoc → zS, map_cons → zU, map_nil → zV, length_append → zb, replicate_zero → zr
open Bool renaming true_eq_false → zE, and_eq_true → zf
open Nat renaming zero_le → zI, le_refl → zL
open Int renaming toNat_natCast → zQ
open Nat renaming reduceEqDiff → qE, reduceAdd → qA, reduceLT → qL, reduceLeDiff → qD
set_option maxHeartbeats 4000000
open List renaming pairwise_append → aA, foldl_append → aB, mem_append → aC, foldl_cons → aD, foldl_nil → aE, mem_append_left → aF, getElem_mem → aI
open Bool renaming false_eq_true → aG
open Nat renaming sub_self → aH
namespace Go.Proofs.YtlllnjhgjijnkaaGreatDoor.Nx
open Go
section
def BP(c d:Cand):Prop :=
 d.gain<c.gain∨(c.gain=d.gain∧(iP c.by'<iP d.by'∨(iP c.by'=iP d.by'∧((c.by'≠d.by'∧0<c.by')∨(c.by'=d.by'∧(c.top<d.top∨(c.top=d.top∧d.bot<c.bot)))))))
theorem aJj{c d:Cand}(h1:c.gain=d.gain)(h2:c.top=d.top)(h3:c.bot=d.bot)(h4:c.by'=d.by'):c=d:=by
 cases c;cases d;simp only at h1 h2 h3 h4;subst h1 h2 h3 h4;rfl
theorem Tu{c d:Cand}:mI c d=true↔BP c d:=by
 unfold mI BP;split
 ·rename_i h;subst h;simp only[aG,false_iff];omega
 ·rename_i h0;split
  ·simp only[decide_eq_true_eq];omega
  ·split
   ·simp only[decide_eq_true_eq];omega
   ·split
    ·simp only[decide_eq_true_eq];omega
    ·split
     ·simp only[decide_eq_true_eq];omega
     ·simp only[decide_eq_true_eq];omega
theorem BP.asymm{c d:Cand}(h:BP c d):¬ BP d c:=by unfold BP iP at *; omega
theorem BP.total{c d:Cand}(h:¬ BP c d):c=d∨BP d c:=by
 by_cases he:c=d
 ·exact .inl he
 ·right
  by_cases h1:c.gain=d.gain∧c.top=d.top∧c.bot=d.bot∧c.by'=d.by'
  ·exact absurd (aJj h1.1 h1.2.1 h1.2.2.1 h1.2.2.2) he
  ·unfold BP iP at *; omega
theorem BP.trans{c d e:Cand}(h1:BP c d)(h2:BP d e):BP c e:=by unfold BP iP at *; omega
def Zb(best c:Cand):Cand:=if 2≤c.gain∧(best=sA∨mI c best=true) then c else best
def aAJ(L:List Cand)(r:Cand):Prop:=(r=sA∧∀ c∈L,¬ 2≤c.gain)∨(r∈L∧2≤r.gain∧∀ c∈L,2≤c.gain→c=r∨BP r c)
theorem aL8:∀ (L pre:List Cand) (r:Cand),aAJ pre r→aAJ (pre++L) (L.foldl Zb r)
 | [],pre,r,h=>by simpa using h
 | c::L,pre,r,h=>by
  have e:pre++c::L=(pre++[c])++L:=by simp
  rw[e,aD];refine aL8 L (pre++[c]) _ ?_;have mem:∀ {x:Cand},x∈pre++[c]→x∈pre∨x=c:=fun hx=>by simpa using hx
  unfold Zb;split
  ·rename_i hc;obtain⟨h2,hb⟩:=hc;refine .inr ⟨by simp,h2,fun x hx hx2=>?_⟩;rcases mem hx with hx | rfl
   ·rcases h with⟨_,hn⟩ | ⟨hm,hr2,sC⟩
    ·exact absurd hx2 (hn x hx)
    ·rcases hb with rfl | hb
     ·simp[sA] at hr2
     ·have hb:=Tu.1 hb;rcases sC x hx hx2 with rfl | Qf
      ·exact .inr hb
      ·exact .inr (hb.trans Qf)
   ·exact .inl rfl
  ·rename_i hc;rcases h with⟨rfl,hn⟩ | ⟨hm,hr2,sC⟩
   ·refine .inl ⟨rfl,fun x hx=>?_⟩;rcases mem hx with hx | rfl
    ·exact hn x hx
    ·intro h2;exact hc ⟨h2,.inl rfl⟩
   ·refine .inr ⟨aF _ hm,hr2,fun x hx hx2=>?_⟩;rcases mem hx with hx | rfl
    ·exact sC x hx hx2
    ·have Xj:¬ BP x r:=fun hb=>hc ⟨hx2,.inr (Tu.2 hb)⟩;rcases BP.total Xj with h | h
     ·exact .inl h
     ·exact .inr h
def Tv:Cand:=⟨1,0,0,0⟩
def vU(best c:Cand):Cand:=if best.gain<c.gain then c else best
def Fy(x y:Cand):Prop:=x.gain=y.gain→BP x y
def aEl(L:List Cand)(r:Cand):Prop:=(r=Tv∧∀ c∈L,c.gain≤1)∨(r∈L∧2≤r.gain∧∀ c∈L,c=r∨BP r c)
theorem aL9:∀ (L pre:List Cand) (r:Cand),(pre++L).Pairwise Fy→aEl pre r→aEl (pre++L) (L.foldl vU r)
 | [],pre,r,_,h=>by simpa using h
 | c::L,pre,r,hp,h=>by
  have e:pre++c::L=(pre++[c])++L:=by simp
  rw[e] at hp ⊢;rw[aD];refine aL9 L (pre++[c]) _ hp ?_;have mem:∀ {x:Cand},x∈pre++[c]→x∈pre∨x=c:=fun hx=>by simpa using hx
  have ahead:∀ x∈pre,Fy x c:=fun x hx=>by
   have h1:=(aA.1 hp).1;exact(aA.1 h1).2.2 x hx c (by simp)
  have gt:∀ {x y:Cand},y.gain<x.gain→BP x y:=fun h=>.inl h;unfold vU;split
  ·rename_i hc;rcases h with⟨rfl,hn⟩ | ⟨hm,hr2,sC⟩
   ·refine .inr ⟨by simp,by simp only[Tv] at hc;omega,fun x hx=>?_⟩;rcases mem hx with hx | rfl
    ·have:=hn x hx;exact .inr (gt (by simp only[Tv] at hc;omega))
    ·exact .inl rfl
   ·refine .inr ⟨by simp,by omega,fun x hx=>?_⟩;rcases mem hx with hx | rfl
    ·right
     rcases sC x hx with rfl | hb
     ·exact gt hc
     ·exact(gt hc:BP c r).trans hb
    ·exact .inl rfl
  ·rename_i hc;rcases h with⟨rfl,hn⟩ | ⟨hm,hr2,sC⟩
   ·refine .inl ⟨rfl,fun x hx=>?_⟩;rcases mem hx with hx | rfl
    ·exact hn x hx
    ·simp only[Tv] at hc;omega
   ·refine .inr ⟨aF _ hm,hr2,fun x hx=>?_⟩;rcases mem hx with hx | rfl
    ·exact sC x hx
    ·right
     by_cases hg:r.gain=x.gain
     ·exact ahead r hm hg
     ·exact gt (by omega)
theorem aHb{L M:List Cand}{r s:Cand}(hL:aAJ L r)(hM:aEl M s)(h:∀ c,2≤c.gain→(c∈L↔c∈M)):(r=sA∧s=Tv)∨(r=s∧2≤s.gain):=by
 rcases hL with⟨rfl,h1⟩ | ⟨h1,h2,h3⟩
 ·rcases hM with⟨rfl,_⟩ | ⟨k1,k2,_⟩
  ·exact .inl ⟨rfl,rfl⟩
  ·exact absurd k2 (h1 s ((h s k2).2 k1))
 ·rcases hM with⟨rfl,k1⟩ | ⟨k1,k2,k3⟩
  ·have:=k1 r ((h r h2).1 h1);omega
  ·right
   rcases h3 s ((h s k2).2 k1) k2 with e | hb
   ·exact⟨e.symm,k2⟩
   ·rcases k3 r ((h r h2).1 h1) with e | hb2
    ·exact⟨e,k2⟩
    ·exact absurd hb2 hb.asymm
end
section
variable {a b:List (List Gl)}{n:Nat}
def lsB(a b:List (List Gl))(y top:Int):Nat→Int→List Cand
 | 0,_=>[]
 | k+1,bot=>⟨pY a b top bot y,top,bot,y⟩::lsB a b y top k (bot+1)
def lsT(a b:List (List Gl))(n:Nat)(y:Int):Nat→Nat→List Cand
 | 0,_=>[]
 | k+1,top=>(if y=0 then [] else lsB a b y top ((n:Int)+1-(top+iP y+1)).toNat (top+iP y+1))++lsT a b n y k (top+1)
def lsY(a b:List (List Gl))(n:Nat):Nat→Int→List Cand
 | 0,_=>[]
 | k+1,y=>lsT a b n y n 0++lsY a b n k (y+1)
theorem aJk{y top bot:Int}{best:Cand}:Yt a b y top best bot=Zb best ⟨pY a b top bot y,top,bot,y⟩:=rfl
theorem aFj{y top:Int}:∀ {k:Nat} {bot:Int} {best:Cand},Oz a b y top k bot best=(lsB a b y top k bot).foldl Zb best
 | 0,_,_=>rfl
 | k+1,bot,best=>by rw[Oz,lsB,aD,aFj,aJk]
theorem aFk{y:Int}:∀ {k top:Nat} {best:Cand},Wd a b n y k top best=(lsT a b n y k top).foldl Zb best
 | 0,_,_=>rfl
 | k+1,top,best=>by
  rw[Wd,lsT,aB,aFk];congr 1;split
  ·rfl
  ·exact aFj
theorem aJl:∀ {k:Nat} {y:Int} {best:Cand},byC a b n k y best=(lsY a b n k y).foldl Zb best
 | 0,_,_=>rfl
 | k+1,y,best=>by rw[byC,lsY,aB,aJl,aFk]
theorem aJm:aAJ (lsY a b n (2 * n-1) (1-n)) (qM a b n):=by
 rw[qM,aJl];simpa using aL8 (lsY a b n (2 * n-1) (1-n)) [] sA (.inl ⟨rfl,by simp⟩)
theorem aAK{y top:Int}{c:Cand}:∀ {k:Nat} {bot:Int},c∈lsB a b y top k bot↔∃ u:Int,bot≤u∧u<bot+k∧c=⟨pY a b top u y,top,u,y⟩
 | 0,bot=>by simp[lsB];intro x h1 h2;omega
 | k+1,bot=>by
  rw[lsB,List.mem_cons,aAK];constructor
  ·rintro(rfl | ⟨u,h1,h2,rfl⟩)
   ·exact⟨bot,by omega,by omega,rfl⟩
   ·exact⟨u,by omega,by omega,rfl⟩
  ·rintro⟨u,h1,h2,rfl⟩
   by_cases h:u=bot
   ·subst h;exact .inl rfl
   ·exact .inr ⟨u,by omega,by omega,rfl⟩
theorem aFl{y:Int}{c:Cand}:∀ {k top:Nat},c∈lsT a b n y k top↔y≠0∧∃ (t:Nat) (u:Int),top≤t∧t<top+k∧(t:Int)+iP y+1≤u∧u≤n∧c=⟨pY a b t u y,t,u,y⟩
 | 0,top=>by simp[lsT];intro _ t h1 h2;omega
 | k+1,top=>by
  rw[lsT,aC,aFl];constructor
  ·rintro(h | ⟨h0,t,u,h1,h2,h3⟩)
   ·split at h
    ·simp at h
    ·rename_i h0;obtain⟨u,h1,h2,rfl⟩:=aAK.1 h;exact⟨h0,top,u,by omega,by omega,by omega,by omega,rfl⟩
   ·exact⟨h0,t,u,by omega,by omega,h3⟩
  ·rintro⟨h0,t,u,h1,h2,h3,h4,rfl⟩
   by_cases h:t=top
   ·subst h
    left
    rw[if_neg h0];exact aAK.2 ⟨u,by omega,by omega,rfl⟩
   ·exact .inr ⟨h0,t,u,by omega,by omega,h3,h4,rfl⟩
theorem aFm{c:Cand}:∀ {k:Nat} {y0:Int},c∈lsY a b n k y0↔∃ (y:Int) (t:Nat) (u:Int),y0≤y∧y<y0+k∧y≠0∧t<n∧(t:Int)+iP y+1≤u∧u≤n∧c=⟨pY a b t u y,t,u,y⟩
 | 0,y0=>by simp[lsY];intro x t u h1 h2;omega
 | k+1,y0=>by
  rw[lsY,aC,aFm,aFl];constructor
  ·rintro(⟨h0,t,u,h1,h2,h3,h4,rfl⟩ | ⟨y,t,u,h1,h2,h3⟩)
   ·exact⟨y0,t,u,by omega,by omega,h0,by omega,h3,h4,rfl⟩
   ·exact⟨y,t,u,by omega,by omega,h3⟩
  ·rintro⟨y,t,u,h1,h2,h0,h3,h4,h5,rfl⟩
   by_cases h:y=y0
   ·subst h;exact .inl ⟨h0,t,u,by omega,by omega,h4,h5,rfl⟩
   ·exact .inr ⟨y,t,u,by omega,by omega,h0,h3,h4,h5,rfl⟩
def yH(a b:List (List Gl))(n:Nat)(t u y:Int):Int:=if lW n t u y then pY a b t u y else 0
def rsB(a b:List (List Gl))(n:Nat)(y:Int)(t:Nat):Nat→List Cand
 | 0=>[]
 | k+1=>⟨yH a b n t (t+1+k:Nat) y,t,(t+1+k:Nat),y⟩::rsB a b n y t k
def rsT(a b:List (List Gl))(n:Nat)(y:Int):Nat→Nat→List Cand
 | 0,_=>[]
 | k+1,t=>rsB a b n y t (n-t)++rsT a b n y k (t+1)
def rsS(a b:List (List Gl))(n s:Nat):List Cand:=rsT a b n s n 0++rsT a b n (-(s:Int)) n 0
def rsA(a b:List (List Gl))(n:Nat):Nat→Nat→List Cand
 | 0,_=>[]
 | k+1,s=>rsS a b n s++rsA a b n k (s+1)
theorem Qa{y:Int}{t:Nat}{c:Cand}:∀ {k:Nat},c∈rsB a b n y t k↔∃ u:Nat,t+1≤u∧u<t+1+k∧c=⟨yH a b n t u y,t,u,y⟩
 | 0=>by simp[rsB];intro x h1 h2;omega
 | k+1=>by
  rw[rsB,List.mem_cons,Qa];constructor
  ·rintro(rfl | ⟨u,h1,h2,rfl⟩)
   ·exact⟨t+1+k,by omega,by omega,rfl⟩
   ·exact⟨u,by omega,by omega,rfl⟩
  ·rintro⟨u,h1,h2,rfl⟩
   by_cases h:u=t+1+k
   ·subst h;exact .inl rfl
   ·exact .inr ⟨u,by omega,by omega,rfl⟩
theorem Er{y:Int}{c:Cand}:∀ {k t0:Nat},c∈rsT a b n y k t0↔∃ t u:Nat,t0≤t∧t<t0+k∧t+1≤u∧u≤n∧c=⟨yH a b n t u y,t,u,y⟩
 | 0,t0=>by simp[rsT];intro t h1 h2;omega
 | k+1,t0=>by
  rw[rsT,aC,Er,Qa];constructor
  ·rintro(⟨u,h1,h2,rfl⟩ | ⟨t,u,h1,h2,h3⟩)
   ·exact⟨t0,u,by omega,by omega,h1,by omega,rfl⟩
   ·exact⟨t,u,by omega,by omega,h3⟩
  ·rintro⟨t,u,h1,h2,h3,h4,rfl⟩
   by_cases h:t=t0
   ·subst h;exact .inl ⟨u,h3,by omega,rfl⟩
   ·exact .inr ⟨t,u,by omega,by omega,h3,h4,rfl⟩
theorem aFn{s:Nat}{c:Cand}:c∈rsS a b n s↔∃ (y:Int) (t u:Nat),(y=s∨y = -(s:Int))∧t<n∧t+1≤u∧u≤n∧c=⟨yH a b n t u y,t,u,y⟩:=by
 rw[rsS,aC,Er,Er];constructor
 ·rintro(⟨t,u,_,h2,h3,h4,rfl⟩ | ⟨t,u,_,h2,h3,h4,rfl⟩)
  ·exact⟨s,t,u,.inl rfl,by omega,h3,h4,rfl⟩
  ·exact⟨-(s:Int),t,u,.inr rfl,by omega,h3,h4,rfl⟩
 ·rintro⟨y,t,u,rfl | rfl,h2,h3,h4,rfl⟩
  ·exact .inl ⟨t,u,by omega,by omega,h3,h4,rfl⟩
  ·exact .inr ⟨t,u,by omega,by omega,h3,h4,rfl⟩
theorem aAL{c:Cand}:∀ {k s0:Nat},c∈rsA a b n k s0↔∃ (s:Nat) (y:Int) (t u:Nat),s0≤s∧s<s0+k∧(y=s∨y = -(s:Int))∧t<n∧t+1≤u∧u≤n∧c=⟨yH a b n t u y,t,u,y⟩
 | 0,s0=>⟨fun h=>by simp[rsA] at h,by rintro⟨s,y,t,u,h1,h2,_⟩;omega⟩
 | k+1,s0=>by
  rw[rsA,aC,aAL,aFn];constructor
  ·rintro(⟨y,t,u,h⟩ | ⟨s,y,t,u,h1,h2,h3⟩)
   ·exact⟨s0,y,t,u,by omega,by omega,h⟩
   ·exact⟨s,y,t,u,by omega,by omega,h3⟩
  ·rintro⟨s,y,t,u,h1,h2,h3⟩
   by_cases h:s=s0
   ·subst h;exact .inl ⟨y,t,u,h3⟩
   ·exact .inr ⟨s,y,t,u,by omega,by omega,h3⟩
theorem aHc{c d:Cand}(h1:c.by'=d.by')(h2:c.top=d.top)(h3:d.bot<c.bot):Fy c d:=fun hg=>by unfold BP;rw[h1];omega
theorem aHd{c d:Cand}(h1:c.by'=d.by')(h2:c.top<d.top):Fy c d:=fun hg=>by unfold BP;rw[h1];omega
theorem aHe{c d:Cand}(h1:0<c.by')(h2:d.by' = -c.by'):Fy c d:=fun hg=>by unfold BP iP;rw[h2];omega
theorem aHf{c d:Cand}(h:iP c.by'<iP d.by'):Fy c d:=fun hg=>by unfold BP;omega
theorem aCI{y:Int}{t:Nat}:∀ {k:Nat},(rsB a b n y t k).Pairwise Fy
 | 0=>List.Pairwise.nil
 | k+1=>by
  rw[rsB,List.pairwise_cons];refine⟨fun d hd=>?_,aCI⟩;obtain⟨u,h1,h2,rfl⟩:=Qa.1 hd;exact aHc rfl rfl (by simp only;omega)
theorem Tw{y:Int}:∀ {k t:Nat},(rsT a b n y k t).Pairwise Fy
 | 0,_=>List.Pairwise.nil
 | k+1,t=>by
  rw[rsT,aA];refine⟨aCI,Tw,fun c hc d hd=>?_⟩;obtain⟨u,_,_,rfl⟩:=Qa.1 hc;obtain⟨t2,u2,h1,_,_,_,rfl⟩:=Er.1 hd;exact aHd rfl (by simp only;omega)
theorem aJn{s:Nat}(hs:1≤s):(rsS a b n s).Pairwise Fy:=by
 rw[rsS,aA];refine⟨Tw,Tw,fun c hc d hd=>?_⟩;obtain⟨t,u,_,_,_,_,rfl⟩:=Er.1 hc;obtain⟨t2,u2,_,_,_,_,rfl⟩:=Er.1 hd;exact aHe (by simp only;omega) rfl
theorem aCJ:∀ {k s:Nat},1≤s→(rsA a b n k s).Pairwise Fy
 | 0,_,_=>List.Pairwise.nil
 | k+1,s,hs=>by
  rw[rsA,aA];refine⟨aJn hs,aCJ (by omega),fun c hc d hd=>?_⟩;obtain⟨y,t,u,h1,_,_,_,rfl⟩:=aFn.1 hc;obtain⟨s2,y2,t2,u2,h2,_,h3,_,_,_,rfl⟩:=aAL.1 hd;exact aHf (by simp only[iP];omega)
def Kk(a b:List (List Gl))(n:Nat):Cand:=(rsA a b n (n-1) 1).foldl vU Tv
theorem aCK{t u:Nat}{y:Int}(h1:t+1≤u)(h2:u≤n)(hy:y≠0):lW n t u y=true↔(t:Int)+iP y+1≤u:=by
 simp only[lW,iP,zf,decide_eq_true_eq,Bool.not_eq_true',decide_eq_false_iff_not];omega
theorem aEm{c:Cand}(h2:2≤c.gain):c∈lsY a b n (2 * n-1) (1-n)↔c∈rsA a b n (n-1) 1:=by
 rw[aFm,aAL];constructor
 ·rintro⟨y,t,u,k1,k2,k3,k4,k5,k6,rfl⟩;obtain⟨u',rfl⟩:∃ u':Nat,u=u':=⟨u.toNat,by unfold iP at k5;omega⟩;have ha:iP y=(y.natAbs:Int):=by unfold iP;omega
  refine⟨y.natAbs,y,t,u',by omega,by omega,by omega,k4,by omega,by omega,?_⟩;rw[yH,if_pos ((aCK (by omega) (by omega) k3).2 k5)]
 ·rintro⟨s,y,t,u,k1,k2,k3,k4,k5,k6,rfl⟩;have hy:y≠0:=by omega
  simp only[yH] at h2 ⊢;split at h2
  ·rename_i hp;rw[if_pos hp];have hp:=(aCK k5 k6 hy).1 hp;exact⟨y,t,u,by omega,by omega,hy,k4,hp,by omega,rfl⟩
  ·omega
theorem aEn:(qM a b n=sA∧Kk a b n=Tv)∨(qM a b n=Kk a b n∧2≤(Kk a b n).gain):=by
 refine aHb (L:=lsY a b n (2 * n-1) (1-n)) (M:=rsA a b n (n-1) 1) aJm ?_ (fun c hc=>aEm hc);have:=aL9 (rsA a b n (n-1) 1) [] Tv (by simpa using aCJ (zL 1)) (.inl ⟨rfl,by simp⟩);rw[List.nil_append] at this;exact this
def cgM(s:Cand):Cg:=if s.gain≤1 then⟨0,0,0,0,0,[]⟩ else⟨2,s.top,0,s.by',s.bot,[]⟩
theorem aEo(v w:Vw):gJ v w=if lM v w then(cgM (Kk v.rows w.rows v.rows.length),decide (1<(Kk v.rows w.rows v.rows.length).gain)) else(⟨0,0,0,0,0,[]⟩,false):=by
 unfold gJ;split
 ·rcases aEn (a:=v.rows) (b:=w.rows) (n:=v.rows.length) with⟨h1,h2⟩ | ⟨h1,h2⟩
  ·rw[h1,h2];rfl
  ·rw[h1,if_neg (by omega),cgM,if_neg (by omega),decide_eq_true (by omega)]
 ·rfl
end
section
variable {P:Program}{N:Nat}{Γ:dP}
def RwO(t:cM)(l:List (List Gl))(x:A):Prop :=
 ∃ q R,x = .ref q l.length 0 l.length true∧t[q]? = some (.cells eW R)∧R.length=l.length∧∀ (j:Nat) (r:List Gl),l[j]? = some r→∃ y,R[j]? = some [y]∧Bq t y r
theorem Bq.keep{t:cM}{y:A}{r:List Gl}{q:Nat}{R:List (List A)}(hq:t[q]? = some (.cells eW R))(B:HB)(tail:cM)(h:Bq t y r):Bq (t.set q B++tail) y r:=by
 rcases h with h | ⟨p,rfl,hp⟩
 ·exact .inl h
 ·refine .inr ⟨p,rfl,?_⟩;have fM:q≠p:=by
   rintro rfl;rw[hq] at hp;simp only[Option.some.injEq,HB.cells.injEq] at hp;cases hp.1
  have La:=(zA.1 hp).1;rw[zF (by simpa using La),List.getElem?_set_ne fM];exact hp
theorem RwO.snoc{t:cM}{l:List (List Gl)}{q:Nat}{R:List (List A)}(hq:t[q]? = some (.cells eW R))(hR:R.length=l.length)(hr:∀ (j:Nat) (r:List Gl),l[j]? = some r→∃ y,R[j]? = some [y]∧Bq t y r){y:A}{r:List Gl}{tail:cM}
  (hy:Bq (t.set q (.cells eW (R++[[y]]))++tail) y r):RwO (t.set q (.cells eW (R++[[y]]))++tail) (l++[r]) (.ref q (l.length+1) 0 (l.length+1) true):=by
 have Et:=(zA.1 hq).1;refine⟨q,R++[[y]],by rw[zb];rfl,?_,by rw[zb,zb,hR];rfl,fun j z hj=>?_⟩
 ·rw[zF (by simpa using Et),List.getElem?_set_self Et]
 ·rcases Nat.lt_or_ge j l.length with cY | vX
  ·rw[zF cY] at hj;obtain⟨y',h1,h2⟩:=hr j z hj;exact⟨y',by rw[zF (by omega)];exact h1,h2.keep hq _ _⟩
  ·have qO:j=l.length:=by
    have:=(zA.1 hj).1;simp at this;omega
   subst qO;rw[zG (zL _),aH] at hj;cases hj;exact⟨y,by rw[zG (by omega),hR,aH];rfl,hy⟩
theorem RwO.frz{t:cM}{l:List (List Gl)}{x:A}(h:RwO t l x):FrzA 0 t x (.d (.sl eW (dH l))):=by
 obtain⟨q,R,rfl,hq,hR,hr⟩:=h;rw[← hR];have get:∀ {i:Nat} {r:List D},(dH l)[i]? = some r→∃ (hi:i<l.length) (x:A),r=[.sl dW (cP l[i])]∧R.getD (0+i) []=[x]∧Bq t x l[i]:=by
  intro i r hi;have cY:i<l.length:=by have:=(zA.1 hi).1;rwa [cW] at this
  obtain⟨x,h1,h2⟩:=hr i _ (zB cY);refine⟨cY,x,?_,?_,h2⟩
  ·rw[dH,zK,zB cY] at hi;simpa using hi.symm
  ·rw[Nat.zero_add,zC,h1];rfl
 refine .d (.ref (zI _) hq (by rw[cW,hR]) (fun i r hi=>?_) (fun i r j d hi hj=>?_))
 ·obtain⟨_,x,rfl,h2,_⟩:=get hi;rw[h2];rfl
 ·obtain⟨_,x,rfl,h2,h3⟩:=get hi;rw[h2]
  match j,hj with
  | 0,hj=>simp at hj;subst hj;exact yA h3
  | j+1,hj=>simp at hj
theorem aHg{f fp:FuncId}(H:FnIs P f N [.t 8,.t 9] (tO fp))(hN:4≤N)(l:List (List Gl))(top bot y:Int)(hl:l.length≤1000)(vI:∀ r∈l,r.length≤100000)(hy : -1000≤y∧y≤1000)
  (Hp:FnP Γ P fp [.int l.length,.int top,.int bot,.int y] (.bool (lW l.length top bot y))) :
  FnP Γ P f [.d (.sl eW (dH l)),.int top,.int bot,.int y] (.tup [.d (.sl eW (dH (if lW l.length top bot y then gI l top bot y else []))),.int (if lW l.length top bot y then 0 else 2)]):=by
 refine .of_W H (by simpa using hN) ?_;unfold tO;refine wR ?_;simp only[xq,reduceIte,qE,qA,qL,qD];refine cN ?_;refine wR ?_;simp only[xq,reduceIte,qE,qA,qL,qD,cW];refine dF (Hp) rfl ?_;simp only[xq,reduceIte,qE,qA,qL,qD];refine cL rfl (fun hk=>?_) (fun hk=>cQ ?_)
 ·have hk:lW l.length top bot y=false:=by simpa using hk
  refine wR ?_;simp only[xq,reduceIte,qE,qA,qL,qD];refine cT ⟨.inr rfl,?_⟩;simp only[dK,eH,dM,xq,reduceIte,qE,qA,qL,qD];rw[hk];exact aCe (.d (.nil _)) (.same rfl)
 have hk:lW l.length top bot y=true:=by simpa using hk
 rw[hk,if_pos rfl,if_pos rfl];simp only[lW,zf,decide_eq_true_eq] at hk;obtain⟨⟨⟨⟨⟨k1,k2⟩,k3⟩,_⟩,_⟩,_⟩:=hk;simp only[xq,reduceIte,qE,qA,qL,qD];refine wR ?_;simp only[xq,reduceIte,qE,qA,qL,qD];refine cN ?_;refine wR ?_;simp only[xq,reduceIte,qE,qA,qL,qD];refine cS ?_;let S:A→cM→Nat→St:=fun x t i=>⟨dB [(0,.d (.sl eW (dH l))),(1,.int top),(2,.int bot),(3,.int y),(10,x),(11,.int i)],t⟩;refine dX (s':=S (.ref 0 0 0 0 true) [.cells eW []] 0) (Co.keep _ (by simp[cJ,cK])) ?_;have hsl:(gI l top bot y).length=l.length:=rY;refine dN (fun m s=>∃ i x t,i≤l.length∧m=l.length-i∧s=S x t i∧RwO t ((gI l top bot y).take i) x) ⟨0,_,_,zI _,rfl,rfl,⟨0,[],rfl,rfl,rfl,by simp⟩⟩ ?_;rintro m s ⟨i,x,t,hi,rfl,rfl,ho⟩;simp only[S];refine cN ?_;refine wR ?_;simp only[xq,reduceIte,qE,qA,qL,qD,cW];refine cL rfl (fun hc=>cQ ?_) (fun hc=>dJ ?_)
 ·have cY:i<l.length:=by simpa using hc
  have w1:IntKind.i64.wrap ((i:Int)+1)=((i+1:Nat):Int):=by rw[cX (by omega)];omega
  have w2:IntKind.i64.wrap ((i:Int)+y)=(i:Int)+y:=cX (by omega);have Pl:(gI l top bot y).take (i+1)=(gI l top bot y).take i++[gY l top bot y i]:=by
   rw[List.take_add_one,zB (by omega),Option.toList_some];congr 2;simp[gI]
  obtain⟨o,hod⟩:∃ o,o=(gI l top bot y).take i:=⟨_,rfl⟩;have hol:o.length=i:=by rw[hod,List.length_take];omega
  rw[← hod] at ho Pl;obtain⟨q,R,rfl,hq,hR,hr⟩:=ho;rw[hol];have hRi:R.length=i:=by omega
  have Et:=(zA.1 hq).1;have gq:∀ t':cM,(t++t')[q]? = some (.cells eW R):=fun t'=>fB hq;have sq:∀ (t':cM) X,(t++t').set q X=t.set q X++t':=fun t' X=>List.set_append_left _ _ Et;have next:∀ (sl:Nat→A) (t2:cM),sl 0 = .d (.sl eW (dH l))→sl 1 = .int top→sl 2 = .int bot→sl 3 = .int y→sl 10 = .ref q (i+1) 0 (i+1) true→sl 11 = .int ((i+1:Nat):Int)→RwO t2 (o++[gY l top bot y i]) (.ref q (o.length+1) 0 (o.length+1) true) →
    ∃ m' s'',m'<l.length-i∧Co 0 ⟨sl,t2⟩ s''∧∃ i x t,i≤l.length∧m'=l.length-i∧s''=S x t i∧RwO t ((gI l top bot y).take i) x:=by
   intro sl t2 q0 q1 q2 q3 q10 q11 ho2;rw[hol] at ho2;exact⟨l.length-(i+1),S (.ref q (i+1) 0 (i+1) true) t2 (i+1),by omega,Co.keep _ (by simp[q0,q1,q2,q3,q10,q11]),i+1,_,t2,cY,rfl,rfl,by rw[Pl];exact ho2⟩
  have copy:∀ (r:List Gl),RwO (t.set q (.cells eW (R++[[.ref t.length r.length 0 r.length true]]))++[eY r,.cells eW [[.ref t.length r.length 0 r.length true]]]) (o++[r]) (.ref q (o.length+1) 0 (o.length+1) true):=fun r =>
   RwO.snoc hq hR hr (.inr ⟨t.length,rfl,by rw[zG (by simp)];simp⟩)
  simp only[xq,reduceIte,qE,qA,qL,qD];refine cN (cS (cS ?_));refine cN ?_;refine aIh fun K hK=>?_;have cut:∀ (sl:Nat→A),sl 0 = .d (.sl eW (dH l))→sl 1 = .int top→sl 2 = .int bot→sl 3 = .int y→sl 10 = .ref q i 0 i true→sl 11 = .int i→sl 29 = .bool (decide ((i:Int)<top)||decide (bot≤(i:Int)))→K ⟨sl,t⟩:=by
   intro sl q0 q1 q2 q3 q10 q11 q29;refine hK _ ?_;refine dX (s':=⟨dB [(0,.d (.sl eW (dH l))),(1,.int top),(2,.int bot),(3,.int y),(10,.ref q i 0 i true),(11,.int i),(29,.bool (decide ((i:Int)<top)||decide (bot≤(i:Int))))],t⟩) (Co.keep _ (by simp[q0,q1,q2,q3,q10,q11,q29])) ?_;refine cL rfl (fun hd=>?_) (fun hd=>?_)
   ·have hd:(i:Int)<top∨bot≤(i:Int):=by simpa using hd
    have fK:gY l top bot y i=l[i]:=by
     rw[gY,if_neg (by omega),zC,zB cY];rfl
    have hli:=vI _ (aI cY);rw[fK] at next
    refine cU ?_;simp only[xq,reduceIte,qE,qA,qL,qD,cW,eC cY,zQ,dA,eE,eT,zS,cR,gq,sq,hRi]
    repeat refine And.intro (by omega) ?_
    refine⟨by simp only[dL];omega,by simp only[maxLen];omega,by simp only[dL];omega,by simp only[maxLen];omega,?_⟩;refine cU ?_;simp only[xq,reduceIte,qE,qA,qL,qD,w1];exact next _ _ rfl rfl rfl rfl rfl rfl (copy l[i])
   ·have hd:¬ ((i:Int)<top∨bot≤(i:Int)):=by simpa using hd
    let V:Bool→St:=fun z=>⟨dB [(0,.d (.sl eW (dH l))),(1,.int top),(2,.int bot),(3,.int y),(10,.ref q i 0 i true),(11,.int i),(47,.bool z)],t⟩;refine eJ (· = V (decide (top≤(i:Int)+y)&&decide ((i:Int)+y<bot))) (cU ?_) ?_
    ·cases e1:decide (top≤(i:Int)+y)
     ·simp only[xq,reduceIte,qE,qA,qL,qD,w2,e1,cV,zE];exact⟨_,Co.keep _ (by simp[cJ,cK]),rfl⟩
     ·simp only[xq,reduceIte,qE,qA,qL,qD,w2,e1,cV,zE];exact⟨_,Co.keep _ (by simp[cJ,cK]),rfl⟩
    rintro _ rfl;simp only[V];refine cL rfl (fun tU=>?_) (fun tU=>?_)
    ·have tU:top≤(i:Int)+y∧(i:Int)+y<bot:=by simpa using tU
     obtain⟨k,hk⟩:∃ k:Nat,(i:Int)+y=k:=⟨((i:Int)+y).toNat,by omega⟩;have hkl:k<l.length:=by omega
     have fK:gY l top bot y i=l[k]:=by
      rw[gY,if_pos (by omega),if_pos tU,hk,iD,zQ,zC,zB hkl];rfl
     have hli:=vI _ (aI hkl);rw[fK] at next
     rw[hk] at w2;refine cU ?_;simp only[xq,reduceIte,qE,qA,qL,qD,w2,hk,cW,eC hkl,zQ,dA,eE,eT,zS,cR,gq,sq,hRi]
     repeat refine And.intro (by omega) ?_
     refine⟨by simp only[dL];omega,by simp only[maxLen];omega,by simp only[dL];omega,by simp only[maxLen];omega,?_⟩;refine cU ?_;simp only[xq,reduceIte,qE,qA,qL,qD,w1];exact next _ _ rfl rfl rfl rfl rfl rfl (copy l[k])
    ·have tU:¬ (top≤(i:Int)+y∧(i:Int)+y<bot):=by simpa using tU
     have fK:gY l top bot y i=[]:=by rw[gY,if_pos (by omega),if_neg tU]
     rw[fK] at next
     refine cU ?_;simp only[xq,reduceIte,qE,qA,qL,qD,dA,eE,eT,zS,gq,sq,hRi];refine⟨by simp only[dL];omega,by simp only[maxLen];omega,?_⟩;refine cU ?_;simp only[xq,reduceIte,qE,qA,qL,qD,w1];exact next _ _ rfl rfl rfl rfl rfl rfl (RwO.snoc (y:=.nil) (r:=[]) hq hR hr (.inl ⟨rfl,rfl⟩))
  cases e1:decide ((i:Int)<top)
  ·simp only[xq,reduceIte,qE,qA,qL,qD,hol,e1,cV,zE];exact cut _ rfl rfl rfl rfl rfl rfl (by rw[e1];rfl)
  ·simp only[xq,reduceIte,qE,qA,qL,qD,hol,e1,cV,zE];exact cut _ rfl rfl rfl rfl rfl rfl (by rw[e1];rfl)
 ·have gZ:i=l.length:=by simp at hc;omega
  subst gZ;simp only[xq,reduceIte,qE,qA,qL,qD];refine wR ?_;simp only[xq,reduceIte,qE,qA,qL,qD];refine cT ⟨.inr rfl,?_⟩;simp only[dK,eH,dM,xq,reduceIte,qE,qA,qL,qD];rw[List.take_of_length_le (by omega)] at ho;exact aCe ho.frz (.same rfl)
theorem aEp{f fs:FuncId}(H:FnIs P f N [.t 8] (rO fs))(hN:4≤N)(a b:List (List Gl))(top bot:Nat)(hb:bot≤1000)(htb:top≤bot)(ha:bot≤a.length)(hbb:bot≤b.length)(Hs:vT Γ P fs) :
  FnP Γ P f [.d (.sl eW (dH a)),.d (.sl eW (dH b)),.int top,.int bot] (.int (jR (fun i=>decide (a.getD i []=b.getD i [])) top (bot-top))):=by
 refine .of_W H (by simpa using hN) ?_;unfold rO;let p:Nat→Bool:=fun i=>decide (a.getD i []=b.getD i []);refine wR ?_;simp only[xq,reduceIte,qE,qA,qL,qD];refine wR ?_;simp only[xq,reduceIte,qE,qA,qL,qD];refine cN ?_;refine wR ?_;simp only[xq,reduceIte,qE,qA,qL,qD];refine cS ?_;let S:Nat→St:=fun k=>⟨dB [(0,.d (.sl eW (dH a))),(1,.d (.sl eW (dH b))),(3,.int bot),(9,.int (jR p top k)),(10,.int ((top+k:Nat):Int))],[]⟩;refine dX (s':=S 0) (Co.keep _ (by simp[cJ,cK,jR])) ?_;refine dN (fun m s=>∃ k,top+k≤bot∧m=bot-(top+k)∧s=S k) ⟨0,by omega,rfl,rfl⟩ ?_;rintro m s ⟨k,hk,rfl,rfl⟩;have hcb:=vC p top k;simp only[S];refine cN ?_;refine wR ?_;simp only[xq,reduceIte,qE,qA,qL,qD];refine cL rfl (fun hc=>cQ ?_) (fun hc=>dJ ?_)
 ·have cY:top+k<bot:=by simp only[decide_eq_true_eq] at hc;omega
  have w1:IntKind.i64.wrap (((top+k:Nat):Int)+1)=((top+(k+1):Nat):Int):=by rw[cX (by omega)];omega
  have w2:IntKind.i64.wrap (jR p top k+1)=jR p top k+1:=cX (by omega);have hla:top+k<a.length:=by omega
  have hlb:top+k<b.length:=by omega
  have ga:a.getD (top+k) []=a[top+k]:=by rw[zC,zB hla];rfl
  have gb:b.getD (top+k) []=b[top+k]:=by rw[zC,zB hlb];rfl
  simp only[xq,reduceIte,qE,qA,qL,qD];refine cN (cS ?_);refine cN (eD (by simp) ?_);simp only[xq,reduceIte,qE,qA,qL,qD,zr,zP,cW,eC hla,eC hlb,zQ];refine⟨by omega,by omega,by omega,by omega,?_⟩;refine dF (Hs a[top+k] b[top+k]) rfl ?_;simp only[xq,reduceIte,qE,qA,qL,qD];refine cL rfl (fun hd=>?_) (fun hd=>cQ ?_)
  ·have Pl:jR p top (k+1)=jR p top k+1:=by
    have:p (top+k)=true:=by simp only[p];rw[ga,gb];exact hd
    rw[jR,this];rfl
   refine cU ?_;simp only[xq,reduceIte,qE,qA,qL,qD,w2];refine cU ?_;simp only[xq,reduceIte,qE,qA,qL,qD,w1];exact⟨bot-(top+(k+1)),S (k+1),by omega,Co.keep _ (by simp[cJ,cK,Pl]),k+1,cY,rfl,rfl⟩
  ·have Pl:jR p top (k+1)=jR p top k:=by
    have:p (top+k)=false:=by simp only[p];rw[ga,gb];exact hd
    rw[jR,this];simp
   simp only[xq,reduceIte,qE,qA,qL,qD];refine cU ?_;simp only[xq,reduceIte,qE,qA,qL,qD,w1];exact⟨bot-(top+(k+1)),S (k+1),by omega,Co.keep _ (by simp[cJ,cK,Pl]),k+1,cY,rfl,rfl⟩
 ·have gZ:k=bot-top:=by simp only[decide_eq_false_iff_not] at hc;omega
  subst gZ;simp only[xq,reduceIte,qE,qA,qL,qD];refine wR ?_;simp only[xq,reduceIte,qE,qA,qL,qD];refine cT (.tmp ?_ rfl);simp only[cJ,reduceIte];rfl
theorem Tx{p q:Nat→Bool}{t:Nat}:∀ {k:Nat},(∀ i,t≤i→i<t+k→p i=q i)→jR p t k=jR q t k
 | 0,_=>rfl
 | k+1,h=>by rw[jR,jR,Tx (k:=k) (fun i h1 h2=>h i h1 (by omega)),h (t+k) (by omega) (by omega)]
theorem aHh{f fm fr fe:FuncId}(H:FnIs P f N [.t 10] (tM fm fr fe))(hN:5≤N)(a b:Vw)(t u:Nat)(y:Int)(hm:lM a b=true)(hal:a.rows.length≤1000)(htu:t≤u)(hu:u≤a.rows.length)(Hm:FnP Γ P fm [fF a,fF b] (.bool (lM a b)))
  (Hr:FnP Γ P fr [.d (.sl eW (dH a.rows)),.int t,.int u,.int y] (.tup [.d (.sl eW (dH (if lW a.rows.length t u y then gI a.rows t u y else []))),.int (if lW a.rows.length t u y then 0 else 2)]))
  (He:∀ x z:List (List Gl),u≤x.length→u≤z.length→FnP Γ P fe [.d (.sl eW (dH x)),.d (.sl eW (dH z)),.int t,.int u] (.int (jR (fun i=>decide (x.getD i []=z.getD i [])) t (u-t)))) :
  FnP Γ P f [fF a,fF b,.int t,.int u,.int y] (.int (yH a.rows b.rows a.rows.length t u y)):=by
 refine .of_W H (by simpa using hN) ?_;have Xf:a.rows.length=b.rows.length:=by
  have h:=hm;simp only[lM,zf,decide_eq_true_eq] at h;omega
 rw[hm] at Hm;unfold tM;simp only[fF,Vw.ds,zU,zV] at Hm ⊢;refine wR ?_;simp only[xq,reduceIte,qE,qA,qL,qD];refine cN ?_;refine wR ?_;simp only[xq,reduceIte,qE,qA,qL,qD];refine dF (Hm) rfl ?_;simp only[xq,reduceIte,qE,qA,qL,qD];refine cL rfl (fun hd=>by cases hd) (fun hd=>cQ ?_);simp only[xq,reduceIte,qE,qA,qL,qD];refine wR ?_;simp only[xq,reduceIte,qE,qA,qL,qD,Vw.ds];refine dF (Hr) rfl ?_;simp only[xq,reduceIte,qE,qA,qL,qD];refine cN ?_;refine wR ?_;simp only[xq,reduceIte,qE,qA,qL,qD];cases hp:lW a.rows.length t u y
 ·refine cL rfl (fun hd=>?_) (fun hd=>by simp[hp] at hd);refine wR ?_;simp only[xq,reduceIte,qE,qA,qL,qD];refine cT (.tmp ?_ rfl);simp only[cJ,reduceIte,yH,hp,aG,if_false]
 ·refine cL rfl (fun hd=>by simp[hp] at hd) (fun hd=>cQ ?_);have e1:=He (gI a.rows t u y) b.rows (by rw[rY];omega) (by omega);have e2:=He a.rows b.rows (by omega) (by omega);have hg:pY a.rows b.rows t u y=jR (fun i=>decide ((gI a.rows t u y).getD i []=b.rows.getD i [])) t (u-t)-jR (fun i=>decide (a.rows.getD i []=b.rows.getD i [])) t (u-t):=by
   rw[pY,zQ,show((u:Int)-(t:Int)).toNat=u-t by omega];congr 1;refine Tx fun i h1 h2=>?_;have hi:i<a.rows.length:=by omega
   have:(gI a.rows t u y).getD i []=gY a.rows t u y i:=by
    rw[zC,gI,zK,List.getElem?_range hi];rfl
   rw[this,gY,if_pos (by omega),Fq];split
   ·rfl
   ·rw[decide_eq_decide];exact eq_comm
  have b1:=vC (fun i=>decide ((gI a.rows t u y).getD i []=b.rows.getD i [])) t (u-t);have b2:=vC (fun i=>decide (a.rows.getD i []=b.rows.getD i [])) t (u-t);rw[yH,hp,if_pos rfl,hg];simp only[if_true];generalize jR (fun i=>decide ((gI a.rows t u y).getD i []=b.rows.getD i [])) t (u-t)=n1 at *;generalize jR (fun i=>decide (a.rows.getD i []=b.rows.getD i [])) t (u-t)=n2 at *;have w1:IntKind.i64.wrap (n1-n2)=n1-n2:=cX (by omega);simp only[xq,reduceIte,qE,qA,qL,qD];refine cN (eD (by simp) ?_);simp only[xq,reduceIte,qE,qA,qL,qD,Vw.ds,zr,zP];refine dF (e1) rfl ?_;simp only[xq,reduceIte,qE,qA,qL,qD,Vw.ds];refine dF (e2) rfl ?_;simp only[xq,reduceIte,qE,qA,qL,qD,w1];refine cT (.tmp ?_ rfl);simp only[cJ,reduceIte]
end
section
variable {P:Program}{N:Nat}{Γ:dP}
def cmR(c:Cand):List A:=if c.gain≤1 then [.int 0,.int 0,.int 0,.int 0,.int 0,.nil] else [.int 2,.int c.top,.int 0,.int c.by',.int c.bot,.nil]
abbrev cmB(c:Cand):HB:=.cells Bp [cmR c]
theorem aLx(c:Cand):∃ p q r s t:Int,cmR c=[.int p,.int q,.int r,.int s,.int t,.nil]:=by
 unfold cmR;split
 ·exact⟨_,_,_,_,_,rfl⟩
 ·exact⟨_,_,_,_,_,rfl⟩
def sgL(a b:List (List Gl))(n s:Nat):Nat→List Cand
 | 0=>rsT a b n s n 0++rsT a b n (-(s:Int)) n 0
 | 1=>rsT a b n (-(s:Int)) n 0
 | _=>[]
def sgV(s:Nat):Nat→Int
 | 0=>s
 | _ => -(s:Int)
abbrev aJo(Γ:dP)(P:Program)(f:FuncId)(a b:Vw):Prop:=∀ (t u:Nat) (y:Int),t≤u→u≤a.rows.length → -1000≤y∧y≤1000→FnP Γ P f [fF a,fF b,.int t,.int u,.int y] (.int (yH a.rows b.rows a.rows.length t u y))
theorem aHi{f fm fg:FuncId}(H:FnIs P f N [.c 4 6 true,.t 5] (tL fm fg))(hN:2≤N)(a b:Vw)(hal:a.rows.length≤1000)(Hm:FnP Γ P fm [fF a,fF b] (.bool (lM a b)))(Hg:lM a b=true→aJo Γ P fg a b) :
  FnP Γ P f [fF a,fF b] (aCl (gJ a b)):=by
 refine .of_W H (by simpa using hN) ?_;rw[aEo];unfold tL;have hm0:=Hm;simp only[fF,Vw.ds,zU,zV] at hm0 ⊢;refine wR ?_;simp only[xq,reduceIte,qE,qA,qL,qD];refine wR ?_;simp only[xq,reduceIte,qE,qA,qL,qD];refine cN ?_;refine wR ?_;simp only[xq,reduceIte,qE,qA,qL,qD];refine dF (hm0) rfl ?_;simp only[xq,reduceIte,qE,qA,qL,qD];have frz6:∀ (h:cM) (p q r s t:Int) (z:Bool),FrzA 0 h (.tup [.agg [.int p,.int q,.int r,.int s,.int t,.nil],.bool z]) (aCl (⟨p,q,r,s,t,[]⟩,z)):=fun h p q r s t z=>by
  refine aCe (.agg rfl fun j y hj=>?_) (.same rfl);rcases j with _ | _ | _ | _ | _ | _ | j
  ·cases hj;exact .same rfl
  ·cases hj;exact .same rfl
  ·cases hj;exact .same rfl
  ·cases hj;exact .same rfl
  ·cases hj;exact .same rfl
  ·cases hj;exact .d (.nil _)
  ·simp[Cg.ds] at hj
 refine cL rfl (fun hk=>?_) (fun hk=>cQ ?_)
 ·have hk:lM a b=false:=by simpa using hk
  refine wR ?_;simp only[xq,reduceIte,qE,qA,qL,qD];refine cT ⟨.inr rfl,?_⟩;simp only[dK,eH,dM,cJ,reduceIte,qE,cK,gQ,xq,reduceIte,qE,qA,qL,qD,dI];rw[if_neg (by rw[hk];decide)];exact frz6 _ _ _ _ _ _ _
 have hk:lM a b=true:=by simpa using hk
 have Hg:=Hg hk;rw[if_pos hk];have Xf:a.height=(a.rows.length:Int):=by
  have h:=hk;simp only[lM,zf,decide_eq_true_eq] at h;omega
 obtain⟨n,hn⟩:∃ n,n=a.rows.length:=⟨_,rfl⟩;rw[← hn] at Xf hal;have Hg:∀ (t u:Nat) (y:Int),t≤u→u≤n → -1000≤y∧y≤1000→FnP Γ P fg [fF a,fF b,.int t,.int u,.int y] (.int (yH a.rows b.rows n t u y)):=by rw[hn];exact Hg
 rw[← hn];simp only[xq,reduceIte,qE,qA,qL,qD];let zc:HB:=.cells Bp [[.int 0,.int 0,.int 0,.int 0,.int 0,.nil]];let Hp:Cand→cM:=fun c=>[fX a,fX b,zc,cmB c];let base:Cand→List (Nat × A):=fun c=>[(2,.ptr 0 1 0 0),(3,.ptr 1 1 0 0),(4,.ptr 2 1 0 0),(6,.ptr 3 1 0 0),(7,.int c.gain)];refine eJ (· = ⟨dB [(4,.ptr 2 1 0 0),(6,.ptr 3 1 0 0),(7,.int (Kk a.rows b.rows n).gain)],Hp (Kk a.rows b.rows n)⟩) ?_ ?_
 ·refine wR ?_;simp only[xq,reduceIte,qE,qA,qL,qD];refine cS ?_;let S1:Nat→Cand→St:=fun s c=>⟨dB ((8,.int s)::base c),Hp c⟩;refine dX (s':=S1 1 Tv) (Co.keep _ (by simp[base,cJ,cK,Tv])) ?_;refine dN (fun m s=>∃ sz c,1≤sz∧m=n-sz∧s=S1 sz c∧(rsA a.rows b.rows n (n-sz) sz).foldl vU c=Kk a.rows b.rows n∧1≤c.gain) ⟨1,Tv,zL _,rfl,rfl,rfl,Int.le_refl _⟩ ?_;rintro m s ⟨sz,c,hs1,rfl,rfl,qH,Cc⟩;simp only[S1,base,Hp];refine cN ?_;refine wR ?_;simp only[xq,reduceIte,qE,qA,qL,qD,Vw.ds,Xf];refine cL rfl (fun hc=>cQ ?_) (fun hc=>dJ ?_)
  ·have cY:sz<n:=by simp only[decide_eq_true_eq] at hc;omega
   have ws:IntKind.i64.wrap ((sz:Int)+1)=((sz+1:Nat):Int):=by rw[cX (by omega)];omega
   obtain⟨r0,hr0⟩:∃ r,n-sz=r+1:=⟨n-sz-1,by omega⟩;rw[hr0,rsA,aB] at qH;obtain⟨fin1,hf1⟩:∃ x,x=(rsS a.rows b.rows n sz).foldl vU c:=⟨_,rfl⟩;rw[← hf1] at qH;simp only[xq,reduceIte,qE,qA,qL,qD];refine cN (cS ?_);refine wR ?_;simp only[xq,reduceIte,qE,qA,qL,qD];refine cS ?_;let S2:Nat→Cand→St:=fun k c=>⟨dB ((9,.int (1-2 * (k:Int)))::(8,.int sz)::base c),Hp c⟩;refine dX (s':=S2 0 c) (Co.keep _ (by simp[base,cJ,cK,Vw.ds])) ?_;refine dN (fun m s=>∃ k c,k≤2∧m=2-k∧s=S2 k c∧(sgL a.rows b.rows n sz k).foldl vU c=fin1∧1≤c.gain) ⟨0,c,by omega,rfl,rfl,hf1.symm,Cc⟩ ?_;clear hf1 Cc c;rintro m s ⟨k,c,Mt,rfl,rfl,hsg,Cc⟩;simp only[S2,base,Hp];refine cN ?_;refine wR ?_;simp only[xq,reduceIte,qE,qA,qL,qD];refine cL rfl (fun hc=>cQ ?_) (fun hc=>dJ ?_)
   ·have Cb:k≤1:=by simp only[decide_eq_true_eq] at hc;omega
    have wk:IntKind.i64.wrap (1-2 * (k:Int)-2)=1-2 * ((k+1:Nat):Int):=by rw[cX (by omega)];omega
    obtain⟨y,hyd⟩:∃ y:Int,y=sgV sz k:=⟨_,rfl⟩;have hy : -1000≤y∧y≤1000:=by rw[hyd];unfold sgV;split<;>omega
    have wm:IntKind.i64.wrap ((1-2 * (k:Int)) * (sz:Int))=y:=by
     have aOa:k=0∨k=1:=by omega
     rcases aOa with rfl | rfl
     ·rw[hyd,cX (by omega)];simp only[sgV];omega
     ·rw[hyd,cX (by omega)];simp only[sgV];omega
    have aOf:sgL a.rows b.rows n sz k=rsT a.rows b.rows n y n 0++sgL a.rows b.rows n sz (k+1):=by
     have aOa:k=0∨k=1:=by omega
     rcases aOa with rfl | rfl
     ·rw[hyd];rfl
     ·rw[hyd];simp only[sgL,sgV,zP]
    rw[aOf,aB] at hsg;obtain⟨fin2,hf2⟩:∃ x,x=(rsT a.rows b.rows n y n 0).foldl vU c:=⟨_,rfl⟩;rw[← hf2] at hsg;simp only[xq,reduceIte,qE,qA,qL,qD];refine cN (cS ?_);refine wR ?_;simp only[xq,reduceIte,qE,qA,qL,qD];refine cS ?_;let S3:Nat→Cand→St:=fun t c=>⟨dB ((10,.int t)::(9,.int (1-2 * (k:Int)))::(8,.int sz)::base c),Hp c⟩;refine dX (s':=S3 0 c) (Co.keep _ (by simp[base,cJ,cK])) ?_;refine dN (fun m s=>∃ t c,t≤n∧m=n-t∧s=S3 t c∧(rsT a.rows b.rows n y (n-t) t).foldl vU c=fin2∧1≤c.gain) ⟨0,c,zI _,rfl,rfl,hf2.symm,Cc⟩ ?_;clear hf2 Cc c;rintro m s ⟨t,c,ht,rfl,rfl,htp,Cc⟩;simp only[S3,base,Hp];refine cN ?_;refine wR ?_;simp only[xq,reduceIte,qE,qA,qL,qD,Vw.ds,Xf];refine cL rfl (fun hc=>cQ ?_) (fun hc=>dJ ?_)
    ·have vY:t<n:=by simp only[decide_eq_true_eq] at hc;omega
     have wt:IntKind.i64.wrap ((t:Int)+1)=((t+1:Nat):Int):=by rw[cX (by omega)];omega
     obtain⟨r1,hr1⟩:∃ r,n-t=r+1:=⟨n-t-1,by omega⟩;rw[hr1,rsT,aB] at htp;obtain⟨fin3,hf3⟩:∃ x,x=(rsB a.rows b.rows n y t (n-t)).foldl vU c:=⟨_,rfl⟩;rw[← hf3] at htp;simp only[xq,reduceIte,qE,qA,qL,qD];refine cN (cS ?_);refine wR ?_;simp only[xq,reduceIte,qE,qA,qL,qD,Vw.ds,Xf];refine cS ?_;let S4:Nat→Cand→St:=fun j c=>⟨dB ((11,.int ((t+j:Nat):Int))::(10,.int t)::(9,.int (1-2 * (k:Int)))::(8,.int sz)::base c),Hp c⟩;refine dX (s':=S4 (n-t) c) (Co.keep _ (by simp[base,cJ,cK,Vw.ds];omega)) ?_;refine dN (fun m s=>∃ j c,j≤n-t∧m=j∧s=S4 j c∧(rsB a.rows b.rows n y t j).foldl vU c=fin3∧1≤c.gain) ⟨n-t,c,zL _,rfl,rfl,hf3.symm,Cc⟩ ?_;clear hf3 Cc c;rintro m s ⟨j,c,hj,rfl,rfl,hbt,Cc⟩;simp only[S4,base,Hp];refine cN ?_;refine wR ?_;simp only[xq,reduceIte,qE,qA,qL,qD];refine cL rfl (fun hc=>cQ ?_) (fun hc=>dJ ?_)
     ·obtain⟨i,rfl⟩:∃ i,m=i+1:=⟨m-1,by simp only[decide_eq_true_eq] at hc;omega⟩;have wu:IntKind.i64.wrap (((t+(i+1):Nat):Int)-1)=((t+i:Nat):Int):=by rw[cX (by omega)];omega
      rw[rsB,aD,show t+1+i=t+(i+1) by omega] at hbt;have hG:=Hg t (t+(i+1)) y (by omega) (by omega) hy;simp only[fF,Vw.ds,zU,zV] at hG;obtain⟨g,hgd⟩:∃ g,g=yH a.rows b.rows n t (t+(i+1):Nat) y:=⟨_,rfl⟩;rw[← hgd] at hG hbt;simp only[xq,reduceIte,qE,qA,qL,qD];refine cN (cS ?_);refine wR ?_;simp only[xq,reduceIte,qE,qA,qL,qD,Vw.ds,wm];refine dF (hG) rfl ?_;simp only[xq,reduceIte,qE,qA,qL,qD];refine wR ?_;simp only[xq,reduceIte,qE,qA,qL,qD];refine cL rfl (fun hz=>?_) (fun hz=>cQ ?_)
      ·have hz:=of_decide_eq_true hz;have mO:vU c ⟨g,t,(t+(i+1):Nat),y⟩=⟨g,t,(t+(i+1):Nat),y⟩:=by rw[vU,if_pos hz]
       rw[mO] at hbt;obtain⟨z1,z2,z3,z4,z5,fK⟩:=aLx c;have vG:cmR ⟨g,t,(t+(i+1):Nat),y⟩=[.int 2,.int t,.int 0,.int y,.int ((t+(i+1):Nat):Int),.nil]:=by
        unfold cmR;rw[if_neg (by simp only;omega)]
       refine wR ?_;simp only[xq,reduceIte,qE,qA,qL,qD];refine cU ?_;simp only[xq,reduceIte,qE,qA,qL,qD,wm,cmB,fK];refine cU ?_;simp only[xq,reduceIte,qE,qA,qL,qD,wu];refine⟨i,S4 i ⟨g,t,(t+(i+1):Nat),y⟩,by omega,?_,i,_,by omega,rfl,rfl,hbt,by simp only;omega⟩;simp only[S4,base,Hp,cmB,vG];exact Co.keep _ (by simp[cJ,cK,Vw.ds])
      ·have hz:=of_decide_eq_false hz;have mO:vU c ⟨g,t,(t+(i+1):Nat),y⟩=c:=by rw[vU,if_neg hz]
       rw[mO] at hbt;simp only[xq,reduceIte,qE,qA,qL,qD];refine cU ?_;simp only[xq,reduceIte,qE,qA,qL,qD,wu];exact⟨i,S4 i c,by omega,Co.keep _ (by simp[base,cJ,cK]),i,c,by omega,rfl,rfl,hbt,Cc⟩
     ·have hj0:m=0:=by simp only[decide_eq_false_iff_not] at hc;omega
      subst hj0;rw[rsB,aE] at hbt;rw[← hbt] at htp;simp only[xq,reduceIte,qE,qA,qL,qD];refine cU ?_;simp only[xq,reduceIte,qE,qA,qL,qD,wt];refine⟨n-(t+1),S3 (t+1) c,by omega,Co.keep _ (by simp[base,cJ,cK]),t+1,c,vY,rfl,rfl,?_,Cc⟩;rw[show n-(t+1)=r1 by omega];exact htp
    ·have gZ:t=n:=by simp only[decide_eq_false_iff_not] at hc;omega
     subst gZ;rw[aH,rsT,aE] at htp;rw[← htp] at hsg;simp only[xq,reduceIte,qE,qA,qL,qD];refine cU ?_;simp only[xq,reduceIte,qE,qA,qL,qD,wk];exact⟨2-(k+1),S2 (k+1) c,by omega,Co.keep _ (by simp[base,cJ,cK,Vw.ds]),k+1,c,by omega,rfl,rfl,hsg,Cc⟩
   ·have gZ:k=2:=by simp only[decide_eq_false_iff_not] at hc;omega
    subst gZ;rw[sgL,aE] at hsg
    ·rw[← hsg] at qH;simp only[xq,reduceIte,qE,qA,qL,qD];refine cU ?_;simp only[xq,reduceIte,qE,qA,qL,qD,ws];refine⟨n-(sz+1),S1 (sz+1) c,by omega,Co.keep _ (by simp[base,cJ,cK]),sz+1,c,by omega,rfl,rfl,?_,Cc⟩;rw[show n-(sz+1)=r0 by omega];exact qH
    ·omega
    ·omega
  ·have vX:¬ sz<n:=by simp only[decide_eq_false_iff_not] at hc;omega
   rw[show n-sz=0 by omega,rsA,aE] at qH;simp only[xq,reduceIte,qE,qA,qL,qD];exact⟨_,Co.keep [(4,.ptr 2 1 0 0),(6,.ptr 3 1 0 0),(7,.int c.gain)] (by simp[cJ,cK,Vw.ds]),by rw[qH]⟩
 rintro _ rfl;generalize Kk a.rows b.rows n=c
 by_cases hg:c.gain≤1
 ·have fK:cmR c=[.int 0,.int 0,.int 0,.int 0,.int 0,.nil]:=by unfold cmR;rw[if_pos hg]
  have hcm:cgM c=⟨0,0,0,0,0,[]⟩:=by unfold cgM;rw[if_pos hg]
  rw[hcm];refine wR ?_;simp only[xq,reduceIte,qE,qA,qL,qD,Hp,zc,cmB,fK];refine cT ⟨.inr rfl,?_⟩;simp only[dK,eH,dM,cJ,reduceIte,qE,cK,gQ,xq,reduceIte,qE,qA,qL,qD,dI];exact frz6 _ _ _ _ _ _ _
 ·have fK:cmR c=[.int 2,.int c.top,.int 0,.int c.by',.int c.bot,.nil]:=by unfold cmR;rw[if_neg hg]
  have hcm:cgM c=⟨2,c.top,0,c.by',c.bot,[]⟩:=by unfold cgM;rw[if_neg hg]
  rw[hcm];refine wR ?_;simp only[xq,reduceIte,qE,qA,qL,qD,Hp,zc,cmB,fK];refine cT ⟨.inr rfl,?_⟩;simp only[dK,eH,dM,cJ,reduceIte,qE,cK,gQ,xq,reduceIte,qE,qA,qL,qD,dI];exact frz6 _ _ _ _ _ _ _
end
end Go.Proofs.YtlllnjhgjijnkaaGreatDoor.Nx

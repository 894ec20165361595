import Derived.Test.YtigfbnglplbbpaaGreatDoorNxI0
import Derived.Test.YtigfbnglplbbpaaGreatDoorNxE6
import Derived.Test.YtigfbnglplbbpaaGreatDoorNxI2
import Derived.Test.YtigfbnglplbbpaaGreatDoorNxD15
set_option linter.unusedSimpArgs false
set_option linter.unusedVariables false
set_option linter.unnecessarySimpa false
open List renaming getElem?_eq_some_iff → zA, getElem?_eq_getElem → zB, getD_eq_getElem?_getD → zC, getElem?_append_left → zF, getElem?_append_right → zG, getElem?_map → zK, append_nil → zP, append_assoc → zS, map_cons → zU, map_nil → zV, length_append → zb, replicate_zero → zr
open Bool renaming true_eq_false → zE, and_eq_true → zf
open Nat renaming zero_le → zI, le_refl → zL
open Int renaming toNat_natCast → zQ
open Nat renaming reduceEqDiff → qE, reduceAdd → qA, reduceLT → qL, reduceLeDiff → qD
namespace Go.Proofs.YtigfbnglplbbpaaGreatDoor.Nx
open Go
def BP (c d:Cand):Prop :=
 d.gain<c.gain∨(c.gain=d.gain∧(absI c.by'<absI d.by'∨(absI c.by'=absI d.by'∧((c.by'≠d.by'∧0<c.by')∨(c.by'=d.by'∧(c.top<d.top∨(c.top=d.top∧d.bot<c.bot)))))))
theorem cand_ext {c d:Cand} (h1:c.gain=d.gain) (h2:c.top=d.top) (h3:c.bot=d.bot) (h4:c.by'=d.by'):c=d:=by
 cases c;cases d;simp only at h1 h2 h3 h4;subst h1 h2 h3 h4;rfl
theorem better_iff {c d:Cand}:betterC c d=true↔BP c d:=by
 unfold betterC BP
 split
 ·rename_i h;subst h;simp only [Bool.false_eq_true,false_iff];omega
 ·rename_i h0
  split
  ·simp only [decide_eq_true_eq];omega
  ·split
   ·simp only [decide_eq_true_eq];omega
   ·split
    ·simp only [decide_eq_true_eq];omega
    ·split
     ·simp only [decide_eq_true_eq];omega
     ·simp only [decide_eq_true_eq];omega
theorem BP.asymm {c d:Cand} (h:BP c d):¬ BP d c:=by unfold BP absI at *; omega
theorem BP.total {c d:Cand} (h:¬ BP c d):c=d∨BP d c:=by
 by_cases he:c=d
 ·exact .inl he
 ·right
  by_cases h1:c.gain=d.gain∧c.top=d.top∧c.bot=d.bot∧c.by'=d.by'
  ·exact absurd (cand_ext h1.1 h1.2.1 h1.2.2.1 h1.2.2.2) he
  ·unfold BP absI at *; omega
theorem BP.trans {c d e:Cand} (h1:BP c d) (h2:BP d e):BP c e:=by unfold BP absI at *; omega
def stepB (best c:Cand):Cand:=if 2≤c.gain∧(best=cand0∨betterC c best=true) then c else best
def BestOf (L:List Cand) (r:Cand):Prop:=(r=cand0∧∀ c∈L,¬ 2≤c.gain)∨(r∈L∧2≤r.gain∧∀ c∈L,2≤c.gain→c=r∨BP r c)
theorem foldB:∀ (L pre:List Cand) (r:Cand),BestOf pre r→BestOf (pre++L) (L.foldl stepB r)
 | [],pre,r,h=>by simpa using h
 | c::L,pre,r,h=>by
  have e:pre++c::L=(pre++[c])++L:=by simp
  rw [e,List.foldl_cons]
  refine foldB L (pre++[c]) _ ?_
  have mem:∀ {x:Cand},x∈pre++[c]→x∈pre∨x=c:=fun hx=>by simpa using hx
  unfold stepB
  split
  ·rename_i hc
   obtain ⟨h2,hb⟩:=hc
   refine .inr ⟨by simp,h2,fun x hx hx2=>?_⟩
   rcases mem hx with hx | rfl
   ·rcases h with ⟨_,hn⟩ | ⟨hm,hr2,hall⟩
    ·exact absurd hx2 (hn x hx)
    ·rcases hb with rfl | hb
     ·simp [cand0] at hr2
     ·have hb:=better_iff.1 hb
      rcases hall x hx hx2 with rfl | hx'
      ·exact .inr hb
      ·exact .inr (hb.trans hx')
   ·exact .inl rfl
  ·rename_i hc
   rcases h with ⟨rfl,hn⟩ | ⟨hm,hr2,hall⟩
   ·refine .inl ⟨rfl,fun x hx=>?_⟩
    rcases mem hx with hx | rfl
    ·exact hn x hx
    ·intro h2;exact hc ⟨h2,.inl rfl⟩
   ·refine .inr ⟨List.mem_append_left _ hm,hr2,fun x hx hx2=>?_⟩
    rcases mem hx with hx | rfl
    ·exact hall x hx hx2
    ·have hnb:¬ BP x r:=fun hb=>hc ⟨hx2,.inr (better_iff.2 hb)⟩
     rcases BP.total hnb with h | h
     ·exact .inl h
     ·exact .inr h
def one0:Cand:=⟨1,0,0,0⟩
def stepM (best c:Cand):Cand:=if best.gain<c.gain then c else best
def Ahead (x y:Cand):Prop:=x.gain=y.gain→BP x y
def MostOf (L:List Cand) (r:Cand):Prop:=(r=one0∧∀ c∈L,c.gain≤1)∨(r∈L∧2≤r.gain∧∀ c∈L,c=r∨BP r c)
theorem foldM:∀ (L pre:List Cand) (r:Cand),(pre++L).Pairwise Ahead→MostOf pre r→MostOf (pre++L) (L.foldl stepM r)
 | [],pre,r,_,h=>by simpa using h
 | c::L,pre,r,hp,h=>by
  have e:pre++c::L=(pre++[c])++L:=by simp
  rw [e] at hp ⊢
  rw [List.foldl_cons]
  refine foldM L (pre++[c]) _ hp ?_
  have mem:∀ {x:Cand},x∈pre++[c]→x∈pre∨x=c:=fun hx=>by simpa using hx
  have ahead:∀ x∈pre,Ahead x c:=fun x hx=>by
   have h1:=(List.pairwise_append.1 hp).1
   exact (List.pairwise_append.1 h1).2.2 x hx c (by simp)
  have gt:∀ {x y:Cand},y.gain<x.gain→BP x y:=fun h=>.inl h
  unfold stepM
  split
  ·rename_i hc
   rcases h with ⟨rfl,hn⟩ | ⟨hm,hr2,hall⟩
   ·refine .inr ⟨by simp,by simp only [one0] at hc;omega,fun x hx=>?_⟩
    rcases mem hx with hx | rfl
    ·have:=hn x hx;exact .inr (gt (by simp only [one0] at hc;omega))
    ·exact .inl rfl
   ·refine .inr ⟨by simp,by omega,fun x hx=>?_⟩
    rcases mem hx with hx | rfl
    ·right
     rcases hall x hx with rfl | hb
     ·exact gt hc
     ·exact (gt hc:BP c r).trans hb
    ·exact .inl rfl
  ·rename_i hc
   rcases h with ⟨rfl,hn⟩ | ⟨hm,hr2,hall⟩
   ·refine .inl ⟨rfl,fun x hx=>?_⟩
    rcases mem hx with hx | rfl
    ·exact hn x hx
    ·simp only [one0] at hc;omega
   ·refine .inr ⟨List.mem_append_left _ hm,hr2,fun x hx=>?_⟩
    rcases mem hx with hx | rfl
    ·exact hall x hx
    ·right
     by_cases hg:r.gain=x.gain
     ·exact ahead r hm hg
     ·exact gt (by omega)
theorem best_same {L M:List Cand} {r s:Cand} (hL:BestOf L r) (hM:MostOf M s) (h:∀ c,2≤c.gain→(c∈L↔c∈M)):(r=cand0∧s=one0)∨(r=s∧2≤s.gain):=by
 rcases hL with ⟨rfl,h1⟩ | ⟨h1,h2,h3⟩
 ·rcases hM with ⟨rfl,_⟩ | ⟨k1,k2,_⟩
  ·exact .inl ⟨rfl,rfl⟩
  ·exact absurd k2 (h1 s ((h s k2).2 k1))
 ·rcases hM with ⟨rfl,k1⟩ | ⟨k1,k2,k3⟩
  ·have:=k1 r ((h r h2).1 h1);omega
  ·right
   rcases h3 s ((h s k2).2 k1) k2 with e | hb
   ·exact ⟨e.symm,k2⟩
   ·rcases k3 r ((h r h2).1 h1) with e | hb2
    ·exact ⟨e,k2⟩
    ·exact absurd hb2 hb.asymm
end Go.Proofs.YtigfbnglplbbpaaGreatDoor.Nx
namespace Go.Proofs.YtigfbnglplbbpaaGreatDoor.Nx
open Go
variable {a b:List (List Gl)} {n:Nat}
def lsB (a b:List (List Gl)) (y top:Int):Nat→Int→List Cand
 | 0,_=>[]
 | k+1,bot=>⟨gainV a b top bot y,top,bot,y⟩::lsB a b y top k (bot+1)
def lsT (a b:List (List Gl)) (n:Nat) (y:Int):Nat→Nat→List Cand
 | 0,_=>[]
 | k+1,top=>(if y=0 then [] else lsB a b y top ((n:Int)+1-(top+absI y+1)).toNat (top+absI y+1))++lsT a b n y k (top+1)
def lsY (a b:List (List Gl)) (n:Nat):Nat→Int→List Cand
 | 0,_=>[]
 | k+1,y=>lsT a b n y n 0++lsY a b n k (y+1)
theorem stepC_eq {y top bot:Int} {best:Cand}:stepC a b y top best bot=stepB best ⟨gainV a b top bot y,top,bot,y⟩:=rfl
theorem botC_eq {y top:Int}:∀ {k:Nat} {bot:Int} {best:Cand},botC a b y top k bot best=(lsB a b y top k bot).foldl stepB best
 | 0,_,_=>rfl
 | k+1,bot,best=>by rw [botC,lsB,List.foldl_cons,botC_eq,stepC_eq]
theorem topC_eq {y:Int}:∀ {k top:Nat} {best:Cand},topC a b n y k top best=(lsT a b n y k top).foldl stepB best
 | 0,_,_=>rfl
 | k+1,top,best=>by
  rw [topC,lsT,List.foldl_append,topC_eq]
  congr 1
  split
  ·rfl
  ·exact botC_eq
theorem byC_eq:∀ {k:Nat} {y:Int} {best:Cand},byC a b n k y best=(lsY a b n k y).foldl stepB best
 | 0,_,_=>rfl
 | k+1,y,best=>by rw [byC,lsY,List.foldl_append,byC_eq,topC_eq]
theorem bestC_of:BestOf (lsY a b n (2 * n-1) (1-n)) (bestC a b n):=by
 rw [bestC,byC_eq]
 simpa using foldB (lsY a b n (2 * n-1) (1-n)) [] cand0 (.inl ⟨rfl,by simp⟩)
theorem mem_lsB {y top:Int} {c:Cand}:∀ {k:Nat} {bot:Int},c∈lsB a b y top k bot↔∃ u:Int,bot≤u∧u<bot+k∧c=⟨gainV a b top u y,top,u,y⟩
 | 0,bot=>by simp [lsB];intro x h1 h2;omega
 | k+1,bot=>by
  rw [lsB,List.mem_cons,mem_lsB]
  constructor
  ·rintro (rfl | ⟨u,h1,h2,rfl⟩)
   ·exact ⟨bot,by omega,by omega,rfl⟩
   ·exact ⟨u,by omega,by omega,rfl⟩
  ·rintro ⟨u,h1,h2,rfl⟩
   by_cases h:u=bot
   ·subst h;exact .inl rfl
   ·exact .inr ⟨u,by omega,by omega,rfl⟩
theorem mem_lsT {y:Int} {c:Cand}:∀ {k top:Nat},c∈lsT a b n y k top↔y≠0∧∃ (t:Nat) (u:Int),top≤t∧t<top+k∧(t:Int)+absI y+1≤u∧u≤n∧c=⟨gainV a b t u y,t,u,y⟩
 | 0,top=>by simp [lsT];intro _ t h1 h2;omega
 | k+1,top=>by
  rw [lsT,List.mem_append,mem_lsT]
  constructor
  ·rintro (h | ⟨h0,t,u,h1,h2,h3⟩)
   ·split at h
    ·simp at h
    ·rename_i h0
     obtain ⟨u,h1,h2,rfl⟩:=mem_lsB.1 h
     exact ⟨h0,top,u,by omega,by omega,by omega,by omega,rfl⟩
   ·exact ⟨h0,t,u,by omega,by omega,h3⟩
  ·rintro ⟨h0,t,u,h1,h2,h3,h4,rfl⟩
   by_cases h:t=top
   ·subst h
    left
    rw [if_neg h0]
    exact mem_lsB.2 ⟨u,by omega,by omega,rfl⟩
   ·exact .inr ⟨h0,t,u,by omega,by omega,h3,h4,rfl⟩
theorem mem_lsY {c:Cand}:∀ {k:Nat} {y0:Int},c∈lsY a b n k y0↔∃ (y:Int) (t:Nat) (u:Int),y0≤y∧y<y0+k∧y≠0∧t<n∧(t:Int)+absI y+1≤u∧u≤n∧c=⟨gainV a b t u y,t,u,y⟩
 | 0,y0=>by simp [lsY];intro x t u h1 h2;omega
 | k+1,y0=>by
  rw [lsY,List.mem_append,mem_lsY,mem_lsT]
  constructor
  ·rintro (⟨h0,t,u,h1,h2,h3,h4,rfl⟩ | ⟨y,t,u,h1,h2,h3⟩)
   ·exact ⟨y0,t,u,by omega,by omega,h0,by omega,h3,h4,rfl⟩
   ·exact ⟨y,t,u,by omega,by omega,h3⟩
  ·rintro ⟨y,t,u,h1,h2,h0,h3,h4,h5,rfl⟩
   by_cases h:y=y0
   ·subst h;exact .inl ⟨h0,t,u,by omega,by omega,h4,h5,rfl⟩
   ·exact .inr ⟨y,t,u,by omega,by omega,h0,h3,h4,h5,rfl⟩
def gainR (a b:List (List Gl)) (n:Nat) (t u y:Int):Int:=if possB n t u y then gainV a b t u y else 0
def rsB (a b:List (List Gl)) (n:Nat) (y:Int) (t:Nat):Nat→List Cand
 | 0=>[]
 | k+1=>⟨gainR a b n t (t+1+k:Nat) y,t,(t+1+k:Nat),y⟩::rsB a b n y t k
def rsT (a b:List (List Gl)) (n:Nat) (y:Int):Nat→Nat→List Cand
 | 0,_=>[]
 | k+1,t=>rsB a b n y t (n-t)++rsT a b n y k (t+1)
def rsS (a b:List (List Gl)) (n s:Nat):List Cand:=rsT a b n s n 0++rsT a b n (-(s:Int)) n 0
def rsA (a b:List (List Gl)) (n:Nat):Nat→Nat→List Cand
 | 0,_=>[]
 | k+1,s=>rsS a b n s++rsA a b n k (s+1)
theorem mem_rsB {y:Int} {t:Nat} {c:Cand}:∀ {k:Nat},c∈rsB a b n y t k↔∃ u:Nat,t+1≤u∧u<t+1+k∧c=⟨gainR a b n t u y,t,u,y⟩
 | 0=>by simp [rsB];intro x h1 h2;omega
 | k+1=>by
  rw [rsB,List.mem_cons,mem_rsB]
  constructor
  ·rintro (rfl | ⟨u,h1,h2,rfl⟩)
   ·exact ⟨t+1+k,by omega,by omega,rfl⟩
   ·exact ⟨u,by omega,by omega,rfl⟩
  ·rintro ⟨u,h1,h2,rfl⟩
   by_cases h:u=t+1+k
   ·subst h;exact .inl rfl
   ·exact .inr ⟨u,by omega,by omega,rfl⟩
theorem mem_rsT {y:Int} {c:Cand}:∀ {k t0:Nat},c∈rsT a b n y k t0↔∃ t u:Nat,t0≤t∧t<t0+k∧t+1≤u∧u≤n∧c=⟨gainR a b n t u y,t,u,y⟩
 | 0,t0=>by simp [rsT];intro t h1 h2;omega
 | k+1,t0=>by
  rw [rsT,List.mem_append,mem_rsT,mem_rsB]
  constructor
  ·rintro (⟨u,h1,h2,rfl⟩ | ⟨t,u,h1,h2,h3⟩)
   ·exact ⟨t0,u,by omega,by omega,h1,by omega,rfl⟩
   ·exact ⟨t,u,by omega,by omega,h3⟩
  ·rintro ⟨t,u,h1,h2,h3,h4,rfl⟩
   by_cases h:t=t0
   ·subst h;exact .inl ⟨u,h3,by omega,rfl⟩
   ·exact .inr ⟨t,u,by omega,by omega,h3,h4,rfl⟩
theorem mem_rsS {s:Nat} {c:Cand}:c∈rsS a b n s↔∃ (y:Int) (t u:Nat),(y=s∨y = -(s:Int))∧t<n∧t+1≤u∧u≤n∧c=⟨gainR a b n t u y,t,u,y⟩:=by
 rw [rsS,List.mem_append,mem_rsT,mem_rsT]
 constructor
 ·rintro (⟨t,u,_,h2,h3,h4,rfl⟩ | ⟨t,u,_,h2,h3,h4,rfl⟩)
  ·exact ⟨s,t,u,.inl rfl,by omega,h3,h4,rfl⟩
  ·exact ⟨-(s:Int),t,u,.inr rfl,by omega,h3,h4,rfl⟩
 ·rintro ⟨y,t,u,rfl | rfl,h2,h3,h4,rfl⟩
  ·exact .inl ⟨t,u,by omega,by omega,h3,h4,rfl⟩
  ·exact .inr ⟨t,u,by omega,by omega,h3,h4,rfl⟩
theorem mem_rsA {c:Cand}:∀ {k s0:Nat},c∈rsA a b n k s0↔∃ (s:Nat) (y:Int) (t u:Nat),s0≤s∧s<s0+k∧(y=s∨y = -(s:Int))∧t<n∧t+1≤u∧u≤n∧c=⟨gainR a b n t u y,t,u,y⟩
 | 0,s0=>⟨fun h=>by simp [rsA] at h,by rintro ⟨s,y,t,u,h1,h2,_⟩;omega⟩
 | k+1,s0=>by
  rw [rsA,List.mem_append,mem_rsA,mem_rsS]
  constructor
  ·rintro (⟨y,t,u,h⟩ | ⟨s,y,t,u,h1,h2,h3⟩)
   ·exact ⟨s0,y,t,u,by omega,by omega,h⟩
   ·exact ⟨s,y,t,u,by omega,by omega,h3⟩
  ·rintro ⟨s,y,t,u,h1,h2,h3⟩
   by_cases h:s=s0
   ·subst h;exact .inl ⟨y,t,u,h3⟩
   ·exact .inr ⟨s,y,t,u,by omega,by omega,h3⟩
theorem ahead_bot {c d:Cand} (h1:c.by'=d.by') (h2:c.top=d.top) (h3:d.bot<c.bot):Ahead c d:=fun hg=>by unfold BP;rw [h1];omega
theorem ahead_top {c d:Cand} (h1:c.by'=d.by') (h2:c.top<d.top):Ahead c d:=fun hg=>by unfold BP;rw [h1];omega
theorem ahead_sgn {c d:Cand} (h1:0<c.by') (h2:d.by' = -c.by'):Ahead c d:=fun hg=>by unfold BP absI;rw [h2];omega
theorem ahead_abs {c d:Cand} (h:absI c.by'<absI d.by'):Ahead c d:=fun hg=>by unfold BP;omega
theorem sort_rsB {y:Int} {t:Nat}:∀ {k:Nat},(rsB a b n y t k).Pairwise Ahead
 | 0=>List.Pairwise.nil
 | k+1=>by
  rw [rsB,List.pairwise_cons]
  refine ⟨fun d hd=>?_,sort_rsB⟩
  obtain ⟨u,h1,h2,rfl⟩:=mem_rsB.1 hd
  exact ahead_bot rfl rfl (by simp only;omega)
theorem sort_rsT {y:Int}:∀ {k t:Nat},(rsT a b n y k t).Pairwise Ahead
 | 0,_=>List.Pairwise.nil
 | k+1,t=>by
  rw [rsT,List.pairwise_append]
  refine ⟨sort_rsB,sort_rsT,fun c hc d hd=>?_⟩
  obtain ⟨u,_,_,rfl⟩:=mem_rsB.1 hc
  obtain ⟨t2,u2,h1,_,_,_,rfl⟩:=mem_rsT.1 hd
  exact ahead_top rfl (by simp only;omega)
theorem sort_rsS {s:Nat} (hs:1≤s):(rsS a b n s).Pairwise Ahead:=by
 rw [rsS,List.pairwise_append]
 refine ⟨sort_rsT,sort_rsT,fun c hc d hd=>?_⟩
 obtain ⟨t,u,_,_,_,_,rfl⟩:=mem_rsT.1 hc
 obtain ⟨t2,u2,_,_,_,_,rfl⟩:=mem_rsT.1 hd
 exact ahead_sgn (by simp only;omega) rfl
theorem sort_rsA:∀ {k s:Nat},1≤s→(rsA a b n k s).Pairwise Ahead
 | 0,_,_=>List.Pairwise.nil
 | k+1,s,hs=>by
  rw [rsA,List.pairwise_append]
  refine ⟨sort_rsS hs,sort_rsA (by omega),fun c hc d hd=>?_⟩
  obtain ⟨y,t,u,h1,_,_,_,rfl⟩:=mem_rsS.1 hc
  obtain ⟨s2,y2,t2,u2,h2,_,h3,_,_,_,rfl⟩:=mem_rsA.1 hd
  exact ahead_abs (by simp only [absI];omega)
def mostC (a b:List (List Gl)) (n:Nat):Cand:=(rsA a b n (n-1) 1).foldl stepM one0
theorem poss_iff {t u:Nat} {y:Int} (h1:t+1≤u) (h2:u≤n) (hy:y≠0):possB n t u y=true↔(t:Int)+absI y+1≤u:=by
 simp only [possB,absI,zf,decide_eq_true_eq,Bool.not_eq_true',decide_eq_false_iff_not]
 omega
theorem same_cands {c:Cand} (h2:2≤c.gain):c∈lsY a b n (2 * n-1) (1-n)↔c∈rsA a b n (n-1) 1:=by
 rw [mem_lsY,mem_rsA]
 constructor
 ·rintro ⟨y,t,u,k1,k2,k3,k4,k5,k6,rfl⟩
  obtain ⟨u',rfl⟩:∃ u':Nat,u=u':=⟨u.toNat,by unfold absI at k5;omega⟩
  have ha:absI y=(y.natAbs:Int):=by unfold absI;omega
  refine ⟨y.natAbs,y,t,u',by omega,by omega,by omega,k4,by omega,by omega,?_⟩
  rw [gainR,if_pos ((poss_iff (by omega) (by omega) k3).2 k5)]
 ·rintro ⟨s,y,t,u,k1,k2,k3,k4,k5,k6,rfl⟩
  have hy:y≠0:=by omega
  simp only [gainR] at h2 ⊢
  split at h2
  ·rename_i hp
   rw [if_pos hp]
   have hp:=(poss_iff k5 k6 hy).1 hp
   exact ⟨y,t,u,by omega,by omega,hy,k4,hp,by omega,rfl⟩
  ·omega
theorem mostC_same:(bestC a b n=cand0∧mostC a b n=one0)∨(bestC a b n=mostC a b n∧2≤(mostC a b n).gain):=by
 refine best_same (L:=lsY a b n (2 * n-1) (1-n)) (M:=rsA a b n (n-1) 1) bestC_of ?_ (fun c hc=>same_cands hc)
 have:=foldM (rsA a b n (n-1) 1) [] one0 (by simpa using sort_rsA (zL 1)) (.inl ⟨rfl,by simp⟩)
 rw [List.nil_append] at this
 exact this
def cgM (s:Cand):Cg:=if s.gain≤1 then ⟨0,0,0,0,0,[]⟩ else ⟨2,s.top,0,s.by',s.bot,[]⟩
theorem findV_most (v w:Vw):findV v w=if matchV v w then (cgM (mostC v.rows w.rows v.rows.length),decide (1<(mostC v.rows w.rows v.rows.length).gain)) else (⟨0,0,0,0,0,[]⟩,false):=by
 unfold findV
 split
 ·rcases mostC_same (a:=v.rows) (b:=w.rows) (n:=v.rows.length) with ⟨h1,h2⟩ | ⟨h1,h2⟩
  ·rw [h1,h2];rfl
  ·rw [h1,if_neg (by omega),cgM,if_neg (by omega),decide_eq_true (by omega)]
 ·rfl
end Go.Proofs.YtigfbnglplbbpaaGreatDoor.Nx
namespace Go.Proofs.YtigfbnglplbbpaaGreatDoor.Nx
open Go
variable {P:Program} {N:Nat} {Γ:Tabs}
def RwO (t:Heap) (l:List (List Gl)) (x:A):Prop :=
 ∃ q R,x = .ref q l.length 0 l.length true∧t[q]? = some (.cells eRw R)∧R.length=l.length∧∀ (j:Nat) (r:List Gl),l[j]? = some r→∃ y,R[j]? = some [y]∧RowAt t y r
theorem RowAt.keep {t:Heap} {y:A} {r:List Gl} {q:Nat} {R:List (List A)} (hq:t[q]? = some (.cells eRw R)) (B:HB) (tail:Heap) (h:RowAt t y r):RowAt (t.set q B++tail) y r:=by
 rcases h with h | ⟨p,rfl,hp⟩
 ·exact .inl h
 ·refine .inr ⟨p,rfl,?_⟩
  have hne:q≠p:=by
   rintro rfl
   rw [hq] at hp
   simp only [Option.some.injEq,HB.cells.injEq] at hp
   cases hp.1
  have hpl:=(zA.1 hp).1
  rw [zF (by simpa using hpl),List.getElem?_set_ne hne];exact hp
theorem RwO.snoc {t:Heap} {l:List (List Gl)} {q:Nat} {R:List (List A)} (hq:t[q]? = some (.cells eRw R)) (hR:R.length=l.length) (hr:∀ (j:Nat) (r:List Gl),l[j]? = some r→∃ y,R[j]? = some [y]∧RowAt t y r) {y:A} {r:List Gl} {tail:Heap}
  (hy:RowAt (t.set q (.cells eRw (R++[[y]]))++tail) y r):RwO (t.set q (.cells eRw (R++[[y]]))++tail) (l++[r]) (.ref q (l.length+1) 0 (l.length+1) true):=by
 have hql:=(zA.1 hq).1
 refine ⟨q,R++[[y]],by rw [zb];rfl,?_,by rw [zb,zb,hR];rfl,fun j z hj=>?_⟩
 ·rw [zF (by simpa using hql),List.getElem?_set_self hql]
 ·rcases Nat.lt_or_ge j l.length with hlt | hge
  ·rw [zF hlt] at hj
   obtain ⟨y',h1,h2⟩:=hr j z hj
   exact ⟨y',by rw [zF (by omega)];exact h1,h2.keep hq _ _⟩
  ·have hjl:j=l.length:=by
    have:=(zA.1 hj).1
    simp at this;omega
   subst hjl
   rw [zG (zL _),Nat.sub_self] at hj
   cases hj
   exact ⟨y,by rw [zG (by omega),hR,Nat.sub_self];rfl,hy⟩
theorem RwO.frz {t:Heap} {l:List (List Gl)} {x:A} (h:RwO t l x):FrzA 0 t x (.d (.sl eRw (rwRows l))):=by
 obtain ⟨q,R,rfl,hq,hR,hr⟩:=h
 rw [← hR]
 have get:∀ {i:Nat} {r:List D},(rwRows l)[i]? = some r→∃ (hi:i<l.length) (x:A),r=[.sl eGl (glRows l[i])]∧R.getD (0+i) []=[x]∧RowAt t x l[i]:=by
  intro i r hi
  have hlt:i<l.length:=by have:=(zA.1 hi).1;rwa [rwRows_len] at this
  obtain ⟨x,h1,h2⟩:=hr i _ (zB hlt)
  refine ⟨hlt,x,?_,?_,h2⟩
  ·rw [rwRows,zK,zB hlt] at hi
   simpa using hi.symm
  ·rw [Nat.zero_add,zC,h1];rfl
 refine .d (.ref (zI _) hq (by rw [rwRows_len,hR]) (fun i r hi=>?_) (fun i r j d hi hj=>?_))
 ·obtain ⟨_,x,rfl,h2,_⟩:=get hi
  rw [h2];rfl
 ·obtain ⟨_,x,rfl,h2,h3⟩:=get hi
  rw [h2]
  match j,hj with
  | 0,hj=>simp at hj;subst hj;exact rowAt_frz h3
  | j+1,hj=>simp at hj
set_option maxHeartbeats 2000000 in
theorem rows18_fn {f fp:FuncId} (H:FnIs P f N [.t 8,.t 9] (x_ref18_Rows fp)) (hN:4≤N) (l:List (List Gl)) (top bot y:Int) (hl:l.length≤1000) (hlr:∀ r∈l,r.length≤100000) (hy : -1000≤y∧y≤1000)
  (Hp:FnP Γ P fp [.int l.length,.int top,.int bot,.int y] (.bool (possB l.length top bot y))) :
  FnP Γ P f [.d (.sl eRw (rwRows l)),.int top,.int bot,.int y] (.tup [.d (.sl eRw (rwRows (if possB l.length top bot y then scrollL l top bot y else []))),.int (if possB l.length top bot y then 0 else 2)]):=by
 refine .of_W H (by simpa using hN) ?_
 unfold x_ref18_Rows
 refine wR ?_;simp only [xq,reduceIte,qE,qA,qL,qD]
 refine W_seq ?_
 refine wR ?_;simp only [xq,reduceIte,qE,qA,qL,qD,rwRows_len]
 refine c_fn (Hp) rfl ?_;simp only [xq,reduceIte,qE,qA,qL,qD]
 refine W_cond rfl (fun hk=>?_) (fun hk=>W_skip ?_)
 ·have hk:possB l.length top bot y=false:=by simpa using hk
  refine wR ?_;simp only [xq,reduceIte,qE,qA,qL,qD]
  refine W_ret ⟨.inr rfl,?_⟩
  simp only [readRs,readR,single,xq,reduceIte,qE,qA,qL,qD]
  rw [hk]
  exact frzT2 (.d (.nil _)) (.same rfl)
 have hk:possB l.length top bot y=true:=by simpa using hk
 rw [hk,if_pos rfl,if_pos rfl]
 simp only [possB,zf,decide_eq_true_eq] at hk
 obtain ⟨⟨⟨⟨⟨k1,k2⟩,k3⟩,_⟩,_⟩,_⟩:=hk
 simp only [xq,reduceIte,qE,qA,qL,qD]
 refine wR ?_;simp only [xq,reduceIte,qE,qA,qL,qD]
 refine W_seq ?_
 refine wR ?_;simp only [xq,reduceIte,qE,qA,qL,qD]
 refine W_block ?_
 let S:A→Heap→Nat→St:=fun x t i=>⟨look [(0,.d (.sl eRw (rwRows l))),(1,.int top),(2,.int bot),(3,.int y),(10,x),(11,.int i)],t⟩
 refine W_co (s':=S (.ref 0 0 0 0 true) [.cells eRw []] 0) (Co.keep _ (by simp [x_upd,x_look])) ?_
 have hsl:(scrollL l top bot y).length=l.length:=scrollL_len
 refine W_loop (fun m s=>∃ i x t,i≤l.length∧m=l.length-i∧s=S x t i∧RwO t ((scrollL l top bot y).take i) x) ⟨0,_,_,zI _,rfl,rfl,⟨0,[],rfl,rfl,rfl,by simp⟩⟩ ?_
 rintro m s ⟨i,x,t,hi,rfl,rfl,ho⟩
 simp only [S]
 refine W_seq ?_
 refine wR ?_;simp only [xq,reduceIte,qE,qA,qL,qD,rwRows_len]
 refine W_cond rfl (fun hc=>W_skip ?_) (fun hc=>W_exit ?_)
 ·have hlt:i<l.length:=by simpa using hc
  have w1:IntKind.i64.wrap ((i:Int)+1)=((i+1:Nat):Int):=by rw [i64_of (by omega)];omega
  have w2:IntKind.i64.wrap ((i:Int)+y)=(i:Int)+y:=i64_of (by omega)
  have hsu:(scrollL l top bot y).take (i+1)=(scrollL l top bot y).take i++[scrollR l top bot y i]:=by
   rw [List.take_add_one,zB (by omega),Option.toList_some]
   congr 2
   simp [scrollL]
  obtain ⟨o,hod⟩:∃ o,o=(scrollL l top bot y).take i:=⟨_,rfl⟩
  have hol:o.length=i:=by rw [hod,List.length_take];omega
  rw [← hod] at ho hsu
  obtain ⟨q,R,rfl,hq,hR,hr⟩:=ho
  rw [hol]
  have hRi:R.length=i:=by omega
  have hql:=(zA.1 hq).1
  have gq:∀ t':Heap,(t++t')[q]? = some (.cells eRw R):=fun t'=>hp_gl hq
  have sq:∀ (t':Heap) X,(t++t').set q X=t.set q X++t':=fun t' X=>List.set_append_left _ _ hql
  have next:∀ (sl:Nat→A) (t2:Heap),sl 0 = .d (.sl eRw (rwRows l))→sl 1 = .int top→sl 2 = .int bot→sl 3 = .int y→sl 10 = .ref q (i+1) 0 (i+1) true→sl 11 = .int ((i+1:Nat):Int)→RwO t2 (o++[scrollR l top bot y i]) (.ref q (o.length+1) 0 (o.length+1) true) →
    ∃ m' s'',m'<l.length-i∧Co 0 ⟨sl,t2⟩ s''∧∃ i x t,i≤l.length∧m'=l.length-i∧s''=S x t i∧RwO t ((scrollL l top bot y).take i) x:=by
   intro sl t2 q0 q1 q2 q3 q10 q11 ho2
   rw [hol] at ho2
   exact ⟨l.length-(i+1),S (.ref q (i+1) 0 (i+1) true) t2 (i+1),by omega,Co.keep _ (by simp [q0,q1,q2,q3,q10,q11]),i+1,_,t2,hlt,rfl,rfl,by rw [hsu];exact ho2⟩
  have copy:∀ (r:List Gl),RwO (t.set q (.cells eRw (R++[[.ref t.length r.length 0 r.length true]]))++[rowB r,.cells eRw [[.ref t.length r.length 0 r.length true]]]) (o++[r]) (.ref q (o.length+1) 0 (o.length+1) true):=fun r =>
   RwO.snoc hq hR hr (.inr ⟨t.length,rfl,by rw [zG (by simp)];simp⟩)
  simp only [xq,reduceIte,qE,qA,qL,qD]
  refine W_seq (W_block (W_block ?_))
  refine W_seq ?_
  refine W_regK fun K hK=>?_
  have cut:∀ (sl:Nat→A),sl 0 = .d (.sl eRw (rwRows l))→sl 1 = .int top→sl 2 = .int bot→sl 3 = .int y→sl 10 = .ref q i 0 i true→sl 11 = .int i→sl 29 = .bool (decide ((i:Int)<top)||decide (bot≤(i:Int)))→K ⟨sl,t⟩:=by
   intro sl q0 q1 q2 q3 q10 q11 q29
   refine hK _ ?_
   refine W_co (s':=⟨look [(0,.d (.sl eRw (rwRows l))),(1,.int top),(2,.int bot),(3,.int y),(10,.ref q i 0 i true),(11,.int i),(29,.bool (decide ((i:Int)<top)||decide (bot≤(i:Int))))],t⟩) (Co.keep _ (by simp [q0,q1,q2,q3,q10,q11,q29])) ?_
   refine W_cond rfl (fun hd=>?_) (fun hd=>?_)
   ·have hd:(i:Int)<top∨bot≤(i:Int):=by simpa using hd
    have hrow:scrollR l top bot y i=l[i]:=by
     rw [scrollR,if_neg (by omega),zC,zB hlt];rfl
    have hli:=hlr _ (List.getElem_mem hlt)
    rw [hrow] at next
    refine W_reg ?_;simp only [xq,reduceIte,qE,qA,qL,qD,rwRows_len,rwRows_get hlt,zQ,hp_g0,hp_s0,hp_g1,zS,glRows_len,gq,sq,hRi]
    repeat refine And.intro (by omega) ?_
    refine ⟨by simp only [room];omega,by simp only [maxLen];omega,by simp only [room];omega,by simp only [maxLen];omega,?_⟩
    refine W_reg ?_;simp only [xq,reduceIte,qE,qA,qL,qD,w1]
    exact next _ _ rfl rfl rfl rfl rfl rfl (copy l[i])
   ·have hd:¬ ((i:Int)<top∨bot≤(i:Int)):=by simpa using hd
    let V:Bool→St:=fun z=>⟨look [(0,.d (.sl eRw (rwRows l))),(1,.int top),(2,.int bot),(3,.int y),(10,.ref q i 0 i true),(11,.int i),(47,.bool z)],t⟩
    refine W_cut (· = V (decide (top≤(i:Int)+y)&&decide ((i:Int)+y<bot))) (W_reg ?_) ?_
    ·cases e1:decide (top≤(i:Int)+y)
     ·simp only [xq,reduceIte,qE,qA,qL,qD,w2,e1,undefA,zE]
      exact ⟨_,Co.keep _ (by simp [x_upd,x_look]),rfl⟩
     ·simp only [xq,reduceIte,qE,qA,qL,qD,w2,e1,undefA,zE]
      exact ⟨_,Co.keep _ (by simp [x_upd,x_look]),rfl⟩
    rintro _ rfl
    simp only [V]
    refine W_cond rfl (fun hd2=>?_) (fun hd2=>?_)
    ·have hd2:top≤(i:Int)+y∧(i:Int)+y<bot:=by simpa using hd2
     obtain ⟨k,hk⟩:∃ k:Nat,(i:Int)+y=k:=⟨((i:Int)+y).toNat,by omega⟩
     have hkl:k<l.length:=by omega
     have hrow:scrollR l top bot y i=l[k]:=by
      rw [scrollR,if_pos (by omega),if_pos hd2,hk,rowAt,zQ,zC,zB hkl];rfl
     have hli:=hlr _ (List.getElem_mem hkl)
     rw [hrow] at next
     rw [hk] at w2
     refine W_reg ?_;simp only [xq,reduceIte,qE,qA,qL,qD,w2,hk,rwRows_len,rwRows_get hkl,zQ,hp_g0,hp_s0,hp_g1,zS,glRows_len,gq,sq,hRi]
     repeat refine And.intro (by omega) ?_
     refine ⟨by simp only [room];omega,by simp only [maxLen];omega,by simp only [room];omega,by simp only [maxLen];omega,?_⟩
     refine W_reg ?_;simp only [xq,reduceIte,qE,qA,qL,qD,w1]
     exact next _ _ rfl rfl rfl rfl rfl rfl (copy l[k])
    ·have hd2:¬ (top≤(i:Int)+y∧(i:Int)+y<bot):=by simpa using hd2
     have hrow:scrollR l top bot y i=[]:=by rw [scrollR,if_pos (by omega),if_neg hd2]
     rw [hrow] at next
     refine W_reg ?_;simp only [xq,reduceIte,qE,qA,qL,qD,hp_g0,hp_s0,hp_g1,zS,gq,sq,hRi]
     refine ⟨by simp only [room];omega,by simp only [maxLen];omega,?_⟩
     refine W_reg ?_;simp only [xq,reduceIte,qE,qA,qL,qD,w1]
     exact next _ _ rfl rfl rfl rfl rfl rfl (RwO.snoc (y:=.nil) (r:=[]) hq hR hr (.inl ⟨rfl,rfl⟩))
  cases e1:decide ((i:Int)<top)
  ·simp only [xq,reduceIte,qE,qA,qL,qD,hol,e1,undefA,zE]
   exact cut _ rfl rfl rfl rfl rfl rfl (by rw [e1];rfl)
  ·simp only [xq,reduceIte,qE,qA,qL,qD,hol,e1,undefA,zE]
   exact cut _ rfl rfl rfl rfl rfl rfl (by rw [e1];rfl)
 ·have hle:i=l.length:=by simp at hc;omega
  subst hle
  simp only [xq,reduceIte,qE,qA,qL,qD]
  refine wR ?_;simp only [xq,reduceIte,qE,qA,qL,qD]
  refine W_ret ⟨.inr rfl,?_⟩
  simp only [readRs,readR,single,xq,reduceIte,qE,qA,qL,qD]
  rw [List.take_of_length_le (by omega)] at ho
  exact frzT2 ho.frz (.same rfl)
theorem equal18_fn {f fs:FuncId} (H:FnIs P f N [.t 8] (x_ref18_equal fs)) (hN:4≤N) (a b:List (List Gl)) (top bot:Nat) (hb:bot≤1000) (htb:top≤bot) (ha:bot≤a.length) (hbb:bot≤b.length) (Hs:RowEqOk Γ P fs) :
  FnP Γ P f [.d (.sl eRw (rwRows a)),.d (.sl eRw (rwRows b)),.int top,.int bot] (.int (cntB (fun i=>decide (a.getD i []=b.getD i [])) top (bot-top))):=by
 refine .of_W H (by simpa using hN) ?_
 unfold x_ref18_equal
 let p:Nat→Bool:=fun i=>decide (a.getD i []=b.getD i [])
 refine wR ?_;simp only [xq,reduceIte,qE,qA,qL,qD]
 refine wR ?_;simp only [xq,reduceIte,qE,qA,qL,qD]
 refine W_seq ?_
 refine wR ?_;simp only [xq,reduceIte,qE,qA,qL,qD]
 refine W_block ?_
 let S:Nat→St:=fun k=>⟨look [(0,.d (.sl eRw (rwRows a))),(1,.d (.sl eRw (rwRows b))),(3,.int bot),(9,.int (cntB p top k)),(10,.int ((top+k:Nat):Int))],[]⟩
 refine W_co (s':=S 0) (Co.keep _ (by simp [x_upd,x_look,cntB])) ?_
 refine W_loop (fun m s=>∃ k,top+k≤bot∧m=bot-(top+k)∧s=S k) ⟨0,by omega,rfl,rfl⟩ ?_
 rintro m s ⟨k,hk,rfl,rfl⟩
 have hcb:=cntB_bnd p top k
 simp only [S]
 refine W_seq ?_
 refine wR ?_;simp only [xq,reduceIte,qE,qA,qL,qD]
 refine W_cond rfl (fun hc=>W_skip ?_) (fun hc=>W_exit ?_)
 ·have hlt:top+k<bot:=by simp only [decide_eq_true_eq] at hc;omega
  have w1:IntKind.i64.wrap (((top+k:Nat):Int)+1)=((top+(k+1):Nat):Int):=by rw [i64_of (by omega)];omega
  have w2:IntKind.i64.wrap (cntB p top k+1)=cntB p top k+1:=i64_of (by omega)
  have hla:top+k<a.length:=by omega
  have hlb:top+k<b.length:=by omega
  have ga:a.getD (top+k) []=a[top+k]:=by rw [zC,zB hla];rfl
  have gb:b.getD (top+k) []=b[top+k]:=by rw [zC,zB hlb];rfl
  simp only [xq,reduceIte,qE,qA,qL,qD]
  refine W_seq (W_block ?_)
  refine W_seq (W_drw (by simp) ?_);simp only [xq,reduceIte,qE,qA,qL,qD,zr,zP,rwRows_len,rwRows_get hla,rwRows_get hlb,zQ]
  refine ⟨by omega,by omega,by omega,by omega,?_⟩
  refine c_fn (Hs a[top+k] b[top+k]) rfl ?_;simp only [xq,reduceIte,qE,qA,qL,qD]
  refine W_cond rfl (fun hd=>?_) (fun hd=>W_skip ?_)
  ·have hsu:cntB p top (k+1)=cntB p top k+1:=by
    have:p (top+k)=true:=by simp only [p];rw [ga,gb];exact hd
    rw [cntB,this];rfl
   refine W_reg ?_;simp only [xq,reduceIte,qE,qA,qL,qD,w2]
   refine W_reg ?_;simp only [xq,reduceIte,qE,qA,qL,qD,w1]
   exact ⟨bot-(top+(k+1)),S (k+1),by omega,Co.keep _ (by simp [x_upd,x_look,hsu]),k+1,hlt,rfl,rfl⟩
  ·have hsu:cntB p top (k+1)=cntB p top k:=by
    have:p (top+k)=false:=by simp only [p];rw [ga,gb];exact hd
    rw [cntB,this];simp
   simp only [xq,reduceIte,qE,qA,qL,qD]
   refine W_reg ?_;simp only [xq,reduceIte,qE,qA,qL,qD,w1]
   exact ⟨bot-(top+(k+1)),S (k+1),by omega,Co.keep _ (by simp [x_upd,x_look,hsu]),k+1,hlt,rfl,rfl⟩
 ·have hle:k=bot-top:=by simp only [decide_eq_false_iff_not] at hc;omega
  subst hle
  simp only [xq,reduceIte,qE,qA,qL,qD]
  refine wR ?_;simp only [xq,reduceIte,qE,qA,qL,qD]
  refine W_ret (.tmp ?_ rfl)
  simp only [x_upd,reduceIte];rfl
theorem cntB_congr {p q:Nat→Bool} {t:Nat}:∀ {k:Nat},(∀ i,t≤i→i<t+k→p i=q i)→cntB p t k=cntB q t k
 | 0,_=>rfl
 | k+1,h=>by rw [cntB,cntB,cntB_congr (k:=k) (fun i h1 h2=>h i h1 (by omega)),h (t+k) (by omega) (by omega)]
set_option maxHeartbeats 1000000 in
theorem gain18_fn {f fm fr fe:FuncId} (H:FnIs P f N [.t 10] (x_ref18_Gain fm fr fe)) (hN:5≤N) (a b:Vw) (t u:Nat) (y:Int) (hm:matchV a b=true) (hal:a.rows.length≤1000) (htu:t≤u) (hu:u≤a.rows.length) (Hm:FnP Γ P fm [vwA a,vwA b] (.bool (matchV a b)))
  (Hr:FnP Γ P fr [.d (.sl eRw (rwRows a.rows)),.int t,.int u,.int y] (.tup [.d (.sl eRw (rwRows (if possB a.rows.length t u y then scrollL a.rows t u y else []))),.int (if possB a.rows.length t u y then 0 else 2)]))
  (He:∀ x z:List (List Gl),u≤x.length→u≤z.length→FnP Γ P fe [.d (.sl eRw (rwRows x)),.d (.sl eRw (rwRows z)),.int t,.int u] (.int (cntB (fun i=>decide (x.getD i []=z.getD i [])) t (u-t)))) :
  FnP Γ P f [vwA a,vwA b,.int t,.int u,.int y] (.int (gainR a.rows b.rows a.rows.length t u y)):=by
 refine .of_W H (by simpa using hN) ?_
 have hab:a.rows.length=b.rows.length:=by
  have h:=hm
  simp only [matchV,zf,decide_eq_true_eq] at h
  omega
 rw [hm] at Hm
 unfold x_ref18_Gain
 simp only [vwA,Vw.ds,zU,zV] at Hm ⊢
 refine wR ?_;simp only [xq,reduceIte,qE,qA,qL,qD]
 refine W_seq ?_
 refine wR ?_;simp only [xq,reduceIte,qE,qA,qL,qD]
 refine c_fn (Hm) rfl ?_;simp only [xq,reduceIte,qE,qA,qL,qD]
 refine W_cond rfl (fun hd=>by cases hd) (fun hd=>W_skip ?_)
 simp only [xq,reduceIte,qE,qA,qL,qD]
 refine wR ?_;simp only [xq,reduceIte,qE,qA,qL,qD,Vw.ds]
 refine c_fn (Hr) rfl ?_;simp only [xq,reduceIte,qE,qA,qL,qD]
 refine W_seq ?_
 refine wR ?_;simp only [xq,reduceIte,qE,qA,qL,qD]
 cases hp:possB a.rows.length t u y
 ·refine W_cond rfl (fun hd=>?_) (fun hd=>by simp [hp] at hd)
  refine wR ?_;simp only [xq,reduceIte,qE,qA,qL,qD]
  refine W_ret (.tmp ?_ rfl)
  simp only [x_upd,reduceIte,gainR,hp,Bool.false_eq_true,if_false]
 ·refine W_cond rfl (fun hd=>by simp [hp] at hd) (fun hd=>W_skip ?_)
  have e1:=He (scrollL a.rows t u y) b.rows (by rw [scrollL_len];omega) (by omega)
  have e2:=He a.rows b.rows (by omega) (by omega)
  have hg:gainV a.rows b.rows t u y=cntB (fun i=>decide ((scrollL a.rows t u y).getD i []=b.rows.getD i [])) t (u-t)-cntB (fun i=>decide (a.rows.getD i []=b.rows.getD i [])) t (u-t):=by
   rw [gainV,zQ,show ((u:Int)-(t:Int)).toNat=u-t by omega]
   congr 1
   refine cntB_congr fun i h1 h2=>?_
   have hi:i<a.rows.length:=by omega
   have:(scrollL a.rows t u y).getD i []=scrollR a.rows t u y i:=by
    rw [zC,scrollL,zK,List.getElem?_range hi];rfl
   rw [this,scrollR,if_pos (by omega),scrEq]
   split
   ·rfl
   ·rw [decide_eq_decide];exact eq_comm
  have b1:=cntB_bnd (fun i=>decide ((scrollL a.rows t u y).getD i []=b.rows.getD i [])) t (u-t)
  have b2:=cntB_bnd (fun i=>decide (a.rows.getD i []=b.rows.getD i [])) t (u-t)
  rw [gainR,hp,if_pos rfl,hg]
  simp only [if_true]
  generalize cntB (fun i=>decide ((scrollL a.rows t u y).getD i []=b.rows.getD i [])) t (u-t)=n1 at *
  generalize cntB (fun i=>decide (a.rows.getD i []=b.rows.getD i [])) t (u-t)=n2 at *
  have w1:IntKind.i64.wrap (n1-n2)=n1-n2:=i64_of (by omega)
  simp only [xq,reduceIte,qE,qA,qL,qD]
  refine W_seq (W_drw (by simp) ?_);simp only [xq,reduceIte,qE,qA,qL,qD,Vw.ds,zr,zP]
  refine c_fn (e1) rfl ?_;simp only [xq,reduceIte,qE,qA,qL,qD,Vw.ds]
  refine c_fn (e2) rfl ?_;simp only [xq,reduceIte,qE,qA,qL,qD,w1]
  refine W_ret (.tmp ?_ rfl)
  simp only [x_upd,reduceIte]
end Go.Proofs.YtigfbnglplbbpaaGreatDoor.Nx
namespace Go.Proofs.YtigfbnglplbbpaaGreatDoor.Nx
open Go
variable {P:Program} {N:Nat} {Γ:Tabs}
def cmR (c:Cand):List A:=if c.gain≤1 then [.int 0,.int 0,.int 0,.int 0,.int 0,.nil] else [.int 2,.int c.top,.int 0,.int c.by',.int c.bot,.nil]
abbrev cmB (c:Cand):HB:=.cells eCg [cmR c]
theorem cmR_lit (c:Cand):∃ p q r s t:Int,cmR c=[.int p,.int q,.int r,.int s,.int t,.nil]:=by
 unfold cmR
 split
 ·exact ⟨_,_,_,_,_,rfl⟩
 ·exact ⟨_,_,_,_,_,rfl⟩
def sgL (a b:List (List Gl)) (n s:Nat):Nat→List Cand
 | 0=>rsT a b n s n 0++rsT a b n (-(s:Int)) n 0
 | 1=>rsT a b n (-(s:Int)) n 0
 | _=>[]
def sgV (s:Nat):Nat→Int
 | 0=>s
 | _ => -(s:Int)
abbrev Gain18Ok (Γ:Tabs) (P:Program) (f:FuncId) (a b:Vw):Prop:=∀ (t u:Nat) (y:Int),t≤u→u≤a.rows.length → -1000≤y∧y≤1000→FnP Γ P f [vwA a,vwA b,.int t,.int u,.int y] (.int (gainR a.rows b.rows a.rows.length t u y))
set_option maxHeartbeats 4000000 in
theorem find18_fn {f fm fg:FuncId} (H:FnIs P f N [.c 4 6 true,.t 5] (x_ref18_Find fm fg)) (hN:2≤N) (a b:Vw) (hal:a.rows.length≤1000) (Hm:FnP Γ P fm [vwA a,vwA b] (.bool (matchV a b))) (Hg:matchV a b=true→Gain18Ok Γ P fg a b) :
  FnP Γ P f [vwA a,vwA b] (fndA (findV a b)):=by
 refine .of_W H (by simpa using hN) ?_
 rw [findV_most]
 unfold x_ref18_Find
 have hm0:=Hm
 simp only [vwA,Vw.ds,zU,zV] at hm0 ⊢
 refine wR ?_;simp only [xq,reduceIte,qE,qA,qL,qD]
 refine wR ?_;simp only [xq,reduceIte,qE,qA,qL,qD]
 refine W_seq ?_
 refine wR ?_;simp only [xq,reduceIte,qE,qA,qL,qD]
 refine c_fn (hm0) rfl ?_;simp only [xq,reduceIte,qE,qA,qL,qD]
 have frz6:∀ (h:Heap) (p q r s t:Int) (z:Bool),FrzA 0 h (.tup [.agg [.int p,.int q,.int r,.int s,.int t,.nil],.bool z]) (fndA (⟨p,q,r,s,t,[]⟩,z)):=fun h p q r s t z=>by
  refine frzT2 (.agg rfl fun j y hj=>?_) (.same rfl)
  rcases j with _ | _ | _ | _ | _ | _ | j
  ·cases hj;exact .same rfl
  ·cases hj;exact .same rfl
  ·cases hj;exact .same rfl
  ·cases hj;exact .same rfl
  ·cases hj;exact .same rfl
  ·cases hj;exact .d (.nil _)
  ·simp [Cg.ds] at hj
 refine W_cond rfl (fun hk=>?_) (fun hk=>W_skip ?_)
 ·have hk:matchV a b=false:=by simpa using hk
  refine wR ?_;simp only [xq,reduceIte,qE,qA,qL,qD]
  refine W_ret ⟨.inr rfl,?_⟩
  simp only [readRs,readR,single,x_upd,reduceIte,qE,x_look,argS,xq,reduceIte,qE,qA,qL,qD,loadsTo]
  rw [if_neg (by rw [hk];decide)]
  exact frz6 _ _ _ _ _ _ _
 have hk:matchV a b=true:=by simpa using hk
 have Hg:=Hg hk
 rw [if_pos hk]
 have hab:a.height=(a.rows.length:Int):=by
  have h:=hk
  simp only [matchV,zf,decide_eq_true_eq] at h
  omega
 obtain ⟨n,hn⟩:∃ n,n=a.rows.length:=⟨_,rfl⟩
 rw [← hn] at hab hal
 have Hg:∀ (t u:Nat) (y:Int),t≤u→u≤n → -1000≤y∧y≤1000→FnP Γ P fg [vwA a,vwA b,.int t,.int u,.int y] (.int (gainR a.rows b.rows n t u y)):=by rw [hn];exact Hg
 rw [← hn]
 simp only [xq,reduceIte,qE,qA,qL,qD]
 let zc:HB:=.cells eCg [[.int 0,.int 0,.int 0,.int 0,.int 0,.nil]]
 let Hp:Cand→Heap:=fun c=>[vwB a,vwB b,zc,cmB c]
 let base:Cand→List (Nat × A):=fun c=>[(2,.ptr 0 1 0 0),(3,.ptr 1 1 0 0),(4,.ptr 2 1 0 0),(6,.ptr 3 1 0 0),(7,.int c.gain)]
 refine W_cut (· = ⟨look [(4,.ptr 2 1 0 0),(6,.ptr 3 1 0 0),(7,.int (mostC a.rows b.rows n).gain)],Hp (mostC a.rows b.rows n)⟩) ?_ ?_
 ·refine wR ?_;simp only [xq,reduceIte,qE,qA,qL,qD]
  refine W_block ?_
  let S1:Nat→Cand→St:=fun s c=>⟨look ((8,.int s)::base c),Hp c⟩
  refine W_co (s':=S1 1 one0) (Co.keep _ (by simp [base,x_upd,x_look,one0])) ?_
  refine W_loop (fun m s=>∃ sz c,1≤sz∧m=n-sz∧s=S1 sz c∧(rsA a.rows b.rows n (n-sz) sz).foldl stepM c=mostC a.rows b.rows n∧1≤c.gain) ⟨1,one0,zL _,rfl,rfl,rfl,Int.le_refl _⟩ ?_
  rintro m s ⟨sz,c,hs1,rfl,rfl,hfin,hcg⟩
  simp only [S1,base,Hp]
  refine W_seq ?_
  refine wR ?_;simp only [xq,reduceIte,qE,qA,qL,qD,Vw.ds,hab]
  refine W_cond rfl (fun hc=>W_skip ?_) (fun hc=>W_exit ?_)
  ·have hlt:sz<n:=by simp only [decide_eq_true_eq] at hc;omega
   have ws:IntKind.i64.wrap ((sz:Int)+1)=((sz+1:Nat):Int):=by rw [i64_of (by omega)];omega
   obtain ⟨r0,hr0⟩:∃ r,n-sz=r+1:=⟨n-sz-1,by omega⟩
   rw [hr0,rsA,List.foldl_append] at hfin
   obtain ⟨fin1,hf1⟩:∃ x,x=(rsS a.rows b.rows n sz).foldl stepM c:=⟨_,rfl⟩
   rw [← hf1] at hfin
   simp only [xq,reduceIte,qE,qA,qL,qD]
   refine W_seq (W_block ?_)
   refine wR ?_;simp only [xq,reduceIte,qE,qA,qL,qD]
   refine W_block ?_
   let S2:Nat→Cand→St:=fun k c=>⟨look ((9,.int (1-2 * (k:Int)))::(8,.int sz)::base c),Hp c⟩
   refine W_co (s':=S2 0 c) (Co.keep _ (by simp [base,x_upd,x_look,Vw.ds])) ?_
   refine W_loop (fun m s=>∃ k c,k≤2∧m=2-k∧s=S2 k c∧(sgL a.rows b.rows n sz k).foldl stepM c=fin1∧1≤c.gain) ⟨0,c,by omega,rfl,rfl,hf1.symm,hcg⟩ ?_
   clear hf1 hcg c
   rintro m s ⟨k,c,hk2,rfl,rfl,hsg,hcg⟩
   simp only [S2,base,Hp]
   refine W_seq ?_
   refine wR ?_;simp only [xq,reduceIte,qE,qA,qL,qD]
   refine W_cond rfl (fun hc=>W_skip ?_) (fun hc=>W_exit ?_)
   ·have hk1:k≤1:=by simp only [decide_eq_true_eq] at hc;omega
    have wk:IntKind.i64.wrap (1-2 * (k:Int)-2)=1-2 * ((k+1:Nat):Int):=by rw [i64_of (by omega)];omega
    obtain ⟨y,hyd⟩:∃ y:Int,y=sgV sz k:=⟨_,rfl⟩
    have hy : -1000≤y∧y≤1000:=by rw [hyd];unfold sgV;split<;>omega
    have wm:IntKind.i64.wrap ((1-2 * (k:Int)) * (sz:Int))=y:=by
     have hk01:k=0∨k=1:=by omega
     rcases hk01 with rfl | rfl
     ·rw [hyd,i64_of (by omega)];simp only [sgV];omega
     ·rw [hyd,i64_of (by omega)];simp only [sgV];omega
    have hsplit:sgL a.rows b.rows n sz k=rsT a.rows b.rows n y n 0++sgL a.rows b.rows n sz (k+1):=by
     have hk01:k=0∨k=1:=by omega
     rcases hk01 with rfl | rfl
     ·rw [hyd];rfl
     ·rw [hyd];simp only [sgL,sgV,zP]
    rw [hsplit,List.foldl_append] at hsg
    obtain ⟨fin2,hf2⟩:∃ x,x=(rsT a.rows b.rows n y n 0).foldl stepM c:=⟨_,rfl⟩
    rw [← hf2] at hsg
    simp only [xq,reduceIte,qE,qA,qL,qD]
    refine W_seq (W_block ?_)
    refine wR ?_;simp only [xq,reduceIte,qE,qA,qL,qD]
    refine W_block ?_
    let S3:Nat→Cand→St:=fun t c=>⟨look ((10,.int t)::(9,.int (1-2 * (k:Int)))::(8,.int sz)::base c),Hp c⟩
    refine W_co (s':=S3 0 c) (Co.keep _ (by simp [base,x_upd,x_look])) ?_
    refine W_loop (fun m s=>∃ t c,t≤n∧m=n-t∧s=S3 t c∧(rsT a.rows b.rows n y (n-t) t).foldl stepM c=fin2∧1≤c.gain) ⟨0,c,zI _,rfl,rfl,hf2.symm,hcg⟩ ?_
    clear hf2 hcg c
    rintro m s ⟨t,c,ht,rfl,rfl,htp,hcg⟩
    simp only [S3,base,Hp]
    refine W_seq ?_
    refine wR ?_;simp only [xq,reduceIte,qE,qA,qL,qD,Vw.ds,hab]
    refine W_cond rfl (fun hc=>W_skip ?_) (fun hc=>W_exit ?_)
    ·have htl:t<n:=by simp only [decide_eq_true_eq] at hc;omega
     have wt:IntKind.i64.wrap ((t:Int)+1)=((t+1:Nat):Int):=by rw [i64_of (by omega)];omega
     obtain ⟨r1,hr1⟩:∃ r,n-t=r+1:=⟨n-t-1,by omega⟩
     rw [hr1,rsT,List.foldl_append] at htp
     obtain ⟨fin3,hf3⟩:∃ x,x=(rsB a.rows b.rows n y t (n-t)).foldl stepM c:=⟨_,rfl⟩
     rw [← hf3] at htp
     simp only [xq,reduceIte,qE,qA,qL,qD]
     refine W_seq (W_block ?_)
     refine wR ?_;simp only [xq,reduceIte,qE,qA,qL,qD,Vw.ds,hab]
     refine W_block ?_
     let S4:Nat→Cand→St:=fun j c=>⟨look ((11,.int ((t+j:Nat):Int))::(10,.int t)::(9,.int (1-2 * (k:Int)))::(8,.int sz)::base c),Hp c⟩
     refine W_co (s':=S4 (n-t) c) (Co.keep _ (by simp [base,x_upd,x_look,Vw.ds];omega)) ?_
     refine W_loop (fun m s=>∃ j c,j≤n-t∧m=j∧s=S4 j c∧(rsB a.rows b.rows n y t j).foldl stepM c=fin3∧1≤c.gain) ⟨n-t,c,zL _,rfl,rfl,hf3.symm,hcg⟩ ?_
     clear hf3 hcg c
     rintro m s ⟨j,c,hj,rfl,rfl,hbt,hcg⟩
     simp only [S4,base,Hp]
     refine W_seq ?_
     refine wR ?_;simp only [xq,reduceIte,qE,qA,qL,qD]
     refine W_cond rfl (fun hc=>W_skip ?_) (fun hc=>W_exit ?_)
     ·obtain ⟨i,rfl⟩:∃ i,m=i+1:=⟨m-1,by simp only [decide_eq_true_eq] at hc;omega⟩
      have wu:IntKind.i64.wrap (((t+(i+1):Nat):Int)-1)=((t+i:Nat):Int):=by rw [i64_of (by omega)];omega
      rw [rsB,List.foldl_cons,show t+1+i=t+(i+1) by omega] at hbt
      have hG:=Hg t (t+(i+1)) y (by omega) (by omega) hy
      simp only [vwA,Vw.ds,zU,zV] at hG
      obtain ⟨g,hgd⟩:∃ g,g=gainR a.rows b.rows n t (t+(i+1):Nat) y:=⟨_,rfl⟩
      rw [← hgd] at hG hbt
      simp only [xq,reduceIte,qE,qA,qL,qD]
      refine W_seq (W_block ?_)
      refine wR ?_;simp only [xq,reduceIte,qE,qA,qL,qD,Vw.ds,wm]
      refine c_fn (hG) rfl ?_;simp only [xq,reduceIte,qE,qA,qL,qD]
      refine wR ?_;simp only [xq,reduceIte,qE,qA,qL,qD]
      refine W_cond rfl (fun hz=>?_) (fun hz=>W_skip ?_)
      ·have hz:=of_decide_eq_true hz
       have hst:stepM c ⟨g,t,(t+(i+1):Nat),y⟩=⟨g,t,(t+(i+1):Nat),y⟩:=by rw [stepM,if_pos hz]
       rw [hst] at hbt
       obtain ⟨z1,z2,z3,z4,z5,hrow⟩:=cmR_lit c
       have hnew:cmR ⟨g,t,(t+(i+1):Nat),y⟩=[.int 2,.int t,.int 0,.int y,.int ((t+(i+1):Nat):Int),.nil]:=by
        unfold cmR
        rw [if_neg (by simp only;omega)]
       refine wR ?_;simp only [xq,reduceIte,qE,qA,qL,qD]
       refine W_reg ?_;simp only [xq,reduceIte,qE,qA,qL,qD,wm,cmB,hrow]
       refine W_reg ?_;simp only [xq,reduceIte,qE,qA,qL,qD,wu]
       refine ⟨i,S4 i ⟨g,t,(t+(i+1):Nat),y⟩,by omega,?_,i,_,by omega,rfl,rfl,hbt,by simp only;omega⟩
       simp only [S4,base,Hp,cmB,hnew]
       exact Co.keep _ (by simp [x_upd,x_look,Vw.ds])
      ·have hz:=of_decide_eq_false hz
       have hst:stepM c ⟨g,t,(t+(i+1):Nat),y⟩=c:=by rw [stepM,if_neg hz]
       rw [hst] at hbt
       simp only [xq,reduceIte,qE,qA,qL,qD]
       refine W_reg ?_;simp only [xq,reduceIte,qE,qA,qL,qD,wu]
       exact ⟨i,S4 i c,by omega,Co.keep _ (by simp [base,x_upd,x_look]),i,c,by omega,rfl,rfl,hbt,hcg⟩
     ·have hj0:m=0:=by simp only [decide_eq_false_iff_not] at hc;omega
      subst hj0
      rw [rsB,List.foldl_nil] at hbt
      rw [← hbt] at htp
      simp only [xq,reduceIte,qE,qA,qL,qD]
      refine W_reg ?_;simp only [xq,reduceIte,qE,qA,qL,qD,wt]
      refine ⟨n-(t+1),S3 (t+1) c,by omega,Co.keep _ (by simp [base,x_upd,x_look]),t+1,c,htl,rfl,rfl,?_,hcg⟩
      rw [show n-(t+1)=r1 by omega];exact htp
    ·have hle:t=n:=by simp only [decide_eq_false_iff_not] at hc;omega
     subst hle
     rw [Nat.sub_self,rsT,List.foldl_nil] at htp
     rw [← htp] at hsg
     simp only [xq,reduceIte,qE,qA,qL,qD]
     refine W_reg ?_;simp only [xq,reduceIte,qE,qA,qL,qD,wk]
     exact ⟨2-(k+1),S2 (k+1) c,by omega,Co.keep _ (by simp [base,x_upd,x_look,Vw.ds]),k+1,c,by omega,rfl,rfl,hsg,hcg⟩
   ·have hle:k=2:=by simp only [decide_eq_false_iff_not] at hc;omega
    subst hle
    rw [sgL,List.foldl_nil] at hsg
    ·rw [← hsg] at hfin
     simp only [xq,reduceIte,qE,qA,qL,qD]
     refine W_reg ?_;simp only [xq,reduceIte,qE,qA,qL,qD,ws]
     refine ⟨n-(sz+1),S1 (sz+1) c,by omega,Co.keep _ (by simp [base,x_upd,x_look]),sz+1,c,by omega,rfl,rfl,?_,hcg⟩
     rw [show n-(sz+1)=r0 by omega];exact hfin
    ·omega
    ·omega
  ·have hge:¬ sz<n:=by simp only [decide_eq_false_iff_not] at hc;omega
   rw [show n-sz=0 by omega,rsA,List.foldl_nil] at hfin
   simp only [xq,reduceIte,qE,qA,qL,qD]
   exact ⟨_,Co.keep [(4,.ptr 2 1 0 0),(6,.ptr 3 1 0 0),(7,.int c.gain)] (by simp [x_upd,x_look,Vw.ds]),by rw [hfin]⟩
 rintro _ rfl
 generalize mostC a.rows b.rows n=c
 by_cases hg:c.gain≤1
 ·have hrow:cmR c=[.int 0,.int 0,.int 0,.int 0,.int 0,.nil]:=by unfold cmR;rw [if_pos hg]
  have hcm:cgM c=⟨0,0,0,0,0,[]⟩:=by unfold cgM;rw [if_pos hg]
  rw [hcm]
  refine wR ?_;simp only [xq,reduceIte,qE,qA,qL,qD,Hp,zc,cmB,hrow]
  refine W_ret ⟨.inr rfl,?_⟩
  simp only [readRs,readR,single,x_upd,reduceIte,qE,x_look,argS,xq,reduceIte,qE,qA,qL,qD,loadsTo]
  exact frz6 _ _ _ _ _ _ _
 ·have hrow:cmR c=[.int 2,.int c.top,.int 0,.int c.by',.int c.bot,.nil]:=by unfold cmR;rw [if_neg hg]
  have hcm:cgM c=⟨2,c.top,0,c.by',c.bot,[]⟩:=by unfold cgM;rw [if_neg hg]
  rw [hcm]
  refine wR ?_;simp only [xq,reduceIte,qE,qA,qL,qD,Hp,zc,cmB,hrow]
  refine W_ret ⟨.inr rfl,?_⟩
  simp only [readRs,readR,single,x_upd,reduceIte,qE,x_look,argS,xq,reduceIte,qE,qA,qL,qD,loadsTo]
  exact frz6 _ _ _ _ _ _ _
end Go.Proofs.YtigfbnglplbbpaaGreatDoor.Nx

import Derived.Test.YtlllnjhgjijnkaaDoorNxE21
set_option linter.unusedSimpArgs false
set_option linter.unusedVariables false
set_option linter.unnecessarySimpa false
namespace Go.Proofs.YtlllnjhgjijnkaaDoor.Nx
open Go
structure Cand where
 gain:Int
 top:Int
 bot:Int
 by':Int
 deriving DecidableEq
def cand0:Cand:=⟨0,0,0,0⟩
def scrEq (a b:List (List Gl)) (top bot y:Int) (i:Nat):Bool :=
 if top≤(i:Int)+y∧(i:Int)+y<bot then decide (rowAt a ((i:Int)+y)=b.getD i []) else decide (b.getD i []=[])
def cntB (p:Nat→Bool) (top:Nat):Nat→Int
 | 0=>0
 | k+1=>cntB p top k+if p (top+k) then 1 else 0
def gainV (a b:List (List Gl)) (top bot y:Int):Int :=
 cntB (scrEq a b top bot y) top.toNat (bot-top).toNat-cntB (fun i=>decide (a.getD i []=b.getD i [])) top.toNat (bot-top).toNat
def absI (y:Int):Int:=max y (-y)
def betterC (c d:Cand):Bool :=
 if c=d then false else if c.gain≠d.gain then decide (d.gain<c.gain) else if absI c.by'≠absI d.by' then decide (absI c.by'<absI d.by') else if c.by'≠d.by' then decide (0<c.by')
 else if c.top≠d.top then decide (c.top<d.top) else decide (d.bot<c.bot)
def stepC (a b:List (List Gl)) (y top:Int) (best:Cand) (bot:Int):Cand :=
 if 2≤gainV a b top bot y∧(best=cand0∨betterC ⟨gainV a b top bot y,top,bot,y⟩ best=true) then ⟨gainV a b top bot y,top,bot,y⟩ else best
def botC (a b:List (List Gl)) (y top:Int):Nat→Int→Cand→Cand
 | 0,_,best=>best
 | k+1,bot,best=>botC a b y top k (bot+1) (stepC a b y top best bot)
def topC (a b:List (List Gl)) (n:Nat) (y:Int):Nat→Nat→Cand→Cand
 | 0,_,best=>best
 | k+1,top,best=>topC a b n y k (top+1) (if y=0 then best else botC a b y top ((n:Int)+1-(top+absI y+1)).toNat (top+absI y+1) best)
def byC (a b:List (List Gl)) (n:Nat):Nat→Int→Cand→Cand
 | 0,_,best=>best
 | k+1,y,best=>byC a b n k (y+1) (topC a b n y n 0 best)
def bestC (a b:List (List Gl)) (n:Nat):Cand:=byC a b n (2 * n-1) (1-n) cand0
def matchV (a b:Vw):Bool:=(decide (a.height=b.height)&&decide ((a.rows.length:Int)=a.height))&&decide ((b.rows.length:Int)=b.height)
def findV (a b:Vw):Cg × Bool :=
 if matchV a b then (if (bestC a.rows b.rows a.rows.length).gain<2 then (⟨0,0,0,0,0,[]⟩,false)
  else (⟨2,(bestC a.rows b.rows a.rows.length).top,0,(bestC a.rows b.rows a.rows.length).by',(bestC a.rows b.rows a.rows.length).bot,[]⟩,true))
 else (⟨0,0,0,0,0,[]⟩,false)
theorem findV_form {a b:Vw} (h:(findV a b).2=true):(findV a b).1.kind=2∧(findV a b).1.col=0∧(findV a b).1.gl=[]:=by
 unfold findV at h ⊢
 split at h
 ·rename_i hm
  split at h
  ·cases h
  ·rename_i hg;rw [if_pos hm,if_neg hg];exact ⟨rfl,rfl,rfl⟩
 ·cases h
def cost20:List Cg→Int
 | []=>0
 | c::l=>(if c.kind=1∨c.kind=4 then 1 else if c.kind=2 then 3 else if c.kind=3 then cost1 c else 0)+cost20 l
theorem cost20_app:∀ (a b:List Cg),cost20 (a++b)=cost20 a+cost20 b
 | [],b=>by simp [cost20]
 | c::a,b=>by rw [List.cons_append,cost20,cost20,cost20_app a b];omega
def m20 (a b:Vw):Vw:=if a.width=b.width∧a.height=b.height then a else sizeV a b.height b.width
def pre20 (a b:Vw):List Cg:=if a.width=b.width∧a.height=b.height then [] else [sizeCg b]
def oth20 (m b:Vw):List Cg:=(findV m b).1::restV (applyV m [(findV m b).1]).1 b
def way20 (m b:Vw):List Cg:=if (findV m b).2=true∧(applyV m [(findV m b).1]).2.2=0∧cost20 (oth20 m b)<cost20 (restV m b) then oth20 m b else restV m b
def diffV (a b:Vw):List Cg:=if viewC a=0∧viewC b=0 then pre20 a b++way20 (m20 a b) b else []
theorem sizeCg_ok {a b:Vw} (hb:viewC b=0):chgC a (sizeCg b)=0:=by
 obtain ⟨eb,_⟩:=viewC_zero.1 hb
 have hs:=szOk_iff.1 eb.sz
 unfold chgC sizeCg
 rw [if_pos (btw_iff.2 (by simp)),if_pos (by simp [blankG]),if_pos]
 ·rfl
 ·simp only [rangeG,if_true,Bool.and_eq_true,btw_iff]
  omega
theorem sizeCg_step {a b:Vw}:stepV a (sizeCg b)=sizeV a b.height b.width:=by simp [stepV,sizeCg]
theorem sized_apply {a b:Vw} (ha:viewC a=0) (hb:viewC b=0):applyV a [sizeCg b]=(sizeV a b.height b.width,0,0):=by
 rw [apply_one ha (sizeCg_ok hb),wide_step ha (sizeCg_ok hb) (by simp [sizeCg]),sizeCg_step];rfl
theorem m20_ok {a b:Vw} (ha:viewC a=0) (hb:viewC b=0):viewC (m20 a b)=0∧(m20 a b).width=b.width∧(m20 a b).height=b.height:=by
 unfold m20
 split
 ·rename_i h;exact ⟨ha,h.1,h.2⟩
 ·have:=(applyV_ends a [sizeCg b]).1 (by rw [sized_apply ha hb])
  rw [sized_apply ha hb] at this
  exact ⟨this.2.2,rfl,rfl⟩
theorem run_way {m b:Vw} (hm:viewC m=0) (hb:viewC b=0) (hw:m.width=b.width) (hh:m.height=b.height) (k:Int):runV m k (way20 m b)=(b,0,0):=by
 have em:=(viewC_zero.1 hm).1
 unfold way20
 split
 ·rename_i h
  obtain ⟨h1,h2,_⟩:=h
  have hc:chgC m (findV m b).1=0:=by
   rw [applyV,if_pos hm,runV] at h2
   split at h2
   ·assumption
   ·rename_i hc;exact absurd h2 hc
  have hk:=(findV_form h1).1
  have ha:applyV m [(findV m b).1]=(stepV m (findV m b).1,0,0):=by rw [apply_one hm hc,wide_step hm hc (by omega)];rfl
  unfold oth20
  rw [ha,runV,if_pos hc]
  have es:=em.step hc
  have hst:stepV m (findV m b).1={ m with rows:=scrollL m.rows (findV m b).1.row (findV m b).1.upto (findV m b).1.count }:=by
   unfold stepV;rw [if_neg (by omega),if_pos hk]
  refine run_rest es hb ?_ ?_ _
  ·rw [hst];exact hh
  ·rw [hst];exact hw
 ·exact run_rest em hb hh hw k
theorem run_diff {a b:Vw} (ha:viewC a=0) (hb:viewC b=0):applyV a (diffV a b)=(b,0,0):=by
 obtain ⟨h1,h2,h3⟩:=m20_ok ha hb
 rw [applyV,if_pos ha,diffV,if_pos ⟨ha,hb⟩]
 have hw:=run_way h1 hb h2 h3
 unfold pre20 m20 at *
 split
 ·rename_i h
  simp only [if_pos h] at hw
  exact hw 0
 ·rename_i h
  simp only [if_neg h] at hw
  rw [List.singleton_append,runV,if_pos (sizeCg_ok hb),sizeCg_step]
  exact hw _
theorem runOk_way {m b:Vw} (hm:viewC m=0) (hb:viewC b=0) (hh:m.height=b.height) (sm:Sm m 20000) (sb:Sm b 20000):RunOk m (way20 m b):=by
 have em:=(viewC_zero.1 hm).1
 unfold way20
 split
 ·rename_i h
  obtain ⟨h1,h2,_⟩:=h
  have hk:=(findV_form h1).1
  unfold oth20
  refine ⟨sm.mono (by omega),fun hc=>?_⟩
  have ha:applyV m [(findV m b).1]=(stepV m (findV m b).1,0,0):=by rw [apply_one hm hc,wide_step hm hc (by omega)];rfl
  rw [ha]
  have hst:stepV m (findV m b).1={ m with rows:=scrollL m.rows (findV m b).1.row (findV m b).1.upto (findV m b).1.count }:=by
   unfold stepV;rw [if_neg (by omega),if_pos hk]
  refine runOk_rest (em.step hc) hb (by rw [hst];exact hh) ?_ sb
  rw [hst]
  refine ⟨fun r hr=>?_,fun r hr g hg=>?_⟩
  ·rcases scrollL_mem hr with rfl | hr
   ·exact Nat.zero_le _
   ·exact sm.row r hr
  ·rcases scrollL_mem hr with rfl | hr
   ·simp at hg
   ·exact sm.txt r hr g hg
 ·exact runOk_rest em hb hh sm sb
theorem m20_sm {a b:Vw} {n:Nat} (s:Sm a n):Sm (m20 a b) n:=by
 unfold m20
 split
 ·exact s
 ·exact sizeV_sm s
theorem runOk_diff {a b:Vw} (ha:viewC a=0) (hb:viewC b=0) (sa:Sm a 20000) (sb:Sm b 20000):RunOk a (diffV a b):=by
 obtain ⟨h1,h2,h3⟩:=m20_ok ha hb
 have hw:=runOk_way h1 hb h3 (m20_sm sa) sb
 rw [diffV,if_pos ⟨ha,hb⟩]
 unfold pre20 m20 at *
 split
 ·rename_i h
  simp only [if_pos h] at hw
  exact hw
 ·rename_i h
  simp only [if_neg h] at hw
  refine ⟨sa.mono (by omega),fun hc=>?_⟩
  rw [sizeCg_step]
  exact hw
theorem rest_ok {x b:Vw} (sb:Sm b 140):∀ c∈restV x b,CgOk c:=by
 intro c hc
 unfold restV at hc
 rcases List.mem_append.1 hc with hc | hc
 ·obtain ⟨i,_,hc⟩:=splicesTo_mem hc
  have h1:=splices_gl hc
  have h2:=splices_mem hc
  rcases getD_mem (rows:=b.rows) (n:=i) with h3 | h3
  ·rw [h3] at h1 h2
   exact ⟨by rw [List.length_nil] at h1;omega,fun g hg=>by have:=h2 g hg;simp at this⟩
  ·exact ⟨by have:=sb.row _ h3;omega,fun g hg=>sb.txt _ h3 g (h2 g hg)⟩
 ·unfold cursorV at hc
  split at hc
  ·simp at hc
  ·simp only [List.mem_singleton] at hc
   subst hc
   exact ⟨by simp,by simp⟩
theorem way_ok {m b:Vw} (sb:Sm b 140):∀ c∈way20 m b,CgOk c:=by
 intro c hc
 unfold way20 at hc
 split at hc
 ·rename_i h
  rcases List.mem_cons.1 hc with rfl | hc
  ·have hg:=(findV_form h.1).2.2
   exact ⟨by rw [hg];simp,by rw [hg];simp⟩
  ·exact rest_ok sb c hc
 ·exact rest_ok sb c hc
theorem diff_ok {a b:Vw} (sb:Sm b 140):∀ c∈diffV a b,CgOk c:=by
 intro c hc
 unfold diffV at hc
 split at hc
 ·rcases List.mem_append.1 hc with hc | hc
  ·unfold pre20 at hc
   split at hc
   ·simp at hc
   ·simp only [List.mem_singleton] at hc
    subst hc
    exact ⟨by simp [sizeCg],by simp [sizeCg]⟩
  ·exact way_ok sb c hc
 ·simp at hc
end Go.Proofs.YtlllnjhgjijnkaaDoor.Nx

import Derived.Test.YtigfbnglplbbpaaDoorNxE21
import Derived.Test.YtigfbnglplbbpaaDoorNxE19
set_option linter.unusedSimpArgs false
set_option linter.unusedVariables false
set_option linter.unnecessarySimpa false
open List renaming getElem?_eq_getElem → zB, getD_eq_getElem?_getD → zC, append_assoc → zS, mem_cons_self → zW, mem_cons_of_mem → zZ, nil_append → zn, cons_append → zo
namespace Go.Proofs.YtigfbnglplbbpaaDoor.Nx
open Go
structure Cand where
  gain:Int
  top:Int
  bot:Int
  by':Int
  deriving DecidableEq
def cand0:Cand:=⟨0,0,0,0⟩
def scrEq (a b:List (List Gl)) (top bot y:Int) (i:Nat):Bool :=
  if top≤(i:Int)+y∧(i:Int)+y<bot then decide (rowAt a ((i:Int)+y)=b.getD i []) else decide (b.getD i []=[])
def cntB (p:Nat→Bool) (top:Nat):Nat→Int
  | 0=>0
  | k+1=>cntB p top k+if p (top+k) then 1 else 0
def gainV (a b:List (List Gl)) (top bot y:Int):Int :=
  cntB (scrEq a b top bot y) top.toNat (bot-top).toNat-cntB (fun i=>decide (a.getD i []=b.getD i [])) top.toNat (bot-top).toNat
def absI (y:Int):Int:=max y (-y)
def betterC (c d:Cand):Bool :=
  if c=d then false else if c.gain≠d.gain then decide (d.gain<c.gain) else if absI c.by'≠absI d.by' then decide (absI c.by'<absI d.by') else if c.by'≠d.by' then decide (0<c.by')
  else if c.top≠d.top then decide (c.top<d.top) else decide (d.bot<c.bot)
def stepC (a b:List (List Gl)) (y top:Int) (best:Cand) (bot:Int):Cand :=
  if 2≤gainV a b top bot y∧(best=cand0∨betterC ⟨gainV a b top bot y,top,bot,y⟩ best=true) then ⟨gainV a b top bot y,top,bot,y⟩ else best
def botC (a b:List (List Gl)) (y top:Int):Nat→Int→Cand→Cand
  | 0,_,best=>best
  | k+1,bot,best=>botC a b y top k (bot+1) (stepC a b y top best bot)
def topC (a b:List (List Gl)) (n:Nat) (y:Int):Nat→Nat→Cand→Cand
  | 0,_,best=>best
  | k+1,top,best=>topC a b n y k (top+1) (if y=0 then best else botC a b y top ((n:Int)+1-(top+absI y+1)).toNat (top+absI y+1) best)
def byC (a b:List (List Gl)) (n:Nat):Nat→Int→Cand→Cand
  | 0,_,best=>best
  | k+1,y,best=>byC a b n k (y+1) (topC a b n y n 0 best)
def bestC (a b:List (List Gl)) (n:Nat):Cand:=byC a b n (2 * n-1) (1-n) cand0
def matchV (a b:Vw):Bool:=(decide (a.height=b.height)&&decide ((a.rows.length:Int)=a.height))&&decide ((b.rows.length:Int)=b.height)
def findV (a b:Vw):Cg × Bool :=
  if matchV a b then (if (bestC a.rows b.rows a.rows.length).gain<2 then (⟨0,0,0,0,0,[]⟩,false)
    else (⟨2,(bestC a.rows b.rows a.rows.length).top,0,(bestC a.rows b.rows a.rows.length).by',(bestC a.rows b.rows a.rows.length).bot,[]⟩,true))
  else (⟨0,0,0,0,0,[]⟩,false)
theorem findV_form {a b:Vw} (h:(findV a b).2=true):(findV a b).1.kind=2∧(findV a b).1.col=0∧(findV a b).1.gl=[]:=by
  unfold findV at h ⊢
  split at h
  · rename_i hm
    split at h
    · cases h
    · rename_i hg;rw [if_pos hm,if_neg hg];exact ⟨rfl,rfl,rfl⟩
  · cases h
def cost20:List Cg→Int
  | []=>0
  | c::l=>(if c.kind=1∨c.kind=4 then 1 else if c.kind=2 then 3 else if c.kind=3 then cost1 c else 0)+cost20 l
theorem cost20_app:∀ (a b:List Cg),cost20 (a++b)=cost20 a+cost20 b
  | [],b=>by simp [cost20]
  | c::a,b=>by rw [zo,cost20,cost20,cost20_app a b];omega
theorem cost1_nn (c:Cg):0≤cost1 c:=by unfold cost1;omega
theorem cost20_nn:∀ (l:List Cg),0≤cost20 l
  | []=>by simp [cost20]
  | c::l=>by
    have:=cost20_nn l
    have:=cost1_nn c
    rw [cost20]
    split
    · omega
    · split
      · omega
      · split<;>omega
def m20 (a b:Vw):Vw:=if a.width=b.width∧a.height=b.height then a else sizeV a b.height b.width
def pre20 (a b:Vw):List Cg:=if a.width=b.width∧a.height=b.height then [] else [sizeCg b]
def oth20 (m b:Vw):List Cg:=(findV m b).1::restV (applyV m [(findV m b).1]).1 b
def way20 (m b:Vw):List Cg:=if (findV m b).2=true∧(applyV m [(findV m b).1]).2.2=0∧cost20 (oth20 m b)<cost20 (restV m b) then oth20 m b else restV m b
def diffV (a b:Vw):List Cg:=if viewC a=0∧viewC b=0 then pre20 a b++way20 (m20 a b) b else []
theorem sizeCg_ok {a b:Vw} (hb:viewC b=0):chgC a (sizeCg b)=0:=by
  obtain ⟨eb,_⟩:=viewC_zero.1 hb
  have hs:=szOk_iff.1 eb.sz
  unfold chgC sizeCg
  rw [if_pos (btw_iff.2 (by simp)),if_pos (by simp [blankG]),if_pos]
  · rfl
  · simp only [rangeG,if_true,Bool.and_eq_true,btw_iff]
    omega
theorem sizeCg_step {a b:Vw}:stepV a (sizeCg b)=sizeV a b.height b.width:=by simp [stepV,sizeCg]
theorem sized_apply {a b:Vw} (ha:viewC a=0) (hb:viewC b=0):applyV a [sizeCg b]=(sizeV a b.height b.width,0,0):=by
  rw [apply_one ha (sizeCg_ok hb),wide_step ha (sizeCg_ok hb) (by simp [sizeCg]),sizeCg_step];rfl
theorem m20_ok {a b:Vw} (ha:viewC a=0) (hb:viewC b=0):viewC (m20 a b)=0∧(m20 a b).width=b.width∧(m20 a b).height=b.height:=by
  unfold m20
  split
  · rename_i h;exact ⟨ha,h.1,h.2⟩
  · have:=(applyV_ends a [sizeCg b]).1 (by rw [sized_apply ha hb])
    rw [sized_apply ha hb] at this
    exact ⟨this.2.2,rfl,rfl⟩
theorem run_way {m b:Vw} (hm:viewC m=0) (hb:viewC b=0) (hw:m.width=b.width) (hh:m.height=b.height) (k:Int):runV m k (way20 m b)=(b,0,0):=by
  have em:=(viewC_zero.1 hm).1
  unfold way20
  split
  · rename_i h
    obtain ⟨h1,h2,_⟩:=h
    have hc:chgC m (findV m b).1=0:=by
      rw [applyV,if_pos hm,runV] at h2
      split at h2
      · assumption
      · rename_i hc;exact absurd h2 hc
    have hk:=(findV_form h1).1
    have ha:applyV m [(findV m b).1]=(stepV m (findV m b).1,0,0):=by rw [apply_one hm hc,wide_step hm hc (by omega)];rfl
    unfold oth20
    rw [ha,runV,if_pos hc]
    have es:=em.step hc
    have hst:stepV m (findV m b).1={ m with rows:=scrollL m.rows (findV m b).1.row (findV m b).1.upto (findV m b).1.count }:=by
      unfold stepV;rw [if_neg (by omega),if_pos hk]
    refine run_rest es hb ?_ ?_ _
    · rw [hst];exact hh
    · rw [hst];exact hw
  · exact run_rest em hb hh hw k
theorem run_diff {a b:Vw} (ha:viewC a=0) (hb:viewC b=0):applyV a (diffV a b)=(b,0,0):=by
  obtain ⟨h1,h2,h3⟩:=m20_ok ha hb
  rw [applyV,if_pos ha,diffV,if_pos ⟨ha,hb⟩]
  have hw:=run_way h1 hb h2 h3
  unfold pre20 m20 at *
  split
  · rename_i h
    simp only [if_pos h] at hw
    exact hw 0
  · rename_i h
    simp only [if_neg h] at hw
    rw [List.singleton_append,runV,if_pos (sizeCg_ok hb),sizeCg_step]
    exact hw _
theorem runOk_way {m b:Vw} (hm:viewC m=0) (hb:viewC b=0) (hh:m.height=b.height) (sm:Sm m 20000) (sb:Sm b 20000):RunOk m (way20 m b):=by
  have em:=(viewC_zero.1 hm).1
  unfold way20
  split
  · rename_i h
    obtain ⟨h1,h2,_⟩:=h
    have hk:=(findV_form h1).1
    unfold oth20
    refine ⟨sm.mono (by omega),fun hc=>?_⟩
    have ha:applyV m [(findV m b).1]=(stepV m (findV m b).1,0,0):=by rw [apply_one hm hc,wide_step hm hc (by omega)];rfl
    rw [ha]
    have hst:stepV m (findV m b).1={ m with rows:=scrollL m.rows (findV m b).1.row (findV m b).1.upto (findV m b).1.count }:=by
      unfold stepV;rw [if_neg (by omega),if_pos hk]
    refine runOk_rest (em.step hc) hb (by rw [hst];exact hh) ?_ sb
    rw [hst]
    refine ⟨fun r hr=>?_,fun r hr g hg=>?_⟩
    · rcases scrollL_mem hr with rfl | hr
      · exact Nat.zero_le _
      · exact sm.row r hr
    · rcases scrollL_mem hr with rfl | hr
      · simp at hg
      · exact sm.txt r hr g hg
  · exact runOk_rest em hb hh sm sb
theorem m20_sm {a b:Vw} {n:Nat} (s:Sm a n):Sm (m20 a b) n:=by
  unfold m20
  split
  · exact s
  · exact sizeV_sm s
theorem runOk_diff {a b:Vw} (ha:viewC a=0) (hb:viewC b=0) (sa:Sm a 20000) (sb:Sm b 20000):RunOk a (diffV a b):=by
  obtain ⟨h1,h2,h3⟩:=m20_ok ha hb
  have hw:=runOk_way h1 hb h3 (m20_sm sa) sb
  rw [diffV,if_pos ⟨ha,hb⟩]
  unfold pre20 m20 at *
  split
  · rename_i h
    simp only [if_pos h] at hw
    exact hw
  · rename_i h
    simp only [if_neg h] at hw
    refine ⟨sa.mono (by omega),fun hc=>?_⟩
    rw [sizeCg_step]
    exact hw
theorem rest_ok {x b:Vw} (sb:Sm b 140):∀ c∈restV x b,CgOk c:=by
  intro c hc
  unfold restV at hc
  rcases List.mem_append.1 hc with hc | hc
  · obtain ⟨i,_,hc⟩:=splicesTo_mem hc
    have h1:=splices_gl hc
    have h2:=splices_mem hc
    rcases getD_mem (rows:=b.rows) (n:=i) with h3 | h3
    · rw [h3] at h1 h2
      exact ⟨by rw [List.length_nil] at h1;omega,fun g hg=>by have:=h2 g hg;simp at this⟩
    · exact ⟨by have:=sb.row _ h3;omega,fun g hg=>sb.txt _ h3 g (h2 g hg)⟩
  · unfold cursorV at hc
    split at hc
    · simp at hc
    · simp only [List.mem_singleton] at hc
      subst hc
      exact ⟨by simp,by simp⟩
theorem way_ok {m b:Vw} (sb:Sm b 140):∀ c∈way20 m b,CgOk c:=by
  intro c hc
  unfold way20 at hc
  split at hc
  · rename_i h
    rcases List.mem_cons.1 hc with rfl | hc
    · have hg:=(findV_form h.1).2.2
      exact ⟨by rw [hg];simp,by rw [hg];simp⟩
    · exact rest_ok sb c hc
  · exact rest_ok sb c hc
theorem diff_ok {a b:Vw} (sb:Sm b 140):∀ c∈diffV a b,CgOk c:=by
  intro c hc
  unfold diffV at hc
  split at hc
  · rcases List.mem_append.1 hc with hc | hc
    · unfold pre20 at hc
      split at hc
      · simp at hc
      · simp only [List.mem_singleton] at hc
        subst hc
        exact ⟨by simp [sizeCg],by simp [sizeCg]⟩
    · exact way_ok sb c hc
  · simp at hc
theorem diff_nil {a b:Vw} (ha:viewC a=0) (hb:viewC b=0):diffV a b=[]↔a=b:=by
  constructor
  · intro h
    have:=run_diff ha hb
    rw [h,apply_nil ha] at this
    exact (Prod.mk.inj this).1
  · rintro rfl
    rw [diffV,if_pos ⟨ha,ha⟩,pre20,if_pos ⟨rfl,rfl⟩,zn,m20,if_pos ⟨rfl,rfl⟩,way20,rest_same,if_neg]
    rintro ⟨_,_,h⟩
    have:=cost20_nn (oth20 a a)
    simp only [cost20] at h
    omega
def stageG (c:Cg):Int:=if c.kind=1 then 1 else if c.kind=2 then 2 else if c.kind=3 then 3 else if c.kind=4 then 4 else 0
def formB:Int→Int→List Cg→Bool
  | _,_,[]=>true
  | st,row,c::l=>if stageG c<st∨(stageG c=st∧stageG c≠3)∨(stageG c=3∧c.row<row) then false else formB (stageG c) (if stageG c=3 then c.row else row) l
theorem cgsE_form {row:Int}:∀ {es:List Edt} {m:Int} {c:Cg},c∈cgsE row m es→c.kind=3∧c.row=row
  | [],m,c,h=>by simp [cgsE] at h
  | e::es,m,c,h=>by
    rw [cgsE,List.mem_cons] at h
    rcases h with rfl | h
    · exact ⟨rfl,rfl⟩
    · exact cgsE_form h
theorem splices_form {row:Int} {a b:List Gl} {c:Cg} (h:c∈splicesV row a b):c.kind=3∧c.row=row:=by
  unfold splicesV at h
  simp only at h
  split at h
  · simp only [List.mem_singleton] at h
    subst h;exact ⟨rfl,rfl⟩
  · exact cgsE_form h
theorem form_splices {l tail:List Cg} {row:Int}:∀ {st r0:Int},(∀ c∈l,c.kind=3∧c.row=row)→st≤3→r0≤row→(∀ st' r',st'≤3→r'≤row→formB st' r' tail=true)→formB st r0 (l++tail)=true:=by
  induction l with
  | nil=>intro st r0 _ h1 h2 h3;exact h3 st r0 h1 h2
  | cons c l ih =>
    intro st r0 hc h1 h2 h3
    obtain ⟨k1,k2⟩:=hc c (zW ..)
    have hs:stageG c=3:=by unfold stageG;rw [if_neg (by omega),if_neg (by omega),if_pos k1]
    rw [zo,formB,hs,if_neg (by omega),if_pos rfl]
    exact ih (fun d hd=>hc d (zZ _ hd)) (Int.le_refl _) (by omega) h3
theorem form_splicesTo {x b:Vw} {tail:List Cg}:∀ (n:Nat) {st r0:Int},st≤3→r0≤0→(∀ (st' r':Int),st'≤3→r'≤(n:Int)→formB st' r' tail=true)→formB st r0 (splicesTo x b n++tail)=true
  | 0,st,r0,h1,h2,h3=>by rw [splicesTo,zn];exact h3 st r0 h1 (by omega)
  | n+1,st,r0,h1,h2,h3=>by
    rw [splicesTo,zS]
    refine form_splicesTo n h1 h2 fun st' r' q1 q2=>?_
    exact form_splices (row:=n) (fun c hc=>splices_form hc) q1 q2 fun st2 r2 q3 q4=>h3 st2 r2 q3 (by omega)
theorem form_rest {x b:Vw} {st:Int} (hst:st≤3):formB st 0 (restV x b)=true:=by
  unfold restV
  refine form_splicesTo _ hst (Int.le_refl _) fun st' r' q1 _=>?_
  unfold cursorV
  split
  · rfl
  · have hs:stageG ⟨4,b.row,b.col,if b.vis then 1 else 0,0,[]⟩=4:=by simp [stageG]
    rw [formB,hs,if_neg (by omega),formB]
theorem form_way {m b:Vw} {st:Int} (hst:st<2):formB st 0 (way20 m b)=true:=by
  unfold way20
  split
  · rename_i h
    have hk:=(findV_form h.1).1
    have hs:stageG (findV m b).1=2:=by unfold stageG;rw [if_neg (by omega),if_pos hk]
    unfold oth20
    rw [formB,hs,if_neg (by omega),if_neg (by omega)]
    exact form_rest (by omega)
  · exact form_rest (by omega)
theorem form_diff {a b:Vw}:formB 0 0 (diffV a b)=true:=by
  unfold diffV
  split
  · unfold pre20
    split
    · exact form_way (by omega)
    · have hs:stageG (sizeCg b)=1:=by simp [stageG,sizeCg]
      rw [List.singleton_append,formB,hs,if_neg (by omega),if_neg (by omega)]
      exact form_way (by omega)
  · rfl
end Go.Proofs.YtigfbnglplbbpaaDoor.Nx
namespace Go.Proofs.YtigfbnglplbbpaaDoor.Nx
open Go
theorem cost20_splices:∀ {l:List Cg},(∀ c∈l,c.kind=3)→cost20 l=costG l
  | [],_=>rfl
  | c::l,h=>by
    have h1:=h c (zW ..)
    rw [cost20,costG_cons,cost20_splices fun d hd=>h d (zZ _ hd),if_neg (by omega),if_neg (by omega),if_pos h1]
theorem cost20_spl {row:Int} {a b:List Gl}:cost20 (splicesV row a b)=costG (splicesV row a b):=cost20_splices fun _ hc=>(splices_form hc).1
def curCost (a b:Vw):Int:=if a.row=b.row∧a.col=b.col∧a.vis=b.vis then 0 else 1
theorem cost20_cursor (a b:Vw):cost20 (cursorV a b)=curCost a b:=by
  unfold cursorV curCost
  split
  · rfl
  · simp [cost20]
def spCost (a b:Vw) (i:Nat):Int:=costG (splicesV i (a.rows.getD i []) (b.rows.getD i []))
def sumI (f:Nat→Int):List Nat→Int
  | []=>0
  | i::l=>f i+sumI f l
theorem sumI_app (f:Nat→Int):∀ (a b:List Nat),sumI f (a++b)=sumI f a+sumI f b
  | [],b=>by simp [sumI]
  | i::a,b=>by rw [zo,sumI,sumI,sumI_app f a b];omega
theorem sumI_filter {f:Nat→Int} {p:Nat→Bool} (h:∀ i,p i=false→f i=0):∀ (l:List Nat),sumI f (l.filter p)=sumI f l
  | []=>rfl
  | i::l=>by
    rw [List.filter_cons]
    split
    · rw [sumI,sumI,sumI_filter h l]
    · rename_i hp
      rw [sumI,sumI_filter h l,h i (by simpa using hp)];omega
theorem cost20_splicesTo (a b:Vw):∀ n,cost20 (splicesTo a b n)=sumI (spCost a b) (List.range n)
  | 0=>rfl
  | n+1=>by
    rw [splicesTo,cost20_app,cost20_splicesTo a b n,cost20_spl,List.range_succ,sumI_app]
    simp [sumI,spCost]
theorem cost20_rest (a b:Vw):cost20 (restV a b)=sumI (spCost a b) (List.range b.rows.length)+curCost a b:=by
  rw [restV,cost20_app,cost20_splicesTo,cost20_cursor]
def dif20 (a b:List (List Gl)) (i:Nat):Bool:=decide (a.length≤i)||(decide (b.length≤i) || !decide (a.getD i []=b.getD i []))
def rows20 (a b:Vw):List Nat:=(List.range (max a.rows.length b.rows.length)).filter (dif20 a.rows b.rows)
theorem rows20_eq {a b:Vw} (h:a.rows.length=b.rows.length):rows20 a b=(List.range b.rows.length).filter fun i => !decide (a.rows.getD i []=b.rows.getD i []):=by
  unfold rows20
  rw [h,Nat.max_self]
  apply List.filter_congr
  intro i hi
  have:=List.mem_range.1 hi
  unfold dif20
  rw [h,decide_eq_false (show ¬ b.rows.length≤i by omega)];rfl
theorem spCost_same {a b:Vw} {i:Nat} (h:a.rows.getD i []=b.rows.getD i []):spCost a b i=0:=by
  unfold spCost
  rw [h,splices_same];rfl
def aloneV (a b:Vw):Int:=curCost a b+sumI (spCost a b) (rows20 a b)
def mostV (a b:Vw):Int:=curCost a b+sumI (fun i=>2+((a.rows.getD i []).length:Int)+(b.rows.getD i []).length) (rows20 a b)
theorem cost_alone {a b:Vw} (ha:viewC a=0) (hb:viewC b=0) (hw:a.width=b.width) (hh:a.height=b.height):cost20 (diffV a b)≤aloneV a b:=by
  have ea:=(viewC_zero.1 ha).1
  have eb:=(viewC_zero.1 hb).1
  have la:=ea.len
  have lb:=eb.len
  have hr:cost20 (restV a b)=aloneV a b:=by
    rw [cost20_rest,aloneV,rows20_eq (by omega),sumI_filter]
    · omega
    · intro i hi
      exact spCost_same (by simpa using hi)
  rw [diffV,if_pos ⟨ha,hb⟩,pre20,if_pos ⟨hw,hh⟩,zn,m20,if_pos ⟨hw,hh⟩,← hr]
  unfold way20
  split
  · rename_i h;omega
  · exact Int.le_refl _
theorem splices_cost {row:Int} {a b:List Gl}:costG (splicesV row a b)≤2+(trimGl a).length+(trimGl b).length:=by
  have hw:costG [wholeG row (trimGl a) (trimGl b)]≤2+(trimGl a).length+(trimGl b).length:=by
    have h1:=trim_len (trimGl a)
    have h2:=trim_len (trimGl b)
    show 2+max 0 (min ((trimGl (trimGl a)).length:Int) 1000)+((trimGl (trimGl b)).length:Int)+0≤_
    omega
  unfold splicesV
  simp only
  split
  · exact hw
  · rename_i h
    by_cases h0:cgsE row 0 (scriptE (trimGl a) (trimGl b))=[]
    · rw [h0];show (0:Int)≤_;omega
    · have:¬ costG [wholeG row (trimGl a) (trimGl b)]<costG (cgsE row 0 (scriptE (trimGl a) (trimGl b))):=fun h'=>h ⟨h0,h'⟩
      omega
theorem sumI_le {f g:Nat→Int} (h:∀ i,f i≤g i):∀ (l:List Nat),sumI f l≤sumI g l
  | []=>Int.le_refl _
  | i::l=>by
    have:=h i
    have:=sumI_le h l
    rw [sumI,sumI];omega
theorem alone_most (a b:Vw):aloneV a b≤mostV a b:=by
  unfold aloneV mostV
  have:=sumI_le (f:=spCost a b) (g:=fun i=>2+((a.rows.getD i []).length:Int)+(b.rows.getD i []).length) (fun i=>by
    have h1:=splices_cost (row:=i) (a:=a.rows.getD i []) (b:=b.rows.getD i [])
    have h2:=trim_len (a.rows.getD i [])
    have h3:=trim_len (b.rows.getD i [])
    show costG (splicesV i (a.rows.getD i []) (b.rows.getD i []))≤2+((a.rows.getD i []).length:Int)+(b.rows.getD i []).length
    omega) (rows20 a b)
  omega
def locB:List Int→List Cg→Option (List Int)
  | rows,[]=>some rows
  | rows,c::l=>if c.kind=2 then none else if c.kind=3∧(rows=[]∨rows.getLast? ≠ some c.row) then locB (rows++[c.row]) l else locB rows l
theorem locB_same {row:Int} {tail:List Cg}:∀ {l:List Cg} {rows:List Int},(∀ c∈l,c.kind=3∧c.row=row)→rows.getLast? = some row→locB rows (l++tail)=locB rows tail
  | [],rows,_,_=>rfl
  | c::l,rows,h,hr=>by
    obtain ⟨k1,k2⟩:=h c (zW ..)
    have hne:rows≠[]:=by rintro rfl;simp at hr
    rw [zo,locB,if_neg (by omega),if_neg]
    · exact locB_same (fun d hd=>h d (zZ _ hd)) hr
    · rintro ⟨_,h1 | h1⟩
      · exact hne h1
      · rw [k2] at h1;exact h1 hr
theorem locB_one {row:Int} {l tail:List Cg} {rows:List Int} (h:∀ c∈l,c.kind=3∧c.row=row) (hn:l≠[]) (hr:rows=[]∨rows.getLast? ≠ some row):locB rows (l++tail)=locB (rows++[row]) tail:=by
  cases l with
  | nil=>exact absurd rfl hn
  | cons c l =>
    obtain ⟨k1,k2⟩:=h c (zW ..)
    rw [zo,locB,if_neg (by omega),if_pos ⟨k1,by rw [k2];exact hr⟩,k2]
    exact locB_same (fun d hd=>h d (zZ _ hd)) (by simp)
theorem splices_ne {row:Nat} {v:Vw} {A B:List Gl} (hrow:row<v.rows.length) (hh:(v.rows.length:Int)=v.height) (hr:v.rows[row]? = some A) (hA:endsBlank A=false) (hB:endsBlank B=false) (hBl:B.length≤264) (hg:∀ g∈B,glyphC g=0) (hw:wideV v=false) (hwB:(widthN B:Int)≤v.width) (h:splicesV row A B=[]):A=B:=by
  have:=run_splices (v:=v) hrow hh hr hA hB hBl hg 0 []
  rw [h] at this
  simp only [List.append_nil,List.length_nil,Int.natCast_zero,Int.add_zero] at this
  rw [runV,hw,runV] at this
  have hw2:wideV { v with rows:=v.rows.set row B }=false:=by
    unfold wideV at hw ⊢
    rw [List.any_eq_false] at hw ⊢
    intro r hr'
    rcases List.mem_or_eq_of_mem_set hr' with h1 | rfl
    · exact hw r h1
    · simp only [decide_eq_true_eq];omega
  rw [hw2] at this
  simp only [Bool.false_eq_true,if_false,Prod.mk.injEq,and_true] at this
  have e:=congrArg Vw.rows this
  simp only at e
  rw [e,List.getElem?_set_self hrow] at hr
  exact (Option.some.inj hr).symm
theorem loc_splicesTo {a b:Vw} (ha:viewC a=0) (hb:viewC b=0) (hw:a.width=b.width) (hh:a.height=b.height) (tail:List Cg):∀ n,n≤b.rows.length→locB [] (splicesTo a b n++tail)=locB (((List.range n).filter fun i => !decide (a.rows.getD i []=b.rows.getD i [])).map fun (i:Nat)=>(i:Int)) tail
  | 0,_=>rfl
  | n+1,hn=>by
    obtain ⟨ea,hwa⟩:=viewC_zero.1 ha
    obtain ⟨eb,hwb⟩:=viewC_zero.1 hb
    have la:=ea.len
    have lb:=eb.len
    have sb:=szOk_iff.1 eb.sz
    have hna:n<a.rows.length:=by omega
    have hnb:n<b.rows.length:=by omega
    have ga:a.rows.getD n []=a.rows[n]:=by rw [zC,zB hna];rfl
    have gb:b.rows.getD n []=b.rows[n]:=by rw [zC,zB hnb];rfl
    rw [splicesTo,zS,loc_splicesTo ha hb hw hh _ n (by omega),List.range_succ,List.filter_append,List.map_append]
    by_cases he:a.rows.getD n []=b.rows.getD n []
    · have hp:(!decide (a.rows.getD n []=b.rows.getD n []))=false:=by rw [decide_eq_true he];rfl
      rw [List.filter_cons,hp,he,splices_same,zn]
      simp
    · have hne:splicesV n (a.rows.getD n []) (b.rows.getD n [])≠[]:=by
        intro h0
        apply he
        rw [ga,gb] at h0 ⊢
        have hmb:=List.getElem_mem hnb
        have hwid:=wide_row hwb hmb
        have hrl:=row_len (r:=b.rows[n])
        exact splices_ne (v:=a) hna la (zB hna) (ea.tr _ (List.getElem_mem hna)) (eb.tr _ hmb) (by omega) (eb.gl _ hmb) hwa (by omega) h0
      rw [locB_one (row:=n) (fun c hc=>splices_form hc) hne]
      · rw [List.filter_cons,if_pos (by simp only [he,decide_false,Bool.not_false])];rfl
      · right
        intro h1
        have hm:=List.mem_of_getLast? h1
        obtain ⟨i,hi,h2⟩:=List.mem_map.1 hm
        have:=List.mem_range.1 (List.mem_filter.1 hi).1
        omega
theorem loc_rest {a b:Vw} (ha:viewC a=0) (hb:viewC b=0) (hw:a.width=b.width) (hh:a.height=b.height):locB [] (restV a b)=some ((rows20 a b).map fun (i:Nat)=>(i:Int)):=by
  have la:=(viewC_zero.1 ha).1.len
  have lb:=(viewC_zero.1 hb).1.len
  unfold restV
  rw [loc_splicesTo ha hb hw hh _ _ (Nat.le_refl _),rows20_eq (by omega)]
  unfold cursorV
  split
  · rfl
  · rw [locB,if_neg (show ¬ (4:Int)=2 by decide),if_neg (by rintro ⟨h,_⟩;exact absurd h (show ¬ (4:Int)=3 by decide)),locB]
theorem loc_diff {a b:Vw} (ha:viewC a=0) (hb:viewC b=0) (hw:a.width=b.width) (hh:a.height=b.height):locB [] (diffV a b)=none∨locB [] (diffV a b)=some ((rows20 a b).map fun (i:Nat)=>(i:Int)):=by
  rw [diffV,if_pos ⟨ha,hb⟩,pre20,if_pos ⟨hw,hh⟩,zn,m20,if_pos ⟨hw,hh⟩]
  unfold way20
  split
  · rename_i h
    left
    unfold oth20
    rw [locB,if_pos (findV_form h.1).1]
  · right;exact loc_rest ha hb hw hh
end Go.Proofs.YtigfbnglplbbpaaDoor.Nx

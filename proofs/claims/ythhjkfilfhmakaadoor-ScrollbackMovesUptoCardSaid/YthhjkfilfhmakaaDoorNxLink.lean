import Derived.Test.YthhjkfilfhmakaaDoorNxWalk
import Derived.ProofKit
import Derived.OpenShut
import Derived.Deep.DeepHandedRow
import Derived.WideKeyArgs
set_option linter.unusedSimpArgs false
set_option linter.unusedVariables false
set_option linter.unnecessarySimpa false
open List renaming getElem?_eq_getElem → zB, getElem?_map → zK, getElem?_range → zj, getElem?_eq_none → zk
open Option.some renaming injEq → zH
open Array renaming getD_eq_getD_getElem? → zR
open Option renaming map_eq_some_iff → zT
namespace Go.Proofs.YthhjkfilfhmakaaDoor.Nx
open Go
inductive Ty where
  | int (k:IntKind)
  | bool
  | str
  | sl (e:Elt) (t:Ty)
  | st (ts:List Ty)
mutual
def WT:Ty→List D→Prop
  | .int k,xs=>∃ n,xs=[.sc (.int k n)]∧k.min≤n∧n≤k.max
  | .bool,xs=>∃ b,xs=[.sc (.bool b)]
  | .str,xs=>∃ s,xs=[.sc (.string s)]∧s.size≤maxLen
  | .sl e t,xs=>∃ rows,xs=[.sl e rows]∧∀ r∈rows,WT t r
  | .st ts,xs=>WTs ts xs
def WTs:List Ty→List D→Prop
  | [],xs=>xs=[]
  | t::ts,xs=>∃ a b,xs=a++b∧WT t a∧WTs ts b
end
def tyFields (P:Program) (rec:TypeId→Option Ty):Nat→List Go.Field→Option (List Ty × Nat)
  | off,[]=>some ([],off)
  | off,f::fs=>if f.offset=off then match rec f.type,tyFields P rec (off+P.cellsOf f.type) fs with
    | some t,some (ts,en)=>some (t::ts,en)
    | _,_=>none
    else none
def tyOf (P:Program):Nat→TypeId→Option Ty
  | 0,_=>none
  | n+1,t=>match P.underlying t with
    | some .bool=>if P.cellsOf t=1 then some .bool else none
    | some (.int k)=>if P.cellsOf t=1 then some (.int k) else none
    | some .string=>if P.cellsOf t=1 then some .str else none
    | some (.slice e)=>if P.cellsOf t=1 then (tyOf P n e).map (.sl ⟨P.cellsOf e,P.bytesOf e⟩) else none
    | some (.struct fs)=>match tyFields P (tyOf P n) 0 fs.toList with
      | some (ts,en)=>if en=P.cellsOf t then some (.st ts) else none
      | none=>none
    | some (.array n' e)=>match tyOf P n e with
      | some u=>if P.cellsOf t=n' * P.cellsOf e then some (.st (List.replicate n' u)) else none
      | none=>none
    | _=>none
variable {H:Type} {enc:TypeId × Value→H} {P:Program} {w:World} {X:Nat→Prop}
theorem weightsAll_mem {e:TypeId} {d:DataW H} {k:Nat} (hk:k∈d.weights P e):∀ {l:List (DataW H)},d∈l→k∈DataW.weightsAll P e l
  | [],h=>by cases h
  | x::l,h=>by
    simp only [DataW.weightsAll,List.mem_append]
    rcases List.mem_cons.1 h with rfl | h
    · exact .inl hk
    · exact .inr (weightsAll_mem hk h)
theorem weightsEach_get {k:Nat}:∀ {fs:List Go.Field} {xs:List (DataW H × List MemPlace)} (i:Nat) (f:Go.Field) (x:DataW H × List MemPlace),fs[i]? = some f→xs[i]? = some x→k∈x.1.weights P f.type →
    k∈DataW.weightsEach P (fs.map (·.type)) (xs.map (·.1))
  | [],xs,i,f,x,hf,_,_=>by simp at hf
  | _::_,[],i,f,x,_,hx,_=>by simp at hx
  | g::fs,y::xs,i,f,x,hf,hx,hk=>by
    simp only [List.map_cons,DataW.weightsEach,List.mem_append]
    cases i with
    | zero=>simp at hf hx;subst hf hx;exact .inl hk
    | succ i=>simp at hf hx;exact .inr (weightsEach_get i f x hf hx hk)
theorem addr_add (a:Addr) (i j:Nat):(a.add i).add j=a.add (i+j):=by
  unfold Addr.add
  by_cases hi:i=0
  · subst hi;simp
  · by_cases hj:j=0
    · subst hj;simp [hi]
    · simp [hi,hj]
      have:i+j≠0:=by omega
      simp [this,Nat.add_assoc]
theorem cells_get {a:Addr} {n:Nat} {l:List Value} (h:w.cells? 0 a n=some l):l.length=n∧∀ j,j<n→w.cell? (a.add j)=some (l.getD j undef):=by
  simp only [World.cells?,Nat.zero_le,if_true] at h
  obtain ⟨h1,h2⟩:=mapM_spec h
  simp only [List.length_range] at h1
  refine ⟨h1,fun j hj=>?_⟩
  obtain ⟨y,hy,hf⟩:=h2 j j (by rw [zj hj])
  rw [hf,List.getD_eq_getElem?_getD,hy];rfl
theorem trod_array {base:Nat} {sp:Nat→Bool} {held:Bool} {fuel:Nat} {t e:TypeId} {k:Nat} {cs:List Value} {x:DataW H × List MemPlace} (ht:P.underlying t=some (.array k e)) (h:DataW.trod enc P w base sp held fuel t cs=some x) :
    ∃ (xs:List (DataW H × List MemPlace)) (n:Nat),fuel=n+1∧x=(.agg (xs.map (·.1)),xs.flatMap (·.2))∧cs.length=P.cellsOf t∧(List.range k).mapM (fun i=>DataW.trod enc P w base sp held n e ((cs.drop (i * P.cellsOf e)).take (P.cellsOf e)))=some xs:=by
  cases fuel with
  | zero=>simp [DataW.trod] at h
  | succ n =>
    unfold DataW.trod at h
    rw [ht] at h
    split at h<;>simp_all
    obtain ⟨hl,xs,hp,hd⟩:=h
    exact ⟨xs,hd.symm,hp⟩
theorem mapM_range {α:Type} {f:Nat→Option α} {n:Nat} {xs:List α} (h:(List.range n).mapM f=some xs):xs.length=n∧∀ i x,xs[i]? = some x→f i=some x:=by
  obtain ⟨h1,h2⟩:=mapM_spec h
  simp only [List.length_range] at h1
  refine ⟨h1,fun i x hx=>?_⟩
  have hlt:i<n:=by rw [← h1];exact (List.getElem?_eq_some_iff.1 hx).1
  obtain ⟨y,hy,hf⟩:=h2 i i (by rw [zj hlt])
  rw [hx] at hy;cases hy;exact hf
end Go.Proofs.YthhjkfilfhmakaaDoor.Nx
namespace Go.Proofs.YthhjkfilfhmakaaDoor.Nx
open Go Go.ChangeShapes Go.WideShapes Go.RowKit
variable {H:Type} {enc:TypeId × Value→H} {P:Program} {W W':World}
def argA:Ty→List D→A
  | .st _,xs=>.agg (xs.map .d)
  | _,xs=>.d (xs.headD (.sc (.bool false)))
def argsA:List Ty→List (List D)→List A
  | t::ts,x::xs=>argA t x::argsA ts xs
  | _,_=>[]
theorem own_none (b:Nat):¬ Own (fun _=>False) [] b:=by
  rintro (h | ⟨id,p,hp⟩)
  · exact h
  · simp at hp
theorem tyOf_under {m:Nat} {t:TypeId} {ty:Ty} (h:tyOf P (m+1) t=some ty):match ty with
    | .st _=>(∃ fs,P.underlying t=some (.struct fs))∨∃ n e,P.underlying t=some (.array n e)
    | _=>(∀ fs,P.underlying t≠some (.struct fs))∧∀ n e,P.underlying t≠some (.array n e):=by
  simp only [tyOf] at h
  split at h
  · rename_i hu
    split at h<;>cases h
    exact ⟨fun fs h=>(by rw [hu] at h;cases h),fun n e h=>(by rw [hu] at h;cases h)⟩
  · rename_i hu
    split at h<;>cases h
    exact ⟨fun fs h=>(by rw [hu] at h;cases h),fun n e h=>(by rw [hu] at h;cases h)⟩
  · rename_i hu
    split at h<;>cases h
    exact ⟨fun fs h=>(by rw [hu] at h;cases h),fun n e h=>(by rw [hu] at h;cases h)⟩
  · rename_i hu
    split at h
    · simp only [zT] at h
      obtain ⟨_,_,rfl⟩:=h
      exact ⟨fun fs h=>(by rw [hu] at h;cases h),fun n e h=>(by rw [hu] at h;cases h)⟩
    · cases h
  · rename_i fs hu
    split at h
    · split at h
      · cases h;exact .inl ⟨fs,hu⟩
      · cases h
    · cases h
  · rename_i k e hu
    split at h
    · split at h
      · cases h;exact .inr ⟨k,e,hu⟩
      · cases h
    · cases h
  · cases h
def flatTy (P:Program):Nat→TypeId→Bool
  | 0,_=>false
  | n+1,t=>match P.underlying t with
    | some (.int _)=>P.cellsOf t == 1
    | some (.struct fs)=>match tyFields P (fun t=>if flatTy P n t then some .bool else none) 0 fs.toList with
      | some (_,en)=>en == P.cellsOf t
      | none=>false
    | some (.array k e)=>flatTy P n e&&P.cellsOf t == k * P.cellsOf e
    | _=>false
mutual
def flat {H:Type}:DataW H→List Value
  | .lit (.int k n)=>[.int k n]
  | .agg ps=>flatAll ps
  | _=>[]
def flatAll {H:Type}:List (DataW H)→List Value
  | []=>[]
  | d::ds=>flat d++flatAll ds
end
theorem flatAll_map {α:Type} {f:α→DataW H}:∀ (l:List α),flatAll (l.map f)=l.flatMap fun x=>flat (f x)
  | []=>rfl
  | x::l=>by simp [flatAll,flatAll_map l]
theorem range_slices {cs:List Value} {c:Nat}:∀ n,((List.range n).flatMap fun i=>(cs.drop (i * c)).take c)=cs.take (n * c)
  | 0=>by simp
  | n+1=>by
    rw [List.range_succ,List.flatMap_append,range_slices n]
    simp only [List.flatMap_cons,List.flatMap_nil,List.append_nil]
    rw [Nat.add_mul,Nat.one_mul,List.take_add]
theorem fields_flat {rec:TypeId→Option Ty} {cs:List Value}:∀ (fs:List Go.Field) (xs:List (DataW H × List MemPlace)) (off:Nat) (tys:List Ty) (en:Nat),tyFields P rec off fs=some (tys,en)→xs.length=fs.length →
    (∀ (i:Nat) (f:Go.Field) x,fs[i]? = some f→xs[i]? = some x→(rec f.type).isSome=true→flat x.1=(cs.drop f.offset).take (P.cellsOf f.type)∧∀ v∈(cs.drop f.offset).take (P.cellsOf f.type),scOk v) →
    flatAll (xs.map (·.1))=(cs.drop off).take (en-off)∧off≤en∧∀ v∈(cs.drop off).take (en-off),scOk v
  | [],[],off,tys,en,h,_,_=>by
    simp only [tyFields,zH,Prod.mk.injEq] at h
    obtain ⟨_,rfl⟩:=h
    simp [flatAll]
  | [],_::_,off,tys,en,_,hl,_=>by simp at hl
  | _::_,[],off,tys,en,_,hl,_=>by simp at hl
  | f::fs,x::xs,off,tys,en,h,hl,hf=>by
    simp only [tyFields] at h
    split at h
    · rename_i ho
      split at h
      · rename_i t ts en' h1 h2
        simp only [zH,Prod.mk.injEq] at h
        obtain ⟨_,rfl⟩:=h
        obtain ⟨k1,k2,k3⟩:=fields_flat fs xs _ ts en' h2 (by simpa using hl) (fun i g y hg hy=>hf (i+1) g y (by simpa using hg) (by simpa using hy))
        obtain ⟨q1,q2⟩:=hf 0 f x rfl rfl (by rw [h1];rfl)
        have e:(cs.drop off).take (en'-off)=(cs.drop off).take (P.cellsOf f.type)++(cs.drop (off+P.cellsOf f.type)).take (en'-(off+P.cellsOf f.type)):=by
          have:en'-off=P.cellsOf f.type+(en'-(off+P.cellsOf f.type)):=by omega
          rw [this,List.take_add,List.drop_drop]
        rw [ho] at q1 q2
        refine ⟨?_,by omega,fun v hv=>?_⟩
        · simp only [List.map_cons,flatAll,k1,q1];exact e.symm
        · rw [e] at hv
          rcases List.mem_append.1 hv with hv | hv
          · exact q2 v hv
          · exact k3 v hv
      · cases h
    · cases h
theorem flat_of_trod {base:Nat} {sp:Nat→Bool} {held:Bool}:∀ (m:Nat) (t:TypeId),flatTy P m t=true→∀ (n:Nat) (cs:List Value) (x:DataW H × List MemPlace),DataW.trod enc P W base sp held n t cs=some x→flat x.1=cs∧cs.length=P.cellsOf t∧∀ v∈cs,scOk v:=by
  intro m
  induction m with
  | zero=>intro t h;simp [flatTy] at h
  | succ m ih =>
    intro t h n cs x hx
    simp only [flatTy] at h
    split at h
    · rename_i k hu
      obtain ⟨b,rfl,rfl,hb⟩:=DataW.trod_int hu hx
      simp only [Lit.wf,Bool.and_eq_true,decide_eq_true_eq] at hb
      exact ⟨rfl,by simpa using (by simpa using h:P.cellsOf t=1).symm,fun v hv=>by simp at hv;subst hv;exact hb⟩
    · rename_i fs hu
      split at h
      · rename_i ts en hfs
        obtain ⟨xs,n',rfl,rfl,hl,hxs,hget⟩:=DataW.trod_struct hu hx
        have hen:en=P.cellsOf t:=by simpa using h
        obtain ⟨k1,k2,k3⟩:=fields_flat (cs:=cs) fs.toList xs 0 ts en hfs (by simpa using hxs) (fun i f y hf hy hr=>by
          have hg:=hget i f (by simpa using hf)
          rw [hy] at hg
          have hft:flatTy P m f.type=true:=by
            by_cases hh:flatTy P m f.type=true
            · exact hh
            · simp [hh] at hr
          obtain ⟨q1,q2,q3⟩:=ih f.type hft n' _ y hg
          exact ⟨q1,q3⟩)
        have e:(cs.drop 0).take (en-0)=cs:=by rw [List.drop_zero,Nat.sub_zero,hen,← hl,List.take_length]
        rw [e] at k1 k3
        exact ⟨by simp only [flat];exact k1,hl,k3⟩
      · cases h
    · rename_i k e hu
      simp only [Bool.and_eq_true,beq_iff_eq] at h
      obtain ⟨h1,h2⟩:=h
      obtain ⟨xs,n',rfl,rfl,hl,hp⟩:=trod_array hu hx
      obtain ⟨r1,r2⟩:=mapM_range hp
      have key:∀ (i:Nat) (y:DataW H × List MemPlace),xs[i]? = some y→flat y.1=(cs.drop (i * P.cellsOf e)).take (P.cellsOf e)∧∀ v∈(cs.drop (i * P.cellsOf e)).take (P.cellsOf e),scOk v:=fun i y hy=>by
        obtain ⟨q1,q2,q3⟩:=ih e h1 _ _ y (r2 i y hy)
        exact ⟨q1,q3⟩
      have hflat:(xs.flatMap fun y=>flat y.1)=(List.range k).flatMap fun i=>(cs.drop (i * P.cellsOf e)).take (P.cellsOf e):=by
        have hx:(xs.map fun y=>flat y.1)=(List.range k).map fun i=>(cs.drop (i * P.cellsOf e)).take (P.cellsOf e):=by
          apply List.ext_getElem?
          intro i
          by_cases hi:i<k
          · have:xs[i]? = some xs[i]:=zB (by omega)
            simp [hi,this,(key i _ this).1]
          · rw [zk (by simp;omega),zk (by simp;omega)]
        simp only [List.flatMap,hx]
      have hcs:(List.range k).flatMap (fun i=>(cs.drop (i * P.cellsOf e)).take (P.cellsOf e))=cs:=by
        rw [range_slices];exact List.take_of_length_le (by omega)
      refine ⟨?_,hl,fun v hv=>?_⟩
      · simp only [flat]
        rw [flatAll_map,hflat,hcs]
      · rw [← hcs] at hv
        obtain ⟨i,hi,hv⟩:=List.mem_flatMap.1 hv
        have hi':i<k:=by simpa using hi
        exact (key i _ (zB (show i<xs.length by omega))).2 v hv
    · cases h
def tabsOf (P:Program) (laid:List (String × DataW Unit)):Option Tabs :=
  laid.mapM fun p=>match P.globalNamed p.1 with
    | some g=>match (P.globals[g]?).map (·.type) with
      | some t=>if flatTy P 20 t then some (g,(flat p.2).map .sc) else none
      | none=>none
    | none=>none
theorem tabs_ok {laid:List (String × DataW Unit)} {Γ:Tabs} (ht:tabsOf P laid=some Γ) (hL:laidMet P laid W):TabT Γ W (fun _=>False) [] []:=by
  obtain ⟨ps,hv, -, -⟩:=hL
  unfold tabsOf at ht
  induction laid generalizing Γ ps with
  | nil=>simp at ht;subst ht;intro g cs h;cases h
  | cons p laid ih =>
    obtain ⟨n,d⟩:=p
    simp only [List.mapM_cons,Option.bind_eq_bind,Option.pure_def,Option.bind_eq_some_iff,zH] at ht
    obtain ⟨y,hy,Γ',hΓ,rfl⟩:=ht
    simp only [DataW.LaidVars] at hv
    obtain ⟨g,t,cs,fuel,p,q,h1,h2,h3,h4,h5,rfl⟩:=hv
    intro g' cs' hm
    rcases List.mem_cons.1 hm with hm | hm
    · rw [h1] at hy
      dsimp only at hy
      rw [h2] at hy
      dsimp only at hy
      split at hy
      · rename_i hf
        cases hy
        cases hm
        obtain ⟨k1,k2,k3⟩:=flat_of_trod 20 t hf fuel _ _ h4
        dsimp only at k1
        have hheap:∀ j,W.cell? ⟨g,j,none⟩=cs[j]? := by
          intro j
          unfold World.var? at h3
          rw [h1] at h3
          simp only [Option.bind_some] at h3
          unfold World.cell?
          cases hg:W.heap[g]? with
          | none=>rw [hg] at h3;simp at h3
          | some o =>
            rw [hg] at h3
            cases o<;>simp_all
        refine .iptr (fun j=>cs.getD j undef) (fun j d hj=>?_) (fun j d hj=>?_)
        · simp only [zK,zT] at hj
          obtain ⟨v,hv,rfl⟩:=hj
          rw [k1] at hv
          rw [add_off,Nat.zero_add,hheap]
          refine ⟨?_,own_none _⟩
          have hv':cs[j]? = some v:=by simpa using hv
          rw [zR,hv'];rfl
        · simp only [zK,zT] at hj
          obtain ⟨v,hv,rfl⟩:=hj
          rw [k1] at hv
          have hv':cs[j]? = some v:=by simpa using hv
          have:cs.getD j undef=v:=by rw [zR,hv'];rfl
          rw [this]
          exact .sc (k3 v (List.mem_of_getElem? hv))
      · cases hy
    · exact ih hΓ _ h5 g' cs' hm
theorem trodAll_len {sp:Nat→Bool} {base:Nat} {held:Bool}:∀ {ts:List TypeId} {vs:List Value} {ds:List (DataW H)} {ps:List MemPlace},DataW.TrodAll enc P W base sp held ts vs ds ps→ds.length=ts.length
  | [],vs,ds,ps,h=>by obtain ⟨rfl,rfl,rfl⟩:=trodAll_nil h;rfl
  | t::ts,vs,ds,ps,h=>by
    obtain ⟨v,vs,d,ds,p,q,rfl,rfl,rfl,h1,h2⟩:=trodAll_cons h
    simp [trodAll_len h2]
theorem trodAll_stays (hl:laidOutB P=true) {sp:Nat→Bool}:∀ {ts:List TypeId} {vs:List Value} {ds:List (DataW H)} {ps:List MemPlace},(∀ t∈ts,P.readableRec t=true∧t<P.types.size) →
    DataW.TrodAll enc P W 0 (fun _=>true) true ts vs ds ps→(∀ p∈ps,W.sameAt W' p)→(∀ p∈ps,sp p.block=true)→DataW.TrodAll enc P W' 0 sp true ts vs ds ps
  | [],vs,ds,ps,_,h,_,_=>by obtain ⟨rfl,rfl,rfl⟩:=trodAll_nil h;exact trodAll_mk0
  | t::ts,vs,ds,ps,hr,h,hs,hp=>by
    obtain ⟨v,vs,d,ds,p,q,rfl,rfl,rfl,h1,h2⟩:=trodAll_cons h
    have a:=hr t (List.mem_cons_self ..)
    exact trodAll_cons_mk (WideElems.Trod_stays hl a.1 a.2 h1 (fun x hx=>hs x (List.mem_append_left _ hx)) (fun x hx=>hp x (List.mem_append_left _ hx)))
      (trodAll_stays hl (fun t ht=>hr t (List.mem_cons_of_mem _ ht)) h2 (fun x hx=>hs x (List.mem_append_right _ hx)) (fun x hx=>hp x (List.mem_append_right _ hx)))
theorem Evo.same {b:Nat} (g:Evo 0 [] [] W [] [] W') (hb:b<W.heap.size):W'.heap[b]? = W.heap[b]? := g.old b hb (fun id p h=>by simp at h)
theorem Evo.kept (g:Evo 0 [] [] W [] [] W') (may:MemPlace→Prop):W.keptBut W' may:=by
  refine ⟨g.os,g.output,fun i hi=>?_⟩
  rw [g.same hi]
  cases W.heap[i]? with
  | none=>rfl
  | some o=>cases o<;>first | rfl | exact ⟨rfl,rfl,rfl,fun _ _=>rfl⟩ | exact .inr ⟨rfl,rfl⟩
theorem law_post {fn:Func} {s:ChangeSpec} {args:Array Value} {ds gs:List (DataW H)} {before:List MemPlace} {tb:TypeId} (hr:fn.resultTypes = #[tb]) (hb:P.underlying tb=some .bool) (hv:s.vars=[]) (hl:laidOutB P=true)
    (hrd:∀ t∈fn.params.toList,P.readableRec t=true∧t<P.types.size) (hs:∀ ds:List (DataW H),ds.length=fn.params.toList.length→s.fn H ds={ results:=[.lit (.bool true)],args:=ds })
    (hW:DataW.Whole enc P fn.params.toList s.vars false W args.toList ds gs before) (g:Evo 0 [] [] W [] [] W'):s.post enc P fn false true false false W args (.bool true) W':=by
  have hW':=hW
  have hlt:∀ p∈before,p.block<W.heap.size:=fun p hp=>hW.lt p hp
  obtain ⟨p,q,hA,hV,rfl,hfz,hnd⟩:=hW
  rw [hv] at hV
  obtain ⟨rfl,rfl⟩:=trodVars_none hV
  have hlen:ds.length=fn.params.toList.length:=trodAll_len hA
  have he:s.fn H (ds++[])={ results:=[.lit (.bool true)],args:=ds }:=by rw [List.append_nil];exact hs ds hlen
  refine ⟨ds,[],_,[],p,[],hW',?_,?_,?_,g.kept _,fun h=>by cases h⟩
  · rw [he,hr]
    exact trodAll_cons_mk (shut_bool hb true) trodAll_mk0
  · rw [he]
    refine trodAll_stays hl hrd hA (fun x hx=>?_) (fun x hx=>by simpa using hlt x (List.mem_append_left _ hx))
    have:=g.same (hlt x (List.mem_append_left _ hx))
    cases x with
    | cell b off=>exact World.cell?_of_block this
    | map b=>exact this
  · rw [he,hv];rfl
end Go.Proofs.YthhjkfilfhmakaaDoor.Nx

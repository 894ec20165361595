import Derived.Test.YtlllnjhgjijnkaaDoorNxComp
set_option linter.unusedSimpArgs false
set_option linter.unusedVariables false
set_option linter.unnecessarySimpa false
open Option renaming bind_eq_some_iff → zD, bind_eq_bind → zJ, pure_def → zO, map_eq_some_iff → zT
open Option.some renaming injEq → zH
open Array renaming getD_eq_getD_getElem? → zR
namespace Go.Proofs.YtlllnjhgjijnkaaDoor.Nx
open Go
abbrev Tabs:=List (Nat × List D)
structure Ctx where
 t:Tabs
 env:A→Value→Prop:=fun _ _=>False
 b:Nat:=0
variable {P:Program} {w w':World} {M:Nat→Prop} {ρ ρ':Phys} {h h':Heap} {Γ:Ctx}
def Fw (rl:Option Nat):Fence:={ fn:=fun _=>True,depth:=none,alive:=false,round:=rl }
def Enters (P : Program) (f : FuncId) : Prop := ∃ fn, P.funcs[f]? = some fn ∧ (fn.name == "runtime.NumGoroutine") = false ∧ fn.body.isSome = true
def RepAs (w:World) (M:Nat→Prop) (ρ:Phys) (h:Heap) (l:List A) (vs:Array Value):Prop :=
 vs.size=l.length∧∀ (j:Nat) (x:A),l[j]? = some x→RepA w M ρ h x (vs.getD j undef)
def TabT (Γ:Tabs) (w:World) (M:Nat→Prop) (ρ:Phys) (h:Heap):Prop:=∀ (g:Nat) (cs:List D),(g,cs)∈Γ→RepA w M ρ h (.iptr cs) (.pointer (some ⟨g,0,none⟩))
structure TabsOk (Γ:Ctx) (w:World) (M:Nat→Prop) (ρ:Phys) (h:Heap):Prop where
 t:TabT Γ.t w M ρ h
 env:∀ a v,Γ.env a v→a.under Γ.b=true∧RepA w M ρ h a v
theorem TabsOk.evo {Γ:Ctx} (T:TabsOk Γ w M ρ h) (g:Evo h.length h ρ w h' ρ' w'):TabsOk Γ w' M ρ' h' :=
 ⟨fun u cs hu=>g.rep' (T.t u cs hu),fun a v hv=>⟨(T.env a v hv).1,g.rep' (T.env a v hv).2⟩⟩
theorem TabsOk.of_t {t:Tabs} (T:TabT t w M ρ h):TabsOk ⟨t,fun _ _=>False,0⟩ w M ρ h:=⟨T,fun _ _ h=>h.elim⟩
structure FnD (Γ:Ctx) (P:Program) (f:FuncId) (args:List A) (h:Heap) (r:A) (h':Heap):Prop where
 ent:Enters P f
 run:∀ (M:Nat→Prop) (w:World) (ρ:Phys) (vs:Array Value),(∀ b,M b→b<w.heap.size)→SimH w M ρ h→TabsOk Γ w M ρ h→RepAs w M ρ h args vs →
  Calls P f vs w fun e w'=>∃ v ρ',e = .returned v∧RepA w' M ρ' h' r v∧SimH w' M ρ' h'∧Evo h.length h ρ w h' ρ' w'
structure FnP (Γ:Tabs) (P:Program) (f:FuncId) (args:List A) (r:A):Prop where
 ent:Enters P f
 run:∀ (M:Nat→Prop) (w:World) (vs:Array Value),(∀ b,M b→b<w.heap.size)→TabT Γ w M [] []→RepAs w M [] [] args vs →
  Calls P f vs w fun e w'=>∃ v,e = .returned v∧RepA w' M [] [] r v∧Evo 0 [] [] w [] [] w'
def RoundD (Γ:Ctx) (P:Program) (id:Nat) (args:List A) (h:Heap) (r:A) (h':Heap):Prop :=
 ∀ (M:Nat→Prop) (w:World) (ρ:Phys) (vs:Array Value) (l p:Nat),(∀ b,M b→b<w.heap.size)→SimH w M ρ h→TabsOk Γ w M ρ h→ρ[id]? = some (some (l,p))→RepAs w M ρ h args vs →
  ∃ f tmps assign body,(Instr.yield l vs).run P w = .ok (.round l f tmps assign body) w ∧
   RoundIn Fence.wide 0 P l f tmps assign body w fun e w'=>∃ v ρ',e = .returned v∧RepA w' M ρ' h' r v∧SimH w' M ρ' h'∧Evo h.length h ρ w h' ρ' w'
structure FnsOk (Γ:Ctx) (P:Program) (F:Fns):Prop where
 pure:∀ f args r,F.pure f args r→FnP Γ.t P f args r
 call:∀ f args h r h',F.call f args h r h'→FnD Γ P f args h r h'
 round:∀ id args h r h',F.round id args h r h'→RoundD Γ P id args h r h'
theorem wp_does {rl:Option Nat} {o:Oper} {a:Act} {r:A} {next:Act→World→Prop} {Q:Exit→Act→World→Prop} (hd:∀ c,o.op ≠ .defer c) (hdo:Does P (execOp a.eval o) w M ρ h r h')
  (hn:∀ v w' ρ',RepA w' M ρ' h' r v→SimH w' M ρ' h'→Evo h.length h ρ w h' ρ' w'→next (a.put o.dst v) w'):o.wpIn (Fw rl) 0 P a w next Q:=by
 obtain ⟨v,w',ρ',hr,h1,h2,h3⟩:=hdo
 refine ⟨fun _ _=>trivial,?_⟩
 rw [Oper.semAt_eq _ _ _ hd]
 rcases hr with hr | ⟨rfl,hr⟩
 ·rw [hr];exact hn v w' ρ' h1 h2 h3
 ·rw [hr];exact hn undef w' ρ' h1 h2 h3
theorem callsIn_any {rl:Option Nat} {n:Nat} {f:FuncId} {args:Array Value} {R:Ending→World→Prop} (hc:Calls P f args w R):CallsIn (Fw rl) n P f args w R:=by
 have:=(callsIn_wide (n:=n)).2 hc
 exact this
theorem roundIn_any {rl:Option Nat} {n l:Nat} {f:FuncId} {tmps:Array Value} {assign body:Code} {R:Ending→World→Prop} (hc:RoundIn Fence.wide n P l f tmps assign body w R):RoundIn (Fw rl) n P l f tmps assign body w R:=hc
theorem run_callFunc {f:FuncId} (he:Enters P f) (args:Array Value):(callFunc f args).run P w = .ok (.enter f args) w:=by
 obtain ⟨fn,h1,h2,h3⟩:=he
 have h2' : ¬ fn.name = "runtime.NumGoroutine" := by simpa using h2
 have h4:¬ fn.body=none:=by intro hb;rw [hb] at h3;cases h3
 simp [callFunc,h1,h2',h4]
theorem mapM_cO {l:List Operand} {ys:List XO} (hm:l.mapM cO=some ys):ys.length=l.length∧∀ (j:Nat) (x:Operand),l[j]? = some x→∃ y,ys[j]? = some y∧cO x=some y:=by
 induction l generalizing ys with
 | nil=>simp at hm;subst hm;simp
 | cons a l ih =>
  simp only [List.mapM_cons,zJ,zO,zD,zH] at hm
  obtain ⟨y,hy,ys',hys,rfl⟩:=hm
  obtain ⟨h1,h2⟩:=ih hys
  refine ⟨by simp [h1],fun j x hj=>?_⟩
  cases j with
  | zero=>simp at hj;subst hj;exact ⟨y,by simp,hy⟩
  | succ j=>simp at hj;simpa using h2 j x hj
theorem env_args {ev:XO→A} {e:Operand→Value} (E:Env w M ρ h ev e) {l:List Operand} {ys:List XO} (hm:l.mapM cO=some ys):RepAs w M ρ h (ys.map ev) (l.map e).toArray:=by
 obtain ⟨h1,h2⟩:=mapM_cO hm
 refine ⟨by simp [h1],fun j x hj=>?_⟩
 simp only [List.getElem?_map,zT] at hj
 obtain ⟨y,hy,rfl⟩:=hj
 have hjl:j<l.length:=by rw [← h1];exact (List.getElem?_eq_some_iff.1 hy).1
 obtain ⟨y',hy',hc⟩:=h2 j _ (List.getElem?_eq_getElem hjl)
 rw [hy] at hy';cases hy'
 have:(l.map e).toArray.getD j undef=e l[j]:=by simp [zR,hjl]
 rw [this]
 exact E _ _ hc
theorem RepAs.append {l l':List A} {vs vs':Array Value} (h1:RepAs w M ρ h l vs) (h2:RepAs w M ρ h l' vs'):RepAs w M ρ h (l++l') (vs++vs'):=by
 refine ⟨by simp [h1.1,h2.1],fun j x hj=>?_⟩
 rw [zR]
 by_cases hlt:j<l.length
 ·rw [List.getElem?_append_left hlt] at hj
  rw [Array.getElem?_append_left (by rw [h1.1];exact hlt),← zR]
  exact h1.2 j x hj
 ·rw [List.getElem?_append_right (by omega)] at hj
  rw [Array.getElem?_append_right (by rw [h1.1];omega),← zR,h1.1]
  exact h2.2 _ x hj
theorem fn_inv {f:FuncId} {caps:List A} {v:Value} (hx:RepA w M ρ h (.fn f caps) v):∃ cs,v = .func (.func f) #[] cs∧RepAs w M ρ h caps cs:=by
 cases hx with
 | fn hl hr=>exact ⟨_,rfl,hl,hr⟩
theorem yld_inv {id:Nat} {v:Value} (hx:RepA w M ρ h (.yld id) v):∃ l p,v = .func (.yield l) #[] #[]∧ρ[id]? = some (some (l,p)):=by
 cases hx with
 | yld hh hp=>exact ⟨_,_,rfl,hp⟩
theorem RepA.lone {x:A} {v:Value} (hx:RepA w M ρ h x v) (h0:x.under 0=true):RepA w (Own M ρ) [] [] x v :=
 hx.move (n0:=0) (fun _ _ hn hc=>⟨hc,fun ho=>by
  rcases ho with ho | ⟨_,_,ho⟩
  ·exact hn ho
  ·simp at ho⟩) (fun _ _ hi=>absurd hi (Nat.not_lt_zero _)) h0
theorem RepA.joined {x:A} {v:Value} (hx:RepA w (Own M ρ) [] [] x v):RepA w M ρ h x v :=
 hx.move (n0:=0) (fun _ _ hn hc=>⟨hc,fun ho=>hn (.inl ho)⟩) (fun _ _ hi=>absurd hi (Nat.not_lt_zero _)) hx.under
theorem Evo.of_lone (g:Evo 0 [] [] w [] [] w'):Evo h.length h ρ w h ρ w' :=
 ⟨g.os,g.tape,g.output,g.size,fun b hb _=>g.old b hb (fun _ _ he=>by simp at he),fun id _ p hb=>.inr ⟨id,p,hb⟩,Nat.le_refl _,fun _ _ _ hb=>.refl hb⟩
theorem FnP.join {f:FuncId} {args:List A} {r:A} (hf:FnP Γ.t P f args r) (h0:A.underL 0 args=true):FnD Γ P f args h r h:=by
 refine ⟨hf.ent,fun M w ρ vs bnd S T hargs=>?_⟩
 refine (hf.run (Own M ρ) w vs (fun b hb=>?_) (fun g cs hg=>(T.t g cs hg).lone rfl) ⟨hargs.1,fun j x hj=>(hargs.2 j x hj).lone (A.underL_get h0 hj)⟩).mono fun e w' he=>?_
 ·rcases hb with hb | ⟨id,p,hp⟩
  ·exact bnd b hb
  ·exact S.lt hp
 ·obtain ⟨v,rfl,q1,q2⟩:=he
  have g:=q2.of_lone (h:=h) (ρ:=ρ)
  exact ⟨v,ρ,rfl,q1.joined,S.same g (fun id b p hp=>q2.old b (S.lt hp) (fun _ _ he=>by simp at he)),g⟩
theorem wp_call {rl:Option Nat} {o:Oper} {a:Act} {f:Operand} {args:List Operand} {xs:List XO} {xf:XO} {ts:Array TypeId} {ev:XO→A} {K:A→Heap→Prop}
  {next:Act→World→Prop} {Q:Exit→Act→World→Prop} (ho:o.op = .call { callee:=.value f,args:=args.toArray,argTypes:=ts }) (hf:cO f=some xf) (hxs:args.mapM cO=some xs) (bnd:∀ b,M b→b<w.heap.size) (S:SimH w M ρ h) (T:TabsOk Γ w M ρ h) (E:Env w M ρ h ev a.eval)
  (hK:match (generalizing:=false) ev xf with
   | .fn g caps=>∃ r h',FnD Γ P g (xs.map ev++caps) h r h'∧K r h'
   | .yld id=>∃ r h',RoundD Γ P id (xs.map ev) h r h'∧K r h'
   | _=>False)
  (hn:∀ r h' v w' ρ',K r h'→RepA w' M ρ' h' r v→SimH w' M ρ' h'→Evo h.length h ρ w h' ρ' w'→next (a.put o.dst v) w'):o.wpIn (Fw rl) 0 P a w next Q:=by
 have hargs:=env_args E hxs
 have hfv:=E f xf hf
 refine ⟨fun _ _=>trivial,?_⟩
 rw [Oper.semAt_eq _ _ _ (by rw [ho];intro c hc;cases hc)]
 have hop:execOp a.eval o=(do let d ← Deferred.ofValue (a.eval f) (args.map a.eval).toArray;invoke d.target d.args):=by
  unfold execOp
  rw [ho]
  simp [resolve]
 rw [hop]
 generalize ev xf=X at hK hfv
 cases X with
 | fn g caps =>
  obtain ⟨cs,hv,hcaps⟩:=fn_inv hfv
  obtain ⟨r,h',hfd,hKr⟩:=hK
  have hrun:(do let d ← Deferred.ofValue (a.eval f) (args.map a.eval).toArray;invoke d.target d.args:Sem Next).run P w = .ok (.enter g ((args.map a.eval).toArray++cs)) w:=by
   rw [hv]
   simp only [Deferred.ofValue,Sem.run_bind,Sem.run_pure,Result.andThen_ok,invoke,Array.empty_append]
   exact run_callFunc hfd.ent _
  rw [hrun,Oper.uponIn_enter]
  refine ⟨fun hh=>(by cases hh),callsIn_any ?_⟩
  refine (hfd.run M w ρ _ bnd S T (hargs.append hcaps)).mono fun e w' he=>?_
  obtain ⟨v,ρ',rfl,q1,q2,q3⟩:=he
  exact hn r h' v w' ρ' hKr q1 q2 q3
 | yld id =>
  obtain ⟨l,p,hv,hp⟩:=yld_inv hfv
  obtain ⟨r,h',hround,hKr⟩:=hK
  obtain ⟨fn,tmps,assign,body,hy,hR⟩:=hround M w ρ _ l p bnd S T hp hargs
  have hrun:(do let d ← Deferred.ofValue (a.eval f) (args.map a.eval).toArray;invoke d.target d.args:Sem Next).run P w = .ok (.round l fn tmps assign body) w:=by
   rw [hv]
   simp only [Deferred.ofValue,Sem.run_bind,Sem.run_pure,Result.andThen_ok,invoke,Array.empty_append]
   exact hy
  rw [hrun,Oper.uponIn_round]
  refine ⟨fun hh=>(by cases hh),roundIn_any ?_⟩
  refine hR.mono fun e w' he=>?_
  obtain ⟨v,ρ',rfl,q1,q2,q3⟩:=he
  exact hn r h' v w' ρ' hKr q1 q2 q3
 | _=>exact hK.elim
theorem optO_val {ev:XO→A} {e:Operand→Value} (E:Env w M ρ h ev e) {x:Option Operand} {y:Option XO} (hc:optO x=some y) {d:Nat} {n:Int} (hn:optInt ev y d=some n):optVal (x.map e) d n:=by
 cases x with
 | none=>simp [optO] at hc;subst hc;simp [optInt] at hn;exact .inl ⟨rfl,hn.symm⟩
 | some x =>
  simp only [optO,zT] at hc
  obtain ⟨y',hy,rfl⟩:=hc
  simp only [optInt] at hn
  have hx:=E _ _ hy
  split at hn
  ·rename_i k m heq
   cases hn
   rw [heq] at hx
   exact .inr ⟨_,congrArg some (sc_inv hx).1⟩
  ·cases hn
theorem items_build {ev:XO→A} {e:Operand→Value} (E:Env w M ρ h ev e) {fs:List (Nat × Nat)} {parts:List (Nat × Operand)} {ps:List (Nat × Nat × XO)}
  (hm:parts.mapM (fun (p:Nat × Operand)=>(do let q ← fs[p.1]?; pure (q.1,q.2,← cO p.2):Option (Nat × Nat × XO)))=some ps) :
  ∃ items:List (Nat × Nat × Nat × A × Value),(∀ it∈items,fs[it.1]? = some (it.2.1,it.2.2.1)∧RepA w M ρ h it.2.2.2.1 it.2.2.2.2) ∧
   items.map (fun it=>(it.2.1,it.2.2.1,it.2.2.2.1))=ps.map (fun p=>(p.1,p.2.1,ev p.2.2))∧items.map (fun it=>(it.1,it.2.2.2.2))=parts.map (fun p=>(p.1,e p.2)):=by
 induction parts generalizing ps with
 | nil=>simp at hm;subst hm;exact ⟨[],by simp,rfl,rfl⟩
 | cons p parts ih =>
  simp only [List.mapM_cons,zJ,zO,zD,zH] at hm
  obtain ⟨y,⟨q,hq,x,hx,rfl⟩,ps',hps,rfl⟩:=hm
  obtain ⟨items,h1,h2,h3⟩:=ih hps
  refine ⟨(p.1,q.1,q.2,ev x,e p.2)::items,fun it hit=>?_,by simp [h2],by simp [h3]⟩
  rcases List.mem_cons.1 hit with rfl | hit
  ·exact ⟨hq,E _ _ hx⟩
  ·exact h1 it hit
theorem items_slice {ev:XO→A} {e:Operand→Value} (E:Env w M ρ h ev e) {parts:List (Nat × Operand)} {ps:List (Nat × XO)}
  (hm:parts.mapM (fun (p:Nat × Operand)=>(do pure (p.1,← cO p.2):Option (Nat × XO)))=some ps) :
  ∃ items:List (Nat × A × Value),(∀ it∈items,RepA w M ρ h it.2.1 it.2.2) ∧
   items.map (fun it=>(it.1,it.2.1))=ps.map (fun p=>(p.1,ev p.2))∧items.map (fun it=>(it.1,it.2.2))=parts.map (fun p=>(p.1,e p.2)):=by
 induction parts generalizing ps with
 | nil=>simp at hm;subst hm;exact ⟨[],by simp,rfl,rfl⟩
 | cons p parts ih =>
  simp only [List.mapM_cons,zJ,zO,zD,zH] at hm
  obtain ⟨y,⟨x,hx,rfl⟩,ps',hps,rfl⟩:=hm
  obtain ⟨items,h1,h2,h3⟩:=ih hps
  refine ⟨(p.1,ev x,e p.2)::items,fun it hit=>?_,by simp [h2],by simp [h3]⟩
  rcases List.mem_cons.1 hit with rfl | hit
  ·exact E _ _ hx
  ·exact h1 it hit
theorem exec_does {F:Fns} {pl:Option Nat} {o:Oper} {x:XOp} {ev:XO→A} {e:Operand→Value} {K:A→Heap→Prop} (hc:compOp P o.op=some x) (hcall:∀ f args,x ≠ .call f args) (bnd:∀ b,M b→b<w.heap.size) (S:SimH w M ρ h) (E:Env w M ρ h ev e) (E':∀ v,e (.const v)=v)
  (hK:exec F pl x ev h K):∃ r h',K r h'∧Does P (execOp e o) w M ρ h r h':=by
 generalize hop:o.op=op at hc
 cases op with
 | move y =>
  simp only [compOp,zT] at hc
  obtain ⟨z,hz,rfl⟩:=hc
  exact ⟨_,_,hK,.pure (v:=e y) (by simp [execOp,hop]) (E _ _ hz) S⟩
 | assign y =>
  simp only [compOp,zT] at hc
  obtain ⟨z,hz,rfl⟩:=hc
  exact ⟨_,_,hK,.pure (v:=e y) (by simp [execOp,hop]) (E _ _ hz) S⟩
 | pick c a b =>
  simp only [compOp,zJ,zO,zD,zH] at hc
  obtain ⟨xc,hxc,xa,hxa,xb,hxb,rfl⟩:=hc
  simp only [exec] at hK
  split at hK
  ·rename_i t heq
   have hcv:=E _ _ hxc
   rw [heq] at hcv
   have hcv:=(sc_inv hcv).1
   cases t with
   | true =>
    simp only [if_true] at hK
    exact ⟨_,_,hK,.pure (v:=e a) (by simp [execOp,hop,hcv,asBool]) (E _ _ hxa) S⟩
   | false =>
    simp only [Bool.false_eq_true,if_false] at hK
    exact ⟨_,_,hK,.pure (v:=e b) (by simp [execOp,hop,hcv,asBool]) (E _ _ hxb) S⟩
  ·exact hK.elim
 | alloc t =>
  simp only [compOp,zJ,zO,zD] at hc
  obtain ⟨el,hel,z,hz,hs⟩:=hc
  split at hs<;>cases hs
  rename_i hsm
  obtain ⟨i,zv,z1,z2,z3,z4,z5,z6⟩:=zero_rep (w:=w) (M:=M) (ρ:=ρ) (h:=h) hz
  obtain ⟨i',hi',rfl⟩:=elt_some hel
  rw [z1] at hi';cases hi'
  exact does_box (cs:=zv.cells) t bnd S hsm (by omega) z4 z5 z6 (by simp [execOp,hop,Instr.alloc,zeroValue,typeInfo,z1,z2,newVar,newRow]) hK
 | box t y =>
  simp only [compOp,zJ,zO,zD] at hc
  obtain ⟨el,hel,hs⟩:=hc
  split at hs
  ·rename_i hsm
   simp only [zD,zH] at hs
   obtain ⟨z,hz,rfl⟩:=hs
   obtain ⟨k1,k2,hK⟩:=hK
   obtain ⟨q1,q2,q3⟩:=(E _ _ hz).ok k1
   exact does_box (cs:=(e y).cells) t bnd S hsm q1 k2 q2 q3 (by simp [execOp,hop,Instr.box,newVar,newRow]) hK
  ·cases hs
 | build t parts =>
  simp only [compOp,zJ,zO,zD,zH] at hc
  obtain ⟨z,hz,fs,hfs,ps,hps,rfl⟩:=hc
  obtain ⟨items,h1,h2,h3⟩:=items_build E (parts:=parts.toList) hps
  simp only [exec] at hK
  obtain ⟨r,h',hKr,hd⟩:=does_build (P:=P) (t:=t) S hz hfs h1 (K:=K) (by rw [h2];exact hK)
  refine ⟨r,h',hKr,?_⟩
  rw [h3] at hd
  have e1:execOp e o=(do pure (.value (← Instr.build t (parts.toList.map fun p=>(p.1,e p.2)).toArray))):=by
   simp only [execOp,hop]
   congr 2
   apply Array.ext'
   simp
  rw [e1];exact hd
 | buildSlice t len parts =>
  simp only [compOp,zJ,zO,zD] at hc
  obtain ⟨D,hu,hc⟩:=hc
  split at hc
  ·rename_i et
   simp only [zD] at hc
   obtain ⟨el,hel,z,hz,ps,hps,hs⟩:=hc
   split at hs<;>cases hs
   rename_i hcond
   simp only [Bool.and_eq_true,decide_eq_true_eq] at hcond
   obtain ⟨⟨⟨c1,c2⟩,c3⟩,c4⟩:=hcond
   obtain ⟨items,h1,h2,h3⟩:=items_slice E (parts:=parts.toList) hps
   simp only [exec] at hK
   obtain ⟨r,h',hKr,hd⟩:=does_bslice (P:=P) (t:=t) (len:=len) S bnd hu hel hz c1 c2 c3 c4 h1 (K:=K) (by rw [h2];exact hK)
   refine ⟨r,h',hKr,?_⟩
   rw [h3] at hd
   have e1:execOp e o=(do pure (.value (← Instr.buildSlice t len (parts.toList.map fun p=>(p.1,e p.2)).toArray))):=by
    simp only [execOp,hop]
    congr 2
    apply Array.ext'
    simp
   rw [e1];exact hd
  ·cases hc
 | load t y =>
  simp only [compOp,zJ,zO,zD] at hc
  obtain ⟨i,hi,hc⟩:=hc
  split at hc
  ·rename_i hk
   simp only [zD,zH] at hc
   obtain ⟨z,hz,rfl⟩:=hc
   obtain ⟨r,h',hKr,hd⟩:=does_load (P:=P) (K:=K) S hk hi (E _ _ hz) hK
   exact ⟨r,h',hKr,by simpa only [execOp,hop] using hd⟩
  ·cases hc
 | store t y z =>
  simp only [compOp,zJ,zO,zD,zH] at hc
  obtain ⟨i,hi,a,ha,b,hb,rfl⟩:=hc
  have hav:=E _ _ ha
  have hbv:=E _ _ hb
  simp only [exec] at hK
  split at hK
  ·rename_i id N j off heq
   rw [heq] at hav
   split at hK
   ·rename_i el rows hid
    obtain ⟨k1,k2,k3,hK⟩:=hK
    split at hK
    ·rename_i r hr
     obtain ⟨k4,hK⟩:=hK
     exact ⟨_,_,hK,by simpa only [execOp,hop] using does_store (P:=P) S hi hav hbv hid k1 k2 k3 hr k4⟩
    ·exact hK.elim
   ·exact hK.elim
  ·exact hK.elim
 | fieldAddr t y f =>
  simp only [compOp,zJ,zO,zD] at hc
  obtain ⟨D,hu,hc⟩:=hc
  split at hc
  ·rename_i fs
   simp only [zD] at hc
   obtain ⟨fd,hfd,i,hi,hc⟩:=hc
   split at hc
   ·cases hc
   ·rename_i hz
    simp only [zD,zH] at hc
    obtain ⟨a,ha,rfl⟩:=hc
    obtain ⟨r,h',hKr,hd⟩:=does_faddr (P:=P) (K:=K) S hu hfd hi hz (E _ _ ha) hK
    exact ⟨r,h',hKr,by simpa only [execOp,hop] using hd⟩
  ·cases hc
 | field t y f =>
  simp only [compOp,zJ,zO,zD] at hc
  obtain ⟨D,hu,hc⟩:=hc
  split at hc
  ·rename_i fs
   simp only [zD] at hc
   obtain ⟨fd,hfd,i,hi,hc⟩:=hc
   split at hc
   ·rename_i hk
    simp only [zD,zH] at hc
    obtain ⟨a,ha,rfl⟩:=hc
    obtain ⟨r,h',hKr,hd⟩:=does_field (P:=P) (K:=K) S hu hfd hk hi (E _ _ ha) hK
    exact ⟨r,h',hKr,by simpa only [execOp,hop] using hd⟩
   ·cases hc
  ·cases hc
 | indexAddr t y i =>
  simp only [compOp] at hc
  split at hc
  ·rename_i et hu
   simp only [zJ,zD] at hc
   obtain ⟨el,hel,hc⟩:=hc
   split at hc
   ·rename_i hsm
    simp only [zD,zO,zH] at hc
    obtain ⟨a,ha,b,hb,rfl⟩:=hc
    obtain ⟨ti,hti,rfl⟩:=elt_some hel
    have hav:=E _ _ ha
    have hbv:=E _ _ hb
    simp only [exec] at hK
    split at hK
    ·rename_i e' rows k n h1 h2
     rw [h1] at hav;rw [h2] at hbv
     obtain ⟨rfl,k0,k1,hK⟩:=hK
     refine ⟨_,_,hK,?_⟩
     have:=does_iaddr_sl (P:=P) (k:=k) S hu hti rfl (d_inv hav) k0 k1
     simp only [execOp,hop]
     rw [(sc_inv hbv).1];exact this
    ·rename_i e' rows k n h1 h2
     rw [h1] at hav;rw [h2] at hbv
     obtain ⟨rfl,k0,k1,hK⟩:=hK
     refine ⟨_,_,hK,?_⟩
     have:=does_iaddr_sl (P:=P) (k:=k) S hu hti rfl (nn_inv hav).1 k0 k1
     simp only [execOp,hop]
     rw [(sc_inv hbv).1];exact this
    ·rename_i e' rows k n h1 h2
     rw [h1] at hav;rw [h2] at hbv
     obtain ⟨rfl,k0,k1,hK⟩:=hK
     refine ⟨_,_,hK,?_⟩
     have:=does_iaddr_sl (P:=P) (k:=k) S hu hti rfl (nn_inv (fd_inv hav).1).1 k0 k1
     simp only [execOp,hop]
     rw [(sc_inv hbv).1];exact this
    ·rename_i id N off len full k n h1 h2
     rw [h1] at hav;rw [h2] at hbv
     split at hK
     ·rename_i e' rows hid
      obtain ⟨rfl,kN,k0,k1,hK⟩:=hK
      refine ⟨_,_,hK,?_⟩
      have:=does_iaddr_ref (P:=P) (k:=k) S hu hti rfl hid kN hav k0 k1
      simp only [execOp,hop]
      rw [(sc_inv hbv).1];exact this
     ·exact hK.elim
    ·exact hK.elim
   ·cases hc
  ·rename_i n et hu
   simp only [zJ,zD,zO,zH] at hc
   obtain ⟨el,hel,a,ha,b,hb,rfl⟩:=hc
   obtain ⟨ti,hti,rfl⟩:=elt_some hel
   obtain ⟨r,h',hKr,hd⟩:=does_aaddr (P:=P) (K:=K) S hu hti (E _ _ ha) (E _ _ hb) hK
   exact ⟨r,h',hKr,by simpa only [execOp,hop] using hd⟩
  ·cases hc
 | index t y i =>
  simp only [compOp] at hc
  split at hc
  ·rename_i hu
   simp only [zJ,zD,zO,zH] at hc
   obtain ⟨a,ha,b,hb,rfl⟩:=hc
   have hav:=E _ _ ha
   have hbv:=E _ _ hb
   simp only [exec] at hK
   split at hK
   ·rename_i s k n h1 h2
    rw [h1] at hav;rw [h2] at hbv
    obtain ⟨k0,k1,hK⟩:=hK
    exact ⟨_,_,hK,by simpa only [execOp,hop] using does_sidx (P:=P) S hu hav hbv k0 k1⟩
   ·exact hK.elim
  ·rename_i n et hu
   simp only [zJ,zD] at hc
   obtain ⟨el,hel,hc⟩:=hc
   split at hc
   ·rename_i hk
    simp only [zD,zO,zH] at hc
    obtain ⟨a,ha,b,hb,rfl⟩:=hc
    obtain ⟨ti,hti,rfl⟩:=elt_some hel
    obtain ⟨r,h',hKr,hd⟩:=does_aidx (P:=P) (K:=K) S hu hti hk (E _ _ ha) (E _ _ hb) hK
    exact ⟨r,h',hKr,by simpa only [execOp,hop] using hd⟩
   ·cases hc
  ·cases hc
 | nilCheck y =>
  simp only [compOp,zT] at hc
  obtain ⟨z,hz,rfl⟩:=hc
  have hv:=E _ _ hz
  simp only [exec] at hK
  split at hK
  ·rename_i id N i off heq
   rw [heq] at hv
   split at hK
   ·rename_i el rows hid
    obtain ⟨hN,hK⟩:=hK
    obtain ⟨b,p,hρ,hvv⟩:=ptr_inv hv hid hN
    exact ⟨_,_,hK,.pure (v:=e y) (by simp [execOp,hop,hvv]) hv S⟩
   ·exact hK.elim
  ·rename_i cs heq
   rw [heq] at hv
   obtain ⟨a,hvv⟩:∃ a,e y = .pointer (some a):=by
    generalize e y=v at hv
    cases hv;exact ⟨_,rfl⟩
   exact ⟨_,_,hK,.pure (v:=e y) (by simp [execOp,hop,hvv]) hv S⟩
  ·rename_i f caps heq
   rw [heq] at hv
   obtain ⟨cs,hvv,_⟩:=fn_inv hv
   exact ⟨_,_,hK,.pure (v:=e y) (by simp [execOp,hop,hvv]) hv S⟩
  ·exact hK.elim
 | binOp op t y z ty =>
  simp only [compOp] at hc
  have bincase:∀ a b,cO y=some a→cO z=some b→x = .bin op a b→∃ r h',K r h'∧Does P (execOp e o) w M ρ h r h':=by
   rintro a b ha hb rfl
   have hav:=E _ _ ha
   have hbv:=E _ _ hb
   simp only [exec] at hK
   split at hK
   ·rename_i u v h1 h2
    rw [h1] at hav;rw [h2] at hbv
    split at hK
    ·rename_i r hr
     exact ⟨_,_,hK,by simpa only [execOp,hop] using does_bin (P:=P) (t:=t) (x:=y) (y:=z) S hav hbv hr⟩
    ·exact hK.elim
   ·exact hK.elim
  have eqbcase:∀ (neg:Bool) a b,op=(if neg then .neq else .eql)→P.underlying t=some .bool→cO y=some a→cO z=some b→x = .eqb neg a b→∃ r h',K r h'∧Does P (execOp e o) w M ρ h r h':=by
   rintro neg a b rfl hu ha hb rfl
   have hav:=E _ _ ha
   have hbv:=E _ _ hb
   simp only [exec] at hK
   split at hK
   ·rename_i u v h1 h2
    rw [h1] at hav;rw [h2] at hbv
    exact ⟨_,_,hK,by simpa only [execOp,hop] using does_eqb (P:=P) (t:=t) (x:=y) (y:=z) (neg:=neg) S hu hav hbv⟩
   ·exact hK.elim
  have eqscase:∀ (neg:Bool) a b ks i fs,op=(if neg then .neq else .eql)→P.underlying t=some (.struct fs)→eqPlan P 10000 t=some ks→P.info? t=some i→P.eqGuardType P.depth t=false→cO y=some a→cO z=some b→x = .eqs neg i.size ks a b→∃ r h',K r h'∧Does P (execOp e o) w M ρ h r h':=by
   rintro neg a b ks i fs rfl hu hks hi hq ha hb rfl
   have hav:=E _ _ ha
   have hbv:=E _ _ hb
   simp only [exec] at hK
   split at hK
   ·rename_i xs ys h1 h2
    rw [h1] at hav;rw [h2] at hbv
    obtain ⟨k1,k2,hK⟩:=hK
    split at hK
    ·rename_i b' hb'
     exact ⟨_,_,hK,by simpa only [execOp,hop] using does_eqs (P:=P) (t:=t) (x:=y) (y:=z) (neg:=neg) S hks (by simp [aggB,hu]) hi hq hav hbv k1 k2 hb'⟩
    ·exact hK.elim
   ·exact hK.elim
  have eqnilcase:∀ (neg:Bool) a et,op=(if neg then .neq else .eql)→P.underlying t=some (.slice et)→e z = .slice none 0 0→cO y=some a→x = .eqnil neg a→∃ r h',K r h'∧Does P (execOp e o) w M ρ h r h':=by
   rintro neg a et rfl hu hz ha rfl
   obtain ⟨r,h',hKr,hd⟩:=does_eqnil (P:=P) (K:=K) (t:=t) (x:=y) (y:=z) (neg:=neg) S hu (E _ _ ha) hK
   refine ⟨r,h',hKr,?_⟩
   simp only [execOp,hop]
   rw [hz];exact hd
  split at hc
  ·simp only [zJ,zD,zO,zH] at hc
   obtain ⟨a,ha,b,hb,rfl⟩:=hc
   exact bincase a b ha hb rfl
  ·simp only [zJ,zD,zO,zH] at hc
   obtain ⟨a,ha,b,hb,rfl⟩:=hc
   exact bincase a b ha hb rfl
  ·rename_i hu
   split at hc
   ·simp only [zJ,zD,zO,zH] at hc
    obtain ⟨a,ha,b,hb,rfl⟩:=hc
    exact eqbcase false a b rfl hu ha hb rfl
   ·simp only [zJ,zD,zO,zH] at hc
    obtain ⟨a,ha,b,hb,rfl⟩:=hc
    exact eqbcase true a b rfl hu ha hb rfl
   ·cases hc
  ·rename_i fs hu
   simp only [zJ,zD] at hc
   obtain ⟨ks,hks,i,hi,hc⟩:=hc
   split at hc
   ·cases hc
   ·rename_i hq
    have hq:P.eqGuardType P.depth t=false:=by simpa using hq
    split at hc
    ·simp only [zD,zO,zH] at hc
     obtain ⟨a,ha,b,hb,rfl⟩:=hc
     exact eqscase false a b ks i fs rfl hu hks hi hq ha hb rfl
    ·simp only [zD,zO,zH] at hc
     obtain ⟨a,ha,b,hb,rfl⟩:=hc
     exact eqscase true a b ks i fs rfl hu hks hi hq ha hb rfl
    ·cases hc
  ·rename_i et hu
   split at hc
   ·rename_i hnil
    have hz:e z = .slice none 0 0:=by
     cases z<;>simp only [isNilK] at hnil<;>try (cases hnil;done)
     rename_i v
     rw [E']
     cases v<;>simp only [isNilV] at hnil<;>try (cases hnil;done)
     rename_i a n c
     cases a<;>simp only [isNilV] at hnil
     ·simp at hnil;rw [hnil.1,hnil.2]
     ·cases hnil
    split at hc
    ·simp only [zJ,zD,zO,zH] at hc
     obtain ⟨a,ha,rfl⟩:=hc
     exact eqnilcase false a et rfl hu hz ha rfl
    ·simp only [zJ,zD,zO,zH] at hc
     obtain ⟨a,ha,rfl⟩:=hc
     exact eqnilcase true a et rfl hu hz ha rfl
    ·cases hc
   ·cases hc
  ·cases hc
 | unOp op t y =>
  simp only [compOp,zJ,zD,zO,zH] at hc
  obtain ⟨a,ha,rfl⟩:=hc
  have hav:=E _ _ ha
  simp only [exec] at hK
  split at hK
  ·rename_i u h1
   rw [h1] at hav
   split at hK
   ·rename_i v hv
    exact ⟨_,_,hK,by simpa only [execOp,hop] using does_un (P:=P) S hav hv⟩
   ·exact hK.elim
  ·exact hK.elim
 | convert src dst y =>
  simp only [compOp] at hc
  split at hc
  ·rename_i k' k hs hd
   simp only [zJ,zD,zO,zH] at hc
   obtain ⟨a,ha,rfl⟩:=hc
   have hav:=E _ _ ha
   simp only [exec] at hK
   split at hK
   ·rename_i kk n h1
    rw [h1] at hav
    exact ⟨_,_,hK,by simpa only [execOp,hop] using does_conv (P:=P) S hs hd hav⟩
   ·exact hK.elim
  ·rename_i et hs hd
   split at hc
   ·rename_i he
    simp only [zJ,zD,zO] at hc
    obtain ⟨el,hel,hc⟩:=hc
    split at hc
    ·rename_i hsz
     simp only [zD,zH] at hc
     obtain ⟨a,ha,rfl⟩:=hc
     have hav:=E _ _ ha
     simp only [exec] at hK
     split at hK
     ·rename_i s h1
      rw [h1] at hav
      exact ⟨_,_,hK.2,by simpa only [execOp,hop] using does_s2r (P:=P) S bnd hs hd he hsz hav hK.1⟩
     ·exact hK.elim
    ·cases hc
   ·cases hc
  ·rename_i et hs hd
   split at hc
   ·rename_i he
    simp only [zJ,zD,zO,zH] at hc
    obtain ⟨a,ha,rfl⟩:=hc
    have hav:=E _ _ ha
    simp only [exec] at hK
    split at hK
    ·rename_i rows hr
     split at hK
     ·rename_i ns hn
      exact ⟨_,_,hK.2,by simpa only [execOp,hop] using does_b2s (P:=P) S hs hd he hav (e:=⟨1,1⟩) rfl hr hn hK.1⟩
     ·exact hK.elim
    ·exact hK.elim
   ·cases hc
  ·rename_i kk hs hd
   simp only [zJ,zD,zO,zH] at hc
   obtain ⟨a,ha,rfl⟩:=hc
   have hav:=E _ _ ha
   simp only [exec] at hK
   split at hK
   ·rename_i k n h1
    rw [h1] at hav
    exact ⟨_,_,hK,by simpa only [execOp,hop] using does_i2s (P:=P) S hs hd hav⟩
   ·exact hK.elim
  ·cases hc
 | range t y =>
  simp only [compOp] at hc
  split at hc
  ·rename_i hu
   simp only [zJ,zD,zO,zH] at hc
   obtain ⟨a,ha,rfl⟩:=hc
   have hav:=E _ _ ha
   simp only [exec] at hK
   split at hK
   ·rename_i s h1
    rw [h1] at hav
    obtain ⟨r,h',q1,q2⟩:=does_iter (P:=P) S bnd hu hav hK
    exact ⟨r,h',q1,by simpa only [execOp,hop] using q2⟩
   ·exact hK.elim
  ·cases hc
 | next y str =>
  simp only [compOp] at hc
  split at hc
  ·rename_i hstr
   simp only [zJ,zD,zO,zH] at hc
   obtain ⟨a,ha,rfl⟩:=hc
   have hav:=E _ _ ha
   simp only [exec] at hK
   split at hK
   ·rename_i id h1
    rw [h1] at hav
    split at hK
    ·rename_i s pos hid
     obtain ⟨r,h',q1,q2⟩:=does_next (P:=P) (ty:=o.type) S hav hid hK.1 hK.2
     subst hstr
     exact ⟨r,h',q1,by simpa only [execOp,hop] using q2⟩
    ·exact hK.elim
   ·exact hK.elim
  ·cases hc
 | slice t y lo hi mx =>
  simp only [compOp] at hc
  split at hc
  ·rename_i et hu
   simp only [zJ,zD] at hc
   obtain ⟨el,hel,hc⟩:=hc
   split at hc
   ·cases hc
   ·rename_i hmh
    simp only [zD,zO,zH] at hc
    obtain ⟨a,ha,l,hl,u,hu',m,hm,rfl⟩:=hc
    obtain ⟨ti,hti,rfl⟩:=elt_some hel
    have hav:=E _ _ ha
    have hh:(mx.map e).isSome=true→(hi.map e).isSome=true:=by
     cases mx<;>cases hi<;>simp_all
    have hbs:m.isSome=true→(mx.map e).isSome=true:=by
     cases mx<;>simp [optO] at hm<;>(try obtain ⟨_,_,rfl⟩:=hm)<;>simp_all
    simp only [exec] at hK
    split at hK
    ·rename_i heq
     rw [heq] at hav
     obtain ⟨k1,k2,k3,hK⟩:=hK
     exact ⟨_,_,hK,by simpa only [execOp,hop] using does_slice_nil (P:=P) S hu hti hav (optO_val E hl k1) (optO_val E hu' k2) (optO_val E hm k3) hh⟩
    ·rename_i e' rows heq
     rw [heq] at hav
     split at hK
     ·rename_i q1 q2 q3 p1 p2 p3
      obtain ⟨k1,k2,k3,k4,k5,hK⟩:=hK
      exact ⟨_,_,hK,by simpa only [execOp,hop] using does_slice_sl (P:=P) S hu hti k1 (d_inv hav) (optO_val E hl p1) (optO_val E hu' p2) (optO_val E hm p3) hh k2 k3 k4 k5 hbs⟩
     ·exact hK.elim
    ·rename_i e' rows heq
     rw [heq] at hav
     split at hK
     ·rename_i q1 q2 q3 p1 p2 p3
      obtain ⟨k1,k2,k3,k4,k5,hK⟩:=hK
      exact ⟨_,_,hK,by simpa only [execOp,hop] using does_slice_sl (P:=P) S hu hti k1 (nn_inv hav).1 (optO_val E hl p1) (optO_val E hu' p2) (optO_val E hm p3) hh k2 k3 k4 k5 hbs⟩
     ·exact hK.elim
    ·rename_i id N off len full heq
     rw [heq] at hav
     split at hK
     ·rename_i e' rows hid
      split at hK
      ·rename_i q1 q2 q3 p1 p2 p3
       obtain ⟨k1,kN,k2,k3,k4,k5,hK⟩:=hK
       have hmn:m.isNone=(mx.map e).isNone:=by cases mx<;>simp [optO] at hm<;>(try obtain ⟨_,_,rfl⟩:=hm)<;>simp_all
       rw [hmn] at hK
       exact ⟨_,_,hK,by simpa only [execOp,hop] using does_slice_ref (P:=P) S hu hti k1 hid kN hav (optO_val E hl p1) (optO_val E hu' p2) (optO_val E hm p3) hh k2 k3 k4 k5⟩
      ·exact hK.elim
     ·exact hK.elim
    ·exact hK.elim
  ·rename_i hu
   split at hc
   ·cases hc
   ·rename_i hmn
    simp only [zJ,zD,zO,zH] at hc
    obtain ⟨a,ha,l,hl,u,hu',rfl⟩:=hc
    have hav:=E _ _ ha
    have hmx:mx=none:=by cases mx<;>simp_all
    subst hmx
    simp only [exec] at hK
    split at hK
    ·rename_i s heq
     rw [heq] at hav
     split at hK
     ·rename_i q1 q2 p1 p2
      obtain ⟨k1,k2,k3,hK⟩:=hK
      exact ⟨_,_,hK,by simpa only [execOp,hop,Option.map_none] using does_sslice (P:=P) S hu hav (optO_val E hl p1) (optO_val E hu' p2) k1 k2 k3⟩
     ·exact hK.elim
    ·exact hK.elim
  ·cases hc
 | makeSlice t n c =>
  simp only [compOp] at hc
  split at hc
  ·rename_i et hu
   simp only [zJ,zD] at hc
   obtain ⟨el,hel,z,hz,hc⟩:=hc
   split at hc
   ·rename_i hsm
    simp only [zD,zO,zH] at hc
    obtain ⟨a,ha,b,hb,rfl⟩:=hc
    have hav:=E _ _ ha
    have hbv:=E _ _ hb
    simp only [exec] at hK
    split at hK
    ·rename_i q1 q2 h1 h2
     rw [h1] at hav;rw [h2] at hbv
     obtain ⟨k1,k2,k3,k4,hK⟩:=hK
     obtain ⟨r,h',hKr,hd⟩:=does_make (P:=P) (K:=K) S bnd hu hel hz hsm hav hbv k1 k2 k3 k4 hK
     exact ⟨r,h',hKr,by simpa only [execOp,hop] using hd⟩
    ·exact hK.elim
   ·cases hc
  ·cases hc
 | extract y i =>
  simp only [compOp,zJ,zD,zO,zH] at hc
  obtain ⟨a,ha,rfl⟩:=hc
  have hav:=E _ _ ha
  simp only [exec] at hK
  split at hK
  ·rename_i l h1
   rw [h1] at hav
   split at hK
   ·rename_i v hv
    exact ⟨_,_,hK,by simpa only [execOp,hop] using does_extract (P:=P) S hav hv⟩
   ·exact hK.elim
  ·exact hK.elim
 | makeFunc fn first caps =>
  simp only [compOp] at hc
  cases fn with
  | func f =>
   cases hf:first.toList with
   | nil =>
    simp only [hf,compFn,zT] at hc
    obtain ⟨xs,hxs,rfl⟩:=hc
    have hargs:=env_args E hxs
    have hd:=does_mkfn (P:=P) (f:=f) S hargs.1 hargs.2
    refine ⟨_,_,hK,?_⟩
    have hf:first = #[]:=Array.toList_eq_nil_iff.1 hf
    have e1:execOp e o=(do pure (.value (← Instr.makeFunc (.func f) #[] (caps.toList.map e).toArray))):=by
     simp only [execOp,hop,hf]
     congr 2
     ·simp
     ·apply Array.ext';simp
    rw [e1];exact hd
   | cons y ys=>simp [hf,compFn] at hc
  | _=>simp [compFn] at hc
 | call c =>
  have hex:∀ b,c.callee = .builtin b→execOp e o=builtin b c.argTypes o.type (c.args.map fun | .const _=>true | _=>false) (c.args.map e):=by
   intro b hb
   simp only [execOp,hop,resolve,hb]
   rfl
  have hargs2:∀ l,c.args.toList=l→c.args.map e=(l.map e).toArray:=by
   intro l hl
   apply Array.ext';simp [hl]
  have hts2:∀ l,c.argTypes.toList=l→c.argTypes=l.toArray:=by
   intro l hl
   apply Array.ext';simp [hl]
  have minmax:∀ (isMax:Bool) (xs:List XO),c.args.toList.mapM cO=some xs→execOp e o=(do pure (.value (← if isMax then Builtin.max_ c.argTypes o.type (c.args.map e) else Builtin.min_ c.argTypes o.type (c.args.map e)))) →
    exec F pl (.minmax isMax xs) ev h K→∃ r h',K r h'∧Does P (execOp e o) w M ρ h r h':=by
   intro isMax xs hxs e1 hK
   rw [e1]
   obtain ⟨hl,hm⟩:=mapM_cO hxs
   simp only [exec] at hK
   split at hK
   ·rename_i x y
    match hargs:c.args.toList,hl with
    | [a,b],_ =>
     rw [hargs] at hm
     obtain ⟨x',hx1,hx2⟩:=hm 0 a rfl
     obtain ⟨y',hy1,hy2⟩:=hm 1 b rfl
     simp at hx1 hy1
     subst hx1;subst hy1
     have hav:=E _ _ hx2
     have hbv:=E _ _ hy2
     split at hK
     ·rename_i k u k' v h1 h2
      rw [h1] at hav;rw [h2] at hbv
      obtain ⟨rfl,hK⟩:=hK
      refine ⟨_,_,hK,?_⟩
      rw [hargs2 _ hargs]
      exact does_minmax2 S hav hbv
     ·exact hK.elim
   ·rename_i x y z
    match hargs:c.args.toList,hl with
    | [a,b,d],_ =>
     rw [hargs] at hm
     obtain ⟨x',hx1,hx2⟩:=hm 0 a rfl
     obtain ⟨y',hy1,hy2⟩:=hm 1 b rfl
     obtain ⟨z',hz1,hz2⟩:=hm 2 d rfl
     simp at hx1 hy1 hz1
     subst hx1;subst hy1;subst hz1
     have hav:=E _ _ hx2
     have hbv:=E _ _ hy2
     have hdv:=E _ _ hz2
     split at hK
     ·rename_i k u k' v k'' t h1 h2 h3
      rw [h1] at hav;rw [h2] at hbv;rw [h3] at hdv
      obtain ⟨rfl,rfl,hK⟩:=hK
      refine ⟨_,_,hK,?_⟩
      rw [hargs2 _ hargs]
      exact does_minmax3 S hav hbv hdv
     ·exact hK.elim
   ·exact hK.elim
  simp only [compOp] at hc
  unfold compCall at hc
  split at hc
  ·rename_i f args ts hb
   simp only [zJ,zD,zO,zH] at hc
   obtain ⟨a,ha,xs,hxs,rfl⟩:=hc
   exact absurd rfl (hcall _ _)
  ·rename_i y t hb ha ht
   have e1:execOp e o=(do pure (.value (← Builtin.len_ #[t] o.type #[e y]))):=by
    rw [hex _ hb,hargs2 _ ha,hts2 _ ht];rfl
   rw [e1]
   split at hc
   ·rename_i et hu
    simp only [zJ,zD,zO,zH] at hc
    obtain ⟨a,ha',rfl⟩:=hc
    exact does_len (P:=P) (K:=K) (str:=false) S ⟨et,hu⟩ (E _ _ ha') hK
   ·rename_i hu
    simp only [zJ,zD,zO,zH] at hc
    obtain ⟨a,ha',rfl⟩:=hc
    exact does_len (P:=P) (K:=K) (str:=true) S hu (E _ _ ha') hK
   ·cases hc
  ·rename_i y z t t' hb ha ht
   have e1:execOp e o=(do pure (.value (← Builtin.append_ #[t,t'] o.type #[e y,e z]))):=by
    rw [hex _ hb,hargs2 _ ha,hts2 _ ht];rfl
   rw [e1]
   have app:∀ (et:TypeId) (el:Elt) (z0:List A) (a b:XO),P.underlying t=some (.slice et)→((∃ e2,P.underlying t'=some (.slice e2))∨P.underlying t'=some .string)→elt? P et=some el→zeroCells? P et=some z0→small el=true→cO y=some a→cO z=some b→x = .append el a b →
     ∃ r h',K r h'∧Does P (do pure (.value (← Builtin.append_ #[t,t'] o.type #[e y,e z]))) w M ρ h r h':=by
    rintro et el z0 a b hu hu' hel hz hsm ha' hb' rfl
    obtain ⟨ti,zv,z1,z2,z3,z4,z5,z6⟩:=zero_rep (w:=w) (M:=M) (ρ:=ρ) (h:=h) hz
    obtain ⟨ti',hti,rfl⟩:=elt_some hel
    rw [z1] at hti;cases hti
    obtain ⟨s1,s2⟩:=small_spec hsm
    have hav:=E _ _ ha'
    have hbv:=E _ _ hb'
    simp only [exec] at hK
    split at hK
    ·rename_i new hnew
     obtain ⟨f,src⟩:=src_ok (P:=P) S s1 hbv hnew
     split at hK
     ·rename_i heq
      rw [heq] at hav
      exact does_append_nil (P:=P) (K:=K) S bnd hu hu' z1 z2 z3 rfl rfl s1 hav src hK
     ·rename_i id N off len full heq
      rw [heq] at hav
      split at hK
      ·rename_i el' rows hid
       obtain ⟨rfl,hN,rfl,q1,q2,hK⟩:=hK
       split at hK
       ·rename_i hlN
        have hd:=does_append (P:=P) (ty:=o.type) S bnd hu hu' z1 z2 z3 rfl rfl hid hN hav src q1 q2 (.inl hlN)
        have e2:rows.take len++new++rows.drop (len+new.length)=rows++new:=by
         rw [hlN,hN,List.take_length,List.drop_eq_nil_of_le (by omega),List.append_nil]
        have e3:(rows++new).length=N+new.length:=by simp [hN]
        rw [e2,e3,hlN] at hd
        exact ⟨_,_,hK,hd⟩
       ·obtain ⟨q3,q4,hK⟩:=hK
        have hd:=does_append (P:=P) (ty:=o.type) S bnd hu hu' z1 z2 z3 rfl rfl hid hN hav src q1 q2 (.inr ⟨q3,q4⟩)
        have e3:(rows.take len++new++rows.drop (len+new.length)).length=N:=by simp;omega
        rw [e3] at hd
        exact ⟨_,_,hK,hd⟩
      ·exact hK.elim
     ·rename_i e' rows heq
      rw [heq] at hav
      exact does_append_fd (P:=P) (K:=K) S bnd hu hu' z1 z2 z3 rfl rfl s1 hav src hK
     ·exact hK.elim
    ·exact hK.elim
   split at hc
   ·rename_i et e2 hu hu'
    simp only [zJ,zD] at hc
    obtain ⟨el,hel,z0,hz0,hc⟩:=hc
    split at hc
    ·simp only [zD,zO,zH] at hc
     obtain ⟨a,ha',b,hb',rfl⟩:=hc
     exact app et el z0 a b hu (.inl ⟨e2,hu'⟩) hel hz0 ‹_› ha' hb' rfl
    ·cases hc
   ·rename_i et hu hu'
    simp only [zJ,zD] at hc
    obtain ⟨el,hel,z0,hz0,hc⟩:=hc
    split at hc
    ·simp only [zD,zO,zH] at hc
     obtain ⟨a,ha',b,hb',rfl⟩:=hc
     exact app et el z0 a b hu (.inr hu') hel hz0 ‹_› ha' hb' rfl
    ·cases hc
   ·cases hc
  ·rename_i y z t t' hb ha ht
   have e1:execOp e o=(do pure (.value (← Builtin.copy_ #[t,t'] o.type #[e y,e z]))):=by
    rw [hex _ hb,hargs2 _ ha,hts2 _ ht];rfl
   rw [e1]
   split at hc
   ·rename_i et hu
    simp only [zJ,zD] at hc
    obtain ⟨el,hel,hc⟩:=hc
    split at hc
    ·rename_i hsm
     simp only [zD,zO,zH] at hc
     obtain ⟨a,ha',b,hb',rfl⟩:=hc
     obtain ⟨ti,hti,rfl⟩:=elt_some hel
     obtain ⟨s1,s2⟩:=small_spec hsm
     have hav:=E _ _ ha'
     have hbv:=E _ _ hb'
     simp only [exec] at hK
     split at hK
     ·rename_i new hnew
      obtain ⟨f,src⟩:=src_ok (P:=P) S s1 hbv hnew
      split at hK
      ·rename_i id N off len full heq
       rw [heq] at hav
       split at hK
       ·rename_i el' rows hid
        obtain ⟨rfl,hN,hK⟩:=hK
        exact ⟨_,_,hK,does_copy (P:=P) S hu hti rfl hid hN hav src⟩
       ·exact hK.elim
      ·exact hK.elim
     ·exact hK.elim
    ·cases hc
   ·cases hc
  ·rename_i y t hb ha ht
   have e1:execOp e o=(do pure (.value (← Builtin.cap_ #[t] o.type #[e y]))):=by
    rw [hex _ hb,hargs2 _ ha,hts2 _ ht];rfl
   rw [e1]
   split at hc
   ·rename_i et hu
    simp only [zJ,zD,zO,zH] at hc
    obtain ⟨a,ha',rfl⟩:=hc
    have hav:=E _ _ ha'
    simp only [exec] at hK
    split at hK
    ·rename_i h1
     rw [h1] at hav
     exact ⟨_,_,hK,does_cap_nil (P:=P) S hu hav⟩
    ·exact hK.elim
   ·cases hc
  ·rename_i args ts hb
   simp only [zJ,zD,zO,zH] at hc
   obtain ⟨xs,hxs,rfl⟩:=hc
   exact minmax false xs hxs (by rw [hex _ hb];rfl) hK
  ·rename_i args ts hb
   simp only [zJ,zD,zO,zH] at hc
   obtain ⟨xs,hxs,rfl⟩:=hc
   exact minmax true xs hxs (by rw [hex _ hb];rfl) hK
  ·cases hc
 | _=>simp [compOp] at hc
end Go.Proofs.YtlllnjhgjijnkaaDoor.Nx

import Derived.Test.YtlllnjhgjijnkaaGreatDoorNxSound
set_option linter.all false
open Option renaming bind_eq_some_iff → zD, bind_eq_bind → zJ, pure_def → zO, map_eq_some_iff → zT
open Option.some renaming injEq → zH
open Array renaming getD_eq_getD_getElem? → zR
open List renaming mapM_cons → aA
open Nat renaming not_lt_zero → aB
namespace Go.Proofs.YtlllnjhgjijnkaaGreatDoor.Nx
open Go
section
def Vt:Option Operand→Option (Option XO)
 | none=>some none
 | some x=>(cO x).map some
def aDf:Value→Bool
 | .slice none n c=>n == 0&&c == 0
 | _=>false
def aHO:Operand→Bool
 | .const v=>aDf v
 | _=>false
def Qu:Fn→List Operand→List Operand→Option XOp
 | .func f,[],caps=>(caps.mapM cO).map (.mkfn f)
 | _,_,_=>none
def Iy(P:Program):Callee→List Operand→List TypeId→Option XOp
 | .value f,args,_=>do pure (.call (← cO f) (← args.mapM cO))
 | .builtin .len,[x],[t]=>match P.underlying t with
  | some (.slice _)=>do pure (.len false (← cO x))
  | some .string=>do pure (.len true (← cO x))
  | _=>none
 | .builtin .append,[x,y],[t,t']=>match P.underlying t,P.underlying t' with
  | some (.slice et),some (.slice _)=>do
   let e ← elt? P et
   let _z ← zeroCells? P et
   if vO e then pure (.append e (← cO x) (← cO y)) else none
  | some (.slice et),some .string=>do
   let e ← elt? P et
   let _z ← zeroCells? P et
   if vO e then pure (.append e (← cO x) (← cO y)) else none
  | _,_=>none
 | .builtin .copy,[x,y],[t,_]=>match P.underlying t with
  | some (.slice et)=>do
   let e ← elt? P et
   if vO e then pure (.copy e (← cO x) (← cO y)) else none
  | _=>none
 | .builtin .cap,[x],[t]=>match P.underlying t with
  | some (.slice _)=>do pure (.cap (← cO x))
  | _=>none
 | .builtin .min,args,_=>do pure (.minmax false (← args.mapM cO))
 | .builtin .max,args,_=>do pure (.minmax true (← args.mapM cO))
 | _,_,_=>none
def gA(P:Program)(op:Op):Option XOp :=
 match op with
 | .move x | .assign x=>(cO x).map .mov
 | .pick c a b=>do pure (.pick (← cO c) (← cO a) (← cO b))
 | .alloc t=>do
  let e ← elt? P t
  let z ← zeroCells? P t
  if vO e then pure (.alloc e z) else none
 | .box t x=>do
  let e ← elt? P t
  if vO e then pure (.box e (← cO x)) else none
 | .build t parts=>do
  let z ← zeroCells? P t
  let fs ← fieldsOf P t
  let ps ← parts.toList.mapM fun(i,x)=>do
   let(o,n) ← fs[i]?
   pure (o,n,← cO x)
  pure (.build z ps)
 | .buildSlice t len parts=>do
  let .slice et ← P.underlying t | none
  let e ← elt? P et
  let z ← zeroCells? P et
  let ps ← parts.toList.mapM fun(i,x)=>do pure (i,← cO x)
  if vO e&&decide (len * e.sz≤2 ^ 24)&&decide (len * e.bytes≤dL)&&decide (len≤maxLen) then pure (.bslice e z len ps) else none
 | .load t x=>do
  let i ← P.info? t
  if xI P t then pure (.load i.size (sG P t) (← cO x)) else none
 | .store t x y=>do
  let i ← P.info? t
  pure (.store i.size (← cO x) (← cO y))
 | .fieldAddr t x f=>do
  let .struct fs ← P.underlying t | none
  let fd ← fs[f]?
  let i ← P.info? fd.type
  if i.size=0 then none else pure (.faddr fd.offset (← cO x))
 | .field t x f=>do
  let .struct fs ← P.underlying t | none
  let fd ← fs[f]?
  let i ← P.info? fd.type
  if xI P fd.type then pure (.field fd.offset i.size (sG P fd.type) (← cO x)) else none
 | .indexAddr t x i=>match P.underlying t with
  | some (.slice et)=>do
   let e ← elt? P et
   if vO e then pure (.iaddr e (← cO x) (← cO i)) else none
  | some (.array n et)=>do
   let e ← elt? P et
   pure (.aaddr e n (← cO x) (← cO i))
  | _=>none
 | .index t x i=>match P.underlying t with
  | some .string=>do pure (.sidx (← cO x) (← cO i))
  | some (.array n et)=>do
   let e ← elt? P et
   if xI P et then pure (.aidx n e.sz (sG P et) (← cO x) (← cO i)) else none
  | _=>none
 | .nilCheck x=>(cO x).map .nilck
 | .binOp op t x y _=>match P.underlying t with
  | some (.int _)=>do pure (.bin op (← cO x) (← cO y))
  | some .string=>do pure (.bin op (← cO x) (← cO y))
  | some .bool=>match op with
   | .eql=>do pure (.eqb false (← cO x) (← cO y))
   | .neq=>do pure (.eqb true (← cO x) (← cO y))
   | _=>none
  | some (.struct _)=>do
   let ks ← Lc P 10000 t
   let i ← P.info? t
   if P.eqGuardType P.depth t then none else match op with
    | .eql=>do pure (.eqs false i.size ks (← cO x) (← cO y))
    | .neq=>do pure (.eqs true i.size ks (← cO x) (← cO y))
    | _=>none
  | some (.slice _)=>if aHO y then match op with
   | .eql=>do pure (.eqnil false (← cO x))
   | .neq=>do pure (.eqnil true (← cO x))
   | _=>none
   else none
  | _=>none
 | .unOp op _ x=>do pure (.un op (← cO x))
 | .convert src dst x=>match P.underlying src,P.underlying dst with
  | some (.int _),some (.int k)=>do pure (.conv k (← cO x))
  | some .string,some (.slice et)=>match P.underlying et with
   | some (.int .i32)=>do
    let e ← elt? P et
    if e.sz=1 then pure (.s2r e (← cO x)) else none
   | _=>none
  | some (.slice et),some .string=>match P.underlying et with
   | some (.int .u8)=>do pure (.b2s (← cO x))
   | _=>none
  | some (.int _),some .string=>do pure (.i2s (← cO x))
  | _,_=>none
 | .slice t x lo hi mx=>match P.underlying t with
  | some (.slice et)=>do
   let e ← elt? P et
   if mx.isSome && !hi.isSome then none else
   pure (.slice e (← cO x) (← Vt lo) (← Vt hi) (← Vt mx))
  | some .string=>if mx.isSome then none else do pure (.sslice (← cO x) (← Vt lo) (← Vt hi))
  | _=>none
 | .makeSlice t n c=>match P.underlying t with
  | some (.slice et)=>do
   let e ← elt? P et
   let z ← zeroCells? P et
   if vO e then pure (.make e z (← cO n) (← cO c)) else none
  | _=>none
 | .extract x i=>do pure (.extract i (← cO x))
 | .range t x=>match P.underlying t with
  | some .string=>do pure (.iter (← cO x))
  | _=>none
 | .next x str=>if str then do pure (.next (← cO x)) else none
 | .makeFunc fn first caps=>Qu fn first.toList caps.toList
 | .call c=>Iy P c.callee c.args.toList c.argTypes.toList
 | _=>none
end
section
abbrev dP:=List (Nat × List D)
structure Ctx where
 t:dP
 env:A→Value→Prop:=fun _ _=>False
 b:Nat:=0
variable {P:Program}{w w':World}{M:Nat→Prop}{ρ ρ':fJ}{h h':cM}{Γ:Ctx}
def Fw(rl:Option Nat):Fence:={ fn:=fun _=>True,depth:=none,alive:=false,round:=rl }
def sI (P : Program) (f : FuncId) : Prop := ∃ fn, P.funcs[f]? = some fn ∧ (fn.name == "runtime.NumGoroutine") = false ∧ fn.body.isSome = true
def tB(w:World)(M:Nat→Prop)(ρ:fJ)(h:cM)(l:List A)(vs:Array Value):Prop :=
 vs.size=l.length∧∀ (j:Nat) (x:A),l[j]? = some x→RepA w M ρ h x (vs.getD j undef)
def aBh(Γ:dP)(w:World)(M:Nat→Prop)(ρ:fJ)(h:cM):Prop:=∀ (g:Nat) (cs:List D),(g,cs)∈Γ→RepA w M ρ h (.iptr cs) (.pointer (some ⟨g,0,none⟩))
structure TabsOk(Γ:Ctx)(w:World)(M:Nat→Prop)(ρ:fJ)(h:cM):Prop where
 t:aBh Γ.t w M ρ h
 env:∀ a v,Γ.env a v→a.under Γ.b=true∧RepA w M ρ h a v
theorem TabsOk.evo{Γ:Ctx}(T:TabsOk Γ w M ρ h)(g:Evo h.length h ρ w h' ρ' w'):TabsOk Γ w' M ρ' h' :=
 ⟨fun u cs hu=>g.rep' (T.t u cs hu),fun a v hv=>⟨(T.env a v hv).1,g.rep' (T.env a v hv).2⟩⟩
theorem TabsOk.of_t{t:dP}(T:aBh t w M ρ h):TabsOk ⟨t,fun _ _=>False,0⟩ w M ρ h:=⟨T,fun _ _ h=>h.elim⟩
structure FnD(Γ:Ctx)(P:Program)(f:FuncId)(args:List A)(h:cM)(r:A)(h':cM):Prop where
 ent:sI P f
 run:∀ (M:Nat→Prop) (w:World) (ρ:fJ) (vs:Array Value),(∀ b,M b→b<w.heap.size)→SimH w M ρ h→TabsOk Γ w M ρ h→tB w M ρ h args vs →
  Calls P f vs w fun e w'=>∃ v ρ',e = .returned v∧RepA w' M ρ' h' r v∧SimH w' M ρ' h'∧Evo h.length h ρ w h' ρ' w'
structure FnP(Γ:dP)(P:Program)(f:FuncId)(args:List A)(r:A):Prop where
 ent:sI P f
 run:∀ (M:Nat→Prop) (w:World) (vs:Array Value),(∀ b,M b→b<w.heap.size)→aBh Γ w M [] []→tB w M [] [] args vs →
  Calls P f vs w fun e w'=>∃ v,e = .returned v∧RepA w' M [] [] r v∧Evo 0 [] [] w [] [] w'
def Cj(Γ:Ctx)(P:Program)(id:Nat)(args:List A)(h:cM)(r:A)(h':cM):Prop :=
 ∀ (M:Nat→Prop) (w:World) (ρ:fJ) (vs:Array Value) (l p:Nat),(∀ b,M b→b<w.heap.size)→SimH w M ρ h→TabsOk Γ w M ρ h→ρ[id]? = some (some (l,p))→tB w M ρ h args vs →
  ∃ f tmps assign body,(Instr.yield l vs).run P w = .ok (.round l f tmps assign body) w ∧
   RoundIn Fence.wide 0 P l f tmps assign body w fun e w'=>∃ v ρ',e = .returned v∧RepA w' M ρ' h' r v∧SimH w' M ρ' h'∧Evo h.length h ρ w h' ρ' w'
structure FnsOk(Γ:Ctx)(P:Program)(F:Fns):Prop where
 pure:∀ f args r,F.pure f args r→FnP Γ.t P f args r
 call:∀ f args h r h',F.call f args h r h'→FnD Γ P f args h r h'
 round:∀ id args h r h',F.round id args h r h'→Cj Γ P id args h r h'
theorem aKg{rl:Option Nat}{o:Oper}{a:Act}{r:A}{next:Act→World→Prop}{Q:Exit→Act→World→Prop}(hd:∀ c,o.op ≠ .defer c)(hdo:iI P (execOp a.eval o) w M ρ h r h')
  (hn:∀ v w' ρ',RepA w' M ρ' h' r v→SimH w' M ρ' h'→Evo h.length h ρ w h' ρ' w'→next (a.put o.dst v) w'):o.wpIn (Fw rl) 0 P a w next Q:=by
 obtain⟨v,w',ρ',hr,h1,h2,h3⟩:=hdo;refine⟨fun _ _=>trivial,?_⟩;rw[Oper.semAt_eq _ _ _ hd];rcases hr with hr | ⟨rfl,hr⟩
 ·rw[hr];exact hn v w' ρ' h1 h2 h3
 ·rw[hr];exact hn undef w' ρ' h1 h2 h3
theorem Mv{rl:Option Nat}{n:Nat}{f:FuncId}{args:Array Value}{R:Ending→World→Prop}(hc:Calls P f args w R):CallsIn (Fw rl) n P f args w R:=by
 have:=(callsIn_wide (n:=n)).2 hc;exact this
theorem aBi{rl:Option Nat}{n l:Nat}{f:FuncId}{tmps:Array Value}{assign body:Code}{R:Ending→World→Prop}(hc:RoundIn Fence.wide n P l f tmps assign body w R):RoundIn (Fw rl) n P l f tmps assign body w R:=hc
theorem Iz{f:FuncId}(he:sI P f)(args:Array Value):(callFunc f args).run P w = .ok (.enter f args) w:=by
 obtain⟨fn,h1,h2,h3⟩:=he
 have Xe : ¬ fn.name = "runtime.NumGoroutine" := by simpa using h2
 have h4:¬ fn.body=none:=by intro hb;rw[hb] at h3;cases h3
 simp[callFunc,h1,Xe,h4]
theorem aEP{l:List Operand}{ys:List XO}(hm:l.mapM cO=some ys):ys.length=l.length∧∀ (j:Nat) (x:Operand),l[j]? = some x→∃ y,ys[j]? = some y∧cO x=some y:=by
 induction l generalizing ys with
 | nil=>simp at hm;subst hm;simp
 | cons a l ih =>
  simp only[aA,zJ,zO,zD,zH] at hm;obtain⟨y,hy,ys',hys,rfl⟩:=hm;obtain⟨h1,h2⟩:=ih hys;refine⟨by simp[h1],fun j x hj=>?_⟩;cases j with
  | zero=>simp at hj;subst hj;exact⟨y,by simp,hy⟩
  | succ j=>simp at hj;simpa using h2 j x hj
theorem aBj{ev:XO→A}{e:Operand→Value}(E:Env w M ρ h ev e){l:List Operand}{ys:List XO}(hm:l.mapM cO=some ys):tB w M ρ h (ys.map ev) (l.map e).toArray:=by
 obtain⟨h1,h2⟩:=aEP hm;refine⟨by simp[h1],fun j x hj=>?_⟩;simp only[List.getElem?_map,zT] at hj;obtain⟨y,hy,rfl⟩:=hj;have qO:j<l.length:=by rw[← h1];exact(List.getElem?_eq_some_iff.1 hy).1
 obtain⟨y',hy',hc⟩:=h2 j _ (List.getElem?_eq_getElem qO);rw[hy] at hy';cases hy';have:(l.map e).toArray.getD j undef=e l[j]:=by simp[zR,qO]
 rw[this];exact E _ _ hc
theorem tB.append{l l':List A}{vs vs':Array Value}(h1:tB w M ρ h l vs)(h2:tB w M ρ h l' vs'):tB w M ρ h (l++l') (vs++vs'):=by
 refine⟨by simp[h1.1,h2.1],fun j x hj=>?_⟩;rw[zR]
 by_cases cY:j<l.length
 ·rw[List.getElem?_append_left cY] at hj;rw[Array.getElem?_append_left (by rw[h1.1];exact cY),← zR];exact h1.2 j x hj
 ·rw[List.getElem?_append_right (by omega)] at hj;rw[Array.getElem?_append_right (by rw[h1.1];omega),← zR,h1.1];exact h2.2 _ x hj
theorem aDg{f:FuncId}{caps:List A}{v:Value}(hx:RepA w M ρ h (.fn f caps) v):∃ cs,v = .func (.func f) #[] cs∧tB w M ρ h caps cs:=by
 cases hx with
 | fn hl hr=>exact⟨_,rfl,hl,hr⟩
theorem aKh{id:Nat}{v:Value}(hx:RepA w M ρ h (.yld id) v):∃ l p,v = .func (.yield l) #[] #[]∧ρ[id]? = some (some (l,p)):=by
 cases hx with
 | yld hh hp=>exact⟨_,_,rfl,hp⟩
theorem RepA.lone{x:A}{v:Value}(hx:RepA w M ρ h x v)(h0:x.under 0=true):RepA w (vH M ρ) [] [] x v :=
 hx.move (n0:=0) (fun _ _ hn hc=>⟨hc,fun ho=>by
  rcases ho with ho | ⟨_,_,ho⟩
  ·exact hn ho
  ·simp at ho⟩) (fun _ _ hi=>absurd hi (aB _)) h0
theorem RepA.joined{x:A}{v:Value}(hx:RepA w (vH M ρ) [] [] x v):RepA w M ρ h x v :=
 hx.move (n0:=0) (fun _ _ hn hc=>⟨hc,fun ho=>hn (.inl ho)⟩) (fun _ _ hi=>absurd hi (aB _)) hx.under
theorem Evo.of_lone(g:Evo 0 [] [] w [] [] w'):Evo h.length h ρ w h ρ w' :=
 ⟨g.os,g.tape,g.output,g.size,fun b hb _=>g.old b hb (fun _ _ he=>by simp at he),fun id _ p hb=>.inr ⟨id,p,hb⟩,Nat.le_refl _,fun _ _ _ hb=>.refl hb⟩
theorem FnP.join{f:FuncId}{args:List A}{r:A}(hf:FnP Γ.t P f args r)(h0:A.underL 0 args=true):FnD Γ P f args h r h:=by
 refine⟨hf.ent,fun M w ρ vs bnd S T fR=>?_⟩;refine(hf.run (vH M ρ) w vs (fun b hb=>?_) (fun g cs hg=>(T.t g cs hg).lone rfl) ⟨fR.1,fun j x hj=>(fR.2 j x hj).lone (A.underL_get h0 hj)⟩).mono fun e w' he=>?_
 ·rcases hb with hb | ⟨id,p,hp⟩
  ·exact bnd b hb
  ·exact S.lt hp
 ·obtain⟨v,rfl,q1,q2⟩:=he;have g:=q2.of_lone (h:=h) (ρ:=ρ);exact⟨v,ρ,rfl,q1.joined,S.same g (fun id b p hp=>q2.old b (S.lt hp) (fun _ _ he=>by simp at he)),g⟩
theorem aKi{rl:Option Nat}{o:Oper}{a:Act}{f:Operand}{args:List Operand}{xs:List XO}{xf:XO}{ts:Array TypeId}{ev:XO→A}{K:A→cM→Prop}
  {next:Act→World→Prop} {Q:Exit→Act→World→Prop} (ho:o.op = .call { callee:=.value f,args:=args.toArray,argTypes:=ts }) (hf:cO f=some xf) (hxs:args.mapM cO=some xs) (bnd:∀ b,M b→b<w.heap.size) (S:SimH w M ρ h) (T:TabsOk Γ w M ρ h) (E:Env w M ρ h ev a.eval)
  (hK:match (generalizing:=false) ev xf with
   | .fn g caps=>∃ r h',FnD Γ P g (xs.map ev++caps) h r h'∧K r h'
   | .yld id=>∃ r h',Cj Γ P id (xs.map ev) h r h'∧K r h'
   | _=>False)
  (hn:∀ r h' v w' ρ',K r h'→RepA w' M ρ' h' r v→SimH w' M ρ' h'→Evo h.length h ρ w h' ρ' w'→next (a.put o.dst v) w'):o.wpIn (Fw rl) 0 P a w next Q:=by
 have fR:=aBj E hxs;have hfv:=E f xf hf;refine⟨fun _ _=>trivial,?_⟩;rw[Oper.semAt_eq _ _ _ (by rw[ho];intro c hc;cases hc)];have uA:execOp a.eval o=(do let d ← Deferred.ofValue (a.eval f) (args.map a.eval).toArray;invoke d.target d.args):=by
  unfold execOp;rw[ho];simp[resolve]
 rw[uA];generalize ev xf=X at hK hfv;cases X with
 | fn g caps =>
  obtain⟨cs,hv,aFC⟩:=aDg hfv;obtain⟨r,h',hfd,hKr⟩:=hK;have fE:(do let d ← Deferred.ofValue (a.eval f) (args.map a.eval).toArray;invoke d.target d.args:Sem Next).run P w = .ok (.enter g ((args.map a.eval).toArray++cs)) w:=by
   rw[hv];simp only[Deferred.ofValue,Sem.run_bind,Sem.run_pure,Result.andThen_ok,invoke,Array.empty_append];exact Iz hfd.ent _
  rw[fE,Oper.uponIn_enter];refine⟨fun hh=>(by cases hh),Mv ?_⟩;refine(hfd.run M w ρ _ bnd S T (fR.append aFC)).mono fun e w' he=>?_;obtain⟨v,ρ',rfl,q1,q2,q3⟩:=he;exact hn r h' v w' ρ' hKr q1 q2 q3
 | yld id =>
  obtain⟨l,p,hv,hp⟩:=aKh hfv;obtain⟨r,h',aOd,hKr⟩:=hK;obtain⟨fn,tmps,assign,body,hy,hR⟩:=aOd M w ρ _ l p bnd S T hp fR;have fE:(do let d ← Deferred.ofValue (a.eval f) (args.map a.eval).toArray;invoke d.target d.args:Sem Next).run P w = .ok (.round l fn tmps assign body) w:=by
   rw[hv];simp only[Deferred.ofValue,Sem.run_bind,Sem.run_pure,Result.andThen_ok,invoke,Array.empty_append];exact hy
  rw[fE,Oper.uponIn_round];refine⟨fun hh=>(by cases hh),aBi ?_⟩;refine hR.mono fun e w' he=>?_;obtain⟨v,ρ',rfl,q1,q2,q3⟩:=he;exact hn r h' v w' ρ' hKr q1 q2 q3
 | _=>exact hK.elim
theorem jE{ev:XO→A}{e:Operand→Value}(E:Env w M ρ h ev e){x:Option Operand}{y:Option XO}(hc:Vt x=some y){d:Nat}{n:Int}(hn:dS ev y d=some n):sH (x.map e) d n:=by
 cases x with
 | none=>simp[Vt] at hc;subst hc;simp[dS] at hn;exact .inl ⟨rfl,hn.symm⟩
 | some x =>
  simp only[Vt,zT] at hc;obtain⟨y',hy,rfl⟩:=hc;simp only[dS] at hn;have hx:=E _ _ hy;split at hn
  ·rename_i k m heq;cases hn;rw[heq] at hx;exact .inr ⟨_,congrArg some (fV hx).1⟩
  ·cases hn
theorem aBk{ev:XO→A}{e:Operand→Value}(E:Env w M ρ h ev e){fs:List (Nat × Nat)}{parts:List (Nat × Operand)}{ps:List (Nat × Nat × XO)}
  (hm:parts.mapM (fun(p:Nat × Operand)=>(do let q ← fs[p.1]?; pure (q.1,q.2,← cO p.2):Option (Nat × Nat × XO)))=some ps) :
  ∃ items:List (Nat × Nat × Nat × A × Value),(∀ it∈items,fs[it.1]? = some (it.2.1,it.2.2.1)∧RepA w M ρ h it.2.2.2.1 it.2.2.2.2) ∧
   items.map (fun it=>(it.2.1,it.2.2.1,it.2.2.2.1))=ps.map (fun p=>(p.1,p.2.1,ev p.2.2))∧items.map (fun it=>(it.1,it.2.2.2.2))=parts.map (fun p=>(p.1,e p.2)):=by
 induction parts generalizing ps with
 | nil=>simp at hm;subst hm;exact⟨[],by simp,rfl,rfl⟩
 | cons p parts ih =>
  simp only[aA,zJ,zO,zD,zH] at hm;obtain⟨y,⟨q,hq,x,hx,rfl⟩,ps',hps,rfl⟩:=hm;obtain⟨items,h1,h2,h3⟩:=ih hps;refine⟨(p.1,q.1,q.2,ev x,e p.2)::items,fun it Fg=>?_,by simp[h2],by simp[h3]⟩;rcases List.mem_cons.1 Fg with rfl | Fg
  ·exact⟨hq,E _ _ hx⟩
  ·exact h1 it Fg
theorem aBl{ev:XO→A}{e:Operand→Value}(E:Env w M ρ h ev e){parts:List (Nat × Operand)}{ps:List (Nat × XO)}
  (hm:parts.mapM (fun(p:Nat × Operand)=>(do pure (p.1,← cO p.2):Option (Nat × XO)))=some ps) :
  ∃ items:List (Nat × A × Value),(∀ it∈items,RepA w M ρ h it.2.1 it.2.2) ∧
   items.map (fun it=>(it.1,it.2.1))=ps.map (fun p=>(p.1,ev p.2))∧items.map (fun it=>(it.1,it.2.2))=parts.map (fun p=>(p.1,e p.2)):=by
 induction parts generalizing ps with
 | nil=>simp at hm;subst hm;exact⟨[],by simp,rfl,rfl⟩
 | cons p parts ih =>
  simp only[aA,zJ,zO,zD,zH] at hm;obtain⟨y,⟨x,hx,rfl⟩,ps',hps,rfl⟩:=hm;obtain⟨items,h1,h2,h3⟩:=ih hps;refine⟨(p.1,ev x,e p.2)::items,fun it Fg=>?_,by simp[h2],by simp[h3]⟩;rcases List.mem_cons.1 Fg with rfl | Fg
  ·exact E _ _ hx
  ·exact h1 it Fg
theorem aFQ{F:Fns}{pl:Option Nat}{o:Oper}{x:XOp}{ev:XO→A}{e:Operand→Value}{K:A→cM→Prop}(hc:gA P o.op=some x)(Dx:∀ f args,x ≠ .call f args)(bnd:∀ b,M b→b<w.heap.size)(S:SimH w M ρ h)(E:Env w M ρ h ev e)(E':∀ v,e (.const v)=v)
  (hK:dC F pl x ev h K):∃ r h',K r h'∧iI P (execOp e o) w M ρ h r h':=by
 generalize uA:o.op=op at hc;cases op with
 | move y =>
  simp only[gA,zT] at hc;obtain⟨z,hz,rfl⟩:=hc;exact⟨_,_,hK,.pure (v:=e y) (by simp[execOp,uA]) (E _ _ hz) S⟩
 | assign y =>
  simp only[gA,zT] at hc;obtain⟨z,hz,rfl⟩:=hc;exact⟨_,_,hK,.pure (v:=e y) (by simp[execOp,uA]) (E _ _ hz) S⟩
 | pick c a b =>
  simp only[gA,zJ,zO,zD,zH] at hc;obtain⟨xc,hxc,xa,hxa,xb,hxb,rfl⟩:=hc;simp only[dC] at hK;split at hK
  ·rename_i t heq;have hcv:=E _ _ hxc;rw[heq] at hcv;have hcv:=(fV hcv).1;cases t with
   | true =>
    simp only[if_true] at hK;exact⟨_,_,hK,.pure (v:=e a) (by simp[execOp,uA,hcv,asBool]) (E _ _ hxa) S⟩
   | false =>
    simp only[Bool.false_eq_true,if_false] at hK;exact⟨_,_,hK,.pure (v:=e b) (by simp[execOp,uA,hcv,asBool]) (E _ _ hxb) S⟩
  ·exact hK.elim
 | alloc t =>
  simp only[gA,zJ,zO,zD] at hc;obtain⟨el,Ku,z,hz,hs⟩:=hc;split at hs<;>cases hs;rename_i hsm;obtain⟨i,zv,z1,z2,z3,z4,z5,z6⟩:=Cd (w:=w) (M:=M) (ρ:=ρ) (h:=h) hz;obtain⟨i',nX,rfl⟩:=pH Ku;rw[z1] at nX;cases nX;exact aA8 (cs:=zv.cells) t bnd S hsm (by omega) z4 z5 z6 (by simp[execOp,uA,Instr.alloc,zeroValue,typeInfo,z1,z2,newVar,newRow]) hK
 | box t y =>
  simp only[gA,zJ,zO,zD] at hc;obtain⟨el,Ku,hs⟩:=hc;split at hs
  ·rename_i hsm;simp only[zD,zH] at hs;obtain⟨z,hz,rfl⟩:=hs;obtain⟨k1,k2,hK⟩:=hK;obtain⟨q1,q2,q3⟩:=(E _ _ hz).ok k1;exact aA8 (cs:=(e y).cells) t bnd S hsm q1 k2 q2 q3 (by simp[execOp,uA,Instr.box,newVar,newRow]) hK
  ·cases hs
 | build t parts =>
  simp only[gA,zJ,zO,zD,zH] at hc;obtain⟨z,hz,fs,hfs,ps,hps,rfl⟩:=hc;obtain⟨items,h1,h2,h3⟩:=aBk E (parts:=parts.toList) hps;simp only[dC] at hK;obtain⟨r,h',hKr,hd⟩:=aC9 (P:=P) (t:=t) S hz hfs h1 (K:=K) (by rw[h2];exact hK);refine⟨r,h',hKr,?_⟩;rw[h3] at hd;have e1:execOp e o=(do pure (.value (← Instr.build t (parts.toList.map fun p=>(p.1,e p.2)).toArray))):=by
   simp only[execOp,uA];congr 2;apply Array.ext';simp
  rw[e1];exact hd
 | buildSlice t len parts =>
  simp only[gA,zJ,zO,zD] at hc;obtain⟨D,hu,hc⟩:=hc;split at hc
  ·rename_i et;simp only[zD] at hc;obtain⟨el,Ku,z,hz,ps,hps,hs⟩:=hc;split at hs<;>cases hs;rename_i aC1;simp only[Bool.and_eq_true,decide_eq_true_eq] at aC1;obtain⟨⟨⟨c1,c2⟩,c3⟩,c4⟩:=aC1;obtain⟨items,h1,h2,h3⟩:=aBl E (parts:=parts.toList) hps;simp only[dC] at hK;obtain⟨r,h',hKr,hd⟩:=aBb (P:=P) (t:=t) (len:=len) S bnd hu Ku hz c1 c2 c3 c4 h1 (K:=K) (by rw[h2];exact hK);refine⟨r,h',hKr,?_⟩;rw[h3] at hd;have e1:execOp e o=(do pure (.value (← Instr.buildSlice t len (parts.toList.map fun p=>(p.1,e p.2)).toArray))):=by
    simp only[execOp,uA];congr 2;apply Array.ext';simp
   rw[e1];exact hd
  ·cases hc
 | load t y =>
  simp only[gA,zJ,zO,zD] at hc;obtain⟨i,hi,hc⟩:=hc;split at hc
  ·rename_i hk;simp only[zD,zH] at hc;obtain⟨z,hz,rfl⟩:=hc;obtain⟨r,h',hKr,hd⟩:=aFE (P:=P) (K:=K) S hk hi (E _ _ hz) hK;exact⟨r,h',hKr,by simpa only[execOp,uA] using hd⟩
  ·cases hc
 | store t y z =>
  simp only[gA,zJ,zO,zD,zH] at hc;obtain⟨i,hi,a,ha,b,hb,rfl⟩:=hc;have kJ:=E _ _ ha;have Bl:=E _ _ hb;simp only[dC] at hK;split at hK
  ·rename_i id N j off heq;rw[heq] at kJ;split at hK
   ·rename_i el rows hid;obtain⟨k1,k2,k3,hK⟩:=hK;split at hK
    ·rename_i r hr;obtain⟨k4,hK⟩:=hK;exact⟨_,_,hK,by simpa only[execOp,uA] using aC6 (P:=P) S hi kJ Bl hid k1 k2 k3 hr k4⟩
    ·exact hK.elim
   ·exact hK.elim
  ·exact hK.elim
 | fieldAddr t y f =>
  simp only[gA,zJ,zO,zD] at hc;obtain⟨D,hu,hc⟩:=hc;split at hc
  ·rename_i fs;simp only[zD] at hc;obtain⟨fd,hfd,i,hi,hc⟩:=hc;split at hc
   ·cases hc
   ·rename_i hz;simp only[zD,zH] at hc;obtain⟨a,ha,rfl⟩:=hc;obtain⟨r,h',hKr,hd⟩:=aC7 (P:=P) (K:=K) S hu hfd hi hz (E _ _ ha) hK;exact⟨r,h',hKr,by simpa only[execOp,uA] using hd⟩
  ·cases hc
 | field t y f =>
  simp only[gA,zJ,zO,zD] at hc;obtain⟨D,hu,hc⟩:=hc;split at hc
  ·rename_i fs;simp only[zD] at hc;obtain⟨fd,hfd,i,hi,hc⟩:=hc;split at hc
   ·rename_i hk;simp only[zD,zH] at hc;obtain⟨a,ha,rfl⟩:=hc;obtain⟨r,h',hKr,hd⟩:=aC8 (P:=P) (K:=K) S hu hfd hk hi (E _ _ ha) hK;exact⟨r,h',hKr,by simpa only[execOp,uA] using hd⟩
   ·cases hc
  ·cases hc
 | indexAddr t y i =>
  simp only[gA] at hc;split at hc
  ·rename_i et hu;simp only[zJ,zD] at hc;obtain⟨el,Ku,hc⟩:=hc;split at hc
   ·rename_i hsm;simp only[zD,zO,zH] at hc;obtain⟨a,ha,b,hb,rfl⟩:=hc;obtain⟨ti,sE,rfl⟩:=pH Ku;have kJ:=E _ _ ha;have Bl:=E _ _ hb;simp only[dC] at hK;split at hK
    ·rename_i e' rows k n h1 h2;rw[h1] at kJ;rw[h2] at Bl;obtain⟨rfl,k0,k1,hK⟩:=hK;refine⟨_,_,hK,?_⟩;have:=wG (P:=P) (k:=k) S hu sE rfl (Xr kJ) k0 k1;simp only[execOp,uA];rw[(fV Bl).1];exact this
    ·rename_i e' rows k n h1 h2;rw[h1] at kJ;rw[h2] at Bl;obtain⟨rfl,k0,k1,hK⟩:=hK;refine⟨_,_,hK,?_⟩;have:=wG (P:=P) (k:=k) S hu sE rfl (wH kJ).1 k0 k1;simp only[execOp,uA];rw[(fV Bl).1];exact this
    ·rename_i e' rows k n h1 h2;rw[h1] at kJ;rw[h2] at Bl;obtain⟨rfl,k0,k1,hK⟩:=hK;refine⟨_,_,hK,?_⟩;have:=wG (P:=P) (k:=k) S hu sE rfl (wH (Qo kJ).1).1 k0 k1;simp only[execOp,uA];rw[(fV Bl).1];exact this
    ·rename_i id N off len full k n h1 h2;rw[h1] at kJ;rw[h2] at Bl;split at hK
     ·rename_i e' rows hid;obtain⟨rfl,kN,k0,k1,hK⟩:=hK;refine⟨_,_,hK,?_⟩;have:=Qk (P:=P) (k:=k) S hu sE rfl hid kN kJ k0 k1;simp only[execOp,uA];rw[(fV Bl).1];exact this
     ·exact hK.elim
    ·exact hK.elim
   ·cases hc
  ·rename_i n et hu;simp only[zJ,zD,zO,zH] at hc;obtain⟨el,Ku,a,ha,b,hb,rfl⟩:=hc;obtain⟨ti,sE,rfl⟩:=pH Ku;obtain⟨r,h',hKr,hd⟩:=aDe (P:=P) (K:=K) S hu sE (E _ _ ha) (E _ _ hb) hK;exact⟨r,h',hKr,by simpa only[execOp,uA] using hd⟩
  ·cases hc
 | index t y i =>
  simp only[gA] at hc;split at hc
  ·rename_i hu;simp only[zJ,zD,zO,zH] at hc;obtain⟨a,ha,b,hb,rfl⟩:=hc;have kJ:=E _ _ ha;have Bl:=E _ _ hb;simp only[dC] at hK;split at hK
   ·rename_i s k n h1 h2;rw[h1] at kJ;rw[h2] at Bl;obtain⟨k0,k1,hK⟩:=hK;exact⟨_,_,hK,by simpa only[execOp,uA] using aFI (P:=P) S hu kJ Bl k0 k1⟩
   ·exact hK.elim
  ·rename_i n et hu;simp only[zJ,zD] at hc;obtain⟨el,Ku,hc⟩:=hc;split at hc
   ·rename_i hk;simp only[zD,zO,zH] at hc;obtain⟨a,ha,b,hb,rfl⟩:=hc;obtain⟨ti,sE,rfl⟩:=pH Ku;obtain⟨r,h',hKr,hd⟩:=aFN (P:=P) (K:=K) S hu sE hk (E _ _ ha) (E _ _ hb) hK;exact⟨r,h',hKr,by simpa only[execOp,uA] using hd⟩
   ·cases hc
  ·cases hc
 | nilCheck y =>
  simp only[gA,zT] at hc;obtain⟨z,hz,rfl⟩:=hc;have hv:=E _ _ hz;simp only[dC] at hK;split at hK
  ·rename_i id N i off heq;rw[heq] at hv;split at hK
   ·rename_i el rows hid;obtain⟨hN,hK⟩:=hK;obtain⟨b,p,hρ,hvv⟩:=vP hv hid hN;exact⟨_,_,hK,.pure (v:=e y) (by simp[execOp,uA,hvv]) hv S⟩
   ·exact hK.elim
  ·rename_i cs heq;rw[heq] at hv;obtain⟨a,hvv⟩:∃ a,e y = .pointer (some a):=by
    generalize e y=v at hv;cases hv;exact⟨_,rfl⟩
   exact⟨_,_,hK,.pure (v:=e y) (by simp[execOp,uA,hvv]) hv S⟩
  ·rename_i f caps heq;rw[heq] at hv;obtain⟨cs,hvv,_⟩:=aDg hv;exact⟨_,_,hK,.pure (v:=e y) (by simp[execOp,uA,hvv]) hv S⟩
  ·exact hK.elim
 | binOp op t y z ty =>
  simp only[gA] at hc;have bincase:∀ a b,cO y=some a→cO z=some b→x = .bin op a b→∃ r h',K r h'∧iI P (execOp e o) w M ρ h r h':=by
   rintro a b ha hb rfl;have kJ:=E _ _ ha;have Bl:=E _ _ hb;simp only[dC] at hK;split at hK
   ·rename_i u v h1 h2;rw[h1] at kJ;rw[h2] at Bl;split at hK
    ·rename_i r hr;exact⟨_,_,hK,by simpa only[execOp,uA] using aHH (P:=P) (t:=t) (x:=y) (y:=z) S kJ Bl hr⟩
    ·exact hK.elim
   ·exact hK.elim
  have eqbcase:∀ (neg:Bool) a b,op=(if neg then .neq else .eql)→P.underlying t=some .bool→cO y=some a→cO z=some b→x = .eqb neg a b→∃ r h',K r h'∧iI P (execOp e o) w M ρ h r h':=by
   rintro neg a b rfl hu ha hb rfl;have kJ:=E _ _ ha;have Bl:=E _ _ hb;simp only[dC] at hK;split at hK
   ·rename_i u v h1 h2;rw[h1] at kJ;rw[h2] at Bl;exact⟨_,_,hK,by simpa only[execOp,uA] using aHI (P:=P) (t:=t) (x:=y) (y:=z) (neg:=neg) S hu kJ Bl⟩
   ·exact hK.elim
  have eqscase:∀ (neg:Bool) a b ks i fs,op=(if neg then .neq else .eql)→P.underlying t=some (.struct fs)→Lc P 10000 t=some ks→P.info? t=some i→P.eqGuardType P.depth t=false→cO y=some a→cO z=some b→x = .eqs neg i.size ks a b→∃ r h',K r h'∧iI P (execOp e o) w M ρ h r h':=by
   rintro neg a b ks i fs rfl hu hks hi hq ha hb rfl;have kJ:=E _ _ ha;have Bl:=E _ _ hb;simp only[dC] at hK;split at hK
   ·rename_i xs ys h1 h2;rw[h1] at kJ;rw[h2] at Bl;obtain⟨k1,k2,hK⟩:=hK;split at hK
    ·rename_i b' Zf;exact⟨_,_,hK,by simpa only[execOp,uA] using aHJ (P:=P) (t:=t) (x:=y) (y:=z) (neg:=neg) S hks (by simp[sG,hu]) hi hq kJ Bl k1 k2 Zf⟩
    ·exact hK.elim
   ·exact hK.elim
  have eqnilcase:∀ (neg:Bool) a et,op=(if neg then .neq else .eql)→P.underlying t=some (.slice et)→e z = .slice none 0 0→cO y=some a→x = .eqnil neg a→∃ r h',K r h'∧iI P (execOp e o) w M ρ h r h':=by
   rintro neg a et rfl hu hz ha rfl;obtain⟨r,h',hKr,hd⟩:=aDd (P:=P) (K:=K) (t:=t) (x:=y) (y:=z) (neg:=neg) S hu (E _ _ ha) hK;refine⟨r,h',hKr,?_⟩;simp only[execOp,uA];rw[hz];exact hd
  split at hc
  ·simp only[zJ,zD,zO,zH] at hc;obtain⟨a,ha,b,hb,rfl⟩:=hc;exact bincase a b ha hb rfl
  ·simp only[zJ,zD,zO,zH] at hc;obtain⟨a,ha,b,hb,rfl⟩:=hc;exact bincase a b ha hb rfl
  ·rename_i hu;split at hc
   ·simp only[zJ,zD,zO,zH] at hc;obtain⟨a,ha,b,hb,rfl⟩:=hc;exact eqbcase false a b rfl hu ha hb rfl
   ·simp only[zJ,zD,zO,zH] at hc;obtain⟨a,ha,b,hb,rfl⟩:=hc;exact eqbcase true a b rfl hu ha hb rfl
   ·cases hc
  ·rename_i fs hu;simp only[zJ,zD] at hc;obtain⟨ks,hks,i,hi,hc⟩:=hc;split at hc
   ·cases hc
   ·rename_i hq;have hq:P.eqGuardType P.depth t=false:=by simpa using hq
    split at hc
    ·simp only[zD,zO,zH] at hc;obtain⟨a,ha,b,hb,rfl⟩:=hc;exact eqscase false a b ks i fs rfl hu hks hi hq ha hb rfl
    ·simp only[zD,zO,zH] at hc;obtain⟨a,ha,b,hb,rfl⟩:=hc;exact eqscase true a b ks i fs rfl hu hks hi hq ha hb rfl
    ·cases hc
  ·rename_i et hu;split at hc
   ·rename_i kG;have hz:e z = .slice none 0 0:=by
     cases z<;>simp only[aHO] at kG<;>try (cases kG;done)
     rename_i v;rw[E'];cases v<;>simp only[aDf] at kG<;>try (cases kG;done)
     rename_i a n c;cases a<;>simp only[aDf] at kG
     ·simp at kG;rw[kG.1,kG.2]
     ·cases kG
    split at hc
    ·simp only[zJ,zD,zO,zH] at hc;obtain⟨a,ha,rfl⟩:=hc;exact eqnilcase false a et rfl hu hz ha rfl
    ·simp only[zJ,zD,zO,zH] at hc;obtain⟨a,ha,rfl⟩:=hc;exact eqnilcase true a et rfl hu hz ha rfl
    ·cases hc
   ·cases hc
  ·cases hc
 | unOp op t y =>
  simp only[gA,zJ,zD,zO,zH] at hc;obtain⟨a,ha,rfl⟩:=hc;have kJ:=E _ _ ha;simp only[dC] at hK;split at hK
  ·rename_i u h1;rw[h1] at kJ;split at hK
   ·rename_i v hv;exact⟨_,_,hK,by simpa only[execOp,uA] using aKf (P:=P) S kJ hv⟩
   ·exact hK.elim
  ·exact hK.elim
 | convert src dst y =>
  simp only[gA] at hc;split at hc
  ·rename_i k' k hs hd;simp only[zJ,zD,zO,zH] at hc;obtain⟨a,ha,rfl⟩:=hc;have kJ:=E _ _ ha;simp only[dC] at hK;split at hK
   ·rename_i kk n h1;rw[h1] at kJ;exact⟨_,_,hK,by simpa only[execOp,uA] using aFJ (P:=P) S hs hd kJ⟩
   ·exact hK.elim
  ·rename_i et hs hd;split at hc
   ·rename_i he;simp only[zJ,zD,zO] at hc;obtain⟨el,Ku,hc⟩:=hc;split at hc
    ·rename_i mB;simp only[zD,zH] at hc;obtain⟨a,ha,rfl⟩:=hc;have kJ:=E _ _ ha;simp only[dC] at hK;split at hK
     ·rename_i s h1;rw[h1] at kJ;exact⟨_,_,hK.2,by simpa only[execOp,uA] using aHL (P:=P) S bnd hs hd he mB kJ hK.1⟩
     ·exact hK.elim
    ·cases hc
   ·cases hc
  ·rename_i et hs hd;split at hc
   ·rename_i he;simp only[zJ,zD,zO,zH] at hc;obtain⟨a,ha,rfl⟩:=hc;have kJ:=E _ _ ha;simp only[dC] at hK;split at hK
    ·rename_i rows hr;split at hK
     ·rename_i ns hn;exact⟨_,_,hK.2,by simpa only[execOp,uA] using aHM (P:=P) S hs hd he kJ (e:=⟨1,1⟩) rfl hr hn hK.1⟩
     ·exact hK.elim
    ·exact hK.elim
   ·cases hc
  ·rename_i kk hs hd;simp only[zJ,zD,zO,zH] at hc;obtain⟨a,ha,rfl⟩:=hc;have kJ:=E _ _ ha;simp only[dC] at hK;split at hK
   ·rename_i k n h1;rw[h1] at kJ;exact⟨_,_,hK,by simpa only[execOp,uA] using aHN (P:=P) S hs hd kJ⟩
   ·exact hK.elim
  ·cases hc
 | range t y =>
  simp only[gA] at hc;split at hc
  ·rename_i hu;simp only[zJ,zD,zO,zH] at hc;obtain⟨a,ha,rfl⟩:=hc;have kJ:=E _ _ ha;simp only[dC] at hK;split at hK
   ·rename_i s h1;rw[h1] at kJ;obtain⟨r,h',q1,q2⟩:=aFO (P:=P) S bnd hu kJ hK;exact⟨r,h',q1,by simpa only[execOp,uA] using q2⟩
   ·exact hK.elim
  ·cases hc
 | next y str =>
  simp only[gA] at hc;split at hc
  ·rename_i aQ6;simp only[zJ,zD,zO,zH] at hc;obtain⟨a,ha,rfl⟩:=hc;have kJ:=E _ _ ha;simp only[dC] at hK;split at hK
   ·rename_i id h1;rw[h1] at kJ;split at hK
    ·rename_i s pos hid;obtain⟨r,h',q1,q2⟩:=aFP (P:=P) (ty:=o.type) S kJ hid hK.1 hK.2;subst aQ6;exact⟨r,h',q1,by simpa only[execOp,uA] using q2⟩
    ·exact hK.elim
   ·exact hK.elim
  ·cases hc
 | slice t y lo hi mx =>
  simp only[gA] at hc;split at hc
  ·rename_i et hu;simp only[zJ,zD] at hc;obtain⟨el,Ku,hc⟩:=hc;split at hc
   ·cases hc
   ·rename_i hmh;simp only[zD,zO,zH] at hc;obtain⟨a,ha,l,hl,u,Xn,m,hm,rfl⟩:=hc;obtain⟨ti,sE,rfl⟩:=pH Ku;have kJ:=E _ _ ha;have hh:(mx.map e).isSome=true→(hi.map e).isSome=true:=by
     cases mx<;>cases hi<;>simp_all
    have hbs:m.isSome=true→(mx.map e).isSome=true:=by
     cases mx<;>simp[Vt] at hm<;>(try obtain⟨_,_,rfl⟩:=hm)<;>simp_all
    simp only[dC] at hK;split at hK
    ·rename_i heq;rw[heq] at kJ;obtain⟨k1,k2,k3,hK⟩:=hK;exact⟨_,_,hK,by simpa only[execOp,uA] using Qq (P:=P) S hu sE kJ (jE E hl k1) (jE E Xn k2) (jE E hm k3) hh⟩
    ·rename_i e' rows heq;rw[heq] at kJ;split at hK
     ·rename_i q1 q2 q3 p1 p2 p3;obtain⟨k1,k2,k3,k4,k5,hK⟩:=hK;exact⟨_,_,hK,by simpa only[execOp,uA] using Fi (P:=P) S hu sE k1 (Xr kJ) (jE E hl p1) (jE E Xn p2) (jE E hm p3) hh k2 k3 k4 k5 hbs⟩
     ·exact hK.elim
    ·rename_i e' rows heq;rw[heq] at kJ;split at hK
     ·rename_i q1 q2 q3 p1 p2 p3;obtain⟨k1,k2,k3,k4,k5,hK⟩:=hK;exact⟨_,_,hK,by simpa only[execOp,uA] using Fi (P:=P) S hu sE k1 (wH kJ).1 (jE E hl p1) (jE E Xn p2) (jE E hm p3) hh k2 k3 k4 k5 hbs⟩
     ·exact hK.elim
    ·rename_i id N off len full heq;rw[heq] at kJ;split at hK
     ·rename_i e' rows hid;split at hK
      ·rename_i q1 q2 q3 p1 p2 p3;obtain⟨k1,kN,k2,k3,k4,k5,hK⟩:=hK;have hmn:m.isNone=(mx.map e).isNone:=by cases mx<;>simp[Vt] at hm<;>(try obtain⟨_,_,rfl⟩:=hm)<;>simp_all
       rw[hmn] at hK;exact⟨_,_,hK,by simpa only[execOp,uA] using Qp (P:=P) S hu sE k1 hid kN kJ (jE E hl p1) (jE E Xn p2) (jE E hm p3) hh k2 k3 k4 k5⟩
      ·exact hK.elim
     ·exact hK.elim
    ·exact hK.elim
  ·rename_i hu;split at hc
   ·cases hc
   ·rename_i hmn;simp only[zJ,zD,zO,zH] at hc;obtain⟨a,ha,l,hl,u,Xn,rfl⟩:=hc;have kJ:=E _ _ ha;have xH:mx=none:=by cases mx<;>simp_all
    subst xH;simp only[dC] at hK;split at hK
    ·rename_i s heq;rw[heq] at kJ;split at hK
     ·rename_i q1 q2 p1 p2;obtain⟨k1,k2,k3,hK⟩:=hK;exact⟨_,_,hK,by simpa only[execOp,uA,Option.map_none] using aBe (P:=P) S hu kJ (jE E hl p1) (jE E Xn p2) k1 k2 k3⟩
     ·exact hK.elim
    ·exact hK.elim
  ·cases hc
 | makeSlice t n c =>
  simp only[gA] at hc;split at hc
  ·rename_i et hu;simp only[zJ,zD] at hc;obtain⟨el,Ku,z,hz,hc⟩:=hc;split at hc
   ·rename_i hsm;simp only[zD,zO,zH] at hc;obtain⟨a,ha,b,hb,rfl⟩:=hc;have kJ:=E _ _ ha;have Bl:=E _ _ hb;simp only[dC] at hK;split at hK
    ·rename_i q1 q2 h1 h2;rw[h1] at kJ;rw[h2] at Bl;obtain⟨k1,k2,k3,k4,hK⟩:=hK;obtain⟨r,h',hKr,hd⟩:=aFM (P:=P) (K:=K) S bnd hu Ku hz hsm kJ Bl k1 k2 k3 k4 hK;exact⟨r,h',hKr,by simpa only[execOp,uA] using hd⟩
    ·exact hK.elim
   ·cases hc
  ·cases hc
 | extract y i =>
  simp only[gA,zJ,zD,zO,zH] at hc;obtain⟨a,ha,rfl⟩:=hc;have kJ:=E _ _ ha;simp only[dC] at hK;split at hK
  ·rename_i l h1;rw[h1] at kJ;split at hK
   ·rename_i v hv;exact⟨_,_,hK,by simpa only[execOp,uA] using Zp (P:=P) S kJ hv⟩
   ·exact hK.elim
  ·exact hK.elim
 | makeFunc fn first caps =>
  simp only[gA] at hc;cases fn with
  | func f =>
   cases hf:first.toList with
   | nil =>
    simp only[hf,Qu,zT] at hc;obtain⟨xs,hxs,rfl⟩:=hc;have fR:=aBj E hxs;have hd:=aFK (P:=P) (f:=f) S fR.1 fR.2;refine⟨_,_,hK,?_⟩;have hf:first = #[]:=Array.toList_eq_nil_iff.1 hf
    have e1:execOp e o=(do pure (.value (← Instr.makeFunc (.func f) #[] (caps.toList.map e).toArray))):=by
     simp only[execOp,uA,hf];congr 2
     ·simp
     ·apply Array.ext';simp
    rw[e1];exact hd
   | cons y ys=>simp[hf,Qu] at hc
  | _=>simp[Qu] at hc
 | call c =>
  have Bu:∀ b,c.callee = .builtin b→execOp e o=builtin b c.argTypes o.type (c.args.map fun | .const _=>true | _=>false) (c.args.map e):=by
   intro b hb;simp only[execOp,uA,resolve,hb];rfl
  have Mr:∀ l,c.args.toList=l→c.args.map e=(l.map e).toArray:=by
   intro l hl;apply Array.ext';simp[hl]
  have aEK:∀ l,c.argTypes.toList=l→c.argTypes=l.toArray:=by
   intro l hl;apply Array.ext';simp[hl]
  have minmax:∀ (isMax:Bool) (xs:List XO),c.args.toList.mapM cO=some xs→execOp e o=(do pure (.value (← if isMax then Builtin.max_ c.argTypes o.type (c.args.map e) else Builtin.min_ c.argTypes o.type (c.args.map e)))) →
    dC F pl (.minmax isMax xs) ev h K→∃ r h',K r h'∧iI P (execOp e o) w M ρ h r h':=by
   intro isMax xs hxs e1 hK;rw[e1];obtain⟨hl,hm⟩:=aEP hxs;simp only[dC] at hK;split at hK
   ·rename_i x y
    match fR:c.args.toList,hl with
    | [a,b],_ =>
     rw[fR] at hm;obtain⟨x',hx1,hx2⟩:=hm 0 a rfl;obtain⟨y',hy1,hy2⟩:=hm 1 b rfl;simp at hx1 hy1;subst hx1;subst hy1;have kJ:=E _ _ hx2;have Bl:=E _ _ hy2;split at hK
     ·rename_i k u k' v h1 h2;rw[h1] at kJ;rw[h2] at Bl;obtain⟨rfl,hK⟩:=hK;refine⟨_,_,hK,?_⟩;rw[Mr _ fR];exact Zq S kJ Bl
     ·exact hK.elim
   ·rename_i x y z
    match fR:c.args.toList,hl with
    | [a,b,d],_ =>
     rw[fR] at hm;obtain⟨x',hx1,hx2⟩:=hm 0 a rfl;obtain⟨y',hy1,hy2⟩:=hm 1 b rfl;obtain⟨z',hz1,hz2⟩:=hm 2 d rfl;simp at hx1 hy1 hz1;subst hx1;subst hy1;subst hz1;have kJ:=E _ _ hx2;have Bl:=E _ _ hy2;have hdv:=E _ _ hz2;split at hK
     ·rename_i k u k' v k'' t h1 h2 h3;rw[h1] at kJ;rw[h2] at Bl;rw[h3] at hdv;obtain⟨rfl,rfl,hK⟩:=hK;refine⟨_,_,hK,?_⟩;rw[Mr _ fR];exact Zr S kJ Bl hdv
     ·exact hK.elim
   ·exact hK.elim
  simp only[gA] at hc;unfold Iy at hc;split at hc
  ·rename_i f args ts hb;simp only[zJ,zD,zO,zH] at hc;obtain⟨a,ha,xs,hxs,rfl⟩:=hc;exact absurd rfl (Dx _ _)
  ·rename_i y t hb ha ht;have e1:execOp e o=(do pure (.value (← Builtin.len_ #[t] o.type #[e y]))):=by
    rw[Bu _ hb,Mr _ ha,aEK _ ht];rfl
   rw[e1];split at hc
   ·rename_i et hu;simp only[zJ,zD,zO,zH] at hc;obtain⟨a,Kz,rfl⟩:=hc;exact aBd (P:=P) (K:=K) (str:=false) S ⟨et,hu⟩ (E _ _ Kz) hK
   ·rename_i hu;simp only[zJ,zD,zO,zH] at hc;obtain⟨a,Kz,rfl⟩:=hc;exact aBd (P:=P) (K:=K) (str:=true) S hu (E _ _ Kz) hK
   ·cases hc
  ·rename_i y z t t' hb ha ht;have e1:execOp e o=(do pure (.value (← Builtin.append_ #[t,t'] o.type #[e y,e z]))):=by
    rw[Bu _ hb,Mr _ ha,aEK _ ht];rfl
   rw[e1];have app:∀ (et:TypeId) (el:Elt) (z0:List A) (a b:XO),P.underlying t=some (.slice et)→((∃ e2,P.underlying t'=some (.slice e2))∨P.underlying t'=some .string)→elt? P et=some el→zeroCells? P et=some z0→vO el=true→cO y=some a→cO z=some b→x = .append el a b →
     ∃ r h',K r h'∧iI P (do pure (.value (← Builtin.append_ #[t,t'] o.type #[e y,e z]))) w M ρ h r h':=by
    rintro et el z0 a b hu Xn Ku hz hsm Kz Zf rfl;obtain⟨ti,zv,z1,z2,z3,z4,z5,z6⟩:=Cd (w:=w) (M:=M) (ρ:=ρ) (h:=h) hz;obtain⟨ti',sE,rfl⟩:=pH Ku;rw[z1] at sE;cases sE;obtain⟨s1,s2⟩:=uB hsm;have kJ:=E _ _ Kz;have Bl:=E _ _ Zf;simp only[dC] at hK;split at hK
    ·rename_i new vG;obtain⟨f,src⟩:=Qr (P:=P) S s1 Bl vG;split at hK
     ·rename_i heq;rw[heq] at kJ;exact Oq (P:=P) (K:=K) S bnd hu Xn z1 z2 z3 rfl rfl s1 kJ src hK
     ·rename_i id N off len full heq;rw[heq] at kJ;split at hK
      ·rename_i el' rows hid;obtain⟨rfl,hN,rfl,q1,q2,hK⟩:=hK;split at hK
       ·rename_i hlN;have hd:=Ch (P:=P) (ty:=o.type) S bnd hu Xn z1 z2 z3 rfl rfl hid hN kJ src q1 q2 (.inl hlN);have e2:rows.take len++new++rows.drop (len+new.length)=rows++new:=by
         rw[hlN,hN,List.take_length,List.drop_eq_nil_of_le (by omega),List.append_nil]
        have e3:(rows++new).length=N+new.length:=by simp[hN]
        rw[e2,e3,hlN] at hd;exact⟨_,_,hK,hd⟩
       ·obtain⟨q3,q4,hK⟩:=hK;have hd:=Ch (P:=P) (ty:=o.type) S bnd hu Xn z1 z2 z3 rfl rfl hid hN kJ src q1 q2 (.inr ⟨q3,q4⟩);have e3:(rows.take len++new++rows.drop (len+new.length)).length=N:=by simp;omega
        rw[e3] at hd;exact⟨_,_,hK,hd⟩
      ·exact hK.elim
     ·rename_i e' rows heq;rw[heq] at kJ;exact Qs (P:=P) (K:=K) S bnd hu Xn z1 z2 z3 rfl rfl s1 kJ src hK
     ·exact hK.elim
    ·exact hK.elim
   split at hc
   ·rename_i et e2 hu Xn;simp only[zJ,zD] at hc;obtain⟨el,Ku,z0,hz0,hc⟩:=hc;split at hc
    ·simp only[zD,zO,zH] at hc;obtain⟨a,Kz,b,Zf,rfl⟩:=hc;exact app et el z0 a b hu (.inl ⟨e2,Xn⟩) Ku hz0 ‹_› Kz Zf rfl
    ·cases hc
   ·rename_i et hu Xn;simp only[zJ,zD] at hc;obtain⟨el,Ku,z0,hz0,hc⟩:=hc;split at hc
    ·simp only[zD,zO,zH] at hc;obtain⟨a,Kz,b,Zf,rfl⟩:=hc;exact app et el z0 a b hu (.inr Xn) Ku hz0 ‹_› Kz Zf rfl
    ·cases hc
   ·cases hc
  ·rename_i y z t t' hb ha ht;have e1:execOp e o=(do pure (.value (← Builtin.copy_ #[t,t'] o.type #[e y,e z]))):=by
    rw[Bu _ hb,Mr _ ha,aEK _ ht];rfl
   rw[e1];split at hc
   ·rename_i et hu;simp only[zJ,zD] at hc;obtain⟨el,Ku,hc⟩:=hc;split at hc
    ·rename_i hsm;simp only[zD,zO,zH] at hc;obtain⟨a,Kz,b,Zf,rfl⟩:=hc;obtain⟨ti,sE,rfl⟩:=pH Ku;obtain⟨s1,s2⟩:=uB hsm;have kJ:=E _ _ Kz;have Bl:=E _ _ Zf;simp only[dC] at hK;split at hK
     ·rename_i new vG;obtain⟨f,src⟩:=Qr (P:=P) S s1 Bl vG;split at hK
      ·rename_i id N off len full heq;rw[heq] at kJ;split at hK
       ·rename_i el' rows hid;obtain⟨rfl,hN,hK⟩:=hK;exact⟨_,_,hK,aFL (P:=P) S hu sE rfl hid hN kJ src⟩
       ·exact hK.elim
      ·exact hK.elim
     ·exact hK.elim
    ·cases hc
   ·cases hc
  ·rename_i y t hb ha ht;have e1:execOp e o=(do pure (.value (← Builtin.cap_ #[t] o.type #[e y]))):=by
    rw[Bu _ hb,Mr _ ha,aEK _ ht];rfl
   rw[e1];split at hc
   ·rename_i et hu;simp only[zJ,zD,zO,zH] at hc;obtain⟨a,Kz,rfl⟩:=hc;have kJ:=E _ _ Kz;simp only[dC] at hK;split at hK
    ·rename_i h1;rw[h1] at kJ;exact⟨_,_,hK,Zs (P:=P) S hu kJ⟩
    ·exact hK.elim
   ·cases hc
  ·rename_i args ts hb;simp only[zJ,zD,zO,zH] at hc;obtain⟨xs,hxs,rfl⟩:=hc;exact minmax false xs hxs (by rw[Bu _ hb];rfl) hK
  ·rename_i args ts hb;simp only[zJ,zD,zO,zH] at hc;obtain⟨xs,hxs,rfl⟩:=hc;exact minmax true xs hxs (by rw[Bu _ hb];rfl) hK
  ·cases hc
 | _=>simp[gA] at hc
end
end Go.Proofs.YtlllnjhgjijnkaaGreatDoor.Nx

import Derived.Test.YtlllnjhgjijnkaaDoorNxSound6
set_option linter.unusedSimpArgs false
set_option linter.unusedVariables false
set_option linter.unnecessarySimpa false
namespace Go.Proofs.YtlllnjhgjijnkaaDoor.Nx
open Go
def optO:Option Operand→Option (Option XO)
 | none=>some none
 | some x=>(cO x).map some
def isNilV:Value→Bool
 | .slice none n c=>n == 0&&c == 0
 | _=>false
def isNilK:Operand→Bool
 | .const v=>isNilV v
 | _=>false
def compFn:Fn→List Operand→List Operand→Option XOp
 | .func f,[],caps=>(caps.mapM cO).map (.mkfn f)
 | _,_,_=>none
def compCall (P:Program):Callee→List Operand→List TypeId→Option XOp
 | .value f,args,_=>do pure (.call (← cO f) (← args.mapM cO))
 | .builtin .len,[x],[t]=>match P.underlying t with
  | some (.slice _)=>do pure (.len false (← cO x))
  | some .string=>do pure (.len true (← cO x))
  | _=>none
 | .builtin .append,[x,y],[t,t']=>match P.underlying t,P.underlying t' with
  | some (.slice et),some (.slice _)=>do
   let e ← elt? P et
   let _z ← zeroCells? P et
   if small e then pure (.append e (← cO x) (← cO y)) else none
  | some (.slice et),some .string=>do
   let e ← elt? P et
   let _z ← zeroCells? P et
   if small e then pure (.append e (← cO x) (← cO y)) else none
  | _,_=>none
 | .builtin .copy,[x,y],[t,_]=>match P.underlying t with
  | some (.slice et)=>do
   let e ← elt? P et
   if small e then pure (.copy e (← cO x) (← cO y)) else none
  | _=>none
 | .builtin .cap,[x],[t]=>match P.underlying t with
  | some (.slice _)=>do pure (.cap (← cO x))
  | _=>none
 | .builtin .min,args,_=>do pure (.minmax false (← args.mapM cO))
 | .builtin .max,args,_=>do pure (.minmax true (← args.mapM cO))
 | _,_,_=>none
def compOp (P:Program) (op:Op):Option XOp :=
 match op with
 | .move x | .assign x=>(cO x).map .mov
 | .pick c a b=>do pure (.pick (← cO c) (← cO a) (← cO b))
 | .alloc t=>do
  let e ← elt? P t
  let z ← zeroCells? P t
  if small e then pure (.alloc e z) else none
 | .box t x=>do
  let e ← elt? P t
  if small e then pure (.box e (← cO x)) else none
 | .build t parts=>do
  let z ← zeroCells? P t
  let fs ← fieldsOf P t
  let ps ← parts.toList.mapM fun (i,x)=>do
   let (o,n) ← fs[i]?
   pure (o,n,← cO x)
  pure (.build z ps)
 | .buildSlice t len parts=>do
  let .slice et ← P.underlying t | none
  let e ← elt? P et
  let z ← zeroCells? P et
  let ps ← parts.toList.mapM fun (i,x)=>do pure (i,← cO x)
  if small e&&decide (len * e.sz≤2 ^ 24)&&decide (len * e.bytes≤room)&&decide (len≤maxLen) then pure (.bslice e z len ps) else none
 | .load t x=>do
  let i ← P.info? t
  if known P t then pure (.load i.size (aggB P t) (← cO x)) else none
 | .store t x y=>do
  let i ← P.info? t
  pure (.store i.size (← cO x) (← cO y))
 | .fieldAddr t x f=>do
  let .struct fs ← P.underlying t | none
  let fd ← fs[f]?
  let i ← P.info? fd.type
  if i.size=0 then none else pure (.faddr fd.offset (← cO x))
 | .field t x f=>do
  let .struct fs ← P.underlying t | none
  let fd ← fs[f]?
  let i ← P.info? fd.type
  if known P fd.type then pure (.field fd.offset i.size (aggB P fd.type) (← cO x)) else none
 | .indexAddr t x i=>match P.underlying t with
  | some (.slice et)=>do
   let e ← elt? P et
   if small e then pure (.iaddr e (← cO x) (← cO i)) else none
  | some (.array n et)=>do
   let e ← elt? P et
   pure (.aaddr e n (← cO x) (← cO i))
  | _=>none
 | .index t x i=>match P.underlying t with
  | some .string=>do pure (.sidx (← cO x) (← cO i))
  | some (.array n et)=>do
   let e ← elt? P et
   if known P et then pure (.aidx n e.sz (aggB P et) (← cO x) (← cO i)) else none
  | _=>none
 | .nilCheck x=>(cO x).map .nilck
 | .binOp op t x y _=>match P.underlying t with
  | some (.int _)=>do pure (.bin op (← cO x) (← cO y))
  | some .string=>do pure (.bin op (← cO x) (← cO y))
  | some .bool=>match op with
   | .eql=>do pure (.eqb false (← cO x) (← cO y))
   | .neq=>do pure (.eqb true (← cO x) (← cO y))
   | _=>none
  | some (.struct _)=>do
   let ks ← eqPlan P 10000 t
   let i ← P.info? t
   if P.eqGuardType P.depth t then none else match op with
    | .eql=>do pure (.eqs false i.size ks (← cO x) (← cO y))
    | .neq=>do pure (.eqs true i.size ks (← cO x) (← cO y))
    | _=>none
  | some (.slice _)=>if isNilK y then match op with
   | .eql=>do pure (.eqnil false (← cO x))
   | .neq=>do pure (.eqnil true (← cO x))
   | _=>none
   else none
  | _=>none
 | .unOp op _ x=>do pure (.un op (← cO x))
 | .convert src dst x=>match P.underlying src,P.underlying dst with
  | some (.int _),some (.int k)=>do pure (.conv k (← cO x))
  | some .string,some (.slice et)=>match P.underlying et with
   | some (.int .i32)=>do
    let e ← elt? P et
    if e.sz=1 then pure (.s2r e (← cO x)) else none
   | _=>none
  | some (.slice et),some .string=>match P.underlying et with
   | some (.int .u8)=>do pure (.b2s (← cO x))
   | _=>none
  | some (.int _),some .string=>do pure (.i2s (← cO x))
  | _,_=>none
 | .slice t x lo hi mx=>match P.underlying t with
  | some (.slice et)=>do
   let e ← elt? P et
   if mx.isSome && !hi.isSome then none else
   pure (.slice e (← cO x) (← optO lo) (← optO hi) (← optO mx))
  | some .string=>if mx.isSome then none else do pure (.sslice (← cO x) (← optO lo) (← optO hi))
  | _=>none
 | .makeSlice t n c=>match P.underlying t with
  | some (.slice et)=>do
   let e ← elt? P et
   let z ← zeroCells? P et
   if small e then pure (.make e z (← cO n) (← cO c)) else none
  | _=>none
 | .extract x i=>do pure (.extract i (← cO x))
 | .range t x=>match P.underlying t with
  | some .string=>do pure (.iter (← cO x))
  | _=>none
 | .next x str=>if str then do pure (.next (← cO x)) else none
 | .makeFunc fn first caps=>compFn fn first.toList caps.toList
 | .call c=>compCall P c.callee c.args.toList c.argTypes.toList
 | _=>none
end Go.Proofs.YtlllnjhgjijnkaaDoor.Nx

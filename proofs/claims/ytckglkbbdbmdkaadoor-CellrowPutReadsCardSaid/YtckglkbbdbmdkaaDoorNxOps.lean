/- The abstract machine's operations. -/
import Derived.Test.YtckglkbbdbmdkaaDoorNxHeap
import Derived.Laws.BytesArg
namespace Go.Proofs.YtckglkbbdbmdkaaDoor.Nx
set_option linter.unusedSimpArgs false
set_option linter.unusedVariables false
set_option linter.unnecessarySimpa false
open Go

def A.cells : A → List A
  | .agg l => l
  | x => [x]

def A.one : A → Bool
  | .any | .agg _ | .tup _ => false
  | _ => true

def A.okCells : A → Bool
  | .agg _ => true
  | x => x.one

abbrev A.sc (v : Value) : A := .d (.sc v)
abbrev A.int (n : Int) : A := .d (.sc (.int .i64 n))
abbrev A.bool (b : Bool) : A := .d (.sc (.bool b))
abbrev A.str (s : ByteArray) : A := .d (.sc (.string s))

inductive XO where
  | t (n : Nat)
  | k (a : A)
  | f (f : FuncId)

def ev (s : Nat → A) : XO → A
  | .t n => s n
  | .k a => a
  | .f f => .fn f []

def kOf : Value → A
  | .slice none 0 0 => .nil
  | v => .sc v

def kOk : Value → Bool
  | .int k n => decide (k.min ≤ n) && decide (n ≤ k.max)
  | .string s => decide (s.size ≤ maxLen)
  | .agg _ | .tuple _ => false
  | _ => true

/-- Where the slots of the package-level tables begin. -/
def tabBase : Nat := 1000000

def valAt (vs : Array Value) (n : Nat) : Value := if n < tabBase then vs.getD n undef else .pointer (some ⟨n - tabBase, 0, none⟩)

def cO : Operand → Option XO
  | .tmp t => if t < tabBase then some (.t t) else none
  | .const (.agg cs) => if cs.toList.all kOk then some (.k (.agg (cs.toList.map kOf))) else none
  | .const v => if kOk v then some (.k (kOf v)) else none
  | .func f => some (.f f)
  | .global g => some (.t (tabBase + g))

inductive EqK where
  | i | s | b

inductive XOp where
  | mov (x : XO)
  | pick (c a b : XO)
  | alloc (e : Elt) (zero : List A)
  | box (e : Elt) (x : XO)
  | build (zero : List A) (parts : List (Nat × Nat × XO))
  | bslice (e : Elt) (zero : List A) (len : Nat) (parts : List (Nat × XO))
  | load (n : Nat) (agg : Bool) (x : XO)
  | store (n : Nat) (x y : XO)
  | faddr (off : Nat) (x : XO)
  | field (off n : Nat) (agg : Bool) (x : XO)
  | iaddr (e : Elt) (x i : XO)
  | aaddr (e : Elt) (len : Nat) (x i : XO)
  | aidx (len n : Nat) (agg : Bool) (x i : XO)
  | sidx (x i : XO)
  | nilck (x : XO)
  | bin (op : BinOp) (x y : XO)
  | eqb (neg : Bool) (x y : XO)
  | eqs (neg : Bool) (n : Nat) (ks : List (Nat × EqK)) (x y : XO)
  | eqnil (neg : Bool) (x : XO)
  | un (op : UnOp) (x : XO)
  | conv (k : IntKind) (x : XO)
  | len (str : Bool) (x : XO)
  | slice (e : Elt) (x : XO) (lo hi mx : Option XO)
  | sslice (x : XO) (lo hi : Option XO)
  | append (e : Elt) (x y : XO)
  | copy (e : Elt) (x y : XO)
  | make (e : Elt) (zero : List A) (n c : XO)
  | extract (i : Nat) (x : XO)
  | mkfn (f : FuncId) (caps : List XO)
  | call (f : XO) (args : List XO)
  | calle (f : XO) (args : List XO)
  | callr (f : XO) (args : List XO)
  | minmax (isMax : Bool) (args : List XO)
  | cap (x : XO)
  | s2r (e : Elt) (x : XO)
  | b2s (x : XO)
  | i2s (x : XO)
  | iter (x : XO)
  | next (x : XO)

/-- A call that changes the own heap is, to the model, a call like any other. -/
def XOp.plain : XOp → XOp
  | .calle f args => .call f args
  | .callr f args => .call f args
  | x => x

def intRes (op : BinOp) (k : IntKind) (x y : Int) : Option Value :=
  match op with
  | .add => some (.int k (k.wrap (x + y)))
  | .sub => some (.int k (k.wrap (x - y)))
  | .mul => some (.int k (k.wrap (x * y)))
  | .quo => if y = 0 then none else some (.int k (k.wrap (x.tdiv y)))
  | .rem => if y = 0 then none else some (.int k (x.tmod y))
  | .and => some (.int k (k.wrap (BitVec.ofInt k.bits x &&& BitVec.ofInt k.bits y).toNat))
  | .or => some (.int k (k.wrap (BitVec.ofInt k.bits x ||| BitVec.ofInt k.bits y).toNat))
  | .xor => some (.int k (k.wrap (BitVec.ofInt k.bits x ^^^ BitVec.ofInt k.bits y).toNat))
  | .andNot => some (.int k (k.wrap (BitVec.ofInt k.bits x &&& ~~~(BitVec.ofInt k.bits y)).toNat))
  | .eql => some (.bool (x == y))
  | .neq => some (.bool (x != y))
  | .lss => some (.bool (decide (x < y)))
  | .leq => some (.bool (decide (x ≤ y)))
  | .gtr => some (.bool (decide (y < x)))
  | .geq => some (.bool (decide (y ≤ x)))
  | _ => none

def strRes (op : BinOp) (x y : ByteArray) : Option Value :=
  match op with
  | .add => if x.size + y.size ≤ maxLen then some (.string (x ++ y)) else none
  | .eql => some (.bool (decide (x = y)))
  | .neq => some (.bool (!decide (x = y)))
  | .lss => some (.bool (Op.bytesLess x.toList y.toList))
  | _ => none

def binRes (op : BinOp) (x y : Value) : Option Value :=
  match op, x, y with
  | .shl, .int k a, .int _ b => if b < 0 then none else some (.int k (k.wrap (a * 2 ^ (min b.toNat k.bits))))
  | .shr, .int k a, .int _ b => if b < 0 then none else some (.int k (a.fdiv (2 ^ (min b.toNat k.bits))))
  | op, .int k a, .int k' b => if k = k' then intRes op k a b else none
  | op, .string a, .string b => strRes op a b
  | _, _, _ => none

def unRes (op : UnOp) (x : Value) : Option Value :=
  match op, x with
  | .neg, .int k n => some (.int k (k.wrap (0 - n)))
  | .not, .bool b => some (.bool (!b))
  | _, _ => none

def scEq : EqK → A → A → Option Bool
  | .i, .d (.sc (.int k a)), .d (.sc (.int k' b)) => if k = k' then some (a == b) else none
  | .s, .d (.sc (.string a)), .d (.sc (.string b)) => some (decide (a = b))
  | .b, .d (.sc (.bool a)), .d (.sc (.bool b)) => some (a == b)
  | _, _, _ => none

def eqAll : List (Nat × EqK) → List A → List A → Option Bool
  | [], _, _ => some true
  | (j, k) :: ks, xs, ys => match scEq k (xs.getD j .any) (ys.getD j .any), eqAll ks xs ys with
    | some b, some c => some (b && c)
    | _, _ => none

/-- An operand that may be missing, as a number. -/
def optInt (ev : XO → A) (x : Option XO) (dflt : Nat) : Option Int :=
  match x with
  | none => some (dflt : Int)
  | some y => match ev y with
    | .d (.sc (.int _ n)) => some n
    | _ => none

/-- The rows that an append or a copy reads. -/
def srcRows (e : Elt) (h : Heap) : A → Option (List (List A))
  | .nil => some []
  | .d (.sl e' rows) => if e'.sz = e.sz then some (rows.map fun r => r.map .d) else none
  | .nn e' rows => if e'.sz = e.sz then some (rows.map fun r => r.map .d) else none
  | .ref id N off len _ => match h[id]? with
    | some (.cells e' rows) => if e'.sz = e.sz ∧ N = rows.length then some ((rows.drop off).take len) else none
    | _ => none
  | .d (.sc (.string s)) => if e.sz = 1 then some (s.data.toList.map fun b => [.sc (.int .u8 b.toNat)]) else none
  | _ => none

def runesGo (s : ByteArray) : Nat → Nat → List Nat
  | 0, _ => []
  | b + 1, i => if i < s.size then (Utf8.decode s i).1 :: runesGo s b (i + (Utf8.decode s i).2) else []

def runesOf (s : ByteArray) : List Nat := runesGo s s.size 0

def runeRow (n : Nat) : List D := [.sc (.int .i32 n)]

def byteOf : List A → Option Int
  | [.d (.sc (.int .u8 n))] => some n
  | _ => none

def sliceRows (e : Elt) (h : Heap) : A → Option (List (List A))
  | .d (.sc _) => none
  | x => srcRows e h x

def nextStr (s : ByteArray) (pos id : Nat) (h : Heap) (K : A → Heap → Prop) : Prop :=
  if pos < s.size then K (.tup [.bool true, .int pos, .sc (.int .i32 (Utf8.decode s pos).1)]) (h.set id (.obj (.stringIter s (pos + (Utf8.decode s pos).2))))
  else K (.tup [.bool false]) h

def minmaxInt (isMax : Bool) (x y : Int) : Int := if isMax then (if y > x then y else x) else (if y < x then y else x)

/-- n cells, or one. -/
def loadsTo (n : Nat) (agg : Bool) (cs : List A) (K : A → Prop) : Prop :=
  if agg then n ≤ cs.length ∧ K (.agg (cs.take n)) else match cs with
    | c :: _ => K c
    | [] => False

/-- The cells from 'off' on give way to 'new'. -/
def splice (l : List A) (off : Nat) (new : List A) : List A := l.take off ++ new ++ l.drop (off + new.length)

def fillTo (cs : List A) : List (Nat × Nat × A) → (List A → Prop) → Prop
  | [], K => K cs
  | (off, n, x) :: r, K => x.okCells = true ∧ x.cells.length = n ∧ off + n ≤ cs.length ∧ fillTo (splice cs off x.cells) r K

def rowsTo (n : Nat) (rows : List (List A)) : List (Nat × A) → (List (List A) → Prop) → Prop
  | [], K => K rows
  | (i, x) :: r, K => x.okCells = true ∧ x.cells.length = n ∧ i < rows.length ∧ rowsTo n (rows.set i x.cells) r K

/-- What is known of functions: 'pure f args r': called with args, which point nowhere into the own heap, function f returns r; 'call f args h r h'': called with args over the own heap h it returns r and leaves h'; 'round': likewise of a loop's body. -/
structure Fns where
  pure : FuncId → List A → A → Prop
  call : FuncId → List A → Heap → A → Heap → Prop
  round : Nat → List A → Heap → A → Heap → Prop

/-- A new block of the own heap, at its place. -/
def place (pl : Option Nat) (h : Heap) (B : HB) (K : Nat → Heap → Prop) : Prop :=
  match pl with
  | none => K h.length (h ++ [B])
  | some a => h[a]? = some .res ∧ K a (h.set a B)

def exec (F : Fns) (pl : Option Nat) : XOp → (XO → A) → Heap → (A → Heap → Prop) → Prop
  | .mov x, ev, h, K => K (ev x) h
  | .pick c a b, ev, h, K => match ev c with
    | .d (.sc (.bool t)) => if t = true then K (ev a) h else K (ev b) h
    | _ => False
  | .alloc e zero, _, h, K => place pl h (.cells e [zero]) fun id h1 => K (.ptr id 1 0 0) h1
  | .box e x, ev, h, K => (ev x).okCells = true ∧ (ev x).cells.length = e.sz ∧ place pl h (.cells e [(ev x).cells]) fun id h1 => K (.ptr id 1 0 0) h1
  | .build zero parts, ev, h, K => fillTo zero (parts.map fun (o, n, x) => (o, n, ev x)) fun cs => K (.agg cs) h
  | .bslice e zero len parts, ev, h, K =>
    rowsTo e.sz (List.replicate len zero) (parts.map fun (i, x) => (i, ev x)) fun rows => place pl h (.cells e rows) fun id h1 => K (.ref id len 0 len true) h1
  | .load n agg x, ev, h, K => match ev x with
    | .ptr id N i off => match h[id]? with
      | some (.cells _ rows) => N = rows.length ∧ match rows[i]? with
        | some r => loadsTo n agg (r.drop off) fun a => K a h
        | none => False
      | _ => False
    | .iptr cs => loadsTo n agg (cs.map .d) fun a => K a h
    | _ => False
  | .store n x y, ev, h, K => match ev x with
    | .ptr id N i off => match h[id]? with
      | some (.cells e rows) => N = rows.length ∧ (ev y).okCells = true ∧ (ev y).cells.length = n ∧ match rows[i]? with
        | some r => off + n ≤ r.length ∧ K .any (h.set id (.cells e (rows.set i (splice r off (ev y).cells))))
        | none => False
      | _ => False
    | _ => False
  | .faddr off x, ev, h, K => match ev x with
    | .ptr id N i o => match h[id]? with
      | some (.cells _ rows) => N = rows.length ∧ K (.ptr id N i (o + off)) h
      | _ => False
    | .iptr cs => K (.iptr (cs.drop off)) h
    | _ => False
  | .field off n agg x, ev, h, K => match ev x with
    | .agg cs => loadsTo n agg (cs.drop off) fun a => K a h
    | _ => False
  | .iaddr e x i, ev, h, K => match ev x, ev i with
    | .d (.sl e' rows), .d (.sc (.int _ n)) => e' = e ∧ 0 ≤ n ∧ n < rows.length ∧ K (.iptr (rows.getD n.toNat [])) h
    | .nn e' rows, .d (.sc (.int _ n)) => e' = e ∧ 0 ≤ n ∧ n < rows.length ∧ K (.iptr (rows.getD n.toNat [])) h
    | .ref id N off len _, .d (.sc (.int _ n)) => match h[id]? with
      | some (.cells e' rows) => e' = e ∧ N = rows.length ∧ 0 ≤ n ∧ n < len ∧ K (.ptr id N (off + n.toNat) 0) h
      | _ => False
    | _, _ => False
  | .aaddr e len x i, ev, h, K => match ev x, ev i with
    | .ptr id N i' off, .d (.sc (.int _ n)) => match h[id]? with
      | some (.cells _ rows) => N = rows.length ∧ 0 ≤ n ∧ n < len ∧ K (.ptr id N i' (off + n.toNat * e.sz)) h
      | _ => False
    | .iptr cs, .d (.sc (.int _ n)) => 0 ≤ n ∧ n < len ∧ K (.iptr (cs.drop (n.toNat * e.sz))) h
    | _, _ => False
  | .aidx len n agg x i, ev, h, K => match ev x, ev i with
    | .agg cs, .d (.sc (.int _ m)) => 0 ≤ m ∧ m < len ∧ loadsTo n agg (cs.drop (m.toNat * n)) fun a => K a h
    | _, _ => False
  | .sidx x i, ev, h, K => match ev x, ev i with
    | .d (.sc (.string s)), .d (.sc (.int _ n)) => 0 ≤ n ∧ n < s.size ∧ K (.sc (.int .u8 (s.data.toList.getD n.toNat 0).toNat)) h
    | _, _ => False
  | .nilck x, ev, h, K => match ev x with
    | .ptr id N i off => match h[id]? with
      | some (.cells _ rows) => N = rows.length ∧ K (.ptr id N i off) h
      | _ => False
    | .iptr cs => K (.iptr cs) h
    | .fn f caps => K (.fn f caps) h
    | _ => False
  | .bin op x y, ev, h, K => match ev x, ev y with
    | .d (.sc a), .d (.sc b) => match binRes op a b with
      | some v => K (.sc v) h
      | none => False
    | _, _ => False
  | .eqb neg x y, ev, h, K => match ev x, ev y with
    | .d (.sc (.bool a)), .d (.sc (.bool b)) => K (.bool (if neg then a != b else a == b)) h
    | _, _ => False
  | .eqs neg n ks x y, ev, h, K => match ev x, ev y with
    | .agg xs, .agg ys => xs.length = n ∧ ys.length = n ∧ match eqAll ks xs ys with
      | some b => K (.bool (if neg then !b else b)) h
      | none => False
    | _, _ => False
  | .eqnil neg x, ev, h, K => match ev x with
    | .nil => K (.bool (!neg)) h
    | .nn _ _ => K (.bool neg) h
    | .d (.sl _ rows) => rows ≠ [] ∧ K (.bool neg) h
    | .ref id N _ _ _ => match h[id]? with
      | some (.cells _ rows) => N = rows.length ∧ 0 < N ∧ K (.bool neg) h
      | _ => False
    | _ => False
  | .un op x, ev, h, K => match ev x with
    | .d (.sc a) => match unRes op a with
      | some v => K (.sc v) h
      | none => False
    | _ => False
  | .conv k x, ev, h, K => match ev x with
    | .d (.sc (.int _ n)) => K (.sc (.int k (k.wrap n))) h
    | _ => False
  | .len str x, ev, h, K => match ev x with
    | .nil => str = false ∧ K (.int 0) h
    | .d (.sl _ rows) => str = false ∧ K (.int rows.length) h
    | .nn _ rows => str = false ∧ K (.int rows.length) h
    | .ref id N _ len _ => match h[id]? with
      | some (.cells _ rows) => str = false ∧ N = rows.length ∧ K (.int len) h
      | _ => False
    | .d (.sc (.string s)) => str = true ∧ K (.int s.size) h
    | _ => False
  | .slice e x lo hi mx, ev, h, K => match ev x with
    | .nil => optInt ev lo 0 = some 0 ∧ optInt ev hi 0 = some 0 ∧ optInt ev mx 0 = some 0 ∧ K .nil h
    | .d (.sl e' rows) => match optInt ev lo 0, optInt ev hi rows.length, optInt ev mx rows.length with
      | some l, some u, some m => e'.sz = e.sz ∧ 0 ≤ l ∧ l ≤ u ∧ u ≤ m ∧ m ≤ rows.length ∧ K (.d (.sl e' ((rows.drop l.toNat).take (u - l).toNat))) h
      | _, _, _ => False
    | .nn e' rows => match optInt ev lo 0, optInt ev hi rows.length, optInt ev mx rows.length with
      | some l, some u, some m => e'.sz = e.sz ∧ 0 ≤ l ∧ l ≤ u ∧ u ≤ m ∧ m ≤ rows.length ∧ K (.d (.sl e' ((rows.drop l.toNat).take (u - l).toNat))) h
      | _, _, _ => False
    | .ref id N off len full => match h[id]? with
      | some (.cells e' rows) => match optInt ev lo 0, optInt ev hi len, optInt ev mx len with
        | some l, some u, some m => e'.sz = e.sz ∧ N = rows.length ∧ 0 ≤ l ∧ l ≤ u ∧ u ≤ m ∧ m ≤ len ∧ K (.ref id N (off + l.toNat) (u - l).toNat (full && mx.isNone)) h
        | _, _, _ => False
      | _ => False
    | _ => False
  | .sslice x lo hi, ev, h, K => match ev x with
    | .d (.sc (.string s)) => match optInt ev lo 0, optInt ev hi s.size with
      | some l, some u => 0 ≤ l ∧ l ≤ u ∧ u ≤ s.size ∧ K (.str (s.extract l.toNat u.toNat)) h
      | _, _ => False
    | _ => False
  | .append e x y, ev, h, K => match srcRows e h (ev y) with
    | some new => match ev x with
      | .nil => if new = [] then K .nil h else new.length * e.bytes ≤ room ∧ new.length ≤ maxLen ∧ place pl h (.cells e new) fun id h1 => K (.ref id new.length 0 new.length true) h1
      | .ref id N off len full => match h[id]? with
        | some (.cells e' rows) => e' = e ∧ N = rows.length ∧ off = 0 ∧ (len + new.length) * e.bytes ≤ room ∧ len + new.length ≤ maxLen ∧
          if len = N then K (.ref id (N + new.length) 0 (N + new.length) true) (h.set id (.cells e (rows ++ new)))
          else full = true ∧ len + new.length ≤ N ∧ K (.ref id N 0 (len + new.length) true) (h.set id (.cells e (rows.take len ++ new ++ rows.drop (len + new.length))))
        | _ => False
      | _ => False
    | none => False
  | .copy e x y, ev, h, K => match srcRows e h (ev y) with
    | some new => match ev x with
      | .ref id N off len _ => match h[id]? with
        | some (.cells e' rows) => e' = e ∧ N = rows.length ∧
          K (.int (min new.length len : Nat)) (h.set id (.cells e (rows.take off ++ new.take (min new.length len) ++ rows.drop (off + min new.length len))))
        | _ => False
      | _ => False
    | none => False
  | .make e zero n c, ev, h, K => match ev n, ev c with
    | .d (.sc (.int .i64 n)), .d (.sc (.int .i64 c)) => 0 ≤ n ∧ n ≤ c ∧ c ≤ 9223372036854775807 ∧ c * e.bytes ≤ room ∧ place pl h (.cells e (List.replicate n.toNat zero)) fun id h1 => K (.ref id n.toNat 0 n.toNat true) h1
    | _, _ => False
  | .extract i x, ev, h, K => match ev x with
    | .tup l => match l[i]? with
      | some a => K a h
      | none => False
    | _ => False
  | .mkfn f caps, ev, h, K => K (.fn f (caps.map ev)) h
  | .call f args, ev, h, K => match ev f with
    | .fn g caps => A.underL 0 (args.map ev ++ caps) = true ∧ (∃ r, F.pure g (args.map ev ++ caps) r ∧ K r h)
    | _ => False
  | .calle f args, ev, h, K => match ev f with
    | .fn g caps => ∃ r h', F.call g (args.map ev ++ caps) h r h' ∧ K r h'
    | .yld id => ∃ r h', F.round id (args.map ev) h r h' ∧ K r h'
    | _ => False
  | .callr f args, ev, h, K => match ev f with
    | .fn g caps => ∃ r t, F.call g (args.map ev ++ caps) h r (h ++ t) ∧ K r (h ++ t)
    | _ => False
  | .minmax isMax args, ev, h, K => match args with
    | [x, y] => match ev x, ev y with
      | .d (.sc (.int k a)), .d (.sc (.int k' b)) => k = k' ∧ K (.sc (.int k (minmaxInt isMax a b))) h
      | _, _ => False
    | [x, y, z] => match ev x, ev y, ev z with
      | .d (.sc (.int k a)), .d (.sc (.int k' b)), .d (.sc (.int k'' c)) => k = k' ∧ k = k'' ∧ K (.sc (.int k (minmaxInt isMax (minmaxInt isMax a b) c))) h
      | _, _, _ => False
    | _ => False
  | .cap x, ev, h, K => match ev x with
    | .nil => K (.int 0) h
    | _ => False
  | .s2r e x, ev, h, K => match ev x with
    | .d (.sc (.string s)) => (runesOf s).length * e.bytes ≤ room ∧ K (.d (.sl e ((runesOf s).map runeRow))) h
    | _ => False
  | .b2s x, ev, h, K => match sliceRows ⟨1, 1⟩ h (ev x) with
    | some rows => match rows.mapM byteOf with
      | some ns => ns.length ≤ maxLen ∧ K (.str (strOfNums ns)) h
      | none => False
    | none => False
  | .i2s x, ev, h, K => match ev x with
    | .d (.sc (.int _ n)) => K (.str (Utf8.encode n)) h
    | _ => False
  | .iter x, ev, h, K => match ev x with
    | .d (.sc (.string s)) => place pl h (.obj (.stringIter s 0)) fun id h1 => K (.ptr id 0 0 0) h1
    | _ => False
  | .next x, ev, h, K => match ev x with
    | .ptr id 0 0 0 => match h[id]? with
      | some (.obj (.stringIter s pos)) => s.size ≤ maxLen ∧ nextStr s pos id h K
      | _ => False
    | _ => False

/-! ### What the model's operations are to the abstract machine -/
def elt? (P : Program) (t : TypeId) : Option Elt := (P.info? t).map fun i => ⟨i.size, i.bytes⟩

def aggB (P : Program) (t : TypeId) : Bool :=
  match P.underlying t with
  | some (.struct _) | some (.array _ _) => true
  | _ => false

def zeroCells? (P : Program) (t : TypeId) : Option (List A) :=
  match P.info? t with
  | some i => match i.zero with
    | some z => if z.cells.size = i.size ∧ z.cells.toList.all kOk = true then some (z.cells.toList.map kOf) else none
    | none => none
  | none => none

def known (P : Program) (t : TypeId) : Bool := (P.underlying t).isSome && (P.info? t).isSome

def small (e : Elt) : Bool := decide (0 < e.sz) && decide (e.bytes ≤ room)

def fieldsOf (P : Program) (t : TypeId) : Option (List (Nat × Nat)) :=
  match P.underlying t with
  | some (.struct fs) => fs.toList.mapM fun f => (P.info? f.type).map fun i => (f.offset, i.size)
  | some (.array n et) => (P.info? et).map fun i => (List.range n).map fun j => (j * i.size, i.size)
  | _ => none

end Go.Proofs.YtckglkbbdbmdkaaDoor.Nx

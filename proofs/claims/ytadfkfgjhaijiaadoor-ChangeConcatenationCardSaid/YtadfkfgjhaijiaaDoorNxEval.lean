import Derived.Test.YtadfkfgjhaijiaaDoorNxWalk
set_option linter.unusedSimpArgs false
set_option linter.unusedVariables false
set_option linter.unnecessarySimpa false
open List renaming getElem?_eq_some_iff → zA, getElem?_drop → zl
open Option renaming bind_eq_some_iff → zD, map_eq_some_iff → zT
open Option.some renaming injEq → zH
namespace Go.Proofs.YtadfkfgjhaijiaaDoor.Nx
open Go
deriving instance DecidableEq for Elt
structure Orc where
  pure:FuncId→List A→Option A
  call:FuncId→List A→Heap→Option (A × Heap)
structure OrcOk (F:Fns) (o:Orc):Prop where
  pure:∀ f args r,o.pure f args=some r→F.pure f args r
  call:∀ f args h r h',o.call f args h=some (r,h')→F.call f args h r h'
def loadsE (n:Nat) (agg:Bool) (cs:List A):Option A :=
  match agg,cs with
  | true,cs=>if n≤cs.length then some (.agg (cs.take n)) else none
  | false,c::_=>some c
  | false,[]=>none
theorem loadsE_ok {n:Nat} {agg:Bool} {cs:List A} {r:A} (h:loadsE n agg cs=some r) {K:A→Prop} (hK:K r):loadsTo n agg cs K:=by
  unfold loadsE at h
  unfold loadsTo
  split at h
  · split at h
    · cases h;exact ⟨‹_›, hK⟩
    · cases h
  · cases h;exact hK
  · cases h
def fillE (cs:List A):List (Nat × Nat × A)→Option (List A)
  | []=>some cs
  | (off,n,x)::r=>if x.okCells=true∧x.cells.length=n∧off+n≤cs.length then fillE (splice cs off x.cells) r else none
theorem fillE_ok:∀ {l:List (Nat × Nat × A)} {cs r:List A},fillE cs l=some r→∀ {K:List A→Prop},K r→fillTo cs l K
  | [],cs,r,h,K,hK=>by cases h;exact hK
  | (off,n,x)::l,cs,r,h,K,hK=>by
    simp only [fillE] at h
    split at h
    · rename_i hc;exact ⟨hc.1,hc.2.1,hc.2.2,fillE_ok h hK⟩
    · cases h
def rowsE (n:Nat) (rows:List (List A)):List (Nat × A)→Option (List (List A))
  | []=>some rows
  | (i,x)::r=>if x.okCells=true∧x.cells.length=n∧i<rows.length then rowsE n (rows.set i x.cells) r else none
theorem rowsE_ok {n:Nat}:∀ {l:List (Nat × A)} {rows r:List (List A)},rowsE n rows l=some r→∀ {K:List (List A)→Prop},K r→rowsTo n rows l K
  | [],cs,r,h,K,hK=>by cases h;exact hK
  | (i,x)::l,cs,r,h,K,hK=>by
    simp only [rowsE] at h
    split at h
    · rename_i hc;exact ⟨hc.1,hc.2.1,hc.2.2,rowsE_ok h hK⟩
    · cases h
def placeE (pl:Option Nat) (h:Heap) (B:HB) (mk:Nat→A):Option (A × Heap) :=
  match pl with
  | none=>some (mk h.length,h++[B])
  | some a=>match h[a]? with
    | some .res=>some (mk a,h.set a B)
    | _=>none
theorem placeE_ok {pl:Option Nat} {h h':Heap} {B:HB} {mk:Nat→A} {r:A} (he:placeE pl h B mk=some (r,h')) {K:A→Heap→Prop} (hK:K r h'):place pl h B fun id h1=>K (mk id) h1:=by
  cases pl with
  | none=>simp only [placeE,zH,Prod.mk.injEq] at he;obtain ⟨rfl,rfl⟩:=he;exact hK
  | some a =>
    simp only [placeE] at he
    split at he
    · simp only [zH,Prod.mk.injEq] at he;obtain ⟨rfl,rfl⟩:=he;exact ⟨‹_›, hK⟩
    · cases he
def execE (o:Orc) (pl:Option Nat) (op:XOp) (ev:XO→A) (h:Heap):Option (A × Heap) :=
  match op with
  | .mov x=>some (ev x,h)
  | .pick c a b=>match ev c with
    | .d (.sc (.bool t))=>some (if t=true then ev a else ev b,h)
    | _=>none
  | .alloc e zero=>placeE pl h (.cells e [zero]) fun id=>.ptr id 1 0 0
  | .box e x=>if (ev x).okCells=true∧(ev x).cells.length=e.sz then placeE pl h (.cells e [(ev x).cells]) fun id=>.ptr id 1 0 0 else none
  | .build zero parts=>match fillE zero (parts.map fun (o,n,x)=>(o,n,ev x)) with
    | some cs=>some (.agg cs,h)
    | none=>none
  | .bslice e zero len parts=>match rowsE e.sz (List.replicate len zero) (parts.map fun (i,x)=>(i,ev x)) with
    | some rows=>placeE pl h (.cells e rows) fun id=>.ref id len 0 len true
    | none=>none
  | .load n agg x=>match ev x with
    | .ptr id N i off=>match h[id]? with
      | some (.cells _ rows)=>if N=rows.length then match rows[i]? with
        | some r=>(loadsE n agg (r.drop off)).map (·, h)
        | none=>none
        else none
      | _=>none
    | .iptr cs=>(loadsE n agg (cs.map .d)).map (·, h)
    | _=>none
  | .store n x y=>match ev x with
    | .ptr id N i off=>match h[id]? with
      | some (.cells e rows)=>match rows[i]? with
        | some r=>if N=rows.length∧(ev y).okCells=true∧(ev y).cells.length=n∧off+n≤r.length then some (.any,h.set id (.cells e (rows.set i (splice r off (ev y).cells)))) else none
        | none=>none
      | _=>none
    | _=>none
  | .faddr off x=>match ev x with
    | .ptr id N i o=>match h[id]? with
      | some (.cells _ rows)=>if N=rows.length then some (.ptr id N i (o+off),h) else none
      | _=>none
    | .iptr cs=>some (.iptr (cs.drop off),h)
    | _=>none
  | .field off n agg x=>match ev x with
    | .agg cs=>(loadsE n agg (cs.drop off)).map (·, h)
    | _=>none
  | .iaddr e x i=>match ev x,ev i with
    | .d (.sl e' rows),.d (.sc (.int _ n))=>if e'=e∧0≤n∧n<rows.length then some (.iptr (rows.getD n.toNat []),h) else none
    | .nn e' rows,.d (.sc (.int _ n))=>if e'=e∧0≤n∧n<rows.length then some (.iptr (rows.getD n.toNat []),h) else none
    | .ref id N off len _,.d (.sc (.int _ n))=>match h[id]? with
      | some (.cells e' rows)=>if e'=e∧N=rows.length∧0≤n∧n<len then some (.ptr id N (off+n.toNat) 0,h) else none
      | _=>none
    | _,_=>none
  | .aaddr e len x i=>match ev x,ev i with
    | .ptr id N i' off,.d (.sc (.int _ n))=>match h[id]? with
      | some (.cells _ rows)=>if N=rows.length∧0≤n∧n<len then some (.ptr id N i' (off+n.toNat * e.sz),h) else none
      | _=>none
    | .iptr cs,.d (.sc (.int _ n))=>if 0≤n∧n<len then some (.iptr (cs.drop (n.toNat * e.sz)),h) else none
    | _,_=>none
  | .aidx len n agg x i=>match ev x,ev i with
    | .agg cs,.d (.sc (.int _ m))=>if 0≤m∧m<len then (loadsE n agg (cs.drop (m.toNat * n))).map (·, h) else none
    | _,_=>none
  | .sidx x i=>match ev x,ev i with
    | .d (.sc (.string s)),.d (.sc (.int _ n))=>if 0≤n∧n<s.size then some (.sc (.int .u8 (s.data.toList.getD n.toNat 0).toNat),h) else none
    | _,_=>none
  | .nilck x=>match ev x with
    | .ptr id N i off=>match h[id]? with
      | some (.cells _ rows)=>if N=rows.length then some (.ptr id N i off,h) else none
      | _=>none
    | .iptr cs=>some (.iptr cs,h)
    | .fn f caps=>some (.fn f caps,h)
    | _=>none
  | .bin op x y=>match ev x,ev y with
    | .d (.sc a),.d (.sc b)=>match binRes op a b with
      | some v=>some (.sc v,h)
      | none=>none
    | _,_=>none
  | .eqb neg x y=>match ev x,ev y with
    | .d (.sc (.bool a)),.d (.sc (.bool b))=>some (.bool (if neg then a != b else a == b),h)
    | _,_=>none
  | .eqs neg n ks x y=>match ev x,ev y with
    | .agg xs,.agg ys=>if xs.length=n∧ys.length=n then match eqAll ks xs ys with
      | some b=>some (.bool (if neg then !b else b),h)
      | none=>none
      else none
    | _,_=>none
  | .eqnil neg x=>match ev x with
    | .nil=>some (.bool (!neg),h)
    | .nn _ _=>some (.bool neg,h)
    | .d (.sl _ (_::_))=>some (.bool neg,h)
    | _=>none
  | .un op x=>match ev x with
    | .d (.sc a)=>match unRes op a with
      | some v=>some (.sc v,h)
      | none=>none
    | _=>none
  | .conv k x=>match ev x with
    | .d (.sc (.int _ n))=>some (.sc (.int k (k.wrap n)),h)
    | _=>none
  | .len str x=>match ev x with
    | .nil=>if str=false then some (.int 0,h) else none
    | .d (.sl _ rows)=>if str=false then some (.int rows.length,h) else none
    | .nn _ rows=>if str=false then some (.int rows.length,h) else none
    | .ref id N _ len _=>match h[id]? with
      | some (.cells _ rows)=>if str=false∧N=rows.length then some (.int len,h) else none
      | _=>none
    | .d (.sc (.string s))=>if str=true then some (.int s.size,h) else none
    | _=>none
  | .slice e x lo hi mx=>match ev x with
    | .nil=>if optInt ev lo 0=some 0∧optInt ev hi 0=some 0∧optInt ev mx 0=some 0 then some (.nil,h) else none
    | .d (.sl e' rows)=>match optInt ev lo 0,optInt ev hi rows.length,optInt ev mx rows.length with
      | some l,some u,some m=>if e'.sz=e.sz∧0≤l∧l≤u∧u≤m∧m≤rows.length then some (cutA mx.isSome l u m e' rows,h) else none
      | _,_,_=>none
    | .nn e' rows=>match optInt ev lo 0,optInt ev hi rows.length,optInt ev mx rows.length with
      | some l,some u,some m=>if e'.sz=e.sz∧0≤l∧l≤u∧u≤m∧m≤rows.length then some (cutA mx.isSome l u m e' rows,h) else none
      | _,_,_=>none
    | .ref id N off len full=>match h[id]? with
      | some (.cells e' rows)=>match optInt ev lo 0,optInt ev hi len,optInt ev mx len with
        | some l,some u,some m=>if e'.sz=e.sz∧N=rows.length∧0≤l∧l≤u∧u≤m∧m≤len then some (.ref id N (off+l.toNat) (u-l).toNat (full&&mx.isNone),h) else none
        | _,_,_=>none
      | _=>none
    | _=>none
  | .sslice x lo hi=>match ev x with
    | .d (.sc (.string s))=>match optInt ev lo 0,optInt ev hi s.size with
      | some l,some u=>if 0≤l∧l≤u∧u≤s.size then some (.str (s.extract l.toNat u.toNat),h) else none
      | _,_=>none
    | _=>none
  | .append e x y=>match srcRows e h (ev y) with
    | some new=>match ev x with
      | .nil=>match new with
        | []=>some (.nil,h)
        | c::cs=>if (c::cs).length * e.bytes≤room∧(c::cs).length≤maxLen then placeE pl h (.cells e (c::cs)) fun id=>.ref id (c::cs).length 0 (c::cs).length true else none
      | .ref id N off len full=>match h[id]? with
        | some (.cells e' rows)=>if e'=e∧N=rows.length∧off=0∧(len+new.length) * e.bytes≤room∧len+new.length≤maxLen then
          if len=N then some (.ref id (N+new.length) 0 (N+new.length) true,h.set id (.cells e (rows++new)))
          else if full=true∧len+new.length≤N then some (.ref id N 0 (len+new.length) true,h.set id (.cells e (rows.take len++new++rows.drop (len+new.length)))) else none
          else none
        | _=>none
      | _=>none
    | none=>none
  | .copy e x y=>match srcRows e h (ev y) with
    | some new=>match ev x with
      | .ref id N off len _=>match h[id]? with
        | some (.cells e' rows)=>if e'=e∧N=rows.length then
          some (.int (min new.length len:Nat),h.set id (.cells e (rows.take off++new.take (min new.length len)++rows.drop (off+min new.length len)))) else none
        | _=>none
      | _=>none
    | none=>none
  | .make e zero n c=>match ev n,ev c with
    | .d (.sc (.int .i64 n)),.d (.sc (.int .i64 c))=>if 0≤n∧n≤c∧c≤9223372036854775807∧c * e.bytes≤room then placeE pl h (.cells e (List.replicate n.toNat zero)) fun id=>.ref id n.toNat 0 n.toNat true else none
    | _,_=>none
  | .extract i x=>match ev x with
    | .tup l=>match l[i]? with
      | some a=>some (a,h)
      | none=>none
    | _=>none
  | .mkfn f caps=>some (.fn f (caps.map ev),h)
  | .call f args=>match ev f with
    | .fn g caps=>if A.underL 0 (args.map ev++caps)=true then (o.pure g (args.map ev++caps)).map (·, h) else none
    | _=>none
  | .calle f args=>match ev f with
    | .fn g caps=>o.call g (args.map ev++caps) h
    | _=>none
  | .callr _ _=>none
  | .calln _ _=>none
  | .loadp _ _ _=>none
  | .minmax isMax args=>match args with
    | [x,y]=>match ev x,ev y with
      | .d (.sc (.int k a)),.d (.sc (.int k' b))=>if k=k' then some (.sc (.int k (minmaxInt isMax a b)),h) else none
      | _,_=>none
    | [x,y,z]=>match ev x,ev y,ev z with
      | .d (.sc (.int k a)),.d (.sc (.int k' b)),.d (.sc (.int k'' c))=>if k=k'∧k=k'' then some (.sc (.int k (minmaxInt isMax (minmaxInt isMax a b) c)),h) else none
      | _,_,_=>none
    | _=>none
  | .cap x=>match ev x with
    | .nil=>some (.int 0,h)
    | _=>none
  | .s2r e x=>match ev x with
    | .d (.sc (.string s))=>if (runesOf s).length * e.bytes≤room then some (.d (.sl e ((runesOf s).map runeRow)),h) else none
    | _=>none
  | .b2s x=>match sliceRows ⟨1,1⟩ h (ev x) with
    | some rows=>match rows.mapM byteOf with
      | some ns=>if ns.length≤maxLen then some (.str (strOfNums ns),h) else none
      | none=>none
    | none=>none
  | .i2s x=>match ev x with
    | .d (.sc (.int _ n))=>some (.str (Utf8.encode n),h)
    | _=>none
  | .iter x=>match ev x with
    | .d (.sc (.string s))=>placeE pl h (.obj (.stringIter s 0)) fun id=>.ptr id 0 0 0
    | _=>none
  | .next x=>match ev x with
    | .ptr id 0 0 0=>match h[id]? with
      | some (.obj (.stringIter s pos))=>if s.size≤maxLen then
          if pos<s.size then some (.tup [.bool true,.int pos,.sc (.int .i32 (Utf8.decode s pos).1)],h.set id (.obj (.stringIter s (pos+(Utf8.decode s pos).2))))
          else some (.tup [.bool false],h)
          else none
      | _=>none
    | _=>none
section
variable {F:Fns} {o:Orc} {pl:Option Nat} {ev:XO→A} {h h':Heap} {r:A} {K:A→Heap→Prop}
theorem map_some {x:Option A} (he:x.map (·, h)=some (r,h')):x=some r∧h=h':=by
  cases x with
  | none=>cases he
  | some y=>simp only [Option.map_some,zH,Prod.mk.injEq] at he;exact ⟨by rw [he.1],he.2⟩
theorem execE_ok (O:OrcOk F o) {op:XOp} (he:execE o pl op ev h=some (r,h')) (hK:K r h'):exec F pl op ev h K:=by
  have ld:∀ {n:Nat} {g:Bool} {l:List A},(loadsE n g l).map (·, h)=some (r,h')→loadsTo n g l fun a=>K a h:=fun e=>by
    obtain ⟨e1,e2⟩:=map_some e
    exact loadsE_ok e1 (by rw [e2];exact hK)
  cases op with
  | mov x=>cases he;exact hK
  | alloc e z=>exact placeE_ok (mk:=fun id=>.ptr id 1 0 0) he hK
  | box e x =>
    simp only [execE] at he
    split at he
    · rename_i hc;exact ⟨hc.1,hc.2,placeE_ok (mk:=fun id=>.ptr id 1 0 0) he hK⟩
    · cases he
  | build z ps =>
    simp only [execE] at he
    split at he
    · exact fillE_ok ‹_› (by cases he;exact hK)
    · cases he
  | bslice e z n ps =>
    simp only [execE] at he
    split at he
    · exact rowsE_ok ‹_› (placeE_ok (mk:=fun id=>.ref id n 0 n true) he hK)
    · cases he
  | load n g x =>
    revert he
    simp only [execE,exec]
    generalize ev x=X
    cases X with
    | iptr cs=>exact ld
    | ptr id N i off =>
      dsimp only
      generalize h[id]? = o
      rcases o with _ | (⟨e,rows⟩ | _ | _)<;>(try (intro he;cases he;done))
      dsimp only
      split
      · generalize rows[i]? = r
        cases r with
        | none=>intro he;cases he
        | some r=>intro he;exact ⟨‹_›, ld he⟩
      · intro he;cases he
    | _=>intro he;cases he
  | field off n g x =>
    revert he
    simp only [execE,exec]
    generalize ev x=X
    cases X with
    | agg cs=>exact ld
    | _=>intro he;cases he
  | aidx len n g x i =>
    revert he
    simp only [execE,exec]
    split
    · rename_i h1 h2
      rw [h1,h2]
      dsimp only
      split
      · rename_i hc;intro he;exact ⟨hc.1,hc.2,ld he⟩
      · intro he;cases he
    · intro he;cases he
  | make e z n c =>
    revert he
    simp only [execE,exec]
    split
    · rename_i h1 h2
      rw [h1,h2]
      dsimp only
      rename_i n c
      split
      · rename_i hc;intro he;exact ⟨hc.1,hc.2.1,hc.2.2.1,hc.2.2.2,placeE_ok (mk:=fun id=>.ref id n.toNat 0 n.toNat true) he hK⟩
      · intro he;cases he
    · intro he;cases he
  | append e x y =>
    revert he
    simp only [execE,exec]
    generalize srcRows e h (ev y)=S
    cases S with
    | none=>intro he;cases he
    | some new =>
      dsimp only
      generalize ev x=X
      cases X with
      | nil =>
        dsimp only
        cases new with
        | nil=>intro he;cases he;rw [if_pos rfl];exact hK
        | cons c cs =>
          dsimp only
          split
          · rename_i hc
            intro he
            rw [if_neg (by simp)]
            exact ⟨hc.1,hc.2,placeE_ok (mk:=fun id=>.ref id (c::cs).length 0 (c::cs).length true) he hK⟩
          · intro he;cases he
      | ref id N off len full =>
        dsimp only
        generalize h[id]? = o
        rcases o with _ | (⟨e',rows⟩ | _ | _)<;>(try (intro he;cases he;done))
        dsimp only
        split
        · rename_i hc
          split
          · intro he;cases he;exact ⟨hc.1,hc.2.1,hc.2.2.1,hc.2.2.2.1,hc.2.2.2.2,hK⟩
          · split
            · rename_i hd;intro he;cases he;exact ⟨hc.1,hc.2.1,hc.2.2.1,hc.2.2.2.1,hc.2.2.2.2,hd.1,hd.2,hK⟩
            · intro he;cases he
        · intro he;cases he
      | _=>intro he;cases he
  | call f as =>
    revert he
    simp only [execE,exec]
    generalize ev f=X
    cases X with
    | fn g caps =>
      dsimp only
      split
      · intro he
        obtain ⟨e1,e2⟩:=map_some he
        exact ⟨‹_›, _,O.pure _ _ _ e1,by rw [e2];exact hK⟩
      · intro he;cases he
    | _=>intro he;cases he
  | calle f as =>
    revert he
    simp only [execE,exec]
    generalize ev f=X
    cases X with
    | fn g caps=>intro he;exact ⟨_,_,O.call _ _ _ _ _ he,hK⟩
    | _=>intro he;cases he
  | callr f as=>cases he
  | calln f as=>cases he
  | loadp n g x=>cases he
  | eqnil neg x =>
    revert he
    simp only [execE,exec]
    generalize ev x=X
    rcases X with _ | _ | (v | ⟨e,_ | ⟨_,_⟩⟩) | _ | _ | _ | _ | _ | _ | _ | _<;>(intro he;first | (cases he;done) | (cases he;exact hK) | (cases he;exact ⟨by simp,hK⟩))
  | pick c a b | faddr off x | iaddr e x i | aaddr e n x i | sidx x i | nilck x | bin op x y | eqb neg x y | eqs neg n ks x y | un op x | conv k x | len str x | slice e x lo hi mx | sslice x lo hi | extract i x | mkfn f cs | cap x | s2r e x | i2s x =>
    revert he
    simp only [execE,exec]
    repeat' (first | (intro he;cases he;done) | (intro he;cases he;first | exact hK | (simp_all;done)) | split)
  | store n x y =>
    revert he
    simp only [execE,exec]
    generalize ev x=X
    cases X with
    | ptr id N i off =>
      dsimp only
      cases ho:h[id]? with
      | none=>intro he;cases he
      | some B=>cases B with
        | cells e rows =>
          dsimp only
          cases hr:rows[i]? with
          | none=>intro he;cases he
          | some r' =>
            dsimp only
            split
            · rename_i hc;intro he;cases he;exact ⟨hc.1,hc.2.1,hc.2.2.1,hc.2.2.2,hK⟩
            · intro he;cases he
        | _=>intro he;cases he
    | _=>intro he;cases he
  | copy e x y =>
    revert he
    simp only [execE,exec]
    generalize srcRows e h (ev y)=S
    cases S with
    | none=>intro he;cases he
    | some new =>
      dsimp only
      generalize ev x=X
      cases X with
      | ref id N off len full =>
        dsimp only
        cases ho:h[id]? with
        | none=>intro he;cases he
        | some B=>cases B with
          | cells e' rows =>
            dsimp only
            split
            · rename_i hc;intro he;cases he;exact ⟨hc.1,hc.2,hK⟩
            · intro he;cases he
          | _=>intro he;cases he
      | _=>intro he;cases he
  | b2s x =>
    revert he
    simp only [execE,exec]
    generalize sliceRows ⟨1,1⟩ h (ev x)=S
    cases S with
    | none=>intro he;cases he
    | some rows =>
      dsimp only
      generalize rows.mapM byteOf=T
      cases T with
      | none=>intro he;cases he
      | some ns =>
        dsimp only
        split
        · intro he;cases he;exact ⟨‹_›, hK⟩
        · intro he;cases he
  | iter x =>
    revert he
    simp only [execE,exec]
    generalize ev x=X
    rcases X with _ | _ | (v | _) | _ | _ | _ | _ | _ | _ | _ | _<;>(try (intro he;cases he;done))
    cases v<;>(try (intro he;cases he;done))
    intro he
    exact placeE_ok (mk:=fun id=>.ptr id 0 0 0) he hK
  | next x =>
    revert he
    simp only [execE,exec,nextStr]
    generalize ev x=X
    split
    · rename_i id
      split
      · rename_i s pos ho
        show _→match h[id]? with
          | some (.obj (.stringIter s pos))=>s.size≤maxLen∧if pos<s.size then K _ _ else K _ _
          | _=>False
        rw [ho]
        dsimp only
        split
        · split
          · intro he;cases he;exact ⟨‹_›, hK⟩
          · intro he;cases he;exact ⟨‹_›, hK⟩
        · intro he;cases he
      · intro he;cases he
    · intro he;cases he
  | minmax g as =>
    rcases as with _ | ⟨x,_ | ⟨y,_ | ⟨z,_ | ⟨_,_⟩⟩⟩⟩<;>(try (cases he;done))<;>revert he<;>simp only [execE,exec]
    · generalize ev x=X
      generalize ev y=Y
      split
      · split
        · intro he;cases he;exact ⟨‹_›, hK⟩
        · intro he;cases he
      · intro he;cases he
    · generalize ev x=X
      generalize ev y=Y
      generalize ev z=Z
      split
      · split
        · rename_i hc;intro he;cases he;exact ⟨hc.1,hc.2,hK⟩
        · intro he;cases he
      · intro he;cases he
end
def frzD (k:Nat) (dflt:Elt) (h:Heap):Nat→A→Option D
  | 0,_=>none
  | n+1,x=>match x with
    | .d x=>some x
    | .nil=>some (.sl dflt [])
    | .nn e rows=>some (.sl e rows)
    | .ref id N off len _=>match h[id]? with
      | some (.cells e rows)=>if k≤id∧N=rows.length∧off+len≤rows.length then
          (((rows.drop off).take len).mapM fun (r:List A)=>r.mapM (frzD k dflt h n)).map (.sl e) else none
      | _=>none
    | _=>none
theorem frzD_ok {k:Nat} {dflt:Elt} {h:Heap}:∀ {n:Nat} {x:A} {d:D},frzD k dflt h n x=some d→FrzD k h x d:=by
  intro n
  induction n with
  | zero=>intro x d he;cases he
  | succ n ih =>
    intro x d he
    cases x with
    | d x=>cases he;exact .d _
    | nil=>cases he;exact .nil _
    | nn e rows=>cases he;exact .nn _ _
    | ref id N off len full =>
      simp only [frzD] at he
      split at he
      · rename_i e rows hh
        split at he
        · rename_i hc
          obtain ⟨hkid,rfl,hc⟩:=hc
          simp only [zT] at he
          obtain ⟨rowsD,hm,rfl⟩:=he
          obtain ⟨m1,m2⟩:=mapM_spec hm
          have hl:rowsD.length=len:=by rw [m1];simp;omega
          have key:∀ i r,rowsD[i]? = some r→(rows.getD (off+i) []).mapM (frzD k dflt h n)=some r:=by
            intro i r hi
            have hlt:i<len:=by rw [← hl];exact (zA.1 hi).1
            have hx:((rows.drop off).take len)[i]? = some (rows.getD (off+i) []):=by
              rw [List.getElem?_take_of_lt hlt,zl];exact listD_some _ (by omega)
            obtain ⟨y,h1,h2⟩:=m2 i _ hx
            rw [hi] at h1;cases h1
            exact h2
          refine .ref hkid hh hl (fun i r hi=>?_) (fun i r j d hi hj=>?_)
          · obtain ⟨k1,_⟩:=mapM_spec (key i r hi)
            exact k1.symm
          · obtain ⟨k1,k2⟩:=mapM_spec (key i r hi)
            have hjl:j<(rows.getD (off+i) []).length:=by rw [← k1];exact (zA.1 hj).1
            obtain ⟨y,h1,h2⟩:=k2 j _ (listD_some .any hjl)
            rw [hj] at h1;cases h1
            exact ih h2
        · cases he
      · cases he
    | _=>cases he
mutual
def frzA (k:Nat) (dflt:Elt) (h:Heap):Nat→A→Option A
  | 0,_=>none
  | n+1,x=>if x.under k then some x else match x with
    | .agg l=>(frzL k dflt h n l).map .agg
    | .tup l=>(frzL k dflt h n l).map .tup
    | .fn f l=>(frzL k dflt h n l).map (.fn f)
    | .ptr id N i off=>match h[id]? with
      | some (.cells _ rows)=>if k≤id∧N=rows.length then match rows[i]? with
        | some r=>((r.drop off).mapM (frzD k dflt h n)).map .iptr
        | none=>none
        else none
      | _=>none
    | x=>(frzD k dflt h n x).map .d
def frzL (k:Nat) (dflt:Elt) (h:Heap):Nat→List A→Option (List A)
  | 0,_=>none
  | _+1,[]=>some []
  | n+1,x::l=>match frzA k dflt h n x,frzL k dflt h n l with
    | some y,some l'=>some (y::l')
    | _,_=>none
end
theorem frz_ok {k:Nat} {dflt:Elt} {h:Heap}:∀ n:Nat,(∀ x y,frzA k dflt h n x=some y→FrzA k h x y)∧(∀ l l',frzL k dflt h n l=some l'→l'.length=l.length∧∀ j y,l'[j]? = some y→FrzA k h (l.getD j .any) y):=by
  intro n
  induction n with
  | zero=>exact ⟨fun x y he=>by simp [frzA] at he,fun l l' he=>by simp [frzL] at he⟩
  | succ n ih =>
    refine ⟨fun x y he=>?_,fun l l' he=>?_⟩
    · simp only [frzA] at he
      split at he
      · rename_i hu;cases he;exact .same hu
      · split at he
        · simp only [zT] at he
          obtain ⟨l',h1,rfl⟩:=he
          exact .agg (ih.2 _ _ h1).1 (ih.2 _ _ h1).2
        · simp only [zT] at he
          obtain ⟨l',h1,rfl⟩:=he
          exact .tup (ih.2 _ _ h1).1 (ih.2 _ _ h1).2
        · simp only [zT] at he
          obtain ⟨l',h1,rfl⟩:=he
          exact .fn (ih.2 _ _ h1).1 (ih.2 _ _ h1).2
        · rename_i id N i off _
          split at he
          · rename_i e rows hh
            split at he
            · rename_i hN
              obtain ⟨hkid,hN⟩:=hN
              subst hN
              split at he
              · rename_i r hi
                simp only [zT] at he
                obtain ⟨cs,h1,rfl⟩:=he
                obtain ⟨k1,k2⟩:=mapM_spec h1
                refine .iptr hkid hh hi (fun j d hj=>?_)
                have hjl:j<(r.drop off).length:=by rw [← k1];exact (zA.1 hj).1
                have hlt:off+j<r.length:=by simp at hjl;omega
                have hx:(r.drop off)[j]? = some (r.getD (off+j) .any):=by rw [zl];exact listD_some _ hlt
                obtain ⟨y,h2,h3⟩:=k2 j _ hx
                rw [hj] at h2;cases h2
                exact ⟨hlt,frzD_ok h3⟩
              · cases he
            · cases he
          · cases he
        · simp only [zT] at he
          obtain ⟨d,h1,rfl⟩:=he
          exact .d (frzD_ok h1)
    · cases l with
      | nil=>simp [frzL] at he;subst he;simp
      | cons x l =>
        simp only [frzL] at he
        split at he
        · rename_i y l' h1 h2
          cases he
          obtain ⟨k1,k2⟩:=ih.2 _ _ h2
          refine ⟨by simp [k1],fun j y hj=>?_⟩
          cases j with
          | zero=>simp at hj;subst hj;exact ih.1 _ _ h1
          | succ j=>simp at hj;simpa using k2 j y hj
        · cases he
def hbUnder (k:Nat):HB→Bool
  | .cells _ rows=>rows.all fun r=>r.all fun x=>x.under k
  | _=>true
theorem hbUnder_ok {k:Nat} {B:HB} (h:hbUnder k B=true):HB.under k B:=by
  cases B with
  | cells e rows =>
    intro r hr x hx
    exact List.all_eq_true.1 (List.all_eq_true.1 h r hr) x hx
  | _=>trivial
def frzSt (dflt:Elt) (k:Nat) (s:St):St:=⟨fun n=>(frzA k dflt s.heap 100 (s.slots n)).getD .any,s.heap.take k⟩
theorem frzSt_co {dflt:Elt} {n0 k:Nat} {s:St} (hn:n0≤k) (hk:k≤s.heap.length) (hu:(s.heap.take k).all (hbUnder k)=true):Co n0 s (frzSt dflt k s) :=
  fun z M ρ a w hz S=>⟨ρ.take k,⟨S.bnd,S.sim.take hk (fun B hB=>hbUnder_ok (List.all_eq_true.1 hu B hB)),fun n=>by
    show RepA w M _ _ ((frzA k dflt s.heap 100 (s.slots n)).getD .any) _
    cases hx:frzA k dflt s.heap 100 (s.slots n) with
    | none=>exact .any
    | some y=>exact ((frz_ok 100).1 _ _ hx).rep S.sim hk (S.slots n),S.size,S.nlt,S.tabs.take (Nat.le_trans hz.1 hn) hk,S.defers.evo (Evo.take (n0:=k) (h:=s.heap) (w:=w) (Nat.le_refl _) hk)⟩,.take hn hk⟩
mutual
def minId (h:Heap):Nat→A→Nat→Nat
  | 0,_,m=>m
  | n+1,x,m=>match x with
    | .agg l=>minIdL h n l m
    | .tup l=>minIdL h n l m
    | .fn _ l=>minIdL h n l m
    | .ptr id _ _ _=>minIdB h n h[id]? (min id m)
    | .ref id _ _ _ _=>minIdB h n h[id]? (min id m)
    | _=>m
def minIdL (h:Heap):Nat→List A→Nat→Nat
  | 0,_,m=>m
  | _+1,[],m=>m
  | n+1,x::l,m=>minIdL h n l (minId h n x m)
def minIdB (h:Heap):Nat→Option HB→Nat→Nat
  | 0,_,m=>m
  | n+1,some (.cells _ rows),m=>minIdR h n rows m
  | _,_,m=>m
def minIdR (h:Heap):Nat→List (List A)→Nat→Nat
  | 0,_,m=>m
  | _+1,[],m=>m
  | n+1,r::l,m=>minIdR h n l (minIdL h n r m)
end
def stepE (o:Orc) (b:Nat) (x:XOper) (s:St):Option St :=
  match x.live s.slots with
  | some op=>match execE o (x.pl.map (b + ·)) op (ev s.slots) s.heap with
    | some (r,h)=>some ⟨put x.dst r s.slots,h⟩
    | none=>none
  | none=>none
def runE (o:Orc) (b:Nat):List XOper→St→Option St
  | [],s=>some s
  | x::xs,s=>match stepE o b x s with
    | some s'=>runE o b xs s'
    | none=>none
theorem runE_ok {F:Fns} {o:Orc} (O:OrcOk F o) {b:Nat} {K:St→Prop} {s':St} (hK:K s'):∀ {xs:List XOper} {s:St},runE o b xs s=some s'→runX F b xs s K
  | [],s,h=>by cases h;exact hK
  | x::xs,s,h=>by
    simp only [runE] at h
    split at h
    · rename_i s1 h1
      simp only [runX]
      simp only [stepE] at h1
      unfold stepX
      split at h1
      · rename_i op hl
        rw [hl]
        dsimp only
        split at h1
        · rename_i r h2 he
          cases h1
          exact execE_ok O he (runE_ok O hK h)
        · cases h1
      · cases h1
    · cases h
def viewE (dflt:Elt) (x:XOper) (s:St):St :=
  match x.live s.slots with
  | some (.call _ args)=>if A.underL 0 (args.map (ev s.slots)) then s else
      let k:=minIdL s.heap 100 (args.map (ev s.slots)) s.heap.length
      if k≤s.heap.length∧(s.heap.take k).all (hbUnder k)=true then frzSt dflt k s else s
  | _=>s
theorem viewE_co {dflt:Elt} {x:XOper} {s:St}:Co 0 s (viewE dflt x s):=by
  unfold viewE
  split
  · split
    · exact .refl _
    · dsimp only
      split
      · rename_i hc;exact frzSt_co (Nat.zero_le _) hc.1 hc.2
      · exact .refl _
  · exact .refl _
def runCE (o:Orc) (dflt:Elt):List XOper→St→Option St
  | [],s=>some s
  | x::xs,s=>match stepE o (viewE dflt x s).heap.length x (viewE dflt x s) with
    | some s'=>runCE o dflt xs s'
    | none=>none
theorem stepE_ok {F:Fns} {o:Orc} (O:OrcOk F o) {b:Nat} {x:XOper} {K:St→Prop} {s s':St} (h:stepE o b x s=some s') (hK:K s'):stepX F b x s K:=by
  simp only [stepE] at h
  unfold stepX
  split at h
  · rename_i op hl
    rw [hl]
    dsimp only
    split at h
    · rename_i r h2 he
      cases h
      exact execE_ok O he hK
    · cases h
  · cases h
theorem runCE_ok {F:Fns} {o:Orc} (O:OrcOk F o) {dflt:Elt} {K:St→Prop} {s':St} (hK:K s'):∀ {xs:List XOper} {s:St},runCE o dflt xs s=some s'→runC F 0 xs s K
  | [],s,h=>by cases h;exact hK
  | x::xs,s,h=>by
    simp only [runCE] at h
    split at h
    · rename_i s1 h1
      exact ⟨_,viewE_co,stepE_ok O h1 (runCE_ok O hK h)⟩
    · cases h
def loopE (f:St→Option (Exit × St)):Nat→St→Option (Exit × St)
  | 0,_=>none
  | n+1,s=>match f s with
    | some (.normal,s')=>loopE f n s'
    | r=>r
def codeE (o:Orc) (dflt:Elt) (fuel:Nat):XC→St→Option (Exit × St)
  | .skip,s=>some (.normal,s)
  | .ret,s=>some (.ret,s)
  | .exit i,s=>some (.exit i,s)
  | .reg xs,s=>(runCE o dflt xs s).map (Exit.normal,·)
  | .drw n xs rt,s=>if rt.all (fun p=>(s.slots p.1).touch.isNone) then (runE o s.heap.length xs { s with heap:=s.heap++List.replicate n .res }).map (Exit.normal,·) else none
  | .seq x y,s=>match codeE o dflt fuel x s with
    | some (.normal,s')=>codeE o dflt fuel y s'
    | r=>r
  | .cond c x y,s=>match ev s.slots c with
    | .d (.sc (.bool true))=>codeE o dflt fuel x s
    | .d (.sc (.bool false))=>codeE o dflt fuel y s
    | _=>none
  | .block id x,s=>match codeE o dflt fuel x s with
    | some (.exit i,s')=>some (if i=id then .normal else .exit i,s')
    | r=>r
  | .loop x,s=>loopE (codeE o dflt fuel x) fuel s
  | .never,_=>none
  | .range _ _ _ _,_=>none
theorem codeE_ok {Γ:Ctx} {P:Program} {N:Nat} {rl:Option Nat} {o:Orc} (O:OrcOk (.all Γ P) o) {dflt:Elt} {fuel:Nat}:∀ {x:XC} {s s':St} {e:Exit} {Q:Exit→St→Prop},codeE o dflt fuel x s=some (e,s')→Q e s'→W Γ P N rl 0 x Q s:=by
  intro x
  induction x with
  | skip=>intro s s' e Q h hQ;cases h;exact W_skip hQ
  | ret=>intro s s' e Q h hQ;cases h;exact W_ret hQ
  | exit i=>intro s s' e Q h hQ;cases h;exact W_exit hQ
  | never=>intro s s' e Q h hQ;cases h
  | range g ps x y=>intro s s' e Q h hQ;cases h
  | reg xs =>
    intro s s' e Q h hQ
    simp only [codeE,zT,Prod.mk.injEq] at h
    obtain ⟨s1,h1,rfl,rfl⟩:=h
    exact W_regC (runCE_ok O hQ h1)
  | drw n xs rt =>
    intro s s' e Q h hQ
    simp only [codeE] at h
    split at h
    · rename_i hr
      simp only [zT,Prod.mk.injEq] at h
      obtain ⟨s1,h1,rfl,rfl⟩:=h
      exact W_drw (fun p hp=>by
        have:=List.all_eq_true.1 hr p hp
        simpa using this) (runE_ok O hQ h1)
    · cases h
  | seq x y ih1 ih2 =>
    intro s s' e Q h hQ
    simp only [codeE] at h
    split at h
    · rename_i s1 h1
      exact W_seq (ih1 h1 (ih2 h hQ))
    · rename_i r hr
      refine W_seq (ih1 h ?_)
      cases e with
      | normal=>exact absurd h (hr s')
      | _=>exact hQ
  | cond c x y ih1 ih2 =>
    intro s s' e Q h hQ
    simp only [codeE] at h
    split at h
    · rename_i hc;exact W_cond hc (fun _=>ih1 h hQ) (fun hf=>by cases hf)
    · rename_i hc;exact W_cond hc (fun hf=>by cases hf) (fun _=>ih2 h hQ)
    · cases h
  | block id x ih =>
    intro s s' e Q h hQ
    simp only [codeE] at h
    split at h
    · rename_i i s1 h1
      cases h
      refine W_block (ih h1 ?_)
      simp only [blockQ]
      split
      · rw [if_pos ‹_›] at hQ;exact hQ
      · rw [if_neg ‹_›] at hQ;exact hQ
    · rename_i r hr
      refine W_block (ih h ?_)
      cases e with
      | exit i=>exact absurd h (hr i s')
      | _=>exact hQ
  | loop x ih =>
    intro s s' e Q h hQ
    simp only [codeE] at h
    refine W_loop (fun m s=>loopE (codeE o dflt fuel x) m s=some (e,s')) h ?_
    intro m s hm
    cases m with
    | zero=>cases hm
    | succ m =>
      simp only [loopE] at hm
      split at hm
      · rename_i s1 h1
        exact ih h1 ⟨m,s1,Nat.lt_succ_self _,.refl _,hm⟩
      · rename_i r hr
        refine ih hm ?_
        cases e with
        | normal=>exact absurd hm (hr s')
        | _=>exact hQ
def readE (s:St):XR→Option A
  | .t n=>some (s.slots n)
  | .c p n g=>match s.slots p with
    | .ptr id N i off=>match s.heap[id]? with
      | some (.cells _ rows)=>if N=rows.length then match rows[i]? with
        | some r=>loadsE n g (r.drop off)
        | none=>none
        else none
      | _=>none
    | _=>none
theorem readE_ok {s:St} {x:XR} {r:A} (he:readE s x=some r) {K:A→Prop} (hK:K r):readR s x K:=by
  cases x with
  | t n=>cases he;exact hK
  | c p n g =>
    revert he
    simp only [readE,readR]
    generalize s.slots p=X
    cases X with
    | ptr id N i off =>
      dsimp only
      generalize s.heap[id]? = o
      rcases o with _ | (⟨e,rows⟩ | _ | _)<;>(try (intro he;cases he;done))
      dsimp only
      split
      · generalize rows[i]? = r
        cases r with
        | none=>intro he;cases he
        | some r=>intro he;exact ⟨‹_›, loadsE_ok he hK⟩
      · intro he;cases he
    | _=>intro he;cases he
def readsE (s:St):List XR→Option (List A)
  | []=>some []
  | x::l=>match readE s x,readsE s l with
    | some r,some rs=>some (r::rs)
    | _,_=>none
theorem readsE_ok {s:St}:∀ {l:List XR} {rs:List A},readsE s l=some rs→∀ {K:List A→Prop},K rs→readRs s l K
  | [],rs,he,K,hK=>by cases he;exact hK
  | x::l,rs,he,K,hK=>by
    simp only [readsE] at he
    split at he
    · rename_i r rs' h1 h2
      cases he
      exact readE_ok h1 (readsE_ok h2 hK)
    · cases he
structure FnE where
  N:Nat
  res:List XR
  code:XC
def runFn (o:Orc) (dflt:Elt) (tabs:List (Nat × A)) (fuel:Nat) (f:FnE) (args:List A):Option A :=
  if args.length≤f.N then match codeE o dflt fuel f.code ⟨look (argS 0 args++tabs),[]⟩ with
    | some (.normal,s)=>(readsE s f.res).bind fun l=>frzA 0 dflt s.heap 100 (single l)
    | some (.ret,s)=>(readsE s f.res).bind fun l=>frzA 0 dflt s.heap 100 (single l)
    | _=>none
    else none
theorem runFn_ok {Γ:Tabs} {P:Program} {o:Orc} (O:OrcOk (.all Γ.ctx P) o) {dflt:Elt} {fuel:Nat} {f:FuncId} {x:FnE} {args:List A} {r:A} (H:FnIs P f x.N x.res x.code) (he:runFn o dflt (tabS Γ) fuel x args=some r):FnP Γ P f args r:=by
  simp only [runFn] at he
  split at he
  · rename_i hn
    refine .of_WT H hn ?_
    split at he
    · rename_i s h1
      simp only [zD] at he
      obtain ⟨l,h2,h3⟩:=he
      exact codeE_ok O h1 ⟨.inl rfl,readsE_ok h2 ((frz_ok _).1 _ _ h3)⟩
    · rename_i s h1
      simp only [zD] at he
      obtain ⟨l,h2,h3⟩:=he
      exact codeE_ok O h1 ⟨.inr rfl,readsE_ok h2 ((frz_ok _).1 _ _ h3)⟩
    · cases he
  · cases he
def orcE (fns:List (FuncId × FnE)) (ext:FuncId→List A→Option A) (dflt:Elt) (tabs:List (Nat × A)) (fuel:Nat):Nat→Orc
  | 0=>⟨fun _ _=>none,fun _ _ _=>none⟩
  | d+1=>⟨fun f args=>match ext f args with
      | some r=>some r
      | none=>match fns.lookup f with
        | some x=>runFn (orcE fns ext dflt tabs fuel d) dflt tabs fuel x args
        | none=>none,fun _ _ _=>none⟩
theorem lookup_mem {α:Type} {n:Nat} {k:α}:∀ {l:List (Nat × α)},l.lookup n=some k→(n,k)∈l
  | [],h=>by simp at h
  | (m,j)::l,h=>by
    simp only [List.lookup] at h
    split at h
    · rename_i e
      have:n=m:=by simpa using e
      cases h;subst this;exact List.mem_cons_self ..
    · exact List.mem_cons_of_mem _ (lookup_mem h)
theorem orcE_ok {Γ:Tabs} {P:Program} {fns:List (FuncId × FnE)} {ext:FuncId→List A→Option A} {dflt:Elt} {fuel:Nat} (H:∀ p∈fns,FnIs P p.1 p.2.N p.2.res p.2.code) (hx:∀ f args r,ext f args=some r→FnP Γ P f args r) :
    ∀ d,OrcOk (.all Γ.ctx P) (orcE fns ext dflt (tabS Γ) fuel d)
  | 0=>⟨fun _ _ _ h=>(by cases h),fun _ _ _ _ _ h=>(by cases h)⟩
  | d+1=>by
    refine ⟨fun f args r h=>?_,fun _ _ _ _ _ h=>(by cases h)⟩
    simp only [orcE] at h
    split at h
    · rename_i r' h1;cases h;exact hx f args _ h1
    · split at h
      · rename_i x h2
        exact runFn_ok (orcE_ok H hx d) (H (f,x) (lookup_mem h2)) h
      · cases h
end Go.Proofs.YtadfkfgjhaijiaaDoor.Nx

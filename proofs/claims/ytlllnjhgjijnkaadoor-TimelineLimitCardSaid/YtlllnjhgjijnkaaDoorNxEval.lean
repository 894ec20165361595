import Derived.Test.YtlllnjhgjijnkaaDoorNxWalk
set_option linter.unusedSimpArgs false
set_option linter.unusedVariables false
set_option linter.unnecessarySimpa false
open List renaming getElem?_eq_some_iff → zA, getElem?_drop → zl
open Option renaming map_eq_some_iff → zT
namespace Go.Proofs.YtlllnjhgjijnkaaDoor.Nx
open Go
deriving instance DecidableEq for Elt
structure Orc where
 pure:FuncId→List A→Option A
 call:FuncId→List A→Heap→Option (A × Heap)
def loadsE (n:Nat) (agg:Bool) (cs:List A):Option A :=
 match agg,cs with
 | true,cs=>if n≤cs.length then some (.agg (cs.take n)) else none
 | false,c::_=>some c
 | false,[]=>none
def fillE (cs:List A):List (Nat × Nat × A)→Option (List A)
 | []=>some cs
 | (off,n,x)::r=>if x.okCells=true∧x.cells.length=n∧off+n≤cs.length then fillE (splice cs off x.cells) r else none
def rowsE (n:Nat) (rows:List (List A)):List (Nat × A)→Option (List (List A))
 | []=>some rows
 | (i,x)::r=>if x.okCells=true∧x.cells.length=n∧i<rows.length then rowsE n (rows.set i x.cells) r else none
def placeE (pl:Option Nat) (h:Heap) (B:HB) (mk:Nat→A):Option (A × Heap) :=
 match pl with
 | none=>some (mk h.length,h++[B])
 | some a=>match h[a]? with
  | some .res=>some (mk a,h.set a B)
  | _=>none
def execE (o:Orc) (pl:Option Nat) (op:XOp) (ev:XO→A) (h:Heap):Option (A × Heap) :=
 match op with
 | .mov x=>some (ev x,h)
 | .pick c a b=>match ev c with
  | .d (.sc (.bool t))=>some (if t=true then ev a else ev b,h)
  | _=>none
 | .alloc e zero=>placeE pl h (.cells e [zero]) fun id=>.ptr id 1 0 0
 | .box e x=>if (ev x).okCells=true∧(ev x).cells.length=e.sz then placeE pl h (.cells e [(ev x).cells]) fun id=>.ptr id 1 0 0 else none
 | .build zero parts=>match fillE zero (parts.map fun (o,n,x)=>(o,n,ev x)) with
  | some cs=>some (.agg cs,h)
  | none=>none
 | .bslice e zero len parts=>match rowsE e.sz (List.replicate len zero) (parts.map fun (i,x)=>(i,ev x)) with
  | some rows=>placeE pl h (.cells e rows) fun id=>.ref id len 0 len true
  | none=>none
 | .load n agg x=>match ev x with
  | .ptr id N i off=>match h[id]? with
   | some (.cells _ rows)=>if N=rows.length then match rows[i]? with
    | some r=>(loadsE n agg (r.drop off)).map (·, h)
    | none=>none
    else none
   | _=>none
  | .iptr cs=>(loadsE n agg (cs.map .d)).map (·, h)
  | _=>none
 | .store n x y=>match ev x with
  | .ptr id N i off=>match h[id]? with
   | some (.cells e rows)=>match rows[i]? with
    | some r=>if N=rows.length∧(ev y).okCells=true∧(ev y).cells.length=n∧off+n≤r.length then some (.any,h.set id (.cells e (rows.set i (splice r off (ev y).cells)))) else none
    | none=>none
   | _=>none
  | _=>none
 | .faddr off x=>match ev x with
  | .ptr id N i o=>match h[id]? with
   | some (.cells _ rows)=>if N=rows.length then some (.ptr id N i (o+off),h) else none
   | _=>none
  | .iptr cs=>some (.iptr (cs.drop off),h)
  | _=>none
 | .field off n agg x=>match ev x with
  | .agg cs=>(loadsE n agg (cs.drop off)).map (·, h)
  | _=>none
 | .iaddr e x i=>match ev x,ev i with
  | .d (.sl e' rows),.d (.sc (.int _ n))=>if e'=e∧0≤n∧n<rows.length then some (.iptr (rows.getD n.toNat []),h) else none
  | .nn e' rows,.d (.sc (.int _ n))=>if e'=e∧0≤n∧n<rows.length then some (.iptr (rows.getD n.toNat []),h) else none
  | .ref id N off len _,.d (.sc (.int _ n))=>match h[id]? with
   | some (.cells e' rows)=>if e'=e∧N=rows.length∧0≤n∧n<len then some (.ptr id N (off+n.toNat) 0,h) else none
   | _=>none
  | _,_=>none
 | .aaddr e len x i=>match ev x,ev i with
  | .ptr id N i' off,.d (.sc (.int _ n))=>match h[id]? with
   | some (.cells _ rows)=>if N=rows.length∧0≤n∧n<len then some (.ptr id N i' (off+n.toNat * e.sz),h) else none
   | _=>none
  | .iptr cs,.d (.sc (.int _ n))=>if 0≤n∧n<len then some (.iptr (cs.drop (n.toNat * e.sz)),h) else none
  | _,_=>none
 | .aidx len n agg x i=>match ev x,ev i with
  | .agg cs,.d (.sc (.int _ m))=>if 0≤m∧m<len then (loadsE n agg (cs.drop (m.toNat * n))).map (·, h) else none
  | _,_=>none
 | .sidx x i=>match ev x,ev i with
  | .d (.sc (.string s)),.d (.sc (.int _ n))=>if 0≤n∧n<s.size then some (.sc (.int .u8 (s.data.toList.getD n.toNat 0).toNat),h) else none
  | _,_=>none
 | .nilck x=>match ev x with
  | .ptr id N i off=>match h[id]? with
   | some (.cells _ rows)=>if N=rows.length then some (.ptr id N i off,h) else none
   | _=>none
  | .iptr cs=>some (.iptr cs,h)
  | .fn f caps=>some (.fn f caps,h)
  | _=>none
 | .bin op x y=>match ev x,ev y with
  | .d (.sc a),.d (.sc b)=>match binRes op a b with
   | some v=>some (.sc v,h)
   | none=>none
  | _,_=>none
 | .eqb neg x y=>match ev x,ev y with
  | .d (.sc (.bool a)),.d (.sc (.bool b))=>some (.bool (if neg then a != b else a == b),h)
  | _,_=>none
 | .eqs neg n ks x y=>match ev x,ev y with
  | .agg xs,.agg ys=>if xs.length=n∧ys.length=n then match eqAll ks xs ys with
   | some b=>some (.bool (if neg then !b else b),h)
   | none=>none
   else none
  | _,_=>none
 | .eqnil neg x=>match ev x with
  | .nil=>some (.bool (!neg),h)
  | .nn _ _=>some (.bool neg,h)
  | .d (.sl _ (_::_))=>some (.bool neg,h)
  | _=>none
 | .un op x=>match ev x with
  | .d (.sc a)=>match unRes op a with
   | some v=>some (.sc v,h)
   | none=>none
  | _=>none
 | .conv k x=>match ev x with
  | .d (.sc (.int _ n))=>some (.sc (.int k (k.wrap n)),h)
  | _=>none
 | .len str x=>match ev x with
  | .nil=>if str=false then some (.int 0,h) else none
  | .d (.sl _ rows)=>if str=false then some (.int rows.length,h) else none
  | .nn _ rows=>if str=false then some (.int rows.length,h) else none
  | .ref id N _ len _=>match h[id]? with
   | some (.cells _ rows)=>if str=false∧N=rows.length then some (.int len,h) else none
   | _=>none
  | .d (.sc (.string s))=>if str=true then some (.int s.size,h) else none
  | _=>none
 | .slice e x lo hi mx=>match ev x with
  | .nil=>if optInt ev lo 0=some 0∧optInt ev hi 0=some 0∧optInt ev mx 0=some 0 then some (.nil,h) else none
  | .d (.sl e' rows)=>match optInt ev lo 0,optInt ev hi rows.length,optInt ev mx rows.length with
   | some l,some u,some m=>if e'.sz=e.sz∧0≤l∧l≤u∧u≤m∧m≤rows.length then some (cutA mx.isSome l u m e' rows,h) else none
   | _,_,_=>none
  | .nn e' rows=>match optInt ev lo 0,optInt ev hi rows.length,optInt ev mx rows.length with
   | some l,some u,some m=>if e'.sz=e.sz∧0≤l∧l≤u∧u≤m∧m≤rows.length then some (cutA mx.isSome l u m e' rows,h) else none
   | _,_,_=>none
  | .ref id N off len full=>match h[id]? with
   | some (.cells e' rows)=>match optInt ev lo 0,optInt ev hi len,optInt ev mx len with
    | some l,some u,some m=>if e'.sz=e.sz∧N=rows.length∧0≤l∧l≤u∧u≤m∧m≤len then some (.ref id N (off+l.toNat) (u-l).toNat (full&&mx.isNone),h) else none
    | _,_,_=>none
   | _=>none
  | _=>none
 | .sslice x lo hi=>match ev x with
  | .d (.sc (.string s))=>match optInt ev lo 0,optInt ev hi s.size with
   | some l,some u=>if 0≤l∧l≤u∧u≤s.size then some (.str (s.extract l.toNat u.toNat),h) else none
   | _,_=>none
  | _=>none
 | .append e x y=>match srcRows e h (ev y) with
  | some new=>match ev x with
   | .nil=>match new with
    | []=>some (.nil,h)
    | c::cs=>if (c::cs).length * e.bytes≤room∧(c::cs).length≤maxLen then placeE pl h (.cells e (c::cs)) fun id=>.ref id (c::cs).length 0 (c::cs).length true else none
   | .ref id N off len full=>match h[id]? with
    | some (.cells e' rows)=>if e'=e∧N=rows.length∧off=0∧(len+new.length) * e.bytes≤room∧len+new.length≤maxLen then
     if len=N then some (.ref id (N+new.length) 0 (N+new.length) true,h.set id (.cells e (rows++new)))
     else if full=true∧len+new.length≤N then some (.ref id N 0 (len+new.length) true,h.set id (.cells e (rows.take len++new++rows.drop (len+new.length)))) else none
     else none
    | _=>none
   | _=>none
  | none=>none
 | .copy e x y=>match srcRows e h (ev y) with
  | some new=>match ev x with
   | .ref id N off len _=>match h[id]? with
    | some (.cells e' rows)=>if e'=e∧N=rows.length then
     some (.int (min new.length len:Nat),h.set id (.cells e (rows.take off++new.take (min new.length len)++rows.drop (off+min new.length len)))) else none
    | _=>none
   | _=>none
  | none=>none
 | .make e zero n c=>match ev n,ev c with
  | .d (.sc (.int .i64 n)),.d (.sc (.int .i64 c))=>if 0≤n∧n≤c∧c≤9223372036854775807∧c * e.bytes≤room then placeE pl h (.cells e (List.replicate n.toNat zero)) fun id=>.ref id n.toNat 0 n.toNat true else none
  | _,_=>none
 | .extract i x=>match ev x with
  | .tup l=>match l[i]? with
   | some a=>some (a,h)
   | none=>none
  | _=>none
 | .mkfn f caps=>some (.fn f (caps.map ev),h)
 | .call f args=>match ev f with
  | .fn g caps=>if A.underL 0 (args.map ev++caps)=true then (o.pure g (args.map ev++caps)).map (·, h) else none
  | _=>none
 | .calle f args=>match ev f with
  | .fn g caps=>o.call g (args.map ev++caps) h
  | _=>none
 | .callr _ _=>none
 | .calln _ _=>none
 | .loadp _ _ _=>none
 | .minmax isMax args=>match args with
  | [x,y]=>match ev x,ev y with
   | .d (.sc (.int k a)),.d (.sc (.int k' b))=>if k=k' then some (.sc (.int k (minmaxInt isMax a b)),h) else none
   | _,_=>none
  | [x,y,z]=>match ev x,ev y,ev z with
   | .d (.sc (.int k a)),.d (.sc (.int k' b)),.d (.sc (.int k'' c))=>if k=k'∧k=k'' then some (.sc (.int k (minmaxInt isMax (minmaxInt isMax a b) c)),h) else none
   | _,_,_=>none
  | _=>none
 | .cap x=>match ev x with
  | .nil=>some (.int 0,h)
  | _=>none
 | .s2r e x=>match ev x with
  | .d (.sc (.string s))=>if (runesOf s).length * e.bytes≤room then some (.d (.sl e ((runesOf s).map runeRow)),h) else none
  | _=>none
 | .b2s x=>match sliceRows ⟨1,1⟩ h (ev x) with
  | some rows=>match rows.mapM byteOf with
   | some ns=>if ns.length≤maxLen then some (.str (strOfNums ns),h) else none
   | none=>none
  | none=>none
 | .i2s x=>match ev x with
  | .d (.sc (.int _ n))=>some (.str (Utf8.encode n),h)
  | _=>none
 | .iter x=>match ev x with
  | .d (.sc (.string s))=>placeE pl h (.obj (.stringIter s 0)) fun id=>.ptr id 0 0 0
  | _=>none
 | .next x=>match ev x with
  | .ptr id 0 0 0=>match h[id]? with
   | some (.obj (.stringIter s pos))=>if s.size≤maxLen then
     if pos<s.size then some (.tup [.bool true,.int pos,.sc (.int .i32 (Utf8.decode s pos).1)],h.set id (.obj (.stringIter s (pos+(Utf8.decode s pos).2))))
     else some (.tup [.bool false],h)
     else none
   | _=>none
  | _=>none
section
variable {F:Fns} {o:Orc} {pl:Option Nat} {ev:XO→A} {h h':Heap} {r:A} {K:A→Heap→Prop}
end
def frzD (k:Nat) (dflt:Elt) (h:Heap):Nat→A→Option D
 | 0,_=>none
 | n+1,x=>match x with
  | .d x=>some x
  | .nil=>some (.sl dflt [])
  | .nn e rows=>some (.sl e rows)
  | .ref id N off len _=>match h[id]? with
   | some (.cells e rows)=>if k≤id∧N=rows.length∧off+len≤rows.length then
     (((rows.drop off).take len).mapM fun (r:List A)=>r.mapM (frzD k dflt h n)).map (.sl e) else none
   | _=>none
  | _=>none
theorem frzD_ok {k:Nat} {dflt:Elt} {h:Heap}:∀ {n:Nat} {x:A} {d:D},frzD k dflt h n x=some d→FrzD k h x d:=by
 intro n
 induction n with
 | zero=>intro x d he;cases he
 | succ n ih =>
  intro x d he
  cases x with
  | d x=>cases he;exact .d _
  | nil=>cases he;exact .nil _
  | nn e rows=>cases he;exact .nn _ _
  | ref id N off len full =>
   simp only [frzD] at he
   split at he
   ·rename_i e rows hh
    split at he
    ·rename_i hc
     obtain ⟨hkid,rfl,hc⟩:=hc
     simp only [zT] at he
     obtain ⟨rowsD,hm,rfl⟩:=he
     obtain ⟨m1,m2⟩:=mapM_spec hm
     have hl:rowsD.length=len:=by rw [m1];simp;omega
     have key:∀ i r,rowsD[i]? = some r→(rows.getD (off+i) []).mapM (frzD k dflt h n)=some r:=by
      intro i r hi
      have hlt:i<len:=by rw [← hl];exact (zA.1 hi).1
      have hx:((rows.drop off).take len)[i]? = some (rows.getD (off+i) []):=by
       rw [List.getElem?_take_of_lt hlt,zl];exact listD_some _ (by omega)
      obtain ⟨y,h1,h2⟩:=m2 i _ hx
      rw [hi] at h1;cases h1
      exact h2
     refine .ref hkid hh hl (fun i r hi=>?_) (fun i r j d hi hj=>?_)
     ·obtain ⟨k1,_⟩:=mapM_spec (key i r hi)
      exact k1.symm
     ·obtain ⟨k1,k2⟩:=mapM_spec (key i r hi)
      have hjl:j<(rows.getD (off+i) []).length:=by rw [← k1];exact (zA.1 hj).1
      obtain ⟨y,h1,h2⟩:=k2 j _ (listD_some .any hjl)
      rw [hj] at h1;cases h1
      exact ih h2
    ·cases he
   ·cases he
  | _=>cases he
mutual
def frzA (k:Nat) (dflt:Elt) (h:Heap):Nat→A→Option A
 | 0,_=>none
 | n+1,x=>if x.under k then some x else match x with
  | .agg l=>(frzL k dflt h n l).map .agg
  | .tup l=>(frzL k dflt h n l).map .tup
  | .fn f l=>(frzL k dflt h n l).map (.fn f)
  | .ptr id N i off=>match h[id]? with
   | some (.cells _ rows)=>if k≤id∧N=rows.length then match rows[i]? with
    | some r=>((r.drop off).mapM (frzD k dflt h n)).map .iptr
    | none=>none
    else none
   | _=>none
  | x=>(frzD k dflt h n x).map .d
def frzL (k:Nat) (dflt:Elt) (h:Heap):Nat→List A→Option (List A)
 | 0,_=>none
 | _+1,[]=>some []
 | n+1,x::l=>match frzA k dflt h n x,frzL k dflt h n l with
  | some y,some l'=>some (y::l')
  | _,_=>none
end
theorem frz_ok {k:Nat} {dflt:Elt} {h:Heap}:∀ n:Nat,(∀ x y,frzA k dflt h n x=some y→FrzA k h x y)∧(∀ l l',frzL k dflt h n l=some l'→l'.length=l.length∧∀ j y,l'[j]? = some y→FrzA k h (l.getD j .any) y):=by
 intro n
 induction n with
 | zero=>exact ⟨fun x y he=>by simp [frzA] at he,fun l l' he=>by simp [frzL] at he⟩
 | succ n ih =>
  refine ⟨fun x y he=>?_,fun l l' he=>?_⟩
  ·simp only [frzA] at he
   split at he
   ·rename_i hu;cases he;exact .same hu
   ·split at he
    ·simp only [zT] at he
     obtain ⟨l',h1,rfl⟩:=he
     exact .agg (ih.2 _ _ h1).1 (ih.2 _ _ h1).2
    ·simp only [zT] at he
     obtain ⟨l',h1,rfl⟩:=he
     exact .tup (ih.2 _ _ h1).1 (ih.2 _ _ h1).2
    ·simp only [zT] at he
     obtain ⟨l',h1,rfl⟩:=he
     exact .fn (ih.2 _ _ h1).1 (ih.2 _ _ h1).2
    ·rename_i id N i off _
     split at he
     ·rename_i e rows hh
      split at he
      ·rename_i hN
       obtain ⟨hkid,hN⟩:=hN
       subst hN
       split at he
       ·rename_i r hi
        simp only [zT] at he
        obtain ⟨cs,h1,rfl⟩:=he
        obtain ⟨k1,k2⟩:=mapM_spec h1
        refine .iptr hkid hh hi (fun j d hj=>?_)
        have hjl:j<(r.drop off).length:=by rw [← k1];exact (zA.1 hj).1
        have hlt:off+j<r.length:=by simp at hjl;omega
        have hx:(r.drop off)[j]? = some (r.getD (off+j) .any):=by rw [zl];exact listD_some _ hlt
        obtain ⟨y,h2,h3⟩:=k2 j _ hx
        rw [hj] at h2;cases h2
        exact ⟨hlt,frzD_ok h3⟩
       ·cases he
      ·cases he
     ·cases he
    ·simp only [zT] at he
     obtain ⟨d,h1,rfl⟩:=he
     exact .d (frzD_ok h1)
  ·cases l with
   | nil=>simp [frzL] at he;subst he;simp
   | cons x l =>
    simp only [frzL] at he
    split at he
    ·rename_i y l' h1 h2
     cases he
     obtain ⟨k1,k2⟩:=ih.2 _ _ h2
     refine ⟨by simp [k1],fun j y hj=>?_⟩
     cases j with
     | zero=>simp at hj;subst hj;exact ih.1 _ _ h1
     | succ j=>simp at hj;simpa using k2 j y hj
    ·cases he
end Go.Proofs.YtlllnjhgjijnkaaDoor.Nx

import Derived.Test.YtlllnjhgjijnkaaDoorNxSound
set_option linter.unusedSimpArgs false
set_option linter.unusedVariables false
set_option linter.unnecessarySimpa false
open List renaming getElem?_eq_some_iff → zA, map_cons → zU, mem_cons_self → zW, mem_of_getElem? → zY, mem_cons_of_mem → zZ, getElem?_drop → zl
open Array renaming getD_eq_getD_getElem? → zR
open Option renaming map_eq_some_iff → zT
open Nat renaming mul_le_mul_right → zX
namespace Go.Proofs.YtlllnjhgjijnkaaDoor.Nx
open Go
variable {P:Program} {w w':World} {M:Nat→Prop} {ρ ρ':Phys} {h h':Heap}
def CR (w:World) (M:Nat→Prop) (ρ:Phys) (h:Heap) (cells:Array Value) (cs:List A):Prop :=
 cells.size=cs.length∧(∀ u∈cells.toList,u.oneCell'=true)∧∀ (j:Nat) (y:A),cs[j]? = some y→RepA w M ρ h y (cells.getD j undef)
theorem foldl_seg (v:List Value):∀ (k off:Nat) (cells:Array Value),off+k+v.length≤cells.size →
  ((v.zipIdx k).foldl (fun cs (p:Value × Nat)=>cs.setIfInBounds (off+p.2) p.1) cells)=(cells.toList.take (off+k)++v++cells.toList.drop (off+k+v.length)).toArray:=by
 induction v with
 | nil=>intro k off cells hl;simp
 | cons c v ih =>
  intro k off cells hl
  simp only [List.zipIdx_cons,List.foldl_cons]
  rw [ih (k+1) off _ (by simp at hl ⊢; omega)]
  have e:=list_seg_step cells.toList (off+k) c v (by simp at hl ⊢; omega)
  simpa [Array.toList_setIfInBounds,Nat.add_assoc] using e
theorem fill_one {place:Nat→Option (Nat × Nat)} {cells:Array Value} {i off n:Nat} {v:Value} {rest:List (Nat × Value)} (hp:place i=some (off,n)) (hn:v.cells.size=n) (hl:off+n≤cells.size) :
  Instr.fill place cells ((i,v)::rest)=Instr.fill place (cells.toList.take off++v.cells.toList++cells.toList.drop (off+v.cells.toList.length)).toArray rest:=by
 have hf:=foldl_seg v.cells.toList 0 off cells (by simp;omega)
 simp only [Nat.add_zero] at hf
 have hz:v.cells.zipIdx.foldl (fun cs (p:Value × Nat)=>cs.setIfInBounds (off+p.2) p.1) cells=(v.cells.toList.zipIdx).foldl (fun cs (p:Value × Nat)=>cs.setIfInBounds (off+p.2) p.1) cells:=by
  rw [← Array.foldl_toList,Array.toList_zipIdx]
 simp only [Instr.fill,hp]
 rw [if_neg (by simp;omega)]
 have:v.cells.zipIdx.foldl (fun cs x=>match x with | (c,j)=>cs.setIfInBounds (off+j) c) cells=_:=hz.trans hf
 rw [this]
theorem CR.splice {cells:Array Value} {cs new:List A} {off:Nat} {v:Array Value} (hc:CR w M ρ h cells cs) (hv:CR w M ρ h v new) (hl:off+new.length≤cs.length) :
  CR w M ρ h (cells.toList.take off++v.toList++cells.toList.drop (off+v.toList.length)).toArray (Nx.splice cs off new):=by
 obtain ⟨c1,c2,c3⟩:=hc
 obtain ⟨v1,v2,v3⟩:=hv
 refine ⟨by rw [splice_length hl];simp;omega,fun u hu=>?_,fun j y hj=>?_⟩
 ·simp at hu
  rcases hu with hu | hu | hu
  ·exact c2 u (List.mem_of_mem_take hu)
  ·exact v2 u (by simpa using hu)
  ·exact c2 u (List.mem_of_mem_drop hu)
 ·have hseg:=seg_get (cur:=cells) (new:=v) (o:=off) (j:=j) (by omega)
  rw [zR,hseg]
  rcases splice_get hl hj with ⟨k1,k2,k3⟩ | ⟨k1,k2⟩
  ·rw [if_pos (by omega)]
   have:=v3 _ y k3
   rwa [zR] at this
  ·rw [if_neg (by omega)]
   have:=c3 _ y k2
   rwa [zR] at this
theorem RepA.cr {x:A} {v:Value} (hx:RepA w M ρ h x v) (h1:x.okCells=true):CR w M ρ h v.cells x.cells:=hx.ok h1
theorem fill_rep {place:Nat→Option (Nat × Nat)}:∀ (items:List (Nat × Nat × Nat × A × Value)) (cells:Array Value) (cs:List A) {K:List A→Prop},
  (∀ it∈items,place it.1=some (it.2.1,it.2.2.1)∧RepA w M ρ h it.2.2.2.1 it.2.2.2.2)→CR w M ρ h cells cs →
  fillTo cs (items.map fun it=>(it.2.1,it.2.2.1,it.2.2.2.1)) K→∃ cells' cs',Instr.fill place cells (items.map fun it=>(it.1,it.2.2.2.2))=some cells'∧CR w M ρ h cells' cs'∧K cs'
 | [],cells,cs,K,_,hc,hK=>⟨cells,cs,rfl,hc,hK⟩
 | (i,off,n,x,v)::items,cells,cs,K,hi,hc,hK=>by
  obtain ⟨k1,k2,k3,k4⟩:=hK
  obtain ⟨hp,hx⟩:=hi _ (zW ..)
  dsimp only at hp hx k1 k2 k3 k4
  have hv:=hx.cr k1
  have hn:v.cells.size=n:=by rw [hv.1,k2]
  have hc':=hc.splice hv (by omega:off+x.cells.length≤cs.length)
  obtain ⟨cells',cs',h1,h2,h3⟩:=fill_rep items _ _ (fun it hit=>hi it (zZ _ hit)) hc' k4
  refine ⟨cells',cs',?_,h2,h3⟩
  simp only [zU]
  rw [fill_one hp hn (by rw [hc.1];omega)]
  exact h1
def RR (w:World) (M:Nat→Prop) (ρ:Phys) (h:Heap) (sz:Nat) (cells:Array Value) (rows:List (List A)):Prop :=
 cells.size=rows.length * sz∧(∀ r∈rows,r.length=sz)∧(∀ u∈cells.toList,u.oneCell'=true) ∧
  ∀ (i:Nat) (r:List A) (j:Nat) (y:A),rows[i]? = some r→r[j]? = some y→RepA w M ρ h y (cells.getD (i * sz+j) undef)
theorem RR.lt {sz:Nat} {cells:Array Value} {rows:List (List A)} (hR:RR w M ρ h sz cells rows) {i j:Nat} {r:List A} {y:A} (hi:rows[i]? = some r) (hj:r[j]? = some y):i * sz+j<cells.size:=by
 have h1:i<rows.length:=(zA.1 hi).1
 have h2:j<r.length:=(zA.1 hj).1
 rw [hR.2.1 r (zY hi)] at h2
 have:(i+1) * sz≤rows.length * sz:=zX _ h1
 rw [Nat.add_mul] at this
 rw [hR.1];omega
theorem RR.get {sz:Nat} {cells:Array Value} {rows:List (List A)} (hR:RR w M ρ h sz cells rows) {i j:Nat} {r:List A} {y:A} (hi:rows[i]? = some r) (hj:r[j]? = some y) :
  ∃ v,cells[i * sz+j]? = some v∧v.oneCell'=true∧RepA w M ρ h y v:=by
 have hlt:=hR.lt hi hj
 have hs:=getD_some hlt
 exact ⟨_,hs,hR.2.2.1 _ (zY (i:=i * sz+j) (by simpa using hs)),hR.2.2.2 i r j y hi hj⟩
theorem RR.set {sz:Nat} {cells:Array Value} {rows:List (List A)} {i:Nat} {new:List A} {v:Array Value} (hR:RR w M ρ h sz cells rows) (hv:CR w M ρ h v new) (hn:new.length=sz) (hi:i<rows.length) :
  RR w M ρ h sz (cells.toList.take (i * sz)++v.toList++cells.toList.drop (i * sz+v.toList.length)).toArray (rows.set i new):=by
 obtain ⟨r1,r2,r3,r4⟩:=hR
 obtain ⟨v1,v2,v3⟩:=hv
 have hin:i * sz+sz≤cells.size:=by
  have:(i+1) * sz≤rows.length * sz:=zX _ hi
  rw [Nat.add_mul] at this;omega
 refine ⟨by simp;omega,fun r hr=>?_,fun u hu=>?_,fun i' r j y hi' hj=>?_⟩
 ·rcases List.mem_or_eq_of_mem_set hr with hr | rfl
  ·exact r2 r hr
  ·exact hn
 ·simp at hu
  rcases hu with hu | hu | hu
  ·exact r3 u (List.mem_of_mem_take hu)
  ·exact v2 u (by simpa using hu)
  ·exact r3 u (List.mem_of_mem_drop hu)
 ·have hseg:=seg_get (cur:=cells) (new:=v) (o:=i * sz) (j:=i' * sz+j) (by omega)
  rw [zR,hseg]
  rcases get_set hi' with ⟨rfl,rfl⟩ | ⟨hne,hi'⟩
  ·have hjl:j<r.length:=(zA.1 hj).1
   rw [if_pos (by omega)]
   have:=v3 j y hj
   rw [zR] at this
   have e:i' * sz+j-i' * sz=j:=by omega
   rw [e];exact this
  ·have hjl:j<sz:=by have:=(zA.1 hj).1;rw [r2 r (zY hi')] at this;exact this
   rw [if_neg ?_]
   ·have:=r4 i' r j y hi' hj
    rwa [zR] at this
   ·rintro ⟨q1,q2⟩
    have hq:i' * sz+j=i * sz+(i' * sz+j-i * sz):=by omega
    exact hne (index_pair hjl (by omega) hq).1
theorem rows_rep {sz:Nat}:∀ (items:List (Nat × A × Value)) (cells:Array Value) (rows:List (List A)) {K:List (List A)→Prop},
  (∀ it∈items,RepA w M ρ h it.2.1 it.2.2)→RR w M ρ h sz cells rows →
  rowsTo sz rows (items.map fun it=>(it.1,it.2.1)) K→∃ cells' rows',Instr.fill (fun i=>some (i * sz,sz)) cells (items.map fun it=>(it.1,it.2.2))=some cells'∧RR w M ρ h sz cells' rows'∧rows'.length=rows.length∧K rows'
 | [],cells,rows,K,_,hc,hK=>⟨cells,rows,rfl,hc,rfl,hK⟩
 | (i,x,v)::items,cells,rows,K,hi,hc,hK=>by
  obtain ⟨k1,k2,k3,k4⟩:=hK
  have hx:=hi _ (zW ..)
  dsimp only at hx k1 k2 k3 k4
  have hv:=hx.cr k1
  have hn:v.cells.size=sz:=by rw [hv.1,k2]
  have hin:i * sz+sz≤cells.size:=by
   have:(i+1) * sz≤rows.length * sz:=zX _ k3
   rw [Nat.add_mul] at this;rw [hc.1];omega
  obtain ⟨cells',rows',h1,h2,h3,h4⟩:=rows_rep items _ _ (fun it hit=>hi it (zZ _ hit)) (hc.set hv k2 k3) k4
  refine ⟨cells',rows',?_,h2,by simpa using h3,h4⟩
  simp only [zU]
  rw [fill_one (n:=sz) rfl hn (by omega)]
  exact h1
theorem SimH.newRows (S:SimH w M ρ h) (bnd:∀ b,M b→b<w.heap.size) {e:Elt} {rows:List (List A)} {cells:Array Value} {pl:Option Nat} {id:Nat} {h1:Heap} {ρ1:Phys} (t:TypeId) (n:NewAt h ρ (.cells e rows) (some (w.heap.size,cells.size)) pl id h1 ρ1) (q1:0<e.sz)
  (q2:rows.length * e.bytes≤room) (q3:rows.length≤maxLen) (hR:RR w M ρ h e.sz cells rows):SimH (w.alloc (.cells cells t)) M ρ1 h1:=by
 refine S.newCells bnd t n q1 q2 q3 hR.2.1 (by rw [← hR.1];exact Nat.le_refl _) (fun i r j x hi hj=>?_)
 obtain ⟨v,k1,k2,k3⟩:=hR.get hi hj
 exact ⟨v,k1,k2,k3⟩
theorem zero_rows {sz n:Nat} {zv:Array Value} {z:List A} (hz:CR w M ρ h zv z) (hsz:z.length=sz) (h0:0<sz) :
  RR w M ρ h sz ((Array.range (n * sz)).map (zv[· % zv.size]!)) (List.replicate n z):=by
 obtain ⟨z1,z2,z3⟩:=hz
 have hmod:∀ k,k % zv.size<zv.size:=fun k=>Nat.mod_lt _ (by omega)
 refine ⟨by simp,fun r hr=>by rw [(List.mem_replicate.1 hr).2,hsz],fun u hu=>?_,fun i r j y hi hj=>?_⟩
 ·simp at hu
  obtain ⟨k,hk,rfl⟩:=hu
  rw [getElem!_pos zv _ (hmod k)]
  exact z2 _ (by simp)
 ·have hi':i<n:=by have:=(zA.1 hi).1;simpa using this
  have hr:r=z:=by
   have:=List.getElem?_replicate_of_lt (a:=z) hi'
   rw [this] at hi;exact (Option.some.inj hi).symm
  subst hr
  have hj':j<r.length:=(zA.1 hj).1
  have hlt:i * sz+j<n * sz:=by
   have:(i+1) * sz≤n * sz:=zX _ hi'
   rw [Nat.add_mul] at this;omega
  have e:(i * sz+j) % zv.size=j:=by
   rw [z1,hsz,Nat.mul_comm,Nat.mul_add_mod]
   exact Nat.mod_eq_of_lt (by omega)
  have:=z3 j y hj
  have hjs:j<zv.size:=by omega
  rw [zR] at this ⊢
  simp only [Array.getElem?_map,Array.getElem?_range,hlt,if_true,Option.map_some,e,Option.getD_some]
  rw [getElem!_pos zv j hjs]
  simpa [hjs] using this
theorem does_build {t:TypeId} {z:List A} {fs:List (Nat × Nat)} {items:List (Nat × Nat × Nat × A × Value)} {K:A→Heap→Prop} (S:SimH w M ρ h) (hz:zeroCells? P t=some z) (hf:fieldsOf P t=some fs)
  (hi:∀ it∈items,fs[it.1]? = some (it.2.1,it.2.2.1)∧RepA w M ρ h it.2.2.2.1 it.2.2.2.2) (hK:fillTo z (items.map fun it=>(it.2.1,it.2.2.1,it.2.2.2.1)) fun cs=>K (.agg cs) h) :
  ∃ r h',K r h'∧Does P (do pure (.value (← Instr.build t (items.map fun it=>(it.1,it.2.2.2.2)).toArray))) w M ρ h r h':=by
 obtain ⟨ti,zv,z1,z2,z3,z4,z5,z6⟩:=zero_rep (w:=w) (M:=M) (ρ:=ρ) (h:=h) hz
 have hc:CR w M ρ h zv.cells z:=⟨by omega,z5,z6⟩
 unfold fieldsOf at hf
 split at hf
 ·rename_i fields hu
  obtain ⟨cells',cs',h1,h2,h3⟩:=fill_rep (place:=fun i=>fs[i]?) items _ _ hi hc hK
  refine ⟨_,_,h3,.pure (v:=.agg cells') ?_ (.agg h2.1 h2.2.1 h2.2.2) S⟩
  have hb:=run_build (P:=P) w t (items.map fun it=>(it.1,it.2.2.2.2)).toArray cells' (by simp only [Program.built,z1,hu,z2,hf];simpa using h1)
  rw [Sem.run_bind,hb];rfl
 ·rename_i n et hu
  simp only [zT] at hf
  obtain ⟨ei,hei,rfl⟩:=hf
  obtain ⟨cells',cs',h1,h2,h3⟩:=fill_rep (place:=fun i=>some (i * ei.size,ei.size)) items _ _ (fun it hit=>by
   obtain ⟨q1,q2⟩:=hi it hit
   refine ⟨?_,q2⟩
   rw [List.getElem?_map,zT] at q1
   obtain ⟨j,hj,q1⟩:=q1
   have hj':j=it.1:=by
    rw [List.getElem?_range (by
     have:=(zA.1 hj).1
     simpa using this)] at hj
    injection hj with hj
    exact hj.symm
   subst hj'
   rw [q1]) hc hK
  refine ⟨_,_,h3,.pure (v:=.agg cells') ?_ (.agg h2.1 h2.2.1 h2.2.2) S⟩
  have hb:=run_build (P:=P) w t (items.map fun it=>(it.1,it.2.2.2.2)).toArray cells' (by simp only [Program.built,z1,hu,z2,hei];simpa using h1)
  rw [Sem.run_bind,hb];rfl
 ·cases hf
theorem does_bslice {t et:TypeId} {e:Elt} {z:List A} {len:Nat} {items:List (Nat × A × Value)} {pl:Option Nat} {K:A→Heap→Prop} (S:SimH w M ρ h) (bnd:∀ b,M b→b<w.heap.size)
  (hu:P.underlying t=some (.slice et)) (he:elt? P et=some e) (hz:zeroCells? P et=some z) (hs:small e=true) (h24:len * e.sz≤2 ^ 24) (hroom:len * e.bytes≤room) (hmax:len≤maxLen)
  (hi:∀ it∈items,RepA w M ρ h it.2.1 it.2.2) (hK:rowsTo e.sz (List.replicate len z) (items.map fun it=>(it.1,it.2.1)) fun rows=>place pl h (.cells e rows) fun id h1=>K (.ref id len 0 len true) h1) :
  ∃ r h',K r h'∧Does P (do pure (.value (← Instr.buildSlice t len (items.map fun it=>(it.1,it.2.2)).toArray))) w M ρ h r h':=by
 obtain ⟨ti,zv,z1,z2,z3,z4,z5,z6⟩:=zero_rep (w:=w) (M:=M) (ρ:=ρ) (h:=h) hz
 obtain ⟨ti',hti,rfl⟩:=elt_some he
 rw [z1] at hti;cases hti
 obtain ⟨s1,s2⟩:=small_spec hs
 dsimp only at *
 have hc:CR w M ρ h zv.cells z:=⟨by omega,z5,z6⟩
 have hR:=zero_rows (n:=len) hc z4 s1
 obtain ⟨cells',rows',h1,h2,h3,h4⟩:=rows_rep items _ _ hi hR hK
 have h3':rows'.length=len:=by simpa using h3
 obtain ⟨id,h1',ρ1,n,hKr⟩:=place_new (ρ:=ρ) h4 (some (w.heap.size,cells'.size))
 have S':=S.newRows (e:=⟨ti.size,ti.bytes⟩) bnd et n s1 (by rw [h3'];exact hroom) (by rw [h3'];exact hmax) h2
 refine ⟨_,_,hKr,.slice (some ⟨w.heap.size,0,none⟩) len len,w.alloc (.cells cells' et),ρ1,.inl ?_,?_,S',.newAlloc n S.len⟩
 ·unfold Instr.buildSlice
  simp only [Sem.run_bind,run_underlying hu,Result.andThen_ok,run_sizeOf z1]
  rw [if_neg (by omega)]
  by_cases h0:len * ti.size=0
  ·rw [if_pos h0]
   have e0:Array.range (len * ti.size) = #[]:=by rw [h0];rfl
   rw [e0] at h1 ⊢
   simp only [Array.map_empty] at h1 ⊢
   simp [h1,newRow]
  ·rw [if_neg h0]
   simp [zeroValue,typeInfo,z1,z2,h1,newRow]
 ·have hm:len≤maxLen:=hmax
  have:=RepA.ref (w:=w.alloc (.cells cells' et)) (M:=M) (off:=0) (len:=len) (o:=0) (cap:=len) (full:=true) n.heap (n.phys S.len) (by omega) (Nat.le_refl _) hm (.inr (by simp)) (by rw [h2.1,h3'];simp) (fun _=>by omega)
  rw [h3'] at this
  exact this
end Go.Proofs.YtlllnjhgjijnkaaDoor.Nx
namespace Go.Proofs.YtlllnjhgjijnkaaDoor.Nx
open Go
variable {P:Program} {w w':World} {M:Nat→Prop} {ρ ρ':Phys} {h h':Heap}
theorem wrap_has (k:IntKind) (n:Int):k.min≤k.wrap n∧k.wrap n≤k.max:=wrap_within k n
theorem scOk_wrap (k:IntKind) (n:Int):scOk (.int k (k.wrap n)):=wrap_has k n
theorem tmod_has (k:IntKind) {x y:Int} (hx:k.min≤x∧x≤k.max):k.min≤x.tmod y∧x.tmod y≤k.max:=by
 have h0:k.min≤0∧0≤k.max:=by cases k<;>simp [IntKind.min,IntKind.max,IntKind.bits,IntKind.signed]
 have hn:(x.tmod y).natAbs≤x.natAbs:=by rw [Int.natAbs_tmod];exact Nat.mod_le _ _
 rcases Int.le_total 0 x with h | h
 ·have h1:=Int.tmod_nonneg y h
  omega
 ·have h1:=Int.tmod_nonneg y (a := -x) (by omega)
  rw [Int.neg_tmod] at h1
  omega
theorem fdiv_has (k:IntKind) {x:Int} (n:Nat) (hx:k.min≤x∧x≤k.max):k.min≤x.fdiv (2 ^ n)∧x.fdiv (2 ^ n)≤k.max:=by
 have h0:k.min≤0∧0≤k.max:=by cases k<;>simp [IntKind.min,IntKind.max,IntKind.bits,IntKind.signed]
 have hp:(1:Int)≤2 ^ n:=by
  have:(2 ^ n:Int)=((2 ^ n:Nat):Int):=by simp
  rw [this]
  have:=Nat.one_le_two_pow (n:=n)
  omega
 have hd:x.fdiv (2 ^ n)=x / (2 ^ n):=Int.fdiv_eq_ediv_of_nonneg _ (by omega)
 rw [hd]
 rcases Int.le_total 0 x with h | h
 ·have h1:0≤x / 2 ^ n:=Int.ediv_nonneg h (by omega)
  have h2:x / 2 ^ n≤x:=Int.ediv_le_self _ h
  omega
 ·have h1:x≤x / 2 ^ n:=by
   rw [Int.le_ediv_iff_mul_le (by omega)]
   have:=Int.mul_le_mul_of_nonpos_left h hp
   omega
  have h2:x / 2 ^ n≤0:=Int.ediv_nonpos_of_nonpos_of_neg h (by omega)
  omega
theorem run_intRes {op:BinOp} {k:IntKind} {x y:Int} {v:Value} {t:TypeId} (hr:intRes op k x y=some v) :
  (binOp op t (.int k x) (.int k y)).run P w = .ok v w∧(k.min≤x∧x≤k.max→scOk v):=by
 cases op<;>simp only [intRes] at hr
 case add=>cases hr;exact ⟨by simp [binOp,Op.intArith],fun _=>scOk_wrap ..⟩
 case sub=>cases hr;exact ⟨by simp [binOp,Op.intArith],fun _=>scOk_wrap ..⟩
 case mul=>cases hr;exact ⟨by simp [binOp,Op.intArith],fun _=>scOk_wrap ..⟩
 case quo=>split at hr<;>cases hr;rename_i hy;exact ⟨by simp [binOp,Op.intDiv,hy],fun _=>scOk_wrap ..⟩
 case rem=>split at hr<;>cases hr;rename_i hy;exact ⟨by simp [binOp,Op.intDiv,hy],fun hx=>tmod_has k hx⟩
 case and=>cases hr;exact ⟨by simp [binOp,Op.intBits],fun _=>scOk_wrap ..⟩
 case or=>cases hr;exact ⟨by simp [binOp,Op.intBits],fun _=>scOk_wrap ..⟩
 case xor=>cases hr;exact ⟨by simp [binOp,Op.intBits],fun _=>scOk_wrap ..⟩
 case andNot=>cases hr;exact ⟨by simp [binOp,Op.intBits],fun _=>scOk_wrap ..⟩
 case eql=>cases hr;exact ⟨by simp [binOp,Op.intCmp],fun _=>trivial⟩
 case neq=>cases hr;exact ⟨by simp [binOp,Op.intCmp],fun _=>trivial⟩
 case lss=>cases hr;exact ⟨by simp [binOp,Op.intCmp],fun _=>trivial⟩
 case leq=>cases hr;exact ⟨by simp [binOp,Op.intCmp],fun _=>trivial⟩
 case gtr=>cases hr;exact ⟨by simp [binOp,Op.intCmp],fun _=>trivial⟩
 case geq=>cases hr;exact ⟨by simp [binOp,Op.intCmp],fun _=>trivial⟩
 all_goals cases hr
theorem bytes_eq (a b:ByteArray):(a.toList == b.toList)=decide (a=b):=by
 rw [Bool.eq_iff_iff]
 simp only [beq_iff_eq,decide_eq_true_eq]
 refine ⟨fun h=>?_,fun h=>by rw [h]⟩
 rw [ByteArray.toList_eq,ByteArray.toList_eq] at h
 obtain ⟨⟨x⟩⟩:=a
 obtain ⟨⟨y⟩⟩:=b
 simp at h
 rw [h]
theorem run_strRes {op:BinOp} {x y:ByteArray} {v:Value} {t:TypeId} (hr:strRes op x y=some v) :
  (binOp op t (.string x) (.string y)).run P w = .ok v w∧scOk v:=by
 cases op<;>simp only [strRes] at hr
 case add =>
  split at hr<;>cases hr
  rename_i hl
  have h1:(x.size:Int)+(y.size:Int)≤9223372036854775807:=by unfold maxLen at hl;omega
  refine ⟨by simp [binOp,Op.stringOp,h1],?_⟩
  show (x++y).size≤maxLen
  simpa using hl
 case eql=>cases hr;exact ⟨by simp [binOp,Op.stringOp,bytes_eq],trivial⟩
 case neq=>cases hr;exact ⟨by simp [binOp,Op.stringOp,bytes_eq],trivial⟩
 case lss=>cases hr;exact ⟨by simp [binOp,Op.stringOp],trivial⟩
 all_goals cases hr
theorem run_binRes {op:BinOp} {a b v:Value} {t:TypeId} (hr:binRes op a b=some v) (ha:scOk a) :
  (binOp op t a b).run P w = .ok v w∧scOk v:=by
 unfold binRes at hr
 split at hr
 ·split at hr<;>cases hr
  rename_i hb
  exact ⟨by simp [binOp,Op.shift,hb],scOk_wrap ..⟩
 ·split at hr<;>cases hr
  rename_i hb
  exact ⟨by simp [binOp,Op.shift,hb],fdiv_has _ _ ha⟩
 ·split at hr
  ·rename_i hk
   subst hk
   have:=run_intRes (P:=P) (w:=w) (t:=t) hr
   exact ⟨this.1,this.2 ha⟩
  ·cases hr
 ·exact run_strRes hr
 ·cases hr
theorem run_eqGuard_sc {op:BinOp} {t:TypeId} {x y:Operand} {a b:Value} (ha:a ≠ .nilIface) (ha':∀ c,a ≠ .agg c):(eqGuard op t x y a b).run P w = .ok () w:=by
 unfold eqGuard
 cases op<;>simp<;>(split<;>simp_all)
theorem sc_inv {v u:Value} (hx:RepA w M ρ h (.sc v) u):u=v∧scOk v:=by
 cases hx with
 | d hx=>cases hx with
  | sc hx=>exact ⟨rfl,hx⟩
theorem does_bin {op:BinOp} {t:TypeId} {x y:Operand} {a b v u u':Value} (S:SimH w M ρ h) (hx:RepA w M ρ h (.sc a) u) (hy:RepA w M ρ h (.sc b) u') (hr:binRes op a b=some v) :
  Does P (do let r ← (do eqGuard op t x y u u';binOp op t u u');pure (.value r)) w M ρ h (.sc v) h:=by
 obtain ⟨rfl,ha⟩:=sc_inv hx
 obtain ⟨rfl,hb⟩:=sc_inv hy
 obtain ⟨h1,h2⟩:=run_binRes (P:=P) (w:=w) (t:=t) hr ha
 have hne:u ≠ .nilIface∧∀ c,u ≠ .agg c:=by
  refine ⟨fun he=>?_,fun c he=>?_⟩<;>subst he<;>cases op<;>simp [binRes] at hr
 refine .pure (v:=v) ?_ (.d (.sc h2)) S
 simp only [Sem.run_bind,run_eqGuard_sc hne.1 hne.2,Result.andThen_ok,h1,Sem.run_pure]
theorem does_eqb {neg:Bool} {t:TypeId} {x y:Operand} {a b:Bool} {u u':Value} (S:SimH w M ρ h) (hu:P.underlying t=some .bool) (hx:RepA w M ρ h (.bool a) u) (hy:RepA w M ρ h (.bool b) u') :
  Does P (do let r ← (do eqGuard (if neg then .neq else .eql) t x y u u';binOp (if neg then .neq else .eql) t u u');pure (.value r)) w M ρ h (.bool (if neg then a != b else a == b)) h:=by
 obtain ⟨rfl, -⟩:=sc_inv hx
 obtain ⟨rfl, -⟩:=sc_inv hy
 refine .pure (v:=.bool (if neg then a != b else a == b)) ?_ (.d (.sc trivial)) S
 have hg:=run_eqGuard_sc (P:=P) (w:=w) (op:=if neg then .neq else .eql) (t:=t) (x:=x) (y:=y) (a:=.bool a) (b:=.bool b) (by simp) (by simp)
 simp only [Sem.run_bind,hg,Result.andThen_ok]
 have he:(Op.equal t (.bool a) (.bool b)).run P w = .ok (a == b) w:=run_equalIn_bool' w 9999 t a b hu
 cases neg
 ·simp only [Bool.false_eq_true,if_false,binOp,Sem.run_bind,he,Result.andThen_ok,Sem.run_pure]
 ·simp only [if_true,binOp,Sem.run_bind,he,Result.andThen_ok,Sem.run_pure]
  rfl
def eqPlanF (P:Program) (plan:TypeId→Option (List (Nat × EqK))) (n:Nat):List Field→Option (List (Nat × EqK))
 | []=>some []
 | f::fs =>
  if f.name ≠ "_" then
   match plan f.type,P.info? f.type,eqPlanF P plan n fs with
   | some ks,some i,some r=>if known P f.type&&decide (0<i.size)&&ks.all (fun k=>decide (k.1<i.size))&&decide (f.offset+i.size≤n) then some (ks.map (fun k=>(f.offset+k.1,k.2))++r) else none
   | _,_,_=>none
  else eqPlanF P plan n fs
def eqPlan (P:Program):Nat→TypeId→Option (List (Nat × EqK))
 | 0,_=>none
 | d+1,t=>match P.underlying t with
  | some .bool=>some [(0,.b)]
  | some (.int _)=>some [(0,.i)]
  | some .string=>some [(0,.s)]
  | some (.struct fs)=>match P.info? t with
   | some i=>if P.stoodInHeld t then none else eqPlanF P (eqPlan P d) i.size fs.toList
   | none=>none
  | _=>none
theorem eqAll_append (ks ls:List (Nat × EqK)) (xs ys:List A) (b:Bool) (hb:eqAll (ks++ls) xs ys=some b):∃ c d,eqAll ks xs ys=some c∧eqAll ls xs ys=some d∧b=(c&&d):=by
 induction ks generalizing b with
 | nil=>exact ⟨true,b,rfl,hb,by simp⟩
 | cons k ks ih =>
  simp only [List.cons_append,eqAll] at hb
  split at hb
  ·rename_i p q hp hq
   cases hb
   obtain ⟨c,d,h1,h2,rfl⟩:=ih q hq
   refine ⟨p&&c,d,by simp only [eqAll,hp,h1],h2,by simp [Bool.and_assoc]⟩
  ·cases hb
theorem eqAll_sub {off n:Nat} {ks:List (Nat × EqK)} {xs ys:List A} (hk:∀ k∈ks,k.1<n) :
  eqAll (ks.map fun k=>(off+k.1,k.2)) xs ys=eqAll ks ((xs.drop off).take n) ((ys.drop off).take n):=by
 induction ks with
 | nil=>rfl
 | cons k ks ih =>
  have hkn:k.1<n:=hk k (zW ..)
  have hg:∀ l:List A,((l.drop off).take n).getD k.1 .any=l.getD (off+k.1) .any:=by
   intro l
   simp [List.getD,List.getElem?_take_of_lt hkn,zl]
  simp only [zU,eqAll,hg,ih fun k' hk'=>hk k' (zZ _ hk')]
def ValAs (P:Program) (w:World) (M:Nat→Prop) (ρ:Phys) (h:Heap) (t:TypeId) (l:List A) (v:Value):Prop :=
 if aggB P t then RepA w M ρ h (.agg l) v else ∃ c,l[0]? = some c∧RepA w M ρ h c v
theorem part_val {t:TypeId} {i:TypeInfo} {cs:Array Value} {l:List A} {off:Nat} (hk:known P t=true) (hi:P.info? t=some i) (hx:RepA w M ρ h (.agg l) (.agg cs)) (hl:off+i.size≤l.length) (hz:0<i.size) :
  ∃ v,(part t cs off).run P w = .ok v w∧ValAs P w M ρ h t ((l.drop off).take i.size) v:=by
 cases hg:aggB P t with
 | true =>
  obtain ⟨r,v,hr,hrun,hrep⟩:=run_part (off:=off) (K:=fun a=>a = .agg ((l.drop off).take i.size)) hk hi hx (by simp [loadsTo,hg];omega)
  subst hr
  exact ⟨v,hrun,by simpa [ValAs,hg] using hrep⟩
 | false =>
  have hd:l.drop off=l[off]'(by omega)::l.drop (off+1):=(List.getElem_cons_drop (by omega)).symm
  obtain ⟨r,v,hr,hrun,hrep⟩:=run_part (off:=off) (K:=fun a=>a=l[off]'(by omega)) hk hi hx (by rw [hd];simp [loadsTo,hg])
  subst hr
  refine ⟨v,hrun,?_⟩
  simp only [ValAs,hg]
  refine ⟨_,?_,hrep⟩
  rw [List.getElem?_take_of_lt hz,zl,Nat.add_zero]
  exact List.getElem?_eq_getElem _
theorem eqAll_one {k:EqK} {xs ys:List A} {b:Bool} (hb:eqAll [(0,k)] xs ys=some b) {x y:A} (hx:xs[0]? = some x) (hy:ys[0]? = some y):scEq k x y=some b:=by
 simp only [eqAll,List.getD,hx,hy,Option.getD_some] at hb
 split at hb
 ·rename_i p q hp hq;cases hb;cases hq;simpa using hp
 ·cases hb
theorem run_eqPlan:∀ (d:Nat) (t:TypeId) (ks:List (Nat × EqK)) (xs ys:List A) (u v:Value) (b:Bool),eqPlan P d t=some ks→ValAs P w M ρ h t xs u→ValAs P w M ρ h t ys v →
  (∀ i,P.info? t=some i→aggB P t=true→xs.length=i.size∧ys.length=i.size)→eqAll ks xs ys=some b→(Op.equalIn d t u v).run P w = .ok b w
 | 0,t,ks,xs,ys,u,v,b,hp,_,_,_,_=>by cases hp
 | d+1,t,ks,xs,ys,u,v,b,hp,hx,hy,hl,hb=>by
  have scalar:∀ k,aggB P t=false→ks=[(0,k)]→∃ c c',scEq k c c'=some b∧RepA w M ρ h c u∧RepA w M ρ h c' v:=by
   intro k hg hk
   subst hk
   simp only [ValAs,hg] at hx hy
   obtain ⟨c,hc1,hc2⟩:=hx
   obtain ⟨c',hc1',hc2'⟩:=hy
   exact ⟨c,c',eqAll_one hb hc1 hc1',hc2,hc2'⟩
  unfold eqPlan at hp
  split at hp
  ·rename_i hu
   cases hp
   obtain ⟨c,c',q1,q2,q3⟩:=scalar _ (by simp [aggB,hu]) rfl
   unfold scEq at q1
   split at q1
   ·rename_i hk;cases hk
   ·rename_i hk;cases hk
   ·cases q1
    rw [(sc_inv q2).1,(sc_inv q3).1]
    exact run_equalIn_bool' w d t _ _ hu
   ·cases q1
  ·rename_i hu
   cases hp
   obtain ⟨c,c',q1,q2,q3⟩:=scalar _ (by simp [aggB,hu]) rfl
   unfold scEq at q1
   split at q1
   ·split at q1<;>cases q1
    rename_i hk
    subst hk
    rw [(sc_inv q2).1,(sc_inv q3).1]
    exact run_equalIn_int w d t _ _ _ _ hu
   ·rename_i hk;cases hk
   ·rename_i hk;cases hk
   ·cases q1
  ·rename_i hu
   cases hp
   obtain ⟨c,c',q1,q2,q3⟩:=scalar _ (by simp [aggB,hu]) rfl
   unfold scEq at q1
   split at q1
   ·rename_i hk;cases hk
   ·cases q1
    rw [(sc_inv q2).1,(sc_inv q3).1,← bytes_eq]
    exact run_equalIn_string w d t _ _ hu
   ·rename_i hk;cases hk
   ·cases q1
  ·rename_i fs hu
   split at hp
   ·rename_i i hi
    split at hp
    ·cases hp
    ·rename_i hst
     have hg:aggB P t=true:=by simp [aggB,hu]
     obtain ⟨hl1,hl2⟩:=hl i hi hg
     simp only [ValAs,hg,if_true] at hx hy
     obtain ⟨cs,rfl⟩:∃ cs,u = .agg cs:=by cases hx;exact ⟨_,rfl⟩
     obtain ⟨cs',rfl⟩:∃ cs',v = .agg cs':=by cases hy;exact ⟨_,rfl⟩
     have hfs:P.fieldsOf t=fs:=by simp [Program.fieldsOf,hu]
     rw [run_equalIn_agg w d t cs cs' (by rw [hfs];exact hu) (by simpa using hst),hfs]
     clear hu hfs hst scalar
     generalize fs.toList=fl at hp
     induction fl generalizing ks b with
     | nil=>cases hp;cases hb;simp [Op.eqFields]
     | cons f fl ihf =>
      simp only [eqPlanF] at hp
      simp only [Op.eqFields]
      split at hp
      ·rename_i hname
       rw [if_pos hname]
       split at hp
       ·rename_i ks1 i1 r1 h1 h2 h3
        split at hp
        ·rename_i hcond
         cases hp
         simp only [Bool.and_eq_true,List.all_eq_true,decide_eq_true_eq] at hcond
         obtain ⟨⟨⟨hkn,hz⟩,hks⟩,hoff⟩:=hcond
         obtain ⟨c1,c2,q1,q2,rfl⟩:=eqAll_append _ _ _ _ _ hb
         rw [eqAll_sub hks] at q1
         obtain ⟨u1,e1,g1⟩:=part_val (off:=f.offset) hkn h2 hx (by omega) hz
         obtain ⟨v1,e2,g2⟩:=part_val (off:=f.offset) hkn h2 hy (by omega) hz
         have hrec:=run_eqPlan d f.type ks1 _ _ u1 v1 c1 h1 g1 g2 (fun i' hi' _=>by rw [h2] at hi';cases hi';simp;omega) q1
         simp only [Sem.run_bind,e1,e2,hrec,Result.andThen_ok]
         cases c1 with
         | true=>simp only [Bool.not_true,Bool.false_eq_true,if_false,Bool.true_and];exact ihf _ _ q2 h3
         | false=>simp only [Bool.not_false,if_true,Sem.run_pure,Bool.false_and]
        ·cases hp
       ·cases hp
      ·rename_i hname
       rw [if_neg hname]
       exact ihf _ _ hb hp
   ·cases hp
  ·cases hp
theorem does_eqs {neg:Bool} {t:TypeId} {i:TypeInfo} {x y:Operand} {xs ys:List A} {ks:List (Nat × EqK)} {u v:Value} {b:Bool} (S:SimH w M ρ h) (hp:eqPlan P 10000 t=some ks) (hg:aggB P t=true) (hi:P.info? t=some i) (hq:P.eqGuardType P.depth t=false)
  (hx:RepA w M ρ h (.agg xs) u) (hy:RepA w M ρ h (.agg ys) v) (h1:xs.length=i.size) (h2:ys.length=i.size) (hb:eqAll ks xs ys=some b) :
  Does P (do let r ← (do eqGuard (if neg then .neq else .eql) t x y u v;binOp (if neg then .neq else .eql) t u v);pure (.value r)) w M ρ h (.bool (if neg then !b else b)) h:=by
 have he:=run_eqPlan (P:=P) (w:=w) (M:=M) (ρ:=ρ) (h:=h) 10000 t ks xs ys u v b hp (by simpa [ValAs,hg] using hx) (by simpa [ValAs,hg] using hy) (fun i' hi' _=>by rw [hi] at hi';cases hi';exact ⟨h1,h2⟩) hb
 obtain ⟨cs,rfl⟩:∃ cs,u = .agg cs:=by cases hx;exact ⟨_,rfl⟩
 obtain ⟨cs',rfl⟩:∃ cs',v = .agg cs':=by cases hy;exact ⟨_,rfl⟩
 refine .pure (v:=.bool (if neg then !b else b)) ?_ (.d (.sc trivial)) S
 simp only [Sem.run_bind,run_eqGuard_agg w _ t x y cs cs' hq,Result.andThen_ok]
 cases neg
 ·simp only [Bool.false_eq_true,if_false,run_eql_struct,he,Result.andThen_ok,Sem.run_pure]
 ·simp only [if_true,run_neq_struct,he,Result.andThen_ok,Sem.run_pure]
end Go.Proofs.YtlllnjhgjijnkaaDoor.Nx

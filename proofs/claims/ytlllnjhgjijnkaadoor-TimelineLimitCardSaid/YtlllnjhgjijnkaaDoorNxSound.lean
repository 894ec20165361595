import Derived.Test.YtlllnjhgjijnkaaDoorNxCore
set_option linter.unusedSimpArgs false
set_option linter.unusedVariables false
set_option linter.unnecessarySimpa false
open List renaming getElem?_eq_some_iff → zA, getElem?_eq_getElem → zB, getElem?_map → zK, append_assoc → zS, mem_of_getElem? → zY, getElem?_drop → zl
open Array renaming getD_eq_getD_getElem? → zR
open Option renaming map_eq_some_iff → zT
open Nat renaming mul_le_mul_right → zX
namespace Go.Proofs.YtlllnjhgjijnkaaDoor.Nx
open Go
variable {P:Program} {w w':World} {M:Nat→Prop} {ρ ρ':Phys} {h h':Heap}
def Does (P:Program) (sem:Sem Next) (w:World) (M:Nat→Prop) (ρ:Phys) (h:Heap) (r:A) (h':Heap):Prop :=
 ∃ v w' ρ',(sem.run P w = .ok (.value v) w'∨(v=undef∧sem.run P w = .ok .skip w'))∧RepA w' M ρ' h' r v∧SimH w' M ρ' h'∧Evo h.length h ρ w h' ρ' w'
theorem Does.pure {sem:Sem Next} {v:Value} {r:A} (hr:sem.run P w = .ok (.value v) w) (hv:RepA w M ρ h r v) (S:SimH w M ρ h):Does P sem w M ρ h r h :=
 ⟨v,w,ρ,.inl hr,hv,S,.refl _ _ _ _ (Nat.le_refl _)⟩
def Env (w:World) (M:Nat→Prop) (ρ:Phys) (h:Heap) (ev:XO→A) (e:Operand→Value):Prop :=
 ∀ x y,cO x=some y→RepA w M ρ h (ev y) (e x)
theorem kOf_rep {v:Value} (hv:kOk v=true):RepA w M ρ h (kOf v) v:=by
 unfold kOf
 split
 ·exact .nil
 ·refine .d (.sc ?_)
  unfold kOk at hv
  unfold scOk
  cases v<;>simp_all
theorem kOf_one {v:Value} (hv:kOk v=true):v.oneCell'=true:=by
 cases v<;>first | rfl | simp [kOk] at hv
theorem RepD.one {X:Nat→Prop} {x:D} {v:Value} (hx:RepD w X x v):v.oneCell'=true:=by
 cases hx with
 | sc h=>cases v<;>first | rfl | exact h.elim
 | nil _=>rfl
 | sl=>rfl
theorem RepA.oneV {x:A} {v:Value} (hx:RepA w M ρ h x v) (h1:x.one=true):v.oneCell'=true:=by
 cases hx<;>first | rfl | assumption | (simp [A.one] at h1;done) | skip
 exact RepD.one (by assumption)
theorem RepA.ok {x:A} {v:Value} (hx:RepA w M ρ h x v) (h1:x.okCells=true) :
  v.cells.size=x.cells.length∧(∀ u∈v.cells.toList,u.oneCell'=true)∧∀ (j:Nat) (y:A),x.cells[j]? = some y→RepA w M ρ h y (v.cells.getD j undef):=by
 have key:∀ x:A,x.one=true→RepA w M ρ h x v→x.cells=[x]→v.cells.size=x.cells.length∧(∀ u∈v.cells.toList,u.oneCell'=true)∧∀ (j:Nat) (y:A),x.cells[j]? = some y→RepA w M ρ h y (v.cells.getD j undef):=by
  intro x h1 hx hc
  have ho:=hx.oneV h1
  have hv:v.cells = #[v]:=by cases v<;>first | rfl | simp [Value.oneCell'] at ho
  rw [hc,hv]
  refine ⟨rfl,by simpa using ho,fun j y hj=>?_⟩
  cases j with
  | zero=>simp at hj;subst hj;simpa using hx
  | succ j=>simp at hj
 cases x with
 | agg l =>
  cases hx with
  | agg hl ho hr=>exact ⟨hl,ho,hr⟩
 | any=>simp [A.okCells,A.one] at h1
 | tup l=>simp [A.okCells,A.one] at h1
 | _=>exact key _ h1 hx rfl
theorem cO_rep {x:Operand} {y:XO} (hc:cO x=some y) {s:Nat→A} {a:Act} (hs:∀ n,RepA w M ρ h (s n) (valAt a.tmps n)) :
  RepA w M ρ h (ev s y) (a.eval x):=by
 unfold cO at hc
 split at hc
 ·rename_i t
  split at hc
  ·rename_i hlt
   cases hc
   have:=hs t
   rw [valAt,if_pos hlt] at this
   exact this
  ·cases hc
 ·rename_i cs
  split at hc
  ·cases hc
   rename_i hall
   rw [List.all_eq_true] at hall
   refine .agg (by simp) (fun v hv=>kOf_one (hall v hv)) (fun j y hj=>?_)
   simp only [zK,zT] at hj
   obtain ⟨v,hv,rfl⟩:=hj
   have h1:cs.getD j undef=v:=by
    have:cs[j]? = some v:=by simpa using hv
    simp [zR,this]
   rw [h1]
   exact kOf_rep (hall v (zY hv))
  ·cases hc
 ·split at hc
  ·cases hc
   exact kOf_rep ‹_›
  ·cases hc
 ·cases hc
  exact .fn rfl (fun j x hj=>by simp at hj)
 ·rename_i g
  cases hc
  have:=hs (tabBase+g)
  have hn:¬ tabBase+g<tabBase:=by omega
  rw [valAt,if_neg hn,Nat.add_sub_cancel_left] at this
  exact this
theorem getD_toList {cs:Array Value} {j:Nat} {v:Value} (hv:cs.toList[j]? = some v):cs.getD j undef=v:=by
 have:cs[j]? = some v:=by simpa using hv
 simp [zR,this]
theorem getD_some {cs:Array Value} {j:Nat} (hj:j<cs.size):cs[j]? = some (cs.getD j undef):=by
 simp [zR,hj]
theorem zero_rep {t:TypeId} {z:List A} (hz:zeroCells? P t=some z) :
  ∃ i zv,P.info? t=some i∧i.zero=some zv∧zv.cells.size=i.size∧z.length=i.size∧(∀ u∈zv.cells.toList,u.oneCell'=true) ∧
   ∀ (j:Nat) (y:A),z[j]? = some y→RepA w M ρ h y (zv.cells.getD j undef):=by
 unfold zeroCells? at hz
 split at hz
 ·rename_i i hi
  split at hz
  ·rename_i zv hzv
   split at hz
   ·rename_i hc
    cases hz
    have hall:=List.all_eq_true.1 hc.2
    refine ⟨i,zv,hi,hzv,hc.1,by simp [hc.1],fun u hu=>kOf_one (hall u hu),fun j y hj=>?_⟩
    simp only [zK,zT] at hj
    obtain ⟨v,hv,rfl⟩:=hj
    rw [getD_toList hv]
    exact kOf_rep (hall v (zY hv))
   ·cases hz
  ·cases hz
 ·cases hz
theorem elt_some {t:TypeId} {e:Elt} (he:elt? P t=some e):∃ i,P.info? t=some i∧e=⟨i.size,i.bytes⟩:=by
 unfold elt? at he
 cases hi:P.info? t with
 | none=>simp [hi] at he
 | some i=>simp [hi] at he;exact ⟨i,rfl,he.symm⟩
theorem small_spec {e:Elt} (h:small e=true):0<e.sz∧e.bytes≤room:=by
 simpa [small] using h
theorem place_new {pl:Option Nat} {B:HB} {K:Nat→Heap→Prop} (hK:place pl h B K) (x:Option (Nat × Nat)):∃ id h1 ρ1,NewAt h ρ B x pl id h1 ρ1∧K id h1:=by
 cases pl with
 | none=>exact ⟨_,_,_,.push,hK⟩
 | some a=>exact ⟨_,_,_,.set hK.1,hK.2⟩
theorem does_box {sem:Sem Next} {cs:Array Value} {l:List A} {e:Elt} {pl:Option Nat} {K:A→Heap→Prop} (t:TypeId) (bnd:∀ b,M b→b<w.heap.size) (S:SimH w M ρ h) (hs:small e=true) (hl:cs.size=l.length) (hn:l.length=e.sz)
  (ho:∀ u∈cs.toList,u.oneCell'=true) (hr:∀ (j:Nat) (y:A),l[j]? = some y→RepA w M ρ h y (cs.getD j undef))
  (hrun:sem.run P w = .ok (.value (.pointer (some ⟨w.heap.size,0,none⟩))) (w.alloc (.cells cs t))) (hK:place pl h (.cells e [l]) fun id h1=>K (.ptr id 1 0 0) h1) :
  ∃ r h',K r h'∧Does P sem w M ρ h r h':=by
 obtain ⟨h0,hb⟩:=small_spec hs
 obtain ⟨id,h1,ρ1,n,hK⟩:=place_new (ρ:=ρ) hK (some (w.heap.size,cs.size))
 have S':SimH (w.alloc (.cells cs t)) M ρ1 h1:=by
  refine S.newCells bnd t n h0 (by simpa using hb) (by simp [maxLen]) (by simpa using hn) (by simp;omega) (fun i r j x hi hj=>?_)
  have hi0:i=0:=by
   have:=(zA.1 hi).1
   simp at this;exact this
  subst hi0
  simp at hi
  subst hi
  have hj':j<cs.size:=by rw [hl];exact (zA.1 hj).1
  refine ⟨cs.getD j undef,by simpa using getD_some hj',ho _ ?_,hr j x hj⟩
  have:=getD_some hj'
  exact zY (i:=j) (by simpa using this)
 refine ⟨_,_,hK,_,_,ρ1,.inl hrun,?_,S',.newAlloc n S.len⟩
 have:=RepA.ptr (w:=w.alloc (.cells cs t)) (M:=M) (ρ:=ρ1) (i:=0) (off:=0) (p:=cs.size) n.heap (n.phys S.len)
 simpa using this
theorem run_isAgg (t:TypeId) (hk:known P t=true):(isAgg t).run P w = .ok (aggB P t) w:=by
 unfold known at hk
 cases hu:P.underlying t with
 | none=>simp [hu] at hk
 | some d=>cases d<;>simp [isAgg,underlying,hu,aggB]
theorem run_sizeOf {t:TypeId} {i:TypeInfo} (hi:P.info? t=some i):(sizeOf t).run P w = .ok i.size w:=by
 simp [sizeOf,typeInfo,hi]
theorem choose_lt {α:Type} [Inhabited α] {n:Nat} {p:Nat→α→Prop} (hp:∀ i,i<n→∃ x,p i x):∃ f:Nat→α,∀ i,i<n→p i (f i):=by
 refine ⟨fun i=>if hi:i<n then Classical.choose (hp i hi) else default,fun i hi=>?_⟩
 simp only [hi,dif_pos]
 exact Classical.choose_spec (hp i hi)
def CellsAt (w:World) (M:Nat→Prop) (ρ:Phys) (h:Heap) (a:Addr) (l:List A):Prop :=
 ∀ (j:Nat) (y:A),l[j]? = some y→∃ u,w.cell? (a.add j)=some u∧u.oneCell'=true∧RepA w M ρ h y u
theorem run_loadVar {t:TypeId} {i:TypeInfo} {a:Addr} {l:List A} {K:A→Prop} (hk:known P t=true) (hi:P.info? t=some i) (hc:CellsAt w M ρ h a l)
  (hK:loadsTo i.size (aggB P t) l K):∃ r v,K r∧(loadVar t a).run P w = .ok v w∧RepA w M ρ h r v:=by
 unfold loadsTo at hK
 cases hg:aggB P t with
 | true =>
  simp only [hg,if_true] at hK
  obtain ⟨hn,hK⟩:=hK
  have hall:∀ j,j<i.size→∃ u,w.cell? (a.add j)=some u∧u.oneCell'=true∧∀ y,l[j]? = some y→RepA w M ρ h y u:=by
   intro j hj
   obtain ⟨u,h1,h2,h3⟩:=hc j _ (zB (by omega))
   exact ⟨u,h1,h2,fun y hy=>by rw [zB (by omega)] at hy;cases hy;exact h3⟩
  obtain ⟨f,hf⟩:=choose_lt hall
  have hl:=run_loadCells (P:=P) w a i.size f (fun j hj=>(hf j hj).1)
  refine ⟨_,_,hK,by simp [loadVar,run_isAgg t hk,hg,run_sizeOf hi,hl];rfl,?_⟩
  refine .agg (by simp;omega) ?_ ?_
  ·intro u hu
   simp at hu
   obtain ⟨j,hj,rfl⟩:=hu
   exact (hf j hj).2.1
  ·intro j y hj
   have hj1:j<i.size:=by
    have:=(zA.1 hj).1
    simp at this;omega
   rw [List.getElem?_take_of_lt hj1] at hj
   have:=(hf j hj1).2.2 y hj
   simpa [zR,hj1] using this
 | false =>
  simp only [hg] at hK
  cases l with
  | nil=>simp at hK
  | cons c l =>
   obtain ⟨u,h1,_,h3⟩:=hc 0 c rfl
   have h1':w.cell? a=some u:=by simpa [Addr.add] using h1
   exact ⟨c,u,by simpa using hK,by simp [loadVar,run_isAgg t hk,hg,h1'],h3⟩
theorem loadsTo_mono {n:Nat} {g:Bool} {l:List A} {K K':A→Prop} (hk:∀ a,K a→K' a) (h:loadsTo n g l K):loadsTo n g l K':=by
 unfold loadsTo at *
 split
 ·rename_i hg;simp only [hg,if_true] at h;exact ⟨h.1,hk _ h.2⟩
 ·rename_i hg
  simp only [hg] at h
  cases l with
  | nil=>simp at h
  | cons c l=>exact hk _ (by simpa using h)
theorem own_cells (S:SimH w M ρ h) {id:Nat} {e:Elt} {rows:List (List A)} (hid:h[id]? = some (.cells e rows)) {b p:Nat} (hρ:ρ[id]? = some (some (b,p))) {i:Nat} {r:List A} (hi:rows[i]? = some r) (off:Nat) :
  CellsAt w M ρ h ⟨b,i * e.sz+off,none⟩ (r.drop off):=by
 intro j y hj
 obtain ⟨_,_,_,_,h5⟩:=S.cells id e rows hid
 rcases h5 with ⟨h5,_⟩ | ⟨b',p',cs,t,h5,_,h7,h8,_,h10⟩
 ·rw [hρ] at h5;cases h5
 ·rw [hρ] at h5;cases h5
  rw [zl] at hj
  obtain ⟨v,k1,k2,k3⟩:=h10 i r (off+j) y hi hj
  refine ⟨v,?_,k2,k3⟩
  rw [add_off]
  simp only [World.cell?,h7,Option.isSome_none,Bool.false_eq_true,if_false]
  rw [Nat.add_assoc];exact k1
theorem iptr_cells {cs:List D} {a:Addr} (hx:RepA w M ρ h (.iptr cs) (.pointer (some a))):CellsAt w M ρ h a (cs.map .d):=by
 cases hx with
 | iptr u hc hr =>
  intro j y hj
  simp only [zK,zT] at hj
  obtain ⟨d,hd,rfl⟩:=hj
  exact ⟨u j,(hc j d hd).1,(hr j d hd).one,.d (hr j d hd)⟩
theorem run_loadAt (t:TypeId) (a:Addr):(Instr.loadAt t (.pointer (some a))).run P w=(loadVar t a).run P w:=by
 simp [Instr.loadAt,Instr.sureAddr]
theorem ptr_inv {id N i off:Nat} {e:Elt} {rows:List (List A)} {v:Value} (hx:RepA w M ρ h (.ptr id N i off) v) (hid:h[id]? = some (.cells e rows)) (hN:N=rows.length) :
  ∃ b p,ρ[id]? = some (some (b,p))∧v = .pointer (some ⟨b,i * e.sz+off,none⟩):=by
 cases hx with
 | ptr hh hp=>rw [hid] at hh;cases hh;exact ⟨_,_,hp,rfl⟩
 | pstale hh hN' _=>rw [hid] at hh;cases hh;omega
 | obj hh _=>rw [hid] at hh;cases hh
theorem does_load {t:TypeId} {i:TypeInfo} {x:A} {v:Value} {K:A→Heap→Prop} (S:SimH w M ρ h) (hk:known P t=true) (hi:P.info? t=some i) (hx:RepA w M ρ h x v)
  (hK:match (generalizing:=false) x with
   | .ptr id N i' off=>match h[id]? with
    | some (.cells _ rows)=>N=rows.length∧match rows[i']? with
     | some r=>loadsTo i.size (aggB P t) (r.drop off) fun a=>K a h
     | none=>False
    | _=>False
   | .iptr cs=>loadsTo i.size (aggB P t) (cs.map .d) fun a=>K a h
   | _=>False) :
  ∃ r h',K r h'∧Does P (do pure (.value (← Instr.loadAt t v))) w M ρ h r h':=by
 cases x with
 | ptr id N i' off =>
  dsimp only at hK
  split at hK
  ·rename_i e rows hid
   obtain ⟨hN,hK⟩:=hK
   split at hK
   ·rename_i r hr
    obtain ⟨b,p,hρ,rfl⟩:=ptr_inv hx hid hN
    obtain ⟨a,u,hKa,hrun,hrep⟩:=run_loadVar (P:=P) hk hi (own_cells S hid hρ hr _) hK
    exact ⟨a,h,hKa,.pure (by simp [run_loadAt,hrun]) hrep S⟩
   ·exact hK.elim
  ·exact hK.elim
 | iptr cs =>
  obtain ⟨a,rfl⟩:∃ a,v = .pointer (some a):=by cases hx;exact ⟨_,rfl⟩
  obtain ⟨a,u,hKa,hrun,hrep⟩:=run_loadVar (P:=P) hk hi (iptr_cells hx) hK
  exact ⟨a,h,hKa,.pure (by simp [run_loadAt,hrun]) hrep S⟩
 | _=>exact hK.elim
theorem splice_length {l new:List A} {off:Nat} (hl:off+new.length≤l.length):(splice l off new).length=l.length:=by
 simp [splice];omega
theorem splice_get {l new:List A} {off j:Nat} {y:A} (hl:off+new.length≤l.length) (hj:(splice l off new)[j]? = some y) :
  (off≤j∧j<off+new.length∧new[j-off]? = some y)∨((j<off∨off+new.length≤j)∧l[j]? = some y):=by
 unfold splice at hj
 rw [zS,List.getElem?_append] at hj
 have h1:(l.take off).length=off:=by simp;omega
 rw [h1] at hj
 split at hj
 ·rename_i hlt
  rw [List.getElem?_take_of_lt hlt] at hj
  exact .inr ⟨.inl hlt,hj⟩
 ·rename_i hge
  rw [List.getElem?_append] at hj
  split at hj
  ·rename_i hlt;exact .inl ⟨by omega,by omega,hj⟩
  ·rename_i hge2
   rw [zl] at hj
   exact .inr ⟨.inr (by omega),by rw [← hj];congr 1;omega⟩
theorem setRow_differs {g:Nat} {cur cs:Array Value} {t:TypeId} (hg:w.heap[g]? = some (.cells cur t (0,0))):Differs g w (w.setRow g cs)∧(w.setRow g cs).heap[g]? = some (.cells cs t (0,0)):=by
 refine ⟨⟨rfl,rfl,rfl,by simp [World.setRow],fun k hk=>?_⟩,setRow_heap w g cur _ t _ hg⟩
 simp [World.setRow,Array.getElem?_modify,Ne.symm hk]
theorem seg_get {cur:Array Value} {new:Array Value} {o j:Nat} (hl:o+new.size≤cur.size) :
  (cur.toList.take o++new.toList++cur.toList.drop (o+new.toList.length)).toArray[j]? = if o≤j∧j<o+new.size then new[j-o]? else cur[j]? := by
 have h1:(cur.toList.take o).length=o:=by simp;omega
 rw [List.getElem?_toArray,zS,List.getElem?_append,h1]
 split
 ·rename_i hlt
  rw [if_neg (by omega),List.getElem?_take_of_lt hlt];simp
 ·rename_i hge
  rw [List.getElem?_append]
  split
  ·rename_i hlt
   rw [if_pos (by simp at hlt;omega)];simp
  ·rename_i hge2
   rw [if_neg (by simp at hge2;omega),zl]
   simp at hge2 ⊢
   congr 1;omega
theorem index_pair {sz i j i' j':Nat} (hj:j<sz) (hj':j'<sz) (h:i * sz+j=i' * sz+j'):i=i'∧j=j':=by
 have h1:i=i':=by
  rcases Nat.lt_trichotomy i i' with hlt | he | hgt
  ·have:(i+1) * sz≤i' * sz:=zX _ hlt
   rw [Nat.add_mul] at this;omega
  ·exact he
  ·have:(i'+1) * sz≤i * sz:=zX _ hgt
   rw [Nat.add_mul] at this;omega
 subst h1
 exact ⟨rfl,by omega⟩
theorem does_store {t:TypeId} {ti:TypeInfo} {id N i off:Nat} {y:A} {v u:Value} {e:Elt} {rows:List (List A)} {r:List A} (S:SimH w M ρ h) (hi:P.info? t=some ti)
  (hx:RepA w M ρ h (.ptr id N i off) v) (hy:RepA w M ρ h y u) (hid:h[id]? = some (.cells e rows)) (hN:N=rows.length) (hok:y.okCells=true) (hn:y.cells.length=ti.size)
  (hr:rows[i]? = some r) (hoff:off+ti.size≤r.length) :
  Does P (do Instr.storeAt t v u;pure .skip) w M ρ h .any (h.set id (.cells e (rows.set i (splice r off y.cells)))):=by
 obtain ⟨b,p,hρ,rfl⟩:=ptr_inv hx hid hN
 obtain ⟨hs1,hs2,hs3⟩:=hy.ok hok
 obtain ⟨g1,g2,g3,g4,g5⟩:=S.cells id e rows hid
 rcases g5 with ⟨g5,_⟩ | ⟨b',p',cs,ty,g5,_,g7,g8,g9,g10⟩
 ·rw [hρ] at g5;cases g5
 rw [hρ] at g5;cases g5
 have hir:i<rows.length:=(zA.1 hr).1
 have hrl:r.length=e.sz:=g4 r (zY hr)
 have hin:i * e.sz+e.sz≤cs.size:=by
  have:(i+1) * e.sz≤rows.length * e.sz:=zX _ hir
  rw [Nat.add_mul] at this;omega
 have hst:=run_storeCells_at P b (i * e.sz+off) ty u.cells.toList 0 cs w g7 (by simp;omega) hs2
 rw [Nat.add_zero] at hst
 obtain ⟨hd,hh⟩:=setRow_differs (cs:=(cs.toList.take (i * e.sz+off)++u.cells.toList++cs.toList.drop (i * e.sz+off+u.cells.toList.length)).toArray) g7
 have hsz:u.cells.size=ti.size:=by rw [hs1,hn]
 refine ⟨undef,_,ρ,.inr ⟨rfl,?_⟩,.any,S.put hid hρ hd (by simp) hh (by simp;omega) (by simpa using g2) (by simpa using g3) ?_ (by simpa using g9) ?_,.put hid hρ hd (by simp)⟩
 ·simp [Instr.storeAt,Instr.sureAddr,storeVar,run_sizeOf hi,hsz]
  simpa [hsz] using congrArg (fun x=>x.andThen fun _ w=>Result.ok Next.skip w) hst
 ·intro r' hr'
  rcases List.mem_or_eq_of_mem_set hr' with hr' | rfl
  ·exact g4 r' hr'
  ·rw [splice_length (by omega),hrl]
 ·intro i' r' j x hi' hj
  have hseg:=seg_get (cur:=cs) (new:=u.cells) (o:=i * e.sz+off) (j:=i' * e.sz+j) (by omega)
  rw [hseg]
  rcases get_set hi' with ⟨rfl,rfl⟩ | ⟨hne,hi'⟩
  ·have hjl:j<e.sz:=by
    have:=(zA.1 hj).1
    rw [splice_length (by omega)] at this;omega
   rcases splice_get (by omega) hj with ⟨k1,k2,k3⟩ | ⟨k1,k2⟩
   ·rw [if_pos (by omega)]
    have hjj:i' * e.sz+j-(i' * e.sz+off)=j-off:=by omega
    rw [hjj]
    have hlt:j-off<u.cells.size:=by omega
    exact ⟨_,getD_some hlt,hs2 _ (zY (i:=j-off) (by simpa using getD_some hlt)),hs3 _ _ k3⟩
   ·rw [if_neg (by omega)]
    exact g10 _ r j x hr k2
  ·have hrl':r'.length=e.sz:=g4 r' (zY hi')
   have hjl:j<e.sz:=by have:=(zA.1 hj).1;omega
   rw [if_neg ?_]
   ·exact g10 _ _ _ _ hi' hj
   ·rintro ⟨q1,q2⟩
    have hq:i' * e.sz+j=i * e.sz+(i' * e.sz+j-i * e.sz):=by omega
    exact hne (index_pair hjl (by omega) hq).1
theorem add_add (a:Addr) (i j:Nat):(a.add i).add j=a.add (i+j):=by
 unfold Addr.add
 by_cases hi:i=0<;>by_cases hj:j=0<;>simp [hi,hj,Nat.add_assoc]
theorem does_faddr {t:TypeId} {f:Nat} {fs:Array Field} {fd:Field} {ti:TypeInfo} {x:A} {v:Value} {K:A→Heap→Prop} (S:SimH w M ρ h) (hu:P.underlying t=some (.struct fs)) (hf:fs[f]? = some fd)
  (hi:P.info? fd.type=some ti) (hz:ti.size≠0) (hx:RepA w M ρ h x v)
  (hK:match (generalizing:=false) x with
   | .ptr id N i o=>match h[id]? with
    | some (.cells _ rows)=>N=rows.length∧K (.ptr id N i (o+fd.offset)) h
    | _=>False
   | .iptr cs=>K (.iptr (cs.drop fd.offset)) h
   | _=>False) :
  ∃ r h',K r h'∧Does P (do pure (.value (← Instr.fieldAt t v f))) w M ρ h r h':=by
 have run:∀ a,(Instr.fieldAt t (.pointer (some a)) f).run P w = .ok (.pointer (some (a.add fd.offset))) w:=by
  intro a
  simp [Instr.fieldAt,underlying,hu,hf,Instr.sureAddr,fieldPlace,run_sizeOf hi,hz]
 cases x with
 | ptr id N i o =>
  dsimp only at hK
  split at hK
  ·rename_i e rows hid
   obtain ⟨hN,hK⟩:=hK
   obtain ⟨b,p,hρ,rfl⟩:=ptr_inv hx hid hN
   refine ⟨_,_,hK,.pure (by simp [run];rfl) ?_ S⟩
   rw [add_off,Nat.add_assoc,hN]
   exact .ptr hid hρ
  ·exact hK.elim
 | iptr cs =>
  cases hx with
  | iptr u hc hr =>
   refine ⟨_,_,hK,.pure (by simp [run];rfl) ?_ S⟩
   refine .iptr (fun j=>u (fd.offset+j)) (fun j d hj=>?_) (fun j d hj=>?_)
   ·rw [zl] at hj
    rw [add_add,add_block]
    exact hc _ d hj
   ·rw [zl] at hj
    exact hr _ d hj
 | _=>exact hK.elim
theorem run_part {t:TypeId} {i:TypeInfo} {cs:Array Value} {l:List A} {off:Nat} {K:A→Prop} (hk:known P t=true) (hi:P.info? t=some i) (hx:RepA w M ρ h (.agg l) (.agg cs))
  (hK:loadsTo i.size (aggB P t) (l.drop off) K):∃ r v,K r∧(part t cs off).run P w = .ok v w∧RepA w M ρ h r v:=by
 cases hx with
 | agg hl ho hr =>
 unfold loadsTo at hK
 cases hg:aggB P t with
 | true =>
  simp only [hg,if_true] at hK
  obtain ⟨hn,hK⟩:=hK
  simp at hn
  refine ⟨_,_,hK,by simp [part,run_isAgg t hk,hg,run_sizeOf hi];rfl,?_⟩
  by_cases h0:i.size=0
  ·rw [h0]
   exact .agg (by simp;omega) (fun u hu=>ho u (by simp at hu)) (fun j x hj=>by simp at hj)
  refine .agg (by simp;omega) ?_ ?_
  ·intro u hu
   simp at hu
   exact ho u (List.mem_of_mem_drop (List.mem_of_mem_take hu))
  ·intro j y hj
   have hj1:j<i.size:=by
    have:=(zA.1 hj).1
    simp at this;omega
   rw [List.getElem?_take_of_lt hj1,zl] at hj
   have:=hr _ y hj
   have hlt:off+j<cs.size:=by rw [hl];exact (zA.1 hj).1
   have e:(cs.extract off (off+i.size))[j]? = cs[off+j]? := by
    rw [Array.getElem?_extract,if_pos (by omega)]
   simpa [zR,e] using this
 | false =>
  simp only [hg] at hK
  cases hd:l.drop off with
  | nil=>simp [hd] at hK
  | cons c r =>
   have hc:l[off]? = some c:=by
    have:=zl (xs:=l) (i:=off) (j:=0)
    rw [hd] at this;simpa using this.symm
   have hlt:off<cs.size:=by rw [hl];exact (zA.1 hc).1
   have hs:=getD_some hlt
   have hrep:=hr _ c hc
   generalize cs.getD off undef=u at hs hrep
   exact ⟨c,u,by simpa [hd] using hK,by simp [part,run_isAgg t hk,hg,hs],hrep⟩
theorem does_field {t:TypeId} {f:Nat} {fs:Array Field} {fd:Field} {ti:TypeInfo} {x:A} {v:Value} {K:A→Heap→Prop} (S:SimH w M ρ h) (hu:P.underlying t=some (.struct fs)) (hf:fs[f]? = some fd)
  (hk:known P fd.type=true) (hi:P.info? fd.type=some ti) (hx:RepA w M ρ h x v)
  (hK:match (generalizing:=false) x with
   | .agg cs=>loadsTo ti.size (aggB P fd.type) (cs.drop fd.offset) fun a=>K a h
   | _=>False) :
  ∃ r h',K r h'∧Does P (do pure (.value (← Instr.field t v f))) w M ρ h r h':=by
 cases x with
 | agg l =>
  obtain ⟨cs,rfl⟩:∃ cs,v = .agg cs:=by cases hx;exact ⟨_,rfl⟩
  obtain ⟨a,u,hKa,hrun,hrep⟩:=run_part (P:=P) hk hi hx hK
  have h1:(Instr.field t (.agg cs) f).run P w = .ok u w:=by
   unfold Instr.field
   rw [Sem.run_bind,run_underlying hu]
   simp only [Result.andThen_ok,hf,asAgg,Sem.run_bind,Sem.run_pure]
   exact hrun
  exact ⟨a,h,hKa,.pure (by rw [Sem.run_bind,h1];rfl) hrep S⟩
 | _=>exact hK.elim
theorem nil_cap {X:Nat→Prop} {e:Elt} {rows:List (List D)} {n cap:Nat} (hx:RepD w X (.sl e rows) (.slice none n cap)):rows=[]∧n=0∧cap=0:=by
 cases hx with
 | nil hm h0=>exact ⟨rfl,rfl,h0 rfl⟩
theorem sl_inv {X:Nat→Prop} {e:Elt} {rows:List (List D)} {v:Value} (hx:RepD w X (.sl e rows) v) :
  ∃ a cap,v = .slice a rows.length cap∧rows.length≤cap∧cap≤maxLen∧rows.length * e.bytes≤room∧(∀ r∈rows,r.length=e.sz) ∧
   ∀ (i:Nat) (r:List D),rows[i]? = some r→∃ a0,a=some a0∧∀ (j:Nat) (d:D),r[j]? = some d→∃ u,w.cell? (a0.add (i * e.sz+j))=some u∧¬ X a0.block∧RepD w X d u:=by
 cases hx with
 | nil hm _=>exact ⟨_,_,rfl,Nat.zero_le _,hm,by simp,by simp,fun i r hi=>by simp at hi⟩
 | sl u hl hm hb hsz hc hr =>
  exact ⟨_,_,rfl,hl,hm,hb,hsz,fun i r hi=>⟨_,rfl,fun j d hj=>⟨u i j,(hc i r j d hi hj).1,(hc i r j d hi hj).2,hr i r j d hi hj⟩⟩⟩
theorem does_iaddr_sl {t et:TypeId} {ti:TypeInfo} {e:Elt} {rows:List (List D)} {v:Value} {k:IntKind} {n:Int} (S:SimH w M ρ h) (hu:P.underlying t=some (.slice et))
  (hi:P.info? et=some ti) (he:e.sz=ti.size) (hx:RepD w (Own M ρ) (.sl e rows) v) (h0:0≤n) (h1:n<rows.length) :
  Does P (do pure (.value (← Instr.indexAt t v (.int k n)))) w M ρ h (.iptr (rows.getD n.toNat [])) h:=by
 obtain ⟨a,cap,rfl,hl,hm,hb,hsz,hc⟩:=sl_inv hx
 obtain ⟨m,rfl⟩:=Int.eq_ofNat_of_zero_le h0
 have hm':m<rows.length:=by omega
 have hr:rows[m]? = some (rows.getD m []):=by simp [List.getD,hm']
 obtain ⟨a0,rfl,hc2⟩:=hc m _ hr
 refine .pure (v:=.pointer (some (a0.add (m * ti.size)))) ?_ ?_ S
 ·simp [Instr.indexAt,asIntOf,underlying,hu,run_sizeOf hi,hm']
 ·simp only [Int.toNat_natCast]
  have hex:∀ j,j<(rows.getD m []).length→∃ u,∀ d,(rows.getD m [])[j]? = some d→w.cell? ((a0.add (m * ti.size)).add j)=some u∧¬ Own M ρ a0.block∧RepD w (Own M ρ) d u:=by
   intro j hj
   obtain ⟨u,k1,k2,k3⟩:=hc2 j _ (zB hj)
   refine ⟨u,fun d hd=>?_⟩
   rw [zB hj] at hd;cases hd
   rw [add_add,← he]
   exact ⟨k1,k2,k3⟩
  obtain ⟨f,hf⟩:=choose_lt hex
  refine .iptr f (fun j d hj=>?_) (fun j d hj=>?_)
  ·have:=hf j (zA.1 hj).1 d hj
   rw [add_block];exact ⟨this.1,this.2.1⟩
  ·exact (hf j (zA.1 hj).1 d hj).2.2
theorem ref_inv {id N off len:Nat} {full:Bool} {e:Elt} {rows:List (List A)} {v:Value} (hx:RepA w M ρ h (.ref id N off len full) v) (hid:h[id]? = some (.cells e rows)) (hN:N=rows.length) :
  (v = .slice none 0 0∧rows=[]∧off=0∧len=0∧ρ[id]? = some none) ∨
  ∃ b p o cap,ρ[id]? = some (some (b,p))∧v = .slice (some ⟨b,o,none⟩) len cap∧off+len≤rows.length∧len≤cap∧cap≤maxLen∧(cap=0∨o=off * e.sz)∧(off+cap) * e.sz≤p∧(full=true→rows.length≤off+cap):=by
 cases hx with
 | stale hh hN' _=>rw [hid] at hh;cases hh;omega
 | ref0 hh hp=>rw [hid] at hh;cases hh;exact .inl ⟨rfl,rfl,rfl,rfl,hp⟩
 | ref hh hp hlen hcap hm ho hphys hfull=>rw [hid] at hh;cases hh;exact .inr ⟨_,_,_,_,hp,rfl,hlen,hcap,hm,ho,hphys,hfull⟩
theorem does_iaddr_ref {t et:TypeId} {ti:TypeInfo} {e:Elt} {rows:List (List A)} {id N off len:Nat} {full:Bool} {v:Value} {k:IntKind} {n:Int} (S:SimH w M ρ h) (hu:P.underlying t=some (.slice et))
  (hi:P.info? et=some ti) (he:e.sz=ti.size) (hid:h[id]? = some (.cells e rows)) (hN:N=rows.length) (hx:RepA w M ρ h (.ref id N off len full) v) (h0:0≤n) (h1:n<len) :
  Does P (do pure (.value (← Instr.indexAt t v (.int k n)))) w M ρ h (.ptr id N (off+n.toNat) 0) h:=by
 obtain ⟨m,rfl⟩:=Int.eq_ofNat_of_zero_le h0
 have hm':m<len:=by omega
 rcases ref_inv hx hid hN with ⟨_,_,_,rfl,_⟩ | ⟨b,p,o,cap,hp,rfl,hlen,hcap,hm,ho,hphys,hfull⟩
 ·omega
 ·have ho':o=off * e.sz:=ho.resolve_left (by omega)
  subst ho'
  refine .pure (v:=.pointer (some ((⟨b,off * e.sz,none⟩:Addr).add (m * ti.size)))) ?_ ?_ S
  ·simp [Instr.indexAt,asIntOf,underlying,hu,run_sizeOf hi,hm']
  ·have:=RepA.ptr (w:=w) (M:=M) (ρ:=ρ) (h:=h) (i:=off+m) (off:=0) hid hp
   rw [add_off,← he,← Nat.add_mul,hN]
   simpa using this
end Go.Proofs.YtlllnjhgjijnkaaDoor.Nx

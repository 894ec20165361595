import Derived.Test.YtlllnjhgjijnkaaGreatDoorNxCore
import Derived.Laws.BytesArg
import Derived.RangeFuncRecord
set_option linter.all false
open List renaming getElem?_eq_some_iff → zA, getElem?_eq_getElem → zB, getElem?_map → zK, getElem?_set_self → zN, append_assoc → zS, map_cons → zU, mem_cons_self → zW, mem_of_getElem? → zY, mem_cons_of_mem → zZ, length_map → zg, getElem?_range → zj, getElem?_eq_none → zk, getElem?_drop → zl
open Option.some renaming injEq → zH
open Nat renaming le_refl → zL, mul_le_mul_right → zX
open Array renaming getD_eq_getD_getElem? → zR
open Option renaming map_eq_some_iff → zT
open Bool renaming and_eq_true → zf
open List renaming getElem?_take_of_lt → aA, range → aC, mem_of_mem_take → aD, mem_of_mem_drop → aF, getElem?_append → aG, length_range → aH, size_toArray → aK, getElem?_replicate_of_lt → aM, length_replicate → aQ, length_pos_iff → aS, mem_map → aT, mem_or_eq_of_mem_set → aV, all_eq_true → aW, getD → aX, mem_append → bA, set_getElem_self → bB, replicate → bC, mem_replicate → bE, ext_getElem? → bF, append_nil → bN
open Nat renaming add_mul → aB, add_zero → aI, le_trans → aJ, add_sub_cancel_left → aL, add_assoc → aN, max_eq_right → aO, mul_one → aR, lt_of_lt_of_le → aU, mul_comm → aY, zero_add → bG, mod_eq_of_lt → bH, min_le_right → bJ, mul_add_mod → bK, max_eq_left → bM
open Bool renaming false_eq_true → aE
open Int renaming eq_ofNat_of_zero_le → aP, tmod_nonneg → bL
open Option renaming map_some → aZ, isSome_none → bD, getD_some → bI
namespace Go.Proofs.YtlllnjhgjijnkaaGreatDoor.Nx
open Go
section
variable {P:Program}{w w':World}{M:Nat→Prop}{ρ ρ':fJ}{h h':cM}
def iI(P:Program)(sem:Sem Next)(w:World)(M:Nat→Prop)(ρ:fJ)(h:cM)(r:A)(h':cM):Prop :=
 ∃ v w' ρ',(sem.run P w = .ok (.value v) w'∨(v=undef∧sem.run P w = .ok .skip w'))∧RepA w' M ρ' h' r v∧SimH w' M ρ' h'∧Evo h.length h ρ w h' ρ' w'
theorem iI.pure{sem:Sem Next}{v:Value}{r:A}(hr:sem.run P w = .ok (.value v) w)(hv:RepA w M ρ h r v)(S:SimH w M ρ h):iI P sem w M ρ h r h :=
 ⟨v,w,ρ,.inl hr,hv,S,.refl _ _ _ _ (zL _)⟩
def Env(w:World)(M:Nat→Prop)(ρ:fJ)(h:cM)(ev:XO→A)(e:Operand→Value):Prop :=
 ∀ x y,cO x=some y→RepA w M ρ h (ev y) (e x)
theorem Zl{v:Value}(hv:kOk v=true):RepA w M ρ h (kOf v) v:=by
 unfold kOf;split
 ·exact .nil
 ·refine .d (.sc ?_);unfold kOk at hv;unfold Iq;cases v<;>simp_all
theorem aEM{v:Value}(hv:kOk v=true):v.oneCell'=true:=by
 cases v<;>first | rfl | simp[kOk] at hv
theorem RepD.one{X:Nat→Prop}{x:D}{v:Value}(hx:RepD w X x v):v.oneCell'=true:=by
 cases hx with
 | sc h=>cases v<;>first | rfl | exact h.elim
 | nil _=>rfl
 | sl=>rfl
theorem RepA.oneV{x:A}{v:Value}(hx:RepA w M ρ h x v)(h1:x.one=true):v.oneCell'=true:=by
 cases hx<;>first | rfl | assumption | (simp[A.one] at h1;done) | skip
 exact RepD.one (by assumption)
theorem RepA.ok{x:A}{v:Value}(hx:RepA w M ρ h x v)(h1:x.okCells=true) :
  v.cells.size=x.cells.length∧(∀ u∈v.cells.toList,u.oneCell'=true)∧∀ (j:Nat) (y:A),x.cells[j]? = some y→RepA w M ρ h y (v.cells.getD j undef):=by
 have key:∀ x:A,x.one=true→RepA w M ρ h x v→x.cells=[x]→v.cells.size=x.cells.length∧(∀ u∈v.cells.toList,u.oneCell'=true)∧∀ (j:Nat) (y:A),x.cells[j]? = some y→RepA w M ρ h y (v.cells.getD j undef):=by
  intro x h1 hx hc;have ho:=hx.oneV h1;have hv:v.cells = #[v]:=by cases v<;>first | rfl | simp[Value.oneCell'] at ho
  rw[hc,hv];refine⟨rfl,by simpa using ho,fun j y hj=>?_⟩;cases j with
  | zero=>simp at hj;subst hj;simpa using hx
  | succ j=>simp at hj
 cases x with
 | agg l =>
  cases hx with
  | agg hl ho hr=>exact⟨hl,ho,hr⟩
 | any=>simp[A.okCells,A.one] at h1
 | tup l=>simp[A.okCells,A.one] at h1
 | _=>exact key _ h1 hx rfl
theorem aMr{x:Operand}{y:XO}(hc:cO x=some y){s:Nat→A}{a:Act}(hs:∀ n,RepA w M ρ h (s n) (nY a.tmps n)) :
  RepA w M ρ h (ev s y) (a.eval x):=by
 unfold cO at hc;split at hc
 ·rename_i t;split at hc
  ·rename_i cY;cases hc;have:=hs t;rw[nY,if_pos cY] at this;exact this
  ·cases hc
 ·rename_i cs;split at hc
  ·cases hc;rename_i sC;rw[aW] at sC;refine .agg (by simp) (fun v hv=>aEM (sC v hv)) (fun j y hj=>?_);simp only[zK,zT] at hj;obtain⟨v,hv,rfl⟩:=hj;have h1:cs.getD j undef=v:=by
    have:cs[j]? = some v:=by simpa using hv
    simp[zR,this]
   rw[h1];exact Zl (sC v (zY hv))
  ·cases hc
 ·split at hc
  ·cases hc;exact Zl ‹_›
  ·cases hc
 ·cases hc;exact .fn rfl (fun j x hj=>by simp at hj)
 ·rename_i g;cases hc;have:=hs (iY+g);have hn:¬ iY+g<iY:=by omega
  rw[nY,if_neg hn,aL] at this;exact this
theorem aA7{cs:Array Value}{j:Nat}{v:Value}(hv:cs.toList[j]? = some v):cs.getD j undef=v:=by
 have:cs[j]? = some v:=by simpa using hv
 simp[zR,this]
theorem getD_some{cs:Array Value}{j:Nat}(hj:j<cs.size):cs[j]? = some (cs.getD j undef):=by
 simp[zR,hj]
theorem Cd{t:TypeId}{z:List A}(hz:zeroCells? P t=some z) :
  ∃ i zv,P.info? t=some i∧i.zero=some zv∧zv.cells.size=i.size∧z.length=i.size∧(∀ u∈zv.cells.toList,u.oneCell'=true) ∧
   ∀ (j:Nat) (y:A),z[j]? = some y→RepA w M ρ h y (zv.cells.getD j undef):=by
 unfold zeroCells? at hz;split at hz
 ·rename_i i hi;split at hz
  ·rename_i zv hzv;split at hz
   ·rename_i hc;cases hz;have sC:=aW.1 hc.2;refine⟨i,zv,hi,hzv,hc.1,by simp[hc.1],fun u hu=>aEM (sC u hu),fun j y hj=>?_⟩;simp only[zK,zT] at hj;obtain⟨v,hv,rfl⟩:=hj;rw[aA7 hv];exact Zl (sC v (zY hv))
   ·cases hz
  ·cases hz
 ·cases hz
theorem pH{t:TypeId}{e:Elt}(he:elt? P t=some e):∃ i,P.info? t=some i∧e=⟨i.size,i.bytes⟩:=by
 unfold elt? at he;cases hi:P.info? t with
 | none=>simp[hi] at he
 | some i=>simp[hi] at he;exact⟨i,rfl,he.symm⟩
theorem uB{e:Elt}(h:vO e=true):0<e.sz∧e.bytes≤dL:=by
 simpa[vO] using h
theorem tV{pl:Option Nat}{B:HB}{K:Nat→cM→Prop}(hK:gP pl h B K)(x:Option (Nat × Nat)):∃ id h1 ρ1,NewAt h ρ B x pl id h1 ρ1∧K id h1:=by
 cases pl with
 | none=>exact⟨_,_,_,.push,hK⟩
 | some a=>exact⟨_,_,_,.set hK.1,hK.2⟩
theorem aA8{sem:Sem Next}{cs:Array Value}{l:List A}{e:Elt}{pl:Option Nat}{K:A→cM→Prop}(t:TypeId)(bnd:∀ b,M b→b<w.heap.size)(S:SimH w M ρ h)(hs:vO e=true)(hl:cs.size=l.length)(hn:l.length=e.sz)
  (ho:∀ u∈cs.toList,u.oneCell'=true) (hr:∀ (j:Nat) (y:A),l[j]? = some y→RepA w M ρ h y (cs.getD j undef))
  (fE:sem.run P w = .ok (.value (.pointer (some ⟨w.heap.size,0,none⟩))) (w.alloc (.cells cs t))) (hK:gP pl h (.cells e [l]) fun id h1=>K (.ptr id 1 0 0) h1) :
  ∃ r h',K r h'∧iI P sem w M ρ h r h':=by
 obtain⟨h0,hb⟩:=uB hs;obtain⟨id,h1,ρ1,n,hK⟩:=tV (ρ:=ρ) hK (some (w.heap.size,cs.size));have S':SimH (w.alloc (.cells cs t)) M ρ1 h1:=by
  refine S.newCells bnd t n h0 (by simpa using hb) (by simp[maxLen]) (by simpa using hn) (by simp;omega) (fun i r j x hi hj=>?_);have hi0:i=0:=by
   have:=(zA.1 hi).1;simp at this;exact this
  subst hi0;simp at hi;subst hi;have Zj:j<cs.size:=by rw[hl];exact(zA.1 hj).1
  refine⟨cs.getD j undef,by simpa using getD_some Zj,ho _ ?_,hr j x hj⟩;have:=getD_some Zj;exact zY (i:=j) (by simpa using this)
 refine⟨_,_,hK,_,_,ρ1,.inl fE,?_,S',.newAlloc n S.len⟩;have:=RepA.ptr (w:=w.alloc (.cells cs t)) (M:=M) (ρ:=ρ1) (i:=0) (off:=0) (p:=cs.size) n.heap (n.phys S.len);simpa using this
theorem Ea(t:TypeId)(hk:xI P t=true):(isAgg t).run P w = .ok (sG P t) w:=by
 unfold xI at hk;cases hu:P.underlying t with
 | none=>simp[hu] at hk
 | some d=>cases d<;>simp[isAgg,underlying,hu,sG]
theorem hU{t:TypeId}{i:TypeInfo}(hi:P.info? t=some i):(sizeOf t).run P w = .ok i.size w:=by
 simp[sizeOf,typeInfo,hi]
theorem xJ{α:Type}[Inhabited α]{n:Nat}{p:Nat→α→Prop}(hp:∀ i,i<n→∃ x,p i x):∃ f:Nat→α,∀ i,i<n→p i (f i):=by
 refine⟨fun i=>if hi:i<n then Classical.choose (hp i hi) else default,fun i hi=>?_⟩;simp only[hi,dif_pos];exact Classical.choose_spec (hp i hi)
def Zm(w:World)(M:Nat→Prop)(ρ:fJ)(h:cM)(a:Addr)(l:List A):Prop :=
 ∀ (j:Nat) (y:A),l[j]? = some y→∃ u,w.cell? (a.add j)=some u∧u.oneCell'=true∧RepA w M ρ h y u
theorem Cf{t:TypeId}{i:TypeInfo}{a:Addr}{l:List A}{K:A→Prop}(hk:xI P t=true)(hi:P.info? t=some i)(hc:Zm w M ρ h a l)
  (hK:dI i.size (sG P t) l K):∃ r v,K r∧(loadVar t a).run P w = .ok v w∧RepA w M ρ h r v:=by
 unfold dI at hK;cases hg:sG P t with
 | true =>
  simp only[hg,if_true] at hK;obtain⟨hn,hK⟩:=hK;have sC:∀ j,j<i.size→∃ u,w.cell? (a.add j)=some u∧u.oneCell'=true∧∀ y,l[j]? = some y→RepA w M ρ h y u:=by
   intro j hj;obtain⟨u,h1,h2,h3⟩:=hc j _ (zB (by omega));exact⟨u,h1,h2,fun y hy=>by rw[zB (by omega)] at hy;cases hy;exact h3⟩
  obtain⟨f,hf⟩:=xJ sC;have hl:=run_loadCells (P:=P) w a i.size f (fun j hj=>(hf j hj).1);refine⟨_,_,hK,by simp[loadVar,Ea t hk,hg,hU hi,hl];rfl,?_⟩;refine .agg (by simp;omega) ?_ ?_
  ·intro u hu;simp at hu;obtain⟨j,hj,rfl⟩:=hu;exact(hf j hj).2.1
  ·intro j y hj;have hj1:j<i.size:=by
    have:=(zA.1 hj).1;simp at this;omega
   rw[aA hj1] at hj;have:=(hf j hj1).2.2 y hj;simpa[zR,hj1] using this
 | false =>
  simp only[hg] at hK;cases l with
  | nil=>simp at hK
  | cons c l =>
   obtain⟨u,h1,_,h3⟩:=hc 0 c rfl;have Gb:w.cell? a=some u:=by simpa[Addr.add] using h1
   exact⟨c,u,by simpa using hK,by simp[loadVar,Ea t hk,hg,Gb],h3⟩
theorem Zn{n:Nat}{g:Bool}{l:List A}{K K':A→Prop}(hk:∀ a,K a→K' a)(h:dI n g l K):dI n g l K':=by
 unfold dI at *;split
 ·rename_i hg;simp only[hg,if_true] at h;exact⟨h.1,hk _ h.2⟩
 ·rename_i hg;simp only[hg] at h;cases l with
  | nil=>simp at h
  | cons c l=>exact hk _ (by simpa using h)
theorem nZ(S:SimH w M ρ h){id:Nat}{e:Elt}{rows:List (List A)}(hid:h[id]? = some (.cells e rows)){b p:Nat}(hρ:ρ[id]? = some (some (b,p))){i:Nat}{r:List A}(hi:rows[i]? = some r)(off:Nat) :
  Zm w M ρ h ⟨b,i * e.sz+off,none⟩ (r.drop off):=by
 intro j y hj;obtain⟨_,_,_,_,h5⟩:=S.cells id e rows hid;rcases h5 with⟨h5,_⟩ | ⟨b',p',cs,t,h5,_,h7,h8,_,Ve⟩
 ·rw[hρ] at h5;cases h5
 ·rw[hρ] at h5;cases h5;rw[zl] at hj;obtain⟨v,k1,k2,k3⟩:=Ve i r (off+j) y hi hj;refine⟨v,?_,k2,k3⟩;rw[kM];simp only[World.cell?,h7,bD,aE,if_false];rw[aN];exact k1
theorem aC5{cs:List D}{a:Addr}(hx:RepA w M ρ h (.iptr cs) (.pointer (some a))):Zm w M ρ h a (cs.map .d):=by
 cases hx with
 | iptr u hc hr =>
  intro j y hj;simp only[zK,zT] at hj;obtain⟨d,hd,rfl⟩:=hj;exact⟨u j,(hc j d hd).1,(hr j d hd).one,.d (hr j d hd)⟩
theorem Qh(t:TypeId)(a:Addr):(Instr.loadAt t (.pointer (some a))).run P w=(loadVar t a).run P w:=by
 simp[Instr.loadAt,Instr.sureAddr]
theorem vP{id N i off:Nat}{e:Elt}{rows:List (List A)}{v:Value}(hx:RepA w M ρ h (.ptr id N i off) v)(hid:h[id]? = some (.cells e rows))(hN:N=rows.length) :
  ∃ b p,ρ[id]? = some (some (b,p))∧v = .pointer (some ⟨b,i * e.sz+off,none⟩):=by
 cases hx with
 | ptr hh hp=>rw[hid] at hh;cases hh;exact⟨_,_,hp,rfl⟩
 | pstale hh hN' _=>rw[hid] at hh;cases hh;omega
 | obj hh _=>rw[hid] at hh;cases hh
theorem aFE{t:TypeId}{i:TypeInfo}{x:A}{v:Value}{K:A→cM→Prop}(S:SimH w M ρ h)(hk:xI P t=true)(hi:P.info? t=some i)(hx:RepA w M ρ h x v)
  (hK:match (generalizing:=false) x with
   | .ptr id N i' off=>match h[id]? with
    | some (.cells _ rows)=>N=rows.length∧match rows[i']? with
     | some r=>dI i.size (sG P t) (r.drop off) fun a=>K a h
     | none=>False
    | _=>False
   | .iptr cs=>dI i.size (sG P t) (cs.map .d) fun a=>K a h
   | _=>False) :
  ∃ r h',K r h'∧iI P (do pure (.value (← Instr.loadAt t v))) w M ρ h r h':=by
 cases x with
 | ptr id N i' off =>
  dsimp only at hK;split at hK
  ·rename_i e rows hid;obtain⟨hN,hK⟩:=hK;split at hK
   ·rename_i r hr;obtain⟨b,p,hρ,rfl⟩:=vP hx hid hN;obtain⟨a,u,hKa,fE,nD⟩:=Cf (P:=P) hk hi (nZ S hid hρ hr _) hK;exact⟨a,h,hKa,.pure (by simp[Qh,fE]) nD S⟩
   ·exact hK.elim
  ·exact hK.elim
 | iptr cs =>
  obtain⟨a,rfl⟩:∃ a,v = .pointer (some a):=by cases hx;exact⟨_,rfl⟩
  obtain⟨a,u,hKa,fE,nD⟩:=Cf (P:=P) hk hi (aC5 hx) hK;exact⟨a,h,hKa,.pure (by simp[Qh,fE]) nD S⟩
 | _=>exact hK.elim
theorem wF{l new:List A}{off:Nat}(hl:off+new.length≤l.length):(splice l off new).length=l.length:=by
 simp[splice];omega
theorem Qi{l new:List A}{off j:Nat}{y:A}(hl:off+new.length≤l.length)(hj:(splice l off new)[j]? = some y) :
  (off≤j∧j<off+new.length∧new[j-off]? = some y)∨((j<off∨off+new.length≤j)∧l[j]? = some y):=by
 unfold splice at hj;rw[zS,aG] at hj;have h1:(l.take off).length=off:=by simp;omega
 rw[h1] at hj;split at hj
 ·rename_i cY;rw[aA cY] at hj;exact .inr ⟨.inl cY,hj⟩
 ·rename_i vX;rw[aG] at hj;split at hj
  ·rename_i cY;exact .inl ⟨by omega,by omega,hj⟩
  ·rename_i aLW;rw[zl] at hj;exact .inr ⟨.inr (by omega),by rw[← hj];congr 1;omega⟩
theorem uC{g:Nat}{cur cs:Array Value}{t:TypeId}(hg:w.heap[g]? = some (.cells cur t (0,0))):Differs g w (w.setRow g cs)∧(w.setRow g cs).heap[g]? = some (.cells cs t (0,0)):=by
 refine⟨⟨rfl,rfl,rfl,by simp[World.setRow],fun k hk=>?_⟩,setRow_heap w g cur _ t _ hg⟩;simp[World.setRow,Array.getElem?_modify,Ne.symm hk]
theorem Pm{cur:Array Value}{new:Array Value}{o j:Nat}(hl:o+new.size≤cur.size) :
  (cur.toList.take o++new.toList++cur.toList.drop (o+new.toList.length)).toArray[j]? = if o≤j∧j<o+new.size then new[j-o]? else cur[j]? := by
 have h1:(cur.toList.take o).length=o:=by simp;omega
 rw[List.getElem?_toArray,zS,aG,h1];split
 ·rename_i cY;rw[if_neg (by omega),aA cY];simp
 ·rename_i vX;rw[aG];split
  ·rename_i cY;rw[if_pos (by simp at cY;omega)];simp
  ·rename_i aLW;rw[if_neg (by simp at aLW;omega),zl];simp at aLW ⊢;congr 1;omega
theorem Qj{sz i j i' j':Nat}(hj:j<sz)(Zj:j'<sz)(h:i * sz+j=i' * sz+j'):i=i'∧j=j':=by
 have h1:i=i':=by
  rcases Nat.lt_trichotomy i i' with cY | he | hgt
  ·have:(i+1) * sz≤i' * sz:=zX _ cY;rw[aB] at this;omega
  ·exact he
  ·have:(i'+1) * sz≤i * sz:=zX _ hgt;rw[aB] at this;omega
 subst h1;exact⟨rfl,by omega⟩
theorem aC6{t:TypeId}{ti:TypeInfo}{id N i off:Nat}{y:A}{v u:Value}{e:Elt}{rows:List (List A)}{r:List A}(S:SimH w M ρ h)(hi:P.info? t=some ti)
  (hx:RepA w M ρ h (.ptr id N i off) v) (hy:RepA w M ρ h y u) (hid:h[id]? = some (.cells e rows)) (hN:N=rows.length) (lG:y.okCells=true) (hn:y.cells.length=ti.size)
  (hr:rows[i]? = some r) (aQZ:off+ti.size≤r.length) :
  iI P (do Instr.storeAt t v u;pure .skip) w M ρ h .any (h.set id (.cells e (rows.set i (splice r off y.cells)))):=by
 obtain⟨b,p,hρ,rfl⟩:=vP hx hid hN;obtain⟨hs1,hs2,hs3⟩:=hy.ok lG;obtain⟨g1,g2,g3,g4,g5⟩:=S.cells id e rows hid;rcases g5 with⟨g5,_⟩ | ⟨b',p',cs,ty,g5,_,g7,g8,g9,g10⟩
 ·rw[hρ] at g5;cases g5
 rw[hρ] at g5;cases g5;have hir:i<rows.length:=(zA.1 hr).1;have Mu:r.length=e.sz:=g4 r (zY hr);have Qe:i * e.sz+e.sz≤cs.size:=by
  have:(i+1) * e.sz≤rows.length * e.sz:=zX _ hir;rw[aB] at this;omega
 have mO:=run_storeCells_at P b (i * e.sz+off) ty u.cells.toList 0 cs w g7 (by simp;omega) hs2;rw[aI] at mO;obtain⟨hd,hh⟩:=uC (cs:=(cs.toList.take (i * e.sz+off)++u.cells.toList++cs.toList.drop (i * e.sz+off+u.cells.toList.length)).toArray) g7;have mB:u.cells.size=ti.size:=by rw[hs1,hn]
 refine⟨undef,_,ρ,.inr ⟨rfl,?_⟩,.any,S.put hid hρ hd (by simp) hh (by simp;omega) (by simpa using g2) (by simpa using g3) ?_ (by simpa using g9) ?_,.put hid hρ hd (by simp)⟩
 ·simp[Instr.storeAt,Instr.sureAddr,storeVar,hU hi,mB];simpa[mB] using congrArg (fun x=>x.andThen fun _ w=>Result.ok Next.skip w) mO
 ·intro r' qC;rcases aV qC with qC | rfl
  ·exact g4 r' qC
  ·rw[wF (by omega),Mu]
 ·intro i' r' j x nX hj;have aKb:=Pm (cur:=cs) (new:=u.cells) (o:=i * e.sz+off) (j:=i' * e.sz+j) (by omega);rw[aKb];rcases jV nX with⟨rfl,rfl⟩ | ⟨fM,nX⟩
  ·have qO:j<e.sz:=by
    have:=(zA.1 hj).1;rw[wF (by omega)] at this;omega
   rcases Qi (by omega) hj with⟨k1,k2,k3⟩ | ⟨k1,k2⟩
   ·rw[if_pos (by omega)];have hjj:i' * e.sz+j-(i' * e.sz+off)=j-off:=by omega
    rw[hjj];have cY:j-off<u.cells.size:=by omega
    exact⟨_,getD_some cY,hs2 _ (zY (i:=j-off) (by simpa using getD_some cY)),hs3 _ _ k3⟩
   ·rw[if_neg (by omega)];exact g10 _ r j x hr k2
  ·have aRi:r'.length=e.sz:=g4 r' (zY nX);have qO:j<e.sz:=by have:=(zA.1 hj).1;omega
   rw[if_neg ?_]
   ·exact g10 _ _ _ _ nX hj
   ·rintro⟨q1,q2⟩;have hq:i' * e.sz+j=i * e.sz+(i' * e.sz+j-i * e.sz):=by omega
    exact fM (Qj qO (by omega) hq).1
theorem Pn(a:Addr)(i j:Nat):(a.add i).add j=a.add (i+j):=by
 unfold Addr.add
 by_cases hi:i=0<;>by_cases hj:j=0<;>simp[hi,hj,aN]
theorem aC7{t:TypeId}{f:Nat}{fs:Array Field}{fd:Field}{ti:TypeInfo}{x:A}{v:Value}{K:A→cM→Prop}(S:SimH w M ρ h)(hu:P.underlying t=some (.struct fs))(hf:fs[f]? = some fd)
  (hi:P.info? fd.type=some ti) (hz:ti.size≠0) (hx:RepA w M ρ h x v)
  (hK:match (generalizing:=false) x with
   | .ptr id N i o=>match h[id]? with
    | some (.cells _ rows)=>N=rows.length∧K (.ptr id N i (o+fd.offset)) h
    | _=>False
   | .iptr cs=>K (.iptr (cs.drop fd.offset)) h
   | _=>False) :
  ∃ r h',K r h'∧iI P (do pure (.value (← Instr.fieldAt t v f))) w M ρ h r h':=by
 have run:∀ a,(Instr.fieldAt t (.pointer (some a)) f).run P w = .ok (.pointer (some (a.add fd.offset))) w:=by
  intro a;simp[Instr.fieldAt,underlying,hu,hf,Instr.sureAddr,fieldPlace,hU hi,hz]
 cases x with
 | ptr id N i o =>
  dsimp only at hK;split at hK
  ·rename_i e rows hid;obtain⟨hN,hK⟩:=hK;obtain⟨b,p,hρ,rfl⟩:=vP hx hid hN;refine⟨_,_,hK,.pure (by simp[run];rfl) ?_ S⟩;rw[kM,aN,hN];exact .ptr hid hρ
  ·exact hK.elim
 | iptr cs =>
  cases hx with
  | iptr u hc hr =>
   refine⟨_,_,hK,.pure (by simp[run];rfl) ?_ S⟩;refine .iptr (fun j=>u (fd.offset+j)) (fun j d hj=>?_) (fun j d hj=>?_)
   ·rw[zl] at hj;rw[Pn,lD];exact hc _ d hj
   ·rw[zl] at hj;exact hr _ d hj
 | _=>exact hK.elim
theorem Is{t:TypeId}{i:TypeInfo}{cs:Array Value}{l:List A}{off:Nat}{K:A→Prop}(hk:xI P t=true)(hi:P.info? t=some i)(hx:RepA w M ρ h (.agg l) (.agg cs))
  (hK:dI i.size (sG P t) (l.drop off) K):∃ r v,K r∧(part t cs off).run P w = .ok v w∧RepA w M ρ h r v:=by
 cases hx with
 | agg hl ho hr =>
 unfold dI at hK;cases hg:sG P t with
 | true =>
  simp only[hg,if_true] at hK;obtain⟨hn,hK⟩:=hK;simp at hn;refine⟨_,_,hK,by simp[part,Ea t hk,hg,hU hi];rfl,?_⟩
  by_cases h0:i.size=0
  ·rw[h0];exact .agg (by simp;omega) (fun u hu=>ho u (by simp at hu)) (fun j x hj=>by simp at hj)
  refine .agg (by simp;omega) ?_ ?_
  ·intro u hu;simp at hu;exact ho u (aF (aD hu))
  ·intro j y hj;have hj1:j<i.size:=by
    have:=(zA.1 hj).1;simp at this;omega
   rw[aA hj1,zl] at hj;have:=hr _ y hj;have cY:off+j<cs.size:=by rw[hl];exact(zA.1 hj).1
   have e:(cs.extract off (off+i.size))[j]? = cs[off+j]? := by
    rw[Array.getElem?_extract,if_pos (by omega)]
   simpa[zR,e] using this
 | false =>
  simp only[hg] at hK;cases hd:l.drop off with
  | nil=>simp[hd] at hK
  | cons c r =>
   have hc:l[off]? = some c:=by
    have:=zl (xs:=l) (i:=off) (j:=0);rw[hd] at this;simpa using this.symm
   have cY:off<cs.size:=by rw[hl];exact(zA.1 hc).1
   have hs:=getD_some cY;have nD:=hr _ c hc;generalize cs.getD off undef=u at hs nD;exact⟨c,u,by simpa[hd] using hK,by simp[part,Ea t hk,hg,hs],nD⟩
theorem aC8{t:TypeId}{f:Nat}{fs:Array Field}{fd:Field}{ti:TypeInfo}{x:A}{v:Value}{K:A→cM→Prop}(S:SimH w M ρ h)(hu:P.underlying t=some (.struct fs))(hf:fs[f]? = some fd)
  (hk:xI P fd.type=true) (hi:P.info? fd.type=some ti) (hx:RepA w M ρ h x v)
  (hK:match (generalizing:=false) x with
   | .agg cs=>dI ti.size (sG P fd.type) (cs.drop fd.offset) fun a=>K a h
   | _=>False) :
  ∃ r h',K r h'∧iI P (do pure (.value (← Instr.field t v f))) w M ρ h r h':=by
 cases x with
 | agg l =>
  obtain⟨cs,rfl⟩:∃ cs,v = .agg cs:=by cases hx;exact⟨_,rfl⟩
  obtain⟨a,u,hKa,fE,nD⟩:=Is (P:=P) hk hi hx hK;have h1:(Instr.field t (.agg cs) f).run P w = .ok u w:=by
   unfold Instr.field;rw[Sem.run_bind,run_underlying hu];simp only[Result.andThen_ok,hf,asAgg,Sem.run_bind,Sem.run_pure];exact fE
  exact⟨a,h,hKa,.pure (by rw[Sem.run_bind,h1];rfl) nD S⟩
 | _=>exact hK.elim
theorem aEN{X:Nat→Prop}{e:Elt}{rows:List (List D)}{n cap:Nat}(hx:RepD w X (.sl e rows) (.slice none n cap)):rows=[]∧n=0∧cap=0:=by
 cases hx with
 | nil hm h0=>exact⟨rfl,rfl,h0 rfl⟩
theorem yR{X:Nat→Prop}{e:Elt}{rows:List (List D)}{v:Value}(hx:RepD w X (.sl e rows) v) :
  ∃ a cap,v = .slice a rows.length cap∧rows.length≤cap∧cap≤maxLen∧rows.length * e.bytes≤dL∧(∀ r∈rows,r.length=e.sz) ∧
   ∀ (i:Nat) (r:List D),rows[i]? = some r→∃ a0,a=some a0∧∀ (j:Nat) (d:D),r[j]? = some d→∃ u,w.cell? (a0.add (i * e.sz+j))=some u∧¬ X a0.block∧RepD w X d u:=by
 cases hx with
 | nil hm _=>exact⟨_,_,rfl,Nat.zero_le _,hm,by simp,by simp,fun i r hi=>by simp at hi⟩
 | sl u hl hm hb mB hc hr =>
  exact⟨_,_,rfl,hl,hm,hb,mB,fun i r hi=>⟨_,rfl,fun j d hj=>⟨u i j,(hc i r j d hi hj).1,(hc i r j d hi hj).2,hr i r j d hi hj⟩⟩⟩
theorem wG{t et:TypeId}{ti:TypeInfo}{e:Elt}{rows:List (List D)}{v:Value}{k:IntKind}{n:Int}(S:SimH w M ρ h)(hu:P.underlying t=some (.slice et))
  (hi:P.info? et=some ti) (he:e.sz=ti.size) (hx:RepD w (vH M ρ) (.sl e rows) v) (h0:0≤n) (h1:n<rows.length) :
  iI P (do pure (.value (← Instr.indexAt t v (.int k n)))) w M ρ h (.iptr (rows.getD n.toNat [])) h:=by
 obtain⟨a,cap,rfl,hl,hm,hb,mB,hc⟩:=yR hx;obtain⟨m,rfl⟩:=aP h0;have hm':m<rows.length:=by omega
 have hr:rows[m]? = some (rows.getD m []):=by simp[aX,hm']
 obtain⟨a0,rfl,hc2⟩:=hc m _ hr;refine .pure (v:=.pointer (some (a0.add (m * ti.size)))) ?_ ?_ S
 ·simp[Instr.indexAt,asIntOf,underlying,hu,hU hi,hm']
 ·simp only[Int.toNat_natCast];have Bu:∀ j,j<(rows.getD m []).length→∃ u,∀ d,(rows.getD m [])[j]? = some d→w.cell? ((a0.add (m * ti.size)).add j)=some u∧¬ vH M ρ a0.block∧RepD w (vH M ρ) d u:=by
   intro j hj;obtain⟨u,k1,k2,k3⟩:=hc2 j _ (zB hj);refine⟨u,fun d hd=>?_⟩;rw[zB hj] at hd;cases hd;rw[Pn,← he];exact⟨k1,k2,k3⟩
  obtain⟨f,hf⟩:=xJ Bu;refine .iptr f (fun j d hj=>?_) (fun j d hj=>?_)
  ·have:=hf j (zA.1 hj).1 d hj;rw[lD];exact⟨this.1,this.2.1⟩
  ·exact(hf j (zA.1 hj).1 d hj).2.2
theorem rL{id N off len:Nat}{full:Bool}{e:Elt}{rows:List (List A)}{v:Value}(hx:RepA w M ρ h (.ref id N off len full) v)(hid:h[id]? = some (.cells e rows))(hN:N=rows.length) :
  (v = .slice none 0 0∧rows=[]∧off=0∧len=0∧ρ[id]? = some none) ∨
  ∃ b p o cap,ρ[id]? = some (some (b,p))∧v = .slice (some ⟨b,o,none⟩) len cap∧off+len≤rows.length∧len≤cap∧cap≤maxLen∧(cap=0∨o=off * e.sz)∧(off+cap) * e.sz≤p∧(full=true→rows.length≤off+cap):=by
 cases hx with
 | stale hh hN' _=>rw[hid] at hh;cases hh;omega
 | ref0 hh hp=>rw[hid] at hh;cases hh;exact .inl ⟨rfl,rfl,rfl,rfl,hp⟩
 | ref hh hp eG hcap hm ho hphys hfull=>rw[hid] at hh;cases hh;exact .inr ⟨_,_,_,_,hp,rfl,eG,hcap,hm,ho,hphys,hfull⟩
theorem Qk{t et:TypeId}{ti:TypeInfo}{e:Elt}{rows:List (List A)}{id N off len:Nat}{full:Bool}{v:Value}{k:IntKind}{n:Int}(S:SimH w M ρ h)(hu:P.underlying t=some (.slice et))
  (hi:P.info? et=some ti) (he:e.sz=ti.size) (hid:h[id]? = some (.cells e rows)) (hN:N=rows.length) (hx:RepA w M ρ h (.ref id N off len full) v) (h0:0≤n) (h1:n<len) :
  iI P (do pure (.value (← Instr.indexAt t v (.int k n)))) w M ρ h (.ptr id N (off+n.toNat) 0) h:=by
 obtain⟨m,rfl⟩:=aP h0;have hm':m<len:=by omega
 rcases rL hx hid hN with⟨_,_,_,rfl,_⟩ | ⟨b,p,o,cap,hp,rfl,eG,hcap,hm,ho,hphys,hfull⟩
 ·omega
 ·have ho':o=off * e.sz:=ho.resolve_left (by omega);subst ho';refine .pure (v:=.pointer (some ((⟨b,off * e.sz,none⟩:Addr).add (m * ti.size)))) ?_ ?_ S
  ·simp[Instr.indexAt,asIntOf,underlying,hu,hU hi,hm']
  ·have:=RepA.ptr (w:=w) (M:=M) (ρ:=ρ) (h:=h) (i:=off+m) (off:=0) hid hp;rw[kM,← he,← aB,hN];simpa using this
end
section
variable {P:Program}{w w':World}{M:Nat→Prop}{ρ ρ':fJ}{h h':cM}
def CR(w:World)(M:Nat→Prop)(ρ:fJ)(h:cM)(cells:Array Value)(cs:List A):Prop :=
 cells.size=cs.length∧(∀ u∈cells.toList,u.oneCell'=true)∧∀ (j:Nat) (y:A),cs[j]? = some y→RepA w M ρ h y (cells.getD j undef)
theorem aFF(v:List Value):∀ (k off:Nat) (cells:Array Value),off+k+v.length≤cells.size →
  ((v.zipIdx k).foldl (fun cs (p:Value × Nat)=>cs.setIfInBounds (off+p.2) p.1) cells)=(cells.toList.take (off+k)++v++cells.toList.drop (off+k+v.length)).toArray:=by
 induction v with
 | nil=>intro k off cells hl;simp
 | cons c v ih =>
  intro k off cells hl;simp only[List.zipIdx_cons,List.foldl_cons];rw[ih (k+1) off _ (by simp at hl ⊢; omega)];have e:=list_seg_step cells.toList (off+k) c v (by simp at hl ⊢; omega);simpa[Array.toList_setIfInBounds,aN] using e
theorem aA9{gP:Nat→Option (Nat × Nat)}{cells:Array Value}{i off n:Nat}{v:Value}{rest:List (Nat × Value)}(hp:gP i=some (off,n))(hn:v.cells.size=n)(hl:off+n≤cells.size) :
  Instr.fill gP cells ((i,v)::rest)=Instr.fill gP (cells.toList.take off++v.cells.toList++cells.toList.drop (off+v.cells.toList.length)).toArray rest:=by
 have hf:=aFF v.cells.toList 0 off cells (by simp;omega);simp only[aI] at hf;have hz:v.cells.zipIdx.foldl (fun cs (p:Value × Nat)=>cs.setIfInBounds (off+p.2) p.1) cells=(v.cells.toList.zipIdx).foldl (fun cs (p:Value × Nat)=>cs.setIfInBounds (off+p.2) p.1) cells:=by
  rw[← Array.foldl_toList,Array.toList_zipIdx]
 simp only[Instr.fill,hp];rw[if_neg (by simp;omega)];have:v.cells.zipIdx.foldl (fun cs x=>match x with | (c,j)=>cs.setIfInBounds (off+j) c) cells=_:=hz.trans hf;rw[this]
theorem CR.splice{cells:Array Value}{cs new:List A}{off:Nat}{v:Array Value}(hc:CR w M ρ h cells cs)(hv:CR w M ρ h v new)(hl:off+new.length≤cs.length) :
  CR w M ρ h (cells.toList.take off++v.toList++cells.toList.drop (off+v.toList.length)).toArray (Nx.splice cs off new):=by
 obtain⟨c1,c2,c3⟩:=hc;obtain⟨v1,v2,v3⟩:=hv;refine⟨by rw[wF hl];simp;omega,fun u hu=>?_,fun j y hj=>?_⟩
 ·simp at hu;rcases hu with hu | hu | hu
  ·exact c2 u (aD hu)
  ·exact v2 u (by simpa using hu)
  ·exact c2 u (aF hu)
 ·have aKb:=Pm (cur:=cells) (new:=v) (o:=off) (j:=j) (by omega);rw[zR,aKb];rcases Qi hl hj with⟨k1,k2,k3⟩ | ⟨k1,k2⟩
  ·rw[if_pos (by omega)];have:=v3 _ y k3
   rwa [zR] at this
  ·rw[if_neg (by omega)];have:=c3 _ y k2
   rwa [zR] at this
theorem RepA.cr{x:A}{v:Value}(hx:RepA w M ρ h x v)(h1:x.okCells=true):CR w M ρ h v.cells x.cells:=hx.ok h1
theorem Ql{gP:Nat→Option (Nat × Nat)}:∀ (items:List (Nat × Nat × Nat × A × Value)) (cells:Array Value) (cs:List A) {K:List A→Prop},
  (∀ it∈items,gP it.1=some (it.2.1,it.2.2.1)∧RepA w M ρ h it.2.2.2.1 it.2.2.2.2)→CR w M ρ h cells cs →
  yQ cs (items.map fun it=>(it.2.1,it.2.2.1,it.2.2.2.1)) K→∃ cells' cs',Instr.fill gP cells (items.map fun it=>(it.1,it.2.2.2.2))=some cells'∧CR w M ρ h cells' cs'∧K cs'
 | [],cells,cs,K,_,hc,hK=>⟨cells,cs,rfl,hc,hK⟩
 | (i,off,n,x,v)::items,cells,cs,K,hi,hc,hK=>by
  obtain⟨k1,k2,k3,k4⟩:=hK;obtain⟨hp,hx⟩:=hi _ (zW ..);dsimp only at hp hx k1 k2 k3 k4;have hv:=hx.cr k1;have hn:v.cells.size=n:=by rw[hv.1,k2]
  have Xg:=hc.splice hv (by omega:off+x.cells.length≤cs.length);obtain⟨cells',cs',h1,h2,h3⟩:=Ql items _ _ (fun it Fg=>hi it (zZ _ Fg)) Xg k4;refine⟨cells',cs',?_,h2,h3⟩;simp only[zU];rw[aA9 hp hn (by rw[hc.1];omega)];exact h1
def RR(w:World)(M:Nat→Prop)(ρ:fJ)(h:cM)(sz:Nat)(cells:Array Value)(rows:List (List A)):Prop :=
 cells.size=rows.length * sz∧(∀ r∈rows,r.length=sz)∧(∀ u∈cells.toList,u.oneCell'=true) ∧
  ∀ (i:Nat) (r:List A) (j:Nat) (y:A),rows[i]? = some r→r[j]? = some y→RepA w M ρ h y (cells.getD (i * sz+j) undef)
theorem RR.lt{sz:Nat}{cells:Array Value}{rows:List (List A)}(hR:RR w M ρ h sz cells rows){i j:Nat}{r:List A}{y:A}(hi:rows[i]? = some r)(hj:r[j]? = some y):i * sz+j<cells.size:=by
 have h1:i<rows.length:=(zA.1 hi).1;have h2:j<r.length:=(zA.1 hj).1;rw[hR.2.1 r (zY hi)] at h2;have:(i+1) * sz≤rows.length * sz:=zX _ h1;rw[aB] at this;rw[hR.1];omega
theorem RR.get{sz:Nat}{cells:Array Value}{rows:List (List A)}(hR:RR w M ρ h sz cells rows){i j:Nat}{r:List A}{y:A}(hi:rows[i]? = some r)(hj:r[j]? = some y) :
  ∃ v,cells[i * sz+j]? = some v∧v.oneCell'=true∧RepA w M ρ h y v:=by
 have cY:=hR.lt hi hj;have hs:=getD_some cY;exact⟨_,hs,hR.2.2.1 _ (zY (i:=i * sz+j) (by simpa using hs)),hR.2.2.2 i r j y hi hj⟩
theorem RR.set{sz:Nat}{cells:Array Value}{rows:List (List A)}{i:Nat}{new:List A}{v:Array Value}(hR:RR w M ρ h sz cells rows)(hv:CR w M ρ h v new)(hn:new.length=sz)(hi:i<rows.length) :
  RR w M ρ h sz (cells.toList.take (i * sz)++v.toList++cells.toList.drop (i * sz+v.toList.length)).toArray (rows.set i new):=by
 obtain⟨r1,r2,r3,r4⟩:=hR;obtain⟨v1,v2,v3⟩:=hv;have Qe:i * sz+sz≤cells.size:=by
  have:(i+1) * sz≤rows.length * sz:=zX _ hi;rw[aB] at this;omega
 refine⟨by simp;omega,fun r hr=>?_,fun u hu=>?_,fun i' r j y nX hj=>?_⟩
 ·rcases aV hr with hr | rfl
  ·exact r2 r hr
  ·exact hn
 ·simp at hu;rcases hu with hu | hu | hu
  ·exact r3 u (aD hu)
  ·exact v2 u (by simpa using hu)
  ·exact r3 u (aF hu)
 ·have aKb:=Pm (cur:=cells) (new:=v) (o:=i * sz) (j:=i' * sz+j) (by omega);rw[zR,aKb];rcases jV nX with⟨rfl,rfl⟩ | ⟨fM,nX⟩
  ·have qO:j<r.length:=(zA.1 hj).1;rw[if_pos (by omega)];have:=v3 j y hj;rw[zR] at this;have e:i' * sz+j-i' * sz=j:=by omega
   rw[e];exact this
  ·have qO:j<sz:=by have:=(zA.1 hj).1;rw[r2 r (zY nX)] at this;exact this
   rw[if_neg ?_]
   ·have:=r4 i' r j y nX hj
    rwa [zR] at this
   ·rintro⟨q1,q2⟩;have hq:i' * sz+j=i * sz+(i' * sz+j-i * sz):=by omega
    exact fM (Qj qO (by omega) hq).1
theorem aBa{sz:Nat}:∀ (items:List (Nat × A × Value)) (cells:Array Value) (rows:List (List A)) {K:List (List A)→Prop},
  (∀ it∈items,RepA w M ρ h it.2.1 it.2.2)→RR w M ρ h sz cells rows →
  wA sz rows (items.map fun it=>(it.1,it.2.1)) K→∃ cells' rows',Instr.fill (fun i=>some (i * sz,sz)) cells (items.map fun it=>(it.1,it.2.2))=some cells'∧RR w M ρ h sz cells' rows'∧rows'.length=rows.length∧K rows'
 | [],cells,rows,K,_,hc,hK=>⟨cells,rows,rfl,hc,rfl,hK⟩
 | (i,x,v)::items,cells,rows,K,hi,hc,hK=>by
  obtain⟨k1,k2,k3,k4⟩:=hK;have hx:=hi _ (zW ..);dsimp only at hx k1 k2 k3 k4;have hv:=hx.cr k1;have hn:v.cells.size=sz:=by rw[hv.1,k2]
  have Qe:i * sz+sz≤cells.size:=by
   have:(i+1) * sz≤rows.length * sz:=zX _ k3;rw[aB] at this;rw[hc.1];omega
  obtain⟨cells',rows',h1,h2,h3,h4⟩:=aBa items _ _ (fun it Fg=>hi it (zZ _ Fg)) (hc.set hv k2 k3) k4;refine⟨cells',rows',?_,h2,by simpa using h3,h4⟩;simp only[zU];rw[aA9 (n:=sz) rfl hn (by omega)];exact h1
theorem SimH.newRows(S:SimH w M ρ h)(bnd:∀ b,M b→b<w.heap.size){e:Elt}{rows:List (List A)}{cells:Array Value}{pl:Option Nat}{id:Nat}{h1:cM}{ρ1:fJ}(t:TypeId)(n:NewAt h ρ (.cells e rows) (some (w.heap.size,cells.size)) pl id h1 ρ1)(q1:0<e.sz)
  (q2:rows.length * e.bytes≤dL) (q3:rows.length≤maxLen) (hR:RR w M ρ h e.sz cells rows):SimH (w.alloc (.cells cells t)) M ρ1 h1:=by
 refine S.newCells bnd t n q1 q2 q3 hR.2.1 (by rw[← hR.1];exact zL _) (fun i r j x hi hj=>?_);obtain⟨v,k1,k2,k3⟩:=hR.get hi hj;exact⟨v,k1,k2,k3⟩
theorem Xq{sz n:Nat}{zv:Array Value}{z:List A}(hz:CR w M ρ h zv z)(mB:z.length=sz)(h0:0<sz) :
  RR w M ρ h sz ((Array.range (n * sz)).map (zv[· % zv.size]!)) (bC n z):=by
 obtain⟨z1,z2,z3⟩:=hz;have aQY:∀ k,k % zv.size<zv.size:=fun k=>Nat.mod_lt _ (by omega);refine⟨by simp,fun r hr=>by rw[(bE.1 hr).2,mB],fun u hu=>?_,fun i r j y hi hj=>?_⟩
 ·simp at hu;obtain⟨k,hk,rfl⟩:=hu;rw[getElem!_pos zv _ (aQY k)];exact z2 _ (by simp)
 ·have nX:i<n:=by have:=(zA.1 hi).1;simpa using this
  have hr:r=z:=by
   have:=aM (a:=z) nX;rw[this] at hi;exact(Option.some.inj hi).symm
  subst hr;have Zj:j<r.length:=(zA.1 hj).1;have cY:i * sz+j<n * sz:=by
   have:(i+1) * sz≤n * sz:=zX _ nX;rw[aB] at this;omega
  have e:(i * sz+j) % zv.size=j:=by
   rw[z1,mB,aY,bK];exact bH (by omega)
  have:=z3 j y hj;have hjs:j<zv.size:=by omega
  rw[zR] at this ⊢;simp only[Array.getElem?_map,Array.getElem?_range,cY,if_true,aZ,e,bI];rw[getElem!_pos zv j hjs];simpa[hjs] using this
theorem aC9{t:TypeId}{z:List A}{fs:List (Nat × Nat)}{items:List (Nat × Nat × Nat × A × Value)}{K:A→cM→Prop}(S:SimH w M ρ h)(hz:zeroCells? P t=some z)(hf:fieldsOf P t=some fs)
  (hi:∀ it∈items,fs[it.1]? = some (it.2.1,it.2.2.1)∧RepA w M ρ h it.2.2.2.1 it.2.2.2.2) (hK:yQ z (items.map fun it=>(it.2.1,it.2.2.1,it.2.2.2.1)) fun cs=>K (.agg cs) h) :
  ∃ r h',K r h'∧iI P (do pure (.value (← Instr.build t (items.map fun it=>(it.1,it.2.2.2.2)).toArray))) w M ρ h r h':=by
 obtain⟨ti,zv,z1,z2,z3,z4,z5,z6⟩:=Cd (w:=w) (M:=M) (ρ:=ρ) (h:=h) hz;have hc:CR w M ρ h zv.cells z:=⟨by omega,z5,z6⟩;unfold fieldsOf at hf;split at hf
 ·rename_i fields hu;obtain⟨cells',cs',h1,h2,h3⟩:=Ql (gP:=fun i=>fs[i]?) items _ _ hi hc hK;refine⟨_,_,h3,.pure (v:=.agg cells') ?_ (.agg h2.1 h2.2.1 h2.2.2) S⟩;have hb:=run_build (P:=P) w t (items.map fun it=>(it.1,it.2.2.2.2)).toArray cells' (by simp only[Program.built,z1,hu,z2,hf];simpa using h1);rw[Sem.run_bind,hb];rfl
 ·rename_i n et hu;simp only[zT] at hf;obtain⟨ei,hei,rfl⟩:=hf;obtain⟨cells',cs',h1,h2,h3⟩:=Ql (gP:=fun i=>some (i * ei.size,ei.size)) items _ _ (fun it Fg=>by
   obtain⟨q1,q2⟩:=hi it Fg;refine⟨?_,q2⟩;rw[zK,zT] at q1;obtain⟨j,hj,q1⟩:=q1;have Zj:j=it.1:=by
    rw[zj (by
     have:=(zA.1 hj).1;simpa using this)] at hj
    injection hj with hj;exact hj.symm
   subst Zj;rw[q1]) hc hK
  refine⟨_,_,h3,.pure (v:=.agg cells') ?_ (.agg h2.1 h2.2.1 h2.2.2) S⟩;have hb:=run_build (P:=P) w t (items.map fun it=>(it.1,it.2.2.2.2)).toArray cells' (by simp only[Program.built,z1,hu,z2,hei];simpa using h1);rw[Sem.run_bind,hb];rfl
 ·cases hf
theorem aBb{t et:TypeId}{e:Elt}{z:List A}{len:Nat}{items:List (Nat × A × Value)}{pl:Option Nat}{K:A→cM→Prop}(S:SimH w M ρ h)(bnd:∀ b,M b→b<w.heap.size)
  (hu:P.underlying t=some (.slice et)) (he:elt? P et=some e) (hz:zeroCells? P et=some z) (hs:vO e=true) (h24:len * e.sz≤2 ^ 24) (dT:len * e.bytes≤dL) (Vj:len≤maxLen)
  (hi:∀ it∈items,RepA w M ρ h it.2.1 it.2.2) (hK:wA e.sz (bC len z) (items.map fun it=>(it.1,it.2.1)) fun rows=>gP pl h (.cells e rows) fun id h1=>K (.ref id len 0 len true) h1) :
  ∃ r h',K r h'∧iI P (do pure (.value (← Instr.buildSlice t len (items.map fun it=>(it.1,it.2.2)).toArray))) w M ρ h r h':=by
 obtain⟨ti,zv,z1,z2,z3,z4,z5,z6⟩:=Cd (w:=w) (M:=M) (ρ:=ρ) (h:=h) hz;obtain⟨ti',sE,rfl⟩:=pH he;rw[z1] at sE;cases sE;obtain⟨s1,s2⟩:=uB hs;dsimp only at *;have hc:CR w M ρ h zv.cells z:=⟨by omega,z5,z6⟩;have hR:=Xq (n:=len) hc z4 s1;obtain⟨cells',rows',h1,h2,h3,h4⟩:=aBa items _ _ hi hR hK;have h3':rows'.length=len:=by simpa using h3
 obtain⟨id,Gb,ρ1,n,hKr⟩:=tV (ρ:=ρ) h4 (some (w.heap.size,cells'.size));have S':=S.newRows (e:=⟨ti.size,ti.bytes⟩) bnd et n s1 (by rw[h3'];exact dT) (by rw[h3'];exact Vj) h2;refine⟨_,_,hKr,.slice (some ⟨w.heap.size,0,none⟩) len len,w.alloc (.cells cells' et),ρ1,.inl ?_,?_,S',.newAlloc n S.len⟩
 ·unfold Instr.buildSlice;simp only[Sem.run_bind,run_underlying hu,Result.andThen_ok,hU z1];rw[if_neg (by omega)]
  by_cases h0:len * ti.size=0
  ·rw[if_pos h0];have e0:Array.range (len * ti.size) = #[]:=by rw[h0];rfl
   rw[e0] at h1 ⊢;simp only[Array.map_empty] at h1 ⊢;simp[h1,newRow]
  ·rw[if_neg h0];simp[zeroValue,typeInfo,z1,z2,h1,newRow]
 ·have hm:len≤maxLen:=Vj;have:=RepA.ref (w:=w.alloc (.cells cells' et)) (M:=M) (off:=0) (len:=len) (o:=0) (cap:=len) (full:=true) n.heap (n.phys S.len) (by omega) (zL _) hm (.inr (by simp)) (by rw[h2.1,h3'];simp) (fun _=>by omega);rw[h3'] at this;exact this
end
section
variable {P:Program}{w w':World}{M:Nat→Prop}{ρ ρ':fJ}{h h':cM}
theorem aHE(k:IntKind)(n:Int):k.min≤k.wrap n∧k.wrap n≤k.max:=wrap_within k n
theorem jY(k:IntKind)(n:Int):Iq (.int k (k.wrap n)):=aHE k n
theorem aHF(k:IntKind){x y:Int}(hx:k.min≤x∧x≤k.max):k.min≤x.tmod y∧x.tmod y≤k.max:=by
 have h0:k.min≤0∧0≤k.max:=by cases k<;>simp[IntKind.min,IntKind.max,IntKind.bits,IntKind.signed]
 have hn:(x.tmod y).natAbs≤x.natAbs:=by rw[Int.natAbs_tmod];exact Nat.mod_le _ _
 rcases Int.le_total 0 x with h | h
 ·have h1:=bL y h;omega
 ·have h1:=bL y (a := -x) (by omega);rw[Int.neg_tmod] at h1;omega
theorem aHG(k:IntKind){x:Int}(n:Nat)(hx:k.min≤x∧x≤k.max):k.min≤x.fdiv (2 ^ n)∧x.fdiv (2 ^ n)≤k.max:=by
 have h0:k.min≤0∧0≤k.max:=by cases k<;>simp[IntKind.min,IntKind.max,IntKind.bits,IntKind.signed]
 have hp:(1:Int)≤2 ^ n:=by
  have:(2 ^ n:Int)=((2 ^ n:Nat):Int):=by simp
  rw[this];have:=Nat.one_le_two_pow (n:=n);omega
 have hd:x.fdiv (2 ^ n)=x / (2 ^ n):=Int.fdiv_eq_ediv_of_nonneg _ (by omega);rw[hd];rcases Int.le_total 0 x with h | h
 ·have h1:0≤x / 2 ^ n:=Int.ediv_nonneg h (by omega);have h2:x / 2 ^ n≤x:=Int.ediv_le_self _ h;omega
 ·have h1:x≤x / 2 ^ n:=by
   rw[Int.le_ediv_iff_mul_le (by omega)];have:=Int.mul_le_mul_of_nonpos_left h hp;omega
  have h2:x / 2 ^ n≤0:=Int.ediv_nonpos_of_nonpos_of_neg h (by omega);omega
theorem aDa{op:BinOp}{k:IntKind}{x y:Int}{v:Value}{t:TypeId}(hr:nM op k x y=some v) :
  (binOp op t (.int k x) (.int k y)).run P w = .ok v w∧(k.min≤x∧x≤k.max→Iq v):=by
 cases op<;>simp only[nM] at hr
 case add=>cases hr;exact⟨by simp[binOp,Op.intArith],fun _=>jY ..⟩
 case sub=>cases hr;exact⟨by simp[binOp,Op.intArith],fun _=>jY ..⟩
 case mul=>cases hr;exact⟨by simp[binOp,Op.intArith],fun _=>jY ..⟩
 case quo=>split at hr<;>cases hr;rename_i hy;exact⟨by simp[binOp,Op.intDiv,hy],fun _=>jY ..⟩
 case rem=>split at hr<;>cases hr;rename_i hy;exact⟨by simp[binOp,Op.intDiv,hy],fun hx=>aHF k hx⟩
 case and=>cases hr;exact⟨by simp[binOp,Op.intBits],fun _=>jY ..⟩
 case or=>cases hr;exact⟨by simp[binOp,Op.intBits],fun _=>jY ..⟩
 case xor=>cases hr;exact⟨by simp[binOp,Op.intBits],fun _=>jY ..⟩
 case andNot=>cases hr;exact⟨by simp[binOp,Op.intBits],fun _=>jY ..⟩
 case eql=>cases hr;exact⟨by simp[binOp,Op.intCmp],fun _=>trivial⟩
 case neq=>cases hr;exact⟨by simp[binOp,Op.intCmp],fun _=>trivial⟩
 case lss=>cases hr;exact⟨by simp[binOp,Op.intCmp],fun _=>trivial⟩
 case leq=>cases hr;exact⟨by simp[binOp,Op.intCmp],fun _=>trivial⟩
 case gtr=>cases hr;exact⟨by simp[binOp,Op.intCmp],fun _=>trivial⟩
 case geq=>cases hr;exact⟨by simp[binOp,Op.intCmp],fun _=>trivial⟩
 all_goals cases hr
theorem Qm(a b:ByteArray):(a.toList == b.toList)=decide (a=b):=by
 rw[Bool.eq_iff_iff];simp only[beq_iff_eq,decide_eq_true_eq];refine⟨fun h=>?_,fun h=>by rw[h]⟩;rw[ByteArray.toList_eq,ByteArray.toList_eq] at h;obtain⟨⟨x⟩⟩:=a;obtain⟨⟨y⟩⟩:=b;simp at h;rw[h]
theorem aDb{op:BinOp}{x y:ByteArray}{v:Value}{t:TypeId}(hr:Lb op x y=some v) :
  (binOp op t (.string x) (.string y)).run P w = .ok v w∧Iq v:=by
 cases op<;>simp only[Lb] at hr
 case add =>
  split at hr<;>cases hr;rename_i hl;have h1:(x.size:Int)+(y.size:Int)≤9223372036854775807:=by unfold maxLen at hl;omega
  refine⟨by simp[binOp,Op.stringOp,h1],?_⟩;show(x++y).size≤maxLen;simpa using hl
 case eql=>cases hr;exact⟨by simp[binOp,Op.stringOp,Qm],trivial⟩
 case neq=>cases hr;exact⟨by simp[binOp,Op.stringOp,Qm],trivial⟩
 case lss=>cases hr;exact⟨by simp[binOp,Op.stringOp],trivial⟩
 all_goals cases hr
theorem aDc{op:BinOp}{a b v:Value}{t:TypeId}(hr:jM op a b=some v)(ha:Iq a) :
  (binOp op t a b).run P w = .ok v w∧Iq v:=by
 unfold jM at hr;split at hr
 ·split at hr<;>cases hr;rename_i hb;exact⟨by simp[binOp,Op.shift,hb],jY ..⟩
 ·split at hr<;>cases hr;rename_i hb;exact⟨by simp[binOp,Op.shift,hb],aHG _ _ ha⟩
 ·split at hr
  ·rename_i hk;subst hk;have:=aDa (P:=P) (w:=w) (t:=t) hr;exact⟨this.1,this.2 ha⟩
  ·cases hr
 ·exact aDb hr
 ·cases hr
theorem uD{op:BinOp}{t:TypeId}{x y:Operand}{a b:Value}(ha:a ≠ .nilIface)(Kz:∀ c,a ≠ .agg c):(eqGuard op t x y a b).run P w = .ok () w:=by
 unfold eqGuard;cases op<;>simp<;>(split<;>simp_all)
theorem fV{v u:Value}(hx:RepA w M ρ h (.sc v) u):u=v∧Iq v:=by
 cases hx with
 | d hx=>cases hx with
  | sc hx=>exact⟨rfl,hx⟩
theorem aHH{op:BinOp}{t:TypeId}{x y:Operand}{a b v u u':Value}(S:SimH w M ρ h)(hx:RepA w M ρ h (.sc a) u)(hy:RepA w M ρ h (.sc b) u')(hr:jM op a b=some v) :
  iI P (do let r ← (do eqGuard op t x y u u';binOp op t u u');pure (.value r)) w M ρ h (.sc v) h:=by
 obtain⟨rfl,ha⟩:=fV hx;obtain⟨rfl,hb⟩:=fV hy;obtain⟨h1,h2⟩:=aDc (P:=P) (w:=w) (t:=t) hr ha;have fM:u ≠ .nilIface∧∀ c,u ≠ .agg c:=by
  refine⟨fun he=>?_,fun c he=>?_⟩<;>subst he<;>cases op<;>simp[jM] at hr
 refine .pure (v:=v) ?_ (.d (.sc h2)) S;simp only[Sem.run_bind,uD fM.1 fM.2,Result.andThen_ok,h1,Sem.run_pure]
theorem aHI{neg:Bool}{t:TypeId}{x y:Operand}{a b:Bool}{u u':Value}(S:SimH w M ρ h)(hu:P.underlying t=some .bool)(hx:RepA w M ρ h (.bool a) u)(hy:RepA w M ρ h (.bool b) u') :
  iI P (do let r ← (do eqGuard (if neg then .neq else .eql) t x y u u';binOp (if neg then .neq else .eql) t u u');pure (.value r)) w M ρ h (.bool (if neg then a != b else a == b)) h:=by
 obtain⟨rfl, -⟩:=fV hx;obtain⟨rfl, -⟩:=fV hy;refine .pure (v:=.bool (if neg then a != b else a == b)) ?_ (.d (.sc trivial)) S;have hg:=uD (P:=P) (w:=w) (op:=if neg then .neq else .eql) (t:=t) (x:=x) (y:=y) (a:=.bool a) (b:=.bool b) (by simp) (by simp);simp only[Sem.run_bind,hg,Result.andThen_ok];have he:(Op.equal t (.bool a) (.bool b)).run P w = .ok (a == b) w:=run_equalIn_bool' w 9999 t a b hu;cases neg
 ·simp only[aE,if_false,binOp,Sem.run_bind,he,Result.andThen_ok,Sem.run_pure]
 ·simp only[if_true,binOp,Sem.run_bind,he,Result.andThen_ok,Sem.run_pure];rfl
def Po(P:Program)(plan:TypeId→Option (List (Nat × EqK)))(n:Nat):List Field→Option (List (Nat × EqK))
 | []=>some []
 | f::fs =>
  if f.name ≠ "_" then
   match plan f.type,P.info? f.type,Po P plan n fs with
   | some ks,some i,some r=>if xI P f.type&&decide (0<i.size)&&ks.all (fun k=>decide (k.1<i.size))&&decide (f.offset+i.size≤n) then some (ks.map (fun k=>(f.offset+k.1,k.2))++r) else none
   | _,_,_=>none
  else Po P plan n fs
def Lc(P:Program):Nat→TypeId→Option (List (Nat × EqK))
 | 0,_=>none
 | d+1,t=>match P.underlying t with
  | some .bool=>some [(0,.b)]
  | some (.int _)=>some [(0,.i)]
  | some .string=>some [(0,.s)]
  | some (.struct fs)=>match P.info? t with
   | some i=>if P.stoodInHeld t then none else Po P (Lc P d) i.size fs.toList
   | none=>none
  | _=>none
theorem Zo(ks ls:List (Nat × EqK))(xs ys:List A)(b:Bool)(hb:mJ (ks++ls) xs ys=some b):∃ c d,mJ ks xs ys=some c∧mJ ls xs ys=some d∧b=(c&&d):=by
 induction ks generalizing b with
 | nil=>exact⟨true,b,rfl,hb,by simp⟩
 | cons k ks ih =>
  simp only[List.cons_append,mJ] at hb;split at hb
  ·rename_i p q hp hq;cases hb;obtain⟨c,d,h1,h2,rfl⟩:=ih q hq;refine⟨p&&c,d,by simp only[mJ,hp,h1],h2,by simp[Bool.and_assoc]⟩
  ·cases hb
theorem aFG{off n:Nat}{ks:List (Nat × EqK)}{xs ys:List A}(hk:∀ k∈ks,k.1<n) :
  mJ (ks.map fun k=>(off+k.1,k.2)) xs ys=mJ ks ((xs.drop off).take n) ((ys.drop off).take n):=by
 induction ks with
 | nil=>rfl
 | cons k ks ih =>
  have hkn:k.1<n:=hk k (zW ..);have hg:∀ l:List A,((l.drop off).take n).getD k.1 .any=l.getD (off+k.1) .any:=by
   intro l;simp[aX,aA hkn,zl]
  simp only[zU,mJ,hg,ih fun k' Io=>hk k' (zZ _ Io)]
def It(P:Program)(w:World)(M:Nat→Prop)(ρ:fJ)(h:cM)(t:TypeId)(l:List A)(v:Value):Prop :=
 if sG P t then RepA w M ρ h (.agg l) v else ∃ c,l[0]? = some c∧RepA w M ρ h c v
theorem aBc{t:TypeId}{i:TypeInfo}{cs:Array Value}{l:List A}{off:Nat}(hk:xI P t=true)(hi:P.info? t=some i)(hx:RepA w M ρ h (.agg l) (.agg cs))(hl:off+i.size≤l.length)(hz:0<i.size) :
  ∃ v,(part t cs off).run P w = .ok v w∧It P w M ρ h t ((l.drop off).take i.size) v:=by
 cases hg:sG P t with
 | true =>
  obtain⟨r,v,hr,fE,nD⟩:=Is (off:=off) (K:=fun a=>a = .agg ((l.drop off).take i.size)) hk hi hx (by simp[dI,hg];omega);subst hr;exact⟨v,fE,by simpa[It,hg] using nD⟩
 | false =>
  have hd:l.drop off=l[off]'(by omega)::l.drop (off+1):=(List.getElem_cons_drop (by omega)).symm;obtain⟨r,v,hr,fE,nD⟩:=Is (off:=off) (K:=fun a=>a=l[off]'(by omega)) hk hi hx (by rw[hd];simp[dI,hg]);subst hr;refine⟨v,fE,?_⟩;simp only[It,hg];refine⟨_,?_,nD⟩;rw[aA hz,zl,aI];exact zB _
theorem aFH{k:EqK}{xs ys:List A}{b:Bool}(hb:mJ [(0,k)] xs ys=some b){x y:A}(hx:xs[0]? = some x)(hy:ys[0]? = some y):Oo k x y=some b:=by
 simp only[mJ,aX,hx,hy,bI] at hb;split at hb
 ·rename_i p q hp hq;cases hb;cases hq;simpa using hp
 ·cases hb
theorem Qn:∀ (d:Nat) (t:TypeId) (ks:List (Nat × EqK)) (xs ys:List A) (u v:Value) (b:Bool),Lc P d t=some ks→It P w M ρ h t xs u→It P w M ρ h t ys v →
  (∀ i,P.info? t=some i→sG P t=true→xs.length=i.size∧ys.length=i.size)→mJ ks xs ys=some b→(Op.equalIn d t u v).run P w = .ok b w
 | 0,t,ks,xs,ys,u,v,b,hp,_,_,_,_=>by cases hp
 | d+1,t,ks,xs,ys,u,v,b,hp,hx,hy,hl,hb=>by
  have gN:∀ k,sG P t=false→ks=[(0,k)]→∃ c c',Oo k c c'=some b∧RepA w M ρ h c u∧RepA w M ρ h c' v:=by
   intro k hg hk;subst hk;simp only[It,hg] at hx hy;obtain⟨c,hc1,hc2⟩:=hx;obtain⟨c',aQI,aQJ⟩:=hy;exact⟨c,c',aFH hb hc1 aQI,hc2,aQJ⟩
  unfold Lc at hp;split at hp
  ·rename_i hu;cases hp;obtain⟨c,c',q1,q2,q3⟩:=gN _ (by simp[sG,hu]) rfl;unfold Oo at q1;split at q1
   ·rename_i hk;cases hk
   ·rename_i hk;cases hk
   ·cases q1;rw[(fV q2).1,(fV q3).1];exact run_equalIn_bool' w d t _ _ hu
   ·cases q1
  ·rename_i hu;cases hp;obtain⟨c,c',q1,q2,q3⟩:=gN _ (by simp[sG,hu]) rfl;unfold Oo at q1;split at q1
   ·split at q1<;>cases q1;rename_i hk;subst hk;rw[(fV q2).1,(fV q3).1];exact run_equalIn_int w d t _ _ _ _ hu
   ·rename_i hk;cases hk
   ·rename_i hk;cases hk
   ·cases q1
  ·rename_i hu;cases hp;obtain⟨c,c',q1,q2,q3⟩:=gN _ (by simp[sG,hu]) rfl;unfold Oo at q1;split at q1
   ·rename_i hk;cases hk
   ·cases q1;rw[(fV q2).1,(fV q3).1,← Qm];exact run_equalIn_string w d t _ _ hu
   ·rename_i hk;cases hk
   ·cases q1
  ·rename_i fs hu;split at hp
   ·rename_i i hi;split at hp
    ·cases hp
    ·rename_i mO;have hg:sG P t=true:=by simp[sG,hu]
     obtain⟨hl1,hl2⟩:=hl i hi hg;simp only[It,hg,if_true] at hx hy;obtain⟨cs,rfl⟩:∃ cs,u = .agg cs:=by cases hx;exact⟨_,rfl⟩
     obtain⟨cs',rfl⟩:∃ cs',v = .agg cs':=by cases hy;exact⟨_,rfl⟩
     have hfs:P.fieldsOf t=fs:=by simp[Program.fieldsOf,hu]
     rw[run_equalIn_agg w d t cs cs' (by rw[hfs];exact hu) (by simpa using mO),hfs];clear hu hfs mO gN;generalize fs.toList=fl at hp
     induction fl generalizing ks b with
     | nil=>cases hp;cases hb;simp[Op.eqFields]
     | cons f fl ihf =>
      simp only[Po] at hp;simp only[Op.eqFields];split at hp
      ·rename_i Zk;rw[if_pos Zk];split at hp
       ·rename_i ks1 i1 r1 h1 h2 h3;split at hp
        ·rename_i aC1;cases hp;simp only[zf,aW,decide_eq_true_eq] at aC1;obtain⟨⟨⟨hkn,hz⟩,hks⟩,aQZ⟩:=aC1;obtain⟨c1,c2,q1,q2,rfl⟩:=Zo _ _ _ _ _ hb;rw[aFG hks] at q1;obtain⟨u1,e1,g1⟩:=aBc (off:=f.offset) hkn h2 hx (by omega) hz;obtain⟨v1,e2,g2⟩:=aBc (off:=f.offset) hkn h2 hy (by omega) hz;have Vm:=Qn d f.type ks1 _ _ u1 v1 c1 h1 g1 g2 (fun i' nX _=>by rw[h2] at nX;cases nX;simp;omega) q1;simp only[Sem.run_bind,e1,e2,Vm,Result.andThen_ok];cases c1 with
         | true=>simp only[Bool.not_true,aE,if_false,Bool.true_and];exact ihf _ _ q2 h3
         | false=>simp only[Bool.not_false,if_true,Sem.run_pure,Bool.false_and]
        ·cases hp
       ·cases hp
      ·rename_i Zk;rw[if_neg Zk];exact ihf _ _ hb hp
   ·cases hp
  ·cases hp
theorem aHJ{neg:Bool}{t:TypeId}{i:TypeInfo}{x y:Operand}{xs ys:List A}{ks:List (Nat × EqK)}{u v:Value}{b:Bool}(S:SimH w M ρ h)(hp:Lc P 10000 t=some ks)(hg:sG P t=true)(hi:P.info? t=some i)(hq:P.eqGuardType P.depth t=false)
  (hx:RepA w M ρ h (.agg xs) u) (hy:RepA w M ρ h (.agg ys) v) (h1:xs.length=i.size) (h2:ys.length=i.size) (hb:mJ ks xs ys=some b) :
  iI P (do let r ← (do eqGuard (if neg then .neq else .eql) t x y u v;binOp (if neg then .neq else .eql) t u v);pure (.value r)) w M ρ h (.bool (if neg then !b else b)) h:=by
 have he:=Qn (P:=P) (w:=w) (M:=M) (ρ:=ρ) (h:=h) 10000 t ks xs ys u v b hp (by simpa[It,hg] using hx) (by simpa[It,hg] using hy) (fun i' nX _=>by rw[hi] at nX;cases nX;exact⟨h1,h2⟩) hb;obtain⟨cs,rfl⟩:∃ cs,u = .agg cs:=by cases hx;exact⟨_,rfl⟩
 obtain⟨cs',rfl⟩:∃ cs',v = .agg cs':=by cases hy;exact⟨_,rfl⟩
 refine .pure (v:=.bool (if neg then !b else b)) ?_ (.d (.sc trivial)) S;simp only[Sem.run_bind,run_eqGuard_agg w _ t x y cs cs' hq,Result.andThen_ok];cases neg
 ·simp only[aE,if_false,run_eql_struct,he,Result.andThen_ok,Sem.run_pure]
 ·simp only[if_true,run_neq_struct,he,Result.andThen_ok,Sem.run_pure]
end
section
variable {P:Program}{w w':World}{M:Nat→Prop}{ρ ρ':fJ}{h h':cM}
theorem Eb{v:Value}(hx:RepA w M ρ h .nil v):v = .slice none 0 0:=by cases hx;rfl
theorem Xr{x:D}{v:Value}(hx:RepA w M ρ h (.d x) v):RepD w (vH M ρ) x v:=by cases hx;assumption
theorem wH{e:Elt}{rows:List (List D)}{v:Value}(hx:RepA w M ρ h (.nn e rows) v):RepD w (vH M ρ) (.sl e rows) v∧∃ a n cap,v = .slice (some a) n cap:=by
 cases hx with
 | nn hx=>exact⟨hx,_,_,_,rfl⟩
theorem Qo{e:Elt}{rows:List (List D)}{v:Value}(hx:RepA w M ρ h (.fd e rows) v):RepA w M ρ h (.nn e rows) v∧∃ a,v = .slice (some a) rows.length rows.length:=by
 cases hx with
 | fd hx=>cases hx with
  | nil _ _=>exact⟨.nn (.nil (Nat.zero_le _) (fun h=>by cases h)),_,rfl⟩
  | sl u a b c d e f=>exact⟨.nn (.sl u a b c d e f),_,rfl⟩
theorem aFI{t:TypeId}{s:ByteArray}{k:IntKind}{n:Int}{u u':Value}(S:SimH w M ρ h)(hu:P.underlying t=some .string)(hx:RepA w M ρ h (.str s) u)(hy:RepA w M ρ h (.sc (.int k n)) u')(h0:0≤n)(h1:n<s.size) :
  iI P (do pure (.value (← Instr.index t u u'))) w M ρ h (.sc (.int .u8 (s.data.toList.getD n.toNat 0).toNat)) h:=by
 obtain⟨rfl, -⟩:=fV hx;obtain⟨rfl, -⟩:=fV hy;obtain⟨m,rfl⟩:=aP h0;have hm:m<s.size:=by omega
 have hb:s[m]? = some (s.data.toList.getD m 0):=by
  have hm':m<s.data.size:=hm;rw[getElem?_pos s m hm];have e:s.data.toList[m]? = some (s.data[m]'hm'):=by simp[hm']
  show some (s.data[m]'hm')=_;rw[aX,e];rfl
 refine .pure (v:=.int .u8 (s.data.toList.getD m 0).toNat) ?_ (.d (.sc ?_)) S
 ·simp[Instr.index,asIntOf,run_underlying hu,hb]
 ·have:=(s.data.toList.getD m 0).toNat_lt;show IntKind.u8.min≤((s.data.toList.getD m 0).toNat:Int)∧((s.data.toList.getD m 0).toNat:Int)≤IntKind.u8.max;simp only[IntKind.min,IntKind.max,IntKind.bits,IntKind.signed,aE,if_false];omega
theorem aDd{neg:Bool}{t et:TypeId}{x y:Operand}{a:A}{u:Value}{K:A→cM→Prop}(S:SimH w M ρ h)(hu:P.underlying t=some (.slice et))(hx:RepA w M ρ h a u)
  (hK:match (generalizing:=false) a with
   | .nil=>K (.bool (!neg)) h
   | .nn _ _=>K (.bool neg) h
   | .d (.sl _ rows)=>rows≠[]∧K (.bool neg) h
   | .ref id N _ _ _=>match (generalizing:=false) h[id]? with
    | some (.cells _ rows)=>N=rows.length∧0<N∧K (.bool neg) h
    | _=>False
   | _=>False) :
  ∃ r h',K r h'∧iI P (do let r ← (do eqGuard (if neg then .neq else .eql) t x y u (.slice none 0 0);binOp (if neg then .neq else .eql) t u (.slice none 0 0));pure (.value r)) w M ρ h r h':=by
 have run:∀ (b:Option Addr) n c,u = .slice b n c→(do let r ← (do eqGuard (if neg then .neq else .eql) t x y u (.slice none 0 0);binOp (if neg then .neq else .eql) t u (.slice none 0 0));pure (.value r):Sem Next).run P w = .ok (.value (.bool (if neg then !b.isNone else b.isNone))) w:=by
  intro b n c he;subst he;have hg:=uD (P:=P) (w:=w) (op:=if neg then .neq else .eql) (t:=t) (x:=x) (y:=y) (a:=.slice b n c) (b:=.slice none 0 0) (by simp) (by simp);have Zh:∀ d,(Op.equalIn (d+1) t (.slice b n c) (.slice none 0 0)).run P w = .ok b.isNone w:=by
   intro d;cases b<;>simp only[Op.equalIn,Sem.run_bind,run_underlying hu,Result.andThen_ok,Sem.run_pure,Option.isNone]
  have he:(Op.equal t (.slice b n c) (.slice none 0 0)).run P w = .ok b.isNone w:=Zh 9999;simp only[Sem.run_bind,hg,Result.andThen_ok];cases neg
  ·simp only[aE,if_false,binOp,Sem.run_bind,he,Result.andThen_ok,Sem.run_pure]
  ·simp only[if_true,binOp,Sem.run_bind,he,Result.andThen_ok,Sem.run_pure]
 cases a with
 | nil =>
  have:=Eb hx;refine⟨_,_,hK,.pure (run _ _ _ this) ?_ S⟩;cases neg<;>exact .d (.sc trivial)
 | nn e rows =>
  obtain⟨_,a,n,c,hv⟩:=wH hx;refine⟨_,_,hK,.pure (run _ _ _ hv) ?_ S⟩;cases neg<;>exact .d (.sc trivial)
 | d x =>
  cases x with
  | sc v=>exact hK.elim
  | sl e rows =>
   obtain⟨fM,hK⟩:=hK;obtain⟨a,cap,hv,_,_,_,_,hc⟩:=yR (Xr hx);cases rows with
   | nil=>exact absurd rfl fM
   | cons r rows =>
    obtain⟨a0,rfl,_⟩:=hc 0 r rfl;refine⟨_,_,hK,.pure (run _ _ _ hv) ?_ S⟩;cases neg<;>exact .d (.sc trivial)
 | ref id N off len full =>
  dsimp only at hK;generalize hh:h[id]? = o at hK;rcases o with _ | (⟨e,rows⟩ | _ | _)
  ·exact hK.elim
  ·obtain⟨hN,h0,hK⟩:=hK;rcases rL hx hh hN with⟨_,hz,_⟩ | ⟨b,p,o,cap,hp,rfl,_⟩
   ·subst hz;simp at hN;omega
   ·refine⟨_,_,hK,.pure (run _ _ _ rfl) ?_ S⟩;cases neg<;>exact .d (.sc trivial)
  ·exact hK.elim
  ·exact hK.elim
 | _=>exact hK.elim
theorem aKf{op:UnOp}{a v u:Value}(S:SimH w M ρ h)(hx:RepA w M ρ h (.sc a) u)(hr:Xp op a=some v) :
  iI P (do pure (.value (← Op.unary op u))) w M ρ h (.sc v) h:=by
 obtain⟨rfl,ha⟩:=fV hx;unfold Xp at hr;split at hr<;>cases hr
 ·refine .pure ?_ (.d (.sc (jY ..))) S;simp[Op.unary,Op.intArith]
 ·refine .pure ?_ (.d (.sc trivial)) S;simp[Op.unary]
theorem aFJ{src dst:TypeId}{k k':IntKind}{n:Int}{u:Value}{ds:TypeDesc}(S:SimH w M ρ h)(hs:P.underlying src=some ds)(hd:P.underlying dst=some (.int k))(hx:RepA w M ρ h (.sc (.int k' n)) u) :
  iI P (do pure (.value (← convert src dst u))) w M ρ h (.sc (.int k (k.wrap n))) h:=by
 obtain⟨rfl,ha⟩:=fV hx;refine .pure (v:=.int k (k.wrap n)) ?_ (.d (.sc (jY ..))) S;unfold convert;simp only[Sem.run_bind,run_underlying hs,run_underlying hd,Result.andThen_ok,Conv.intToInt,Sem.run_pure]
theorem pI{n:Nat}(hn:n≤maxLen):Iq (.int .i64 n):=by
 show IntKind.i64.min≤_∧_≤IntKind.i64.max;simp only[IntKind.min,IntKind.max,IntKind.bits,IntKind.signed,if_true];unfold maxLen at hn;omega
theorem aBd{t:TypeId}{ty:TypeId}{str:Bool}{a:A}{u:Value}{K:A→cM→Prop}(S:SimH w M ρ h)(hu:if str then P.underlying t=some .string else ∃ et,P.underlying t=some (.slice et))(hx:RepA w M ρ h a u)
  (hK:match (generalizing:=false) a with
   | .nil=>str=false∧K (.int 0) h
   | .d (.sl _ rows)=>str=false∧K (.int rows.length) h
   | .nn _ rows=>str=false∧K (.int rows.length) h
   | .fd _ rows=>str=false∧K (.int rows.length) h
   | .ref id N _ len _=>match h[id]? with
    | some (.cells _ rows)=>str=false∧N=rows.length∧K (.int len) h
    | _=>False
   | .d (.sc (.string s))=>str=true∧K (.int s.size) h
   | _=>False) :
  ∃ r h',K r h'∧iI P (do pure (.value (← Builtin.len_ #[t] ty #[u]))) w M ρ h r h':=by
 have run:str=false→∀ (b:Option Addr) n c,u = .slice b n c→(do pure (.value (← Builtin.len_ #[t] ty #[u])):Sem Next).run P w = .ok (.value (.int .i64 n)) w:=by
  rintro rfl b n c rfl;obtain⟨et,hu⟩:=hu;simp[Builtin.len_,run_underlying hu,goInt]
 cases a with
 | nil =>
  obtain⟨hs,hK⟩:=hK;exact⟨_,_,hK,.pure (run hs _ _ _ (Eb hx)) (.d (.sc (pI (n:=0) (by simp[maxLen])))) S⟩
 | nn e rows =>
  obtain⟨hs,hK⟩:=hK;obtain⟨hd,_⟩:=wH hx;obtain⟨a,cap,hv,h1,h2,_⟩:=yR hd;exact⟨_,_,hK,.pure (run hs _ _ _ hv) (.d (.sc (pI (by omega)))) S⟩
 | fd e rows =>
  obtain⟨hs,hK⟩:=hK;obtain⟨hd,_⟩:=wH (Qo hx).1;obtain⟨a,cap,hv,h1,h2,_⟩:=yR hd;exact⟨_,_,hK,.pure (run hs _ _ _ hv) (.d (.sc (pI (by omega)))) S⟩
 | ref id N off len full =>
  dsimp only at hK;split at hK
  ·rename_i e rows hid;obtain⟨hs,hN,hK⟩:=hK;rcases rL hx hid hN with⟨hv,_,_,rfl,_⟩ | ⟨b,p,o,cap,hp,hv,eG,hcap,hm,ho,hphys,hfull⟩
   ·exact⟨_,_,hK,.pure (run hs _ _ _ hv) (.d (.sc (pI (n:=0) (by simp[maxLen])))) S⟩
   ·exact⟨_,_,hK,.pure (run hs _ _ _ hv) (.d (.sc (pI (by omega)))) S⟩
  ·exact hK.elim
 | d x =>
  cases x with
  | sc v =>
   cases v<;>try (exact hK.elim)
   rename_i s;obtain⟨rfl,hK⟩:=hK;obtain⟨rfl,hs⟩:=fV hx;simp only[if_true] at hu;refine⟨_,_,hK,.pure (v:=.int .i64 s.size) ?_ (.d (.sc (pI hs))) S⟩;simp[Builtin.len_,run_underlying hu,goInt]
  | sl e rows =>
   obtain⟨hs,hK⟩:=hK;obtain⟨a,cap,hv,h1,h2,_⟩:=yR (Xr hx);exact⟨_,_,hK,.pure (run hs _ _ _ hv) (.d (.sc (pI (by omega)))) S⟩
 | _=>exact hK.elim
theorem Zp{i:Nat}{l:List A}{a:A}{u:Value}(S:SimH w M ρ h)(hx:RepA w M ρ h (.tup l) u)(hi:l[i]? = some a) :
  iI P (do pure (.value (← Instr.extract u i))) w M ρ h a h:=by
 cases hx with
 | tup hl hr =>
  rename_i cs;have cY:i<cs.size:=by rw[hl];exact(zA.1 hi).1
  have hs:=getD_some cY;have nD:=hr i a hi;generalize cs.getD i undef=v at hs nD;exact .pure (by simp[Instr.extract,hs]) nD S
theorem aFK{f:FuncId}{caps:List A}{vs:Array Value}(S:SimH w M ρ h)(hl:vs.size=caps.length)(hr:∀ (j:Nat) (x:A),caps[j]? = some x→RepA w M ρ h x (vs.getD j undef)) :
  iI P (do pure (.value (← Instr.makeFunc (.func f) #[] vs))) w M ρ h (.fn f caps) h :=
 .pure (by simp[Instr.makeFunc]) (.fn hl hr) S
theorem qP{t et:TypeId}{ti:TypeInfo}{a:Option Addr}{n cap:Nat}{lo hi mx:Option Value}{l u m:Int}(hu:P.underlying t=some (.slice et))(nX:P.info? et=some ti)
  (On:(lo=none∧l=0)∨∃ k,lo=some (.int k l)) (Vq:(hi=none∧u=n∧mx=none)∨∃ k,hi=some (.int k u)) (xH:(mx=none∧m=cap)∨∃ k,mx=some (.int k m))
  (h0:0≤l) (h1:l≤u) (h2:u≤m) (h3:m≤cap) :
  (Instr.slice t (.slice a n cap) lo hi mx).run P w = .ok (.slice (if m.toNat=l.toNat then a else a.map (·.add (l.toNat * ti.size))) (u.toNat-l.toNat) (m.toNat-l.toNat)) w:=by
 have hb:(Instr.sliceBounds true n cap lo hi mx).run P w = .ok (l.toNat,u.toNat,m.toNat) w:=by
  unfold Instr.sliceBounds;have el:(l.toNat:Int)=l:=by omega
  have eu:(u.toNat:Int)=u:=by omega
  have em:(m.toNat:Int)=m:=by omega
  rcases xH with⟨rfl,rfl⟩ | ⟨km,rfl⟩
  ·rcases Vq with⟨rfl,rfl,_⟩ | ⟨kh,rfl⟩
   ·rcases On with⟨rfl,rfl⟩ | ⟨kl,rfl⟩
    ·simp
    ·simp[run_sliceBound w kl l n _ h0 h1]
   ·rcases On with⟨rfl,rfl⟩ | ⟨kl,rfl⟩
    ·simp[run_sliceBound w kh u cap _ (by omega) h2]
    ·simp[run_sliceBound w kh u cap _ (by omega) h2,run_sliceBound w kl l u.toNat _ h0 (by omega)]
  ·rcases Vq with⟨rfl,rfl,hm⟩ | ⟨kh,rfl⟩
   ·cases hm
   ·rcases On with⟨rfl,rfl⟩ | ⟨kl,rfl⟩
    ·simp[run_sliceBound w km m cap _ (by omega) h3,run_sliceBound w kh u m.toNat _ (by omega) (by omega)]
    ·simp[run_sliceBound w km m cap _ (by omega) h3,run_sliceBound w kh u m.toNat _ (by omega) (by omega),run_sliceBound w kl l u.toNat _ h0 (by omega)]
 unfold Instr.slice;simp only[Sem.run_bind,run_underlying hu,Result.andThen_ok,hb,hU nX,Sem.run_pure]
end
section
variable {P:Program}{w w':World}{M:Nat→Prop}{ρ ρ':fJ}{h h':cM}
def sH(x:Option Value)(dflt:Nat)(n:Int):Prop:=(x=none∧n=dflt)∨∃ k,x=some (.int k n)
theorem aHK{a:Addr}{X:Nat→Prop}{e:Elt}{rows:List (List D)}{l u:Nat}(hu:u≤rows.length)(mB:∀ r∈rows,r.length=e.sz)
  (hc:∀ (i:Nat) (r:List D),rows[i]? = some r→∀ (j:Nat) (d:D),r[j]? = some d→∃ v,w.cell? (a.add (i * e.sz+j))=some v∧¬ X a.block∧RepD w X d v) {cap:Nat} (hcap:u-l≤cap) (hm:cap≤maxLen) (hb:rows.length * e.bytes≤dL) :
  RepD w X (.sl e ((rows.drop l).take (u-l))) (.slice (some (a.add (l * e.sz))) (u-l) cap):=by
 have eG:((rows.drop l).take (u-l)).length=u-l:=by simp;omega
 have hg:∀ (i:Nat) (r:List D),((rows.drop l).take (u-l))[i]? = some r→rows[l+i]? = some r:=by
  intro i r hi;have cY:i<u-l:=by rw[← eG];exact(zA.1 hi).1
  rw[aA cY,zl] at hi;exact hi
 have Bu:∀ i,i<u-l→∃ f:Nat→Value,∀ r,((rows.drop l).take (u-l))[i]? = some r→∀ j d,r[j]? = some d→w.cell? ((a.add (l * e.sz)).add (i * e.sz+j))=some (f j)∧¬ X a.block∧RepD w X d (f j):=by
  intro i hi;have hr:∃ r,((rows.drop l).take (u-l))[i]? = some r:=⟨_,zB (by rw[eG];exact hi)⟩;obtain⟨r,hr⟩:=hr;have h2:=hc _ _ (hg i r hr);have aQL:∀ j,j<r.length→∃ v,∀ d,r[j]? = some d→w.cell? ((a.add (l * e.sz)).add (i * e.sz+j))=some v∧¬ X a.block∧RepD w X d v:=by
   intro j hj;obtain⟨v,k1,k2,k3⟩:=h2 j _ (zB hj);refine⟨v,fun d hd=>?_⟩;rw[zB hj] at hd;cases hd;rw[Pn];refine⟨?_,k2,k3⟩;rw[← k1,← aN,← aB]
  obtain⟨f,hf⟩:=xJ aQL;refine⟨f,fun r' qC j d hj=>?_⟩;rw[hr] at qC;cases qC;exact hf j (zA.1 hj).1 d hj
 obtain⟨f,hf⟩:=xJ Bu;have cY:∀ (i:Nat) (r:List D),((rows.drop l).take (u-l))[i]? = some r→i<u-l:=fun i r hi=>by rw[← eG];exact(zA.1 hi).1
 have key:=RepD.sl (w:=w) (X:=X) (e:=e) (rows:=(rows.drop l).take (u-l)) (a:=a.add (l * e.sz)) (cap:=cap) (u:=fun i j=>f i j) (by rw[eG];exact hcap) hm
  (aJ (zX _ (by rw[eG];omega)) hb) (fun r hr=>mB r (aF (aD hr)))
  (fun i r j d hi hj=>by have:=hf i (cY i r hi) r hi j d hj;rw[lD];exact⟨this.1,this.2.1⟩) (fun i r j d hi hj=>(hf i (cY i r hi) r hi j d hj).2.2)
 rw[eG] at key;exact key
theorem Fi{t et:TypeId}{ti:TypeInfo}{e:Elt}{rows:List (List D)}{v:Value}{lo hi mx:Option Value}{l u m:Int}(S:SimH w M ρ h)(hu:P.underlying t=some (.slice et))(sE:P.info? et=some ti)(he:e.sz=ti.size)
  (hx:RepD w (vH M ρ) (.sl e rows) v) (On:sH lo 0 l) (Vq:sH hi rows.length u) (xH:sH mx rows.length m) (hh:mx.isSome=true→hi.isSome=true) (h0:0≤l) (h1:l≤u) (h2:u≤m) (h3:m≤rows.length) {bm:Bool} (hbm:bm=true→mx.isSome=true) :
  iI P (do pure (.value (← Instr.sliceAt t v lo hi mx))) w M ρ h (aA6 bm l u m e rows) h:=by
 obtain⟨a,cap,rfl,hl,hm,hb,mB,hc⟩:=yR hx;have Xg:=hc;have fE:∃ m':Int,u≤m'∧(Instr.sliceAt t (.slice a rows.length cap) lo hi mx).run P w = .ok (.slice (if m'.toNat=l.toNat then a else a.map (·.add (l.toNat * ti.size))) (u.toNat-l.toNat) (m'.toNat-l.toNat)) w∧m'≤cap∧(mx.isSome=true→m'=m):=by
  have hs:P.underlying t=some (.slice (P.elem t)):=by simp[Program.elem,hu]
  rcases xH with⟨rfl,rfl⟩ | ⟨km,rfl⟩
  ·refine⟨cap,by omega,?_,by omega,fun h=>by cases h⟩;rw[run_sliceAt_slice w t _ _ _ _ hs];refine qP hu sE (by rcases On with h | h;exact .inl (by simpa using h);exact .inr h) (by rcases Vq with h | h;exact .inl ⟨h.1,h.2,rfl⟩;exact .inr h) (.inl ⟨rfl,rfl⟩) h0 h1 (by omega) (by omega)
  ·refine⟨m,by omega,?_,by omega,fun _=>rfl⟩;rw[run_sliceAt_slice w t _ _ _ _ hs];refine qP hu sE (by rcases On with h | h;exact .inl (by simpa using h);exact .inr h) (by rcases Vq with h | h;(have:=hh rfl;rw[h.1] at this;cases this);exact .inr h) (.inr ⟨km,rfl⟩) h0 h1 h2 (by omega)
 obtain⟨m',Vr,fE,hm2,hm3⟩:=fE;have key:RepD w (vH M ρ) (.sl e ((rows.drop l.toNat).take (u-l).toNat)) (.slice (if m'.toNat=l.toNat then a else a.map (·.add (l.toNat * ti.size))) (u.toNat-l.toNat) (m'.toNat-l.toNat)):=by
  have eul:(u-l).toNat=u.toNat-l.toNat:=by omega
  rw[eul]
  by_cases hlu:l.toNat=u.toNat
  ·have:u.toNat-l.toNat=0:=by omega
   rw[this,List.take_zero];refine .nil (by omega) (fun hn=>?_)
   by_cases hml:m'.toNat=l.toNat
   ·omega
   ·rw[if_neg hml] at hn;have ha:a=none:=by
     cases a with
     | none=>rfl
     | some _=>simp at hn
    subst ha;have:=(aEN hx).2.2;omega
  ·rw[if_neg (by omega)];obtain⟨a0,rfl⟩:∃ a0,a=some a0:=by
    have fM:0<rows.length:=by omega
    obtain⟨a0,ha,_⟩:=hc 0 _ (zB fM);exact⟨a0,ha⟩
   simp only[aZ];rw[← he];refine aHK (by omega) mB (fun i r hi j d hj=>?_) (by omega) (by omega) hb;obtain⟨a1,ha,nC⟩:=hc i r hi;cases ha;exact nC j d hj
 refine .pure (by rw[Sem.run_bind,fE];rfl) ?_ S;unfold aA6;split
 ·rename_i hc;obtain⟨c1,c2,c3⟩:=hc;have e1:=hm3 (hbm c1);have fM:0<rows.length:=by omega
  obtain⟨a0,ha,_⟩:=Xg 0 _ (zB fM);subst e1 c3;rw[ha,if_neg (by omega)] at key ⊢;exact .fd key
 ·exact .d key
theorem Qp{t et:TypeId}{ti:TypeInfo}{e:Elt}{rows:List (List A)}{id N off len:Nat}{full:Bool}{v:Value}{lo hi mx:Option Value}{l u m:Int}(S:SimH w M ρ h)(hu:P.underlying t=some (.slice et))(sE:P.info? et=some ti)(he:e.sz=ti.size)
  (hid:h[id]? = some (.cells e rows)) (hN:N=rows.length) (hx:RepA w M ρ h (.ref id N off len full) v) (On:sH lo 0 l) (Vq:sH hi len u) (xH:sH mx len m) (hh:mx.isSome=true→hi.isSome=true) (h0:0≤l) (h1:l≤u) (h2:u≤m) (h3:m≤len) :
  iI P (do pure (.value (← Instr.sliceAt t v lo hi mx))) w M ρ h (.ref id N (off+l.toNat) (u-l).toNat (full&&mx.isNone)) h:=by
 have hs:P.underlying t=some (.slice (P.elem t)):=by simp[Program.elem,hu]
 have eul:(u-l).toNat=u.toNat-l.toNat:=by omega
 rcases rL hx hid hN with⟨rfl,rfl,rfl,rfl,hp⟩ | ⟨b,p,o,cap,hp,rfl,eG,hcap,hm,ho,hphys,hfull⟩
 ·have hl0:l=0:=by omega
  have hu0:u=0:=by omega
  have hm0:m=0:=by omega
  subst hl0;subst hu0;subst hm0;subst hN;have fE:(Instr.sliceAt t (.slice none 0 0) lo hi mx).run P w = .ok (.slice none 0 0) w:=by
   rw[run_sliceAt_slice w t _ _ _ _ hs];have:=qP (P:=P) (w:=w) (a:=none) (n:=0) (cap:=0) (lo:=lo) (hi:=hi) (mx:=mx) (l:=0) (u:=0) (m:=0) hu sE (by rcases On with h | h;exact .inl (by simpa using h);exact .inr h) (by
    rcases Vq with h | h
    ·refine .inl ⟨h.1,h.2,?_⟩;cases mx with
     | none=>rfl
     | some x=>have:=hh rfl;rw[h.1] at this;cases this
    ·exact .inr h) (by rcases xH with h | h;exact .inl h;exact .inr h) (by omega) (by omega) (by omega) (by simp)
   simpa using this
  exact .pure (by rw[Sem.run_bind,fE];rfl) (.ref0 hid hp) S
 ·have fE:∃ m':Int,u≤m'∧(Instr.sliceAt t (.slice (some ⟨b,o,none⟩) len cap) lo hi mx).run P w = .ok (.slice (if m'.toNat=l.toNat then some ⟨b,o,none⟩ else(some ⟨b,o,none⟩:Option Addr).map (·.add (l.toNat * ti.size))) (u.toNat-l.toNat) (m'.toNat-l.toNat)) w∧m'≤cap∧(mx.isNone=true→m'=cap):=by
   rcases xH with⟨rfl,rfl⟩ | ⟨km,rfl⟩
   ·refine⟨cap,by omega,?_,by omega,fun _=>rfl⟩;rw[run_sliceAt_slice w t _ _ _ _ hs];exact qP hu sE (by rcases On with h | h;exact .inl (by simpa using h);exact .inr h) (by rcases Vq with h | h;exact .inl ⟨h.1,h.2,rfl⟩;exact .inr h) (.inl ⟨rfl,rfl⟩) h0 h1 (by omega) (by omega)
   ·refine⟨m,by omega,?_,by omega,fun hn=>by cases hn⟩;rw[run_sliceAt_slice w t _ _ _ _ hs];exact qP hu sE (by rcases On with h | h;exact .inl (by simpa using h);exact .inr h) (by rcases Vq with h | h;(have:=hh rfl;rw[h.1] at this;cases this);exact .inr h) (.inr ⟨km,rfl⟩) h0 h1 h2 (by omega)
  obtain⟨m',Vr,fE,hm2,hm3⟩:=fE;refine .pure (by rw[Sem.run_bind,fE];rfl) ?_ S;rw[eul,hN];have mB:0<e.sz:=(S.cells id e rows hid).1
  by_cases hc0:m'.toNat=l.toNat
  ·rw[if_pos hc0];have e1:m'.toNat-l.toNat=0:=by omega
   have e2:u.toNat-l.toNat=0:=by omega
   rw[e1,e2];refine .ref hid hp (by omega) (zL _) (by omega) (.inl rfl) ?_ (fun hf=>?_)
   ·refine aJ (zX _ ?_) hphys;omega
   ·simp only[zf] at hf;have:=hfull hf.1;have:=hm3 hf.2;omega
  ·rw[if_neg hc0];simp only[aZ];rw[kM];have ho':o=off * e.sz:=ho.resolve_left (by omega);refine .ref hid hp (by omega) (by omega) (by omega) (.inr (by rw[ho',aB,he])) ?_ (fun hf=>?_)
   ·refine aJ (zX _ ?_) hphys;omega
   ·simp only[zf] at hf;have:=hfull hf.1;have:=hm3 hf.2;omega
theorem Qq{t et:TypeId}{ti:TypeInfo}{v:Value}{lo hi mx:Option Value}(S:SimH w M ρ h)(hu:P.underlying t=some (.slice et))(sE:P.info? et=some ti)
  (hx:RepA w M ρ h .nil v) (On:sH lo 0 0) (Vq:sH hi 0 0) (xH:sH mx 0 0) (hh:mx.isSome=true→hi.isSome=true) :
  iI P (do pure (.value (← Instr.sliceAt t v lo hi mx))) w M ρ h .nil h:=by
 have hs:P.underlying t=some (.slice (P.elem t)):=by simp[Program.elem,hu]
 have:=Eb hx;subst this;have fE:(Instr.sliceAt t (.slice none 0 0) lo hi mx).run P w = .ok (.slice none 0 0) w:=by
  rw[run_sliceAt_slice w t _ _ _ _ hs];have:=qP (P:=P) (w:=w) (a:=none) (n:=0) (cap:=0) (lo:=lo) (hi:=hi) (mx:=mx) (l:=0) (u:=0) (m:=0) hu sE (by rcases On with h | h;exact .inl (by simpa using h);exact .inr h) (by
   rcases Vq with h | h
   ·refine .inl ⟨h.1,h.2,?_⟩;cases mx with
    | none=>rfl
    | some x=>have:=hh rfl;rw[h.1] at this;cases this
   ·exact .inr h) (by rcases xH with h | h;exact .inl h;exact .inr h) (by omega) (by omega) (by omega) (by simp)
  simpa using this
 exact .pure (by rw[Sem.run_bind,fE];rfl) .nil S
theorem aBe{t:TypeId}{s:ByteArray}{v:Value}{lo hi:Option Value}{l u:Int}(S:SimH w M ρ h)(hu:P.underlying t=some .string)(hx:RepA w M ρ h (.str s) v)(On:sH lo 0 l)(Vq:sH hi s.size u)
  (h0:0≤l) (h1:l≤u) (h2:u≤s.size) :
  iI P (do pure (.value (← Instr.sliceAt t v lo hi none))) w M ρ h (.str (s.extract l.toNat u.toNat)) h:=by
 obtain⟨rfl,hs⟩:=fV hx;have el:(l.toNat:Int)=l:=by omega
 have eu:(u.toNat:Int)=u:=by omega
 have hb:(Instr.sliceBounds false s.size s.size lo hi none).run P w = .ok (l.toNat,u.toNat,s.size) w:=by
  unfold Instr.sliceBounds;rcases Vq with⟨rfl,rfl⟩ | ⟨kh,rfl⟩
  ·rcases On with⟨rfl,rfl⟩ | ⟨kl,rfl⟩
   ·simp
   ·simp[run_sliceBound w kl l s.size _ h0 h1]
  ·rcases On with⟨rfl,rfl⟩ | ⟨kl,rfl⟩
   ·simp[run_sliceBound w kh u s.size _ (by omega) h2]
   ·simp[run_sliceBound w kh u s.size _ (by omega) h2,run_sliceBound w kl l u.toNat _ h0 (by omega)]
 refine .pure (v:=.string (s.extract l.toNat u.toNat)) ?_ (.d (.sc ?_)) S
 ·rw[Sem.run_bind,run_sliceAt_string w t _ _ _ _ hu];unfold Instr.slice;simp only[Sem.run_bind,run_underlying hu,Result.andThen_ok,hb,Sem.run_pure,bD,aE,if_false]
 ·show(s.extract l.toNat u.toNat).size≤maxLen;have:(s.extract l.toNat u.toNat).size≤s.size:=by simp;omega
  exact aJ this hs
structure Src(P:Program)(w:World)(M:Nat→Prop)(ρ:fJ)(h:cM)(sz:Nat)(new:List (List A))(v:Value)(f:Nat→Value):Prop where
 rows:∀ r∈new,r.length=sz
 len:∀ w':World,(Builtin.lenOf v).run P w' = .ok new.length w'
 first:∀ (w':World) (n:Nat),w'.heap=w.heap→n≤new.length→(Builtin.firstCells sz n v).run P w' = .ok ((aC (n * sz)).map f).toArray w'
 one:∀ k,k<new.length * sz→(f k).oneCell'=true
 rep:∀ (i:Nat) (r:List A) (j:Nat) (y:A),new[i]? = some r→r[j]? = some y→RepA w M ρ h y (f (i * sz+j))
theorem aMs{k sz:Nat}:k / sz * sz+k % sz=k:=by rw[aY];exact Nat.div_add_mod k sz
theorem Xs{sz:Nat}{new:List (List A)}{a:Addr}{n cap:Nat}(h0:0<sz)(hn:n=new.length)(tH:∀ r∈new,r.length=sz)
  (hc:∀ (i:Nat) (r:List A) (j:Nat) (y:A),new[i]? = some r→r[j]? = some y→∃ u,w.cell? (a.add (i * sz+j))=some u∧u.oneCell'=true∧RepA w M ρ h y u) :
  ∃ f,Src P w M ρ h sz new (.slice (some a) n cap) f:=by
 have Bu:∀ k,k<new.length * sz→∃ u,w.cell? (a.add k)=some u∧u.oneCell'=true∧∀ r y,new[k / sz]? = some r→r[k % sz]? = some y→RepA w M ρ h y u:=by
  intro k hk;have hi:k / sz<new.length:=(Nat.div_lt_iff_lt_mul h0).2 hk;have hr:=zB hi;have hj:k % sz<(new[k / sz]).length:=by rw[tH _ (List.getElem_mem hi)];exact Nat.mod_lt _ h0
  obtain⟨u,k1,k2,k3⟩:=hc _ _ _ _ hr (zB hj);rw[aMs] at k1;refine⟨u,k1,k2,fun r y q1 q2=>?_⟩;rw[hr] at q1;cases q1;rw[zB hj] at q2;cases q2;exact k3
 obtain⟨f,hf⟩:=xJ Bu;refine⟨f,tH,fun w'=>by simp[Builtin.lenOf,hn],fun w' n' hw hn'=>?_,fun k hk=>(hf k hk).2.1,fun i r j y hi hj=>?_⟩
 ·refine run_firstCells_some w' sz n' a n cap _ (by simp) (fun j v hj=>?_);simp only[zK,zT] at hj;obtain⟨k,hk,rfl⟩:=hj;have Io:k=j∧j<n' * sz:=by
   have:=zA.1 hk;obtain⟨q1,q2⟩:=this;simp at q1 q2;exact⟨q2.symm,q1⟩
  obtain⟨rfl,cY⟩:=Io;have:=(hf k (aU cY (zX _ hn'))).1;simpa[World.cell?,hw] using this
 ·have nX:i<new.length:=(zA.1 hi).1;have Zj:j<sz:=by have:=(zA.1 hj).1;rwa [tH r (zY hi)] at this
  have hk:i * sz+j<new.length * sz:=by
   have:(i+1) * sz≤new.length * sz:=zX _ nX;rw[aB] at this;omega
  have e1:(i * sz+j) / sz=i:=by rw[aY,Nat.mul_add_div h0,Nat.div_eq_of_lt Zj];simp
  have e2:(i * sz+j) % sz=j:=by rw[aY,bK,bH Zj]
  exact(hf _ hk).2.2 r y (by rw[e1];exact hi) (by rw[e2];exact hj)
theorem Pp{sz:Nat}{b:Option Addr}{cap:Nat}:∃ f,Src P w M ρ h sz [] (.slice b 0 cap) f:=by
 refine⟨fun _=>.bool false,by simp,fun w'=>by simp[Builtin.lenOf],fun w' n hw hn=>?_,fun k hk=>by simp at hk,fun i r j y hi=>by simp at hi⟩;have:n=0:=by simpa using hn
 subst this;cases b with
 | none=>simp[Builtin.firstCells]
 | some a=>simp[Builtin.firstCells,loadCells,loadCellsFrom]
theorem Qr{e:Elt}{a:A}{v:Value}{new:List (List A)}(S:SimH w M ρ h)(h0:0<e.sz)(hx:RepA w M ρ h a v)(hs:eX e h a=some new):∃ f,Src P w M ρ h e.sz new v f:=by
 have dcase:∀ (e':Elt) (rows:List (List D)),e'.sz=e.sz→RepD w (vH M ρ) (.sl e' rows) v→new=rows.map (fun r=>r.map .d)→∃ f,Src P w M ρ h e.sz new v f:=by
  intro e' rows he hd vG;obtain⟨a,cap,rfl,h1,h2,h3,h4,h5⟩:=yR hd;cases rows with
  | nil=>subst vG;exact Pp
  | cons r0 rs =>
   obtain⟨a0,rfl,_⟩:=h5 0 r0 rfl;subst vG;refine Xs h0 (by simp) (fun r hr=>?_) (fun i r j y hi hj=>?_)
   ·obtain⟨r',qC,rfl⟩:=aT.1 hr;simp[h4 r' qC,he]
   ·simp only[zK,zT] at hi;obtain⟨r',qC,rfl⟩:=hi;simp only[zK,zT] at hj;obtain⟨d,hd',rfl⟩:=hj;obtain⟨a1,ha,nC⟩:=h5 i r' qC;cases ha;obtain⟨u,k1,_,k3⟩:=nC j d hd';rw[he] at k1;exact⟨u,k1,k3.one,.d k3⟩
 cases a with
 | nil=>simp[eX] at hs;subst hs;rw[Eb hx];exact Pp
 | nn e' rows =>
  simp only[eX] at hs;split at hs<;>cases hs;exact dcase e' rows ‹_› (wH hx).1 rfl
 | fd e' rows =>
  simp only[eX] at hs;split at hs<;>cases hs;exact dcase e' rows ‹_› (wH (Qo hx).1).1 rfl
 | d x =>
  cases x with
  | sl e' rows =>
   simp only[eX] at hs;split at hs<;>cases hs;exact dcase e' rows ‹_› (Xr hx) rfl
  | sc u =>
   cases u with
   | string s =>
    simp only[eX] at hs;split at hs<;>cases hs;rename_i mB;obtain⟨rfl,hs⟩:=fV hx;have eG:s.data.toList.length=s.size:=by rw[Array.length_toList];rfl
    refine⟨fun k=>.int .u8 (s.data.toList.getD k 0).toNat,fun r hr=>?_,fun w'=>by simp only[Builtin.lenOf,Sem.run_pure,zg,eG],fun w' n hw hn=>?_,fun _ _=>rfl,fun i r j y hi hj=>?_⟩
    ·obtain⟨b,_,rfl⟩:=aT.1 hr;simp[mB]
    ·rw[mB,aR];simp only[Builtin.firstCells,Sem.run_pure];congr 1;apply Array.ext';simp only[ByteArray.data_extract,Array.map_extract,Array.toList_extract,Array.toList_map];apply bF;intro k;simp only[zg] at hn;rw[eG] at hn
     by_cases hk:k<n
     ·have Io:k<s.data.toList.length:=by omega
      simp[List.extract,hk,aA,zj,aX];have:s.data[k]? = some (s.data[k]'(by simpa using Io)):=by simp at Io;simp[Io]
      rw[this];simp
     ·rw[zk (by simp[List.extract];omega),zk (by simp;omega)]
    ·simp only[zK,zT] at hi;obtain⟨b,hb,rfl⟩:=hi;have hj0:j=0:=by have:=(zA.1 hj).1;simpa using this
     subst hj0;simp at hj;subst hj;rw[mB,aR,aI];have e1:s.data.toList.getD i 0=b:=by rw[aX,hb];rfl
     rw[e1];refine .d (.sc ?_);have:=b.toNat_lt;show IntKind.u8.min≤(b.toNat:Int)∧(b.toNat:Int)≤IntKind.u8.max;simp only[IntKind.min,IntKind.max,IntKind.bits,IntKind.signed,aE,if_false];omega
   | _=>simp[eX] at hs
 | ref id N off len full =>
  simp only[eX] at hs;split at hs
  ·rename_i e' rows hid;split at hs<;>cases hs;rename_i hc;obtain⟨he,hN⟩:=hc;have nW:=S.cells id e' rows hid;rcases rL hx hid hN with⟨rfl,rfl,rfl,rfl,hp⟩ | ⟨b,p,o,cap,hp,rfl,eG,hcap,hm,ho,hphys,hfull⟩
   ·exact Pp
   ·have hln:((rows.drop off).take len).length=len:=by simp;omega
    rcases Nat.eq_zero_or_pos len with hl0 | hl0
    ·subst hl0;simp only[List.take_zero];exact Pp
    ·have ho':o=off * e'.sz:=ho.resolve_left (by omega);have hg:∀ (i:Nat) (r:List A),((rows.drop off).take len)[i]? = some r→rows[off+i]? = some r:=by
      intro i r hi;have cY:i<len:=by rw[← hln];exact(zA.1 hi).1
      rw[aA cY,zl] at hi;exact hi
     refine Xs h0 hln.symm (fun r hr=>?_) (fun i r j y hi hj=>?_)
     ·rw[← he];exact nW.2.2.2.1 r (aF (aD hr))
     ·obtain⟨u,k1,k2,k3⟩:=nZ S hid hp (hg i r hi) 0 j y (by simpa using hj);refine⟨u,?_,k2,k3⟩;rw[kM] at k1 ⊢;rw[← k1,ho',← he];congr 2;rw[aB];omega
  ·cases hs
 | _=>simp[eX] at hs
end
section
variable {P:Program}{w w':World}{M:Nat→Prop}{ρ ρ':fJ}{h h':cM}
section
variable {t t' ty et:TypeId}{i:TypeInfo}{z:Value}
theorem tI(ht:P.underlying t=some (.slice et))(Kx:(∃ e2,P.underlying t'=some (.slice e2))∨P.underlying t'=some .string)(hi:P.info? et=some i){base:Option Addr}{n cap m:Nat}{x:Value}{news:Array Value}
  (eG:(Builtin.lenOf x).run P w = .ok m w) (kZ:(Builtin.firstCells i.size m x).run P w = .ok news w) (dT:n+m≤cap)
  (mO:∀ a,base=some a→(storeCells (a.add (n * i.size)) news.toList).run P w = .ok () w') (hst':base=none→w'=w) :
  (Builtin.append_ #[t,t'] ty #[.slice base n cap,x]).run P w = .ok (.slice base (n+m) cap) w':=by
 rcases Kx with⟨e2,Kx⟩ | Kx
 ·cases base with
  | none=>simp[Builtin.append_,run_underlying ht,run_underlying Kx,sizeOf,typeInfo,hi,eG,dT,kZ,hst' rfl]
  | some a=>simp[Builtin.append_,run_underlying ht,run_underlying Kx,sizeOf,typeInfo,hi,eG,dT,kZ,mO a rfl]
 ·cases base with
  | none=>simp[Builtin.append_,run_underlying ht,run_underlying Kx,sizeOf,typeInfo,hi,eG,dT,kZ,hst' rfl]
  | some a=>simp[Builtin.append_,run_underlying ht,run_underlying Kx,sizeOf,typeInfo,hi,eG,dT,kZ,mO a rfl]
theorem Iu(ht:P.underlying t=some (.slice et))(Kx:(∃ e2,P.underlying t'=some (.slice e2))∨P.underlying t'=some .string)(hi:P.info? et=some i)(hz:i.zero=some z){base:Option Addr}{n cap m:Nat}{x:Value}{olds news:Array Value}
  (eG:(Builtin.lenOf x).run P w = .ok m w) (Vk:(Builtin.firstCells i.size n (.slice base n cap)).run P w.drew = .ok olds w.drew) (kZ:(Builtin.firstCells i.size m x).run P w.drew = .ok news w.drew) (hg:cap<n+m) (hm:n+m≤maxLen)
  (hb:(n+m) * i.bytes≤dL) :
  (Builtin.append_ #[t,t'] ty #[.slice base n cap,x]).run P w = .ok (.slice (some ⟨w.heap.size,0,none⟩) (n+m) (grownCap w (n+m) cap et))
   (w.drew.alloc (.cells (olds++news++Builtin.zeroCells z.cells (grownCap w (n+m) cap et-(n+m))) et)):=by
 have hn:¬ (n+m≤cap):=by omega
 have h63:¬ (9223372036854775807<((n:Int)+(m:Int))):=by unfold maxLen at hm;omega
 have h48:¬ (281474976710656<Builtin.nextslicecap (n+m) cap * i.bytes):=by
  have:=growslice_fits (need:=n+m) (old:=cap) (bytes:=i.bytes) hg (by unfold dL at hb;exact hb);omega
 rcases Kx with⟨e2,Kx⟩ | Kx
 ·simp[Builtin.append_,run_underlying ht,run_underlying Kx,sizeOf,typeInfo,zeroValue,hi,hz,eG,hn,h63,h48,Question.forced,kZ,Vk,newRow,grownCap]
 ·simp[Builtin.append_,run_underlying ht,run_underlying Kx,sizeOf,typeInfo,zeroValue,hi,hz,eG,hn,h63,h48,Question.forced,kZ,Vk,newRow,grownCap]
end
theorem Ec{sz:Nat}{rows new:List (List A)}{cur:Array Value}{f:Nat→Value}{len:Nat}(pF:∀ (i:Nat) (r:List A) (j:Nat) (x:A),rows[i]? = some r→r[j]? = some x→∃ v,cur[i * sz+j]? = some v∧v.oneCell'=true∧RepA w M ρ h x v)
  (tH:∀ r∈rows,r.length=sz) (srows:∀ r∈new,r.length=sz) (sone:∀ k,k<new.length * sz→(f k).oneCell'=true)
  (srep:∀ (i:Nat) (r:List A) (j:Nat) (y:A),new[i]? = some r→r[j]? = some y→RepA w M ρ h y (f (i * sz+j))) (eG:len≤rows.length) {cells:Array Value}
  (h1:∀ k,k<len * sz→cells[k]? = cur[k]?) (h2:∀ k,k<new.length * sz→cells[len * sz+k]? = some (f k)) (h3:∀ k,(len+new.length) * sz≤k→k<rows.length * sz→cells[k]? = cur[k]?)
  {i:Nat} {r:List A} {j:Nat} {x:A} (hi:(rows.take len++new++rows.drop (len+new.length))[i]? = some r) (hj:r[j]? = some x) :
  ∃ v,cells[i * sz+j]? = some v∧v.oneCell'=true∧RepA w M ρ h x v:=by
 have ltl:(rows.take len).length=len:=by simp;omega
 rw[zS,aG,ltl] at hi;split at hi
 ·rename_i cY;rw[aA cY] at hi;obtain⟨u,k1,k2,k3⟩:=pF i r j x hi hj;have qO:j<sz:=by have:=(zA.1 hj).1;rwa [tH r (zY hi)] at this
  have hk:i * sz+j<len * sz:=by
   have:(i+1) * sz≤len * sz:=zX _ cY;rw[aB] at this;omega
  exact⟨u,by rw[h1 _ hk];exact k1,k2,k3⟩
 ·rename_i vX;rw[aG] at hi;split at hi
  ·rename_i cY;have qO:j<sz:=by have:=(zA.1 hj).1;rwa [srows r (zY hi)] at this
   have hk:(i-len) * sz+j<new.length * sz:=by
    have:(i-len+1) * sz≤new.length * sz:=zX _ cY;rw[aB] at this;omega
   have e:i * sz+j=len * sz+((i-len) * sz+j):=by
    rw[← aN,← aB];congr 2;omega
   rw[e];exact⟨_,h2 _ hk,sone _ hk,srep _ r j x hi hj⟩
  ·rename_i aLW;rw[zl] at hi;have ei:len+new.length+(i-len-new.length)=i:=by omega
   rw[ei] at hi;have qO:j<sz:=by have:=(zA.1 hj).1;rwa [tH r (zY hi)] at this
   obtain⟨u,k1,k2,k3⟩:=pF i r j x hi hj;have Vg:i<rows.length:=(zA.1 hi).1;refine⟨u,?_,k2,k3⟩;rw[h3,k1]
   ·have:(len+new.length) * sz≤i * sz:=zX _ (by omega);omega
   ·have:(i+1) * sz≤rows.length * sz:=zX _ Vg;rw[aB] at this;omega
theorem Xt{cur:Array Value}{new:List Value}{o:Nat}(hl:o+new.length≤cur.size) :
  (cur.toList.take o++new++cur.toList.drop (o+new.length)).toArray.size=cur.size ∧
  (∀ k,k<o→(cur.toList.take o++new++cur.toList.drop (o+new.length)).toArray[k]? = cur[k]?) ∧
  (∀ k,k<new.length→(cur.toList.take o++new++cur.toList.drop (o+new.length)).toArray[o+k]? = new[k]?) ∧
  (∀ k,o+new.length≤k→(cur.toList.take o++new++cur.toList.drop (o+new.length)).toArray[k]? = cur[k]?):=by
 have hs:=fun j=>Pm (cur:=cur) (new:=new.toArray) (o:=o) (j:=j) (by simpa using hl);simp only[aK] at hs;refine⟨by simp;omega,fun k hk=>?_,fun k hk=>?_,fun k hk=>?_⟩
 ·have:=hs k;rw[if_neg (by omega)] at this;exact this
 ·have:=hs (o+k);rw[if_pos (by omega),aL] at this;simpa using this
 ·have:=hs k;rw[if_neg (by omega)] at this;exact this
theorem tW{n:Nat}{f:Nat→Value}{k:Nat}(hk:k<n):((aC n).map f)[k]? = some (f k):=by simp[hk]
theorem Ch{t t' ty et:TypeId}{ti:TypeInfo}{zv:Value}{e:Elt}{rows new:List (List A)}{id N len:Nat}{full:Bool}{v x:Value}{f:Nat→Value}(S:SimH w M ρ h)(bnd:∀ b,M b→b<w.heap.size)
  (ht:P.underlying t=some (.slice et)) (Kx:(∃ e2,P.underlying t'=some (.slice e2))∨P.underlying t'=some .string) (sE:P.info? et=some ti) (hz:ti.zero=some zv) (hzv:zv.cells.size=ti.size) (he:e.sz=ti.size) (heb:e.bytes=ti.bytes)
  (hid:h[id]? = some (.cells e rows)) (hN:N=rows.length) (hx:RepA w M ρ h (.ref id N 0 len full) v) (src:Src P w M ρ h e.sz new x f) (dT:(len+new.length) * e.bytes≤dL) (Vj:len+new.length≤maxLen)
  (Bt:len=N∨(full=true∧len+new.length≤N)) :
  iI P (do pure (.value (← Builtin.append_ #[t,t'] ty #[v,x]))) w M ρ h (.ref id (rows.take len++new++rows.drop (len+new.length)).length 0 (len+new.length) true) (h.set id (.cells e (rows.take len++new++rows.drop (len+new.length)))):=by
 have hbs:=S.cells id e rows hid;obtain⟨g1,g2,g3,g4,g5⟩:=hbs;have Ms:id<h.length:=(zA.1 hid).1;have hRlen:len≤rows.length→(rows.take len++new++rows.drop (len+new.length)).length=max rows.length (len+new.length):=by intro hl;simp;omega
 have hRrows:∀ r∈rows.take len++new++rows.drop (len+new.length),r.length=e.sz:=by
  intro r hr;simp only[bA] at hr;rcases hr with(hr | hr) | hr
  ·exact g4 r (aD hr)
  ·exact src.rows r hr
  ·exact g4 r (aF hr)
 have growTo:len=N→∀ (base:Option Addr) (cap:Nat) (olds:Array Value),v = .slice base len cap→cap<len+new.length→olds.size=len * e.sz →
   (∀ w',w'.heap=w.heap→(Builtin.firstCells ti.size len (.slice base len cap)).run P w' = .ok olds w') →
   (∀ (i:Nat) (r:List A) (j:Nat) (x:A),rows[i]? = some r→r[j]? = some x→∃ v,olds[i * e.sz+j]? = some v∧v.oneCell'=true∧RepA w M ρ h x v)→len≤cap →
   iI P (do pure (.value (← Builtin.append_ #[t,t'] ty #[v,x]))) w M ρ h (.ref id (rows.take len++new++rows.drop (len+new.length)).length 0 (len+new.length) true) (h.set id (.cells e (rows.take len++new++rows.drop (len+new.length)))):=by
  intro hlN base cap olds hv hg Vk hfo nW hlc;subst hv;have fE:=Iu (P:=P) (w:=w) (ty:=ty) (x:=x) (news:=((aC (new.length * e.sz)).map f).toArray) ht Kx sE hz (src.len w) (hfo _ rfl) (by rw[← he];exact src.first _ _ rfl (zL _)) hg Vj (by rw[← heb];exact dT);have vI:len=rows.length:=by omega
  have vF:=hRlen (by omega);have nC:∀ (extra:Array Value) (i:Nat) (r:List A) (j:Nat) (y:A),(rows.take len++new++rows.drop (len+new.length))[i]? = some r→r[j]? = some y→∃ v,(olds++((aC (new.length * e.sz)).map f).toArray++extra)[i * e.sz+j]? = some v∧v.oneCell'=true∧RepA w M ρ h y v:=by
   intro extra i r j y hi hj;refine Ec (cur:=olds) (len:=len) nW g4 src.rows src.one src.rep (by omega) (fun k hk=>?_) (fun k hk=>?_) (fun k hk Io=>?_) hi hj
   ·rw[Array.getElem?_append_left (by simp;omega),Array.getElem?_append_left (by omega)]
   ·rw[Array.getElem?_append_left (by simp;omega),Array.getElem?_append_right (by omega),Vk,aL];simpa using tW hk
   ·have:rows.length * e.sz≤(len+new.length) * e.sz:=zX _ (by omega);omega
  have S1:SimH w.drew M ρ h:=S.drew;have aN4:=fun extra i r j y hi hj=>nC extra i r j y hi hj;have S2:=S1.grow (e:=e) (rows':=rows.take len++new++rows.drop (len+new.length)) (cs:=olds++((aC (new.length * e.sz)).map f).toArray++Builtin.zeroCells zv.cells (grownCap w (len+new.length) cap et-(len+new.length))) bnd et hid
   (by rw[vF];omega) (by rw[vF,aO (by omega)];exact dT) (by rw[vF,aO (by omega)];exact Vj) hRrows
   (by
    rw[vF,aO (by omega)];simp only[Array.size_append,aK,zg,aH,Vk,aB];omega)
   (fun i r j y hi hj=>by
    obtain⟨u,q1,q2,q3⟩:=aN4 _ i r j y hi hj;exact⟨u,q1,q2,(Evo.drew (h:=h) (ρ:=ρ) (w:=w) _ (zL _)).rep' q3⟩)
  refine⟨_,_,_,.inl (by rw[Sem.run_bind,fE];rfl),?_,S2,(Evo.drew _ (zL _)).trans (.grow _ _ hid (by rw[vF];omega))⟩;have hgc:=grownCap_ge w (len+new.length) cap et;have hgm:=grownCap_le_maxLen w (len+new.length) cap et Vj;refine .ref (zN Ms) (zN (by rw[S.len];exact Ms)) (by rw[vF];omega) hgc hgm (.inr (by simp)) ?_ (fun _=>by rw[vF];omega);simp only[Array.size_append,aK,zg,aH,Vk,size_zeroCells,hzv,← he,← aB];exact zX _ (by omega)
 have same:new=[]→(rows.take len++new++rows.drop (len+new.length))=rows∧h.set id (.cells e rows)=h:=by
  intro hn;subst hn;refine⟨by simp,?_⟩;obtain⟨cY,heq⟩:=zA.1 hid;rw[← heq];exact bB cY
 rcases rL hx hid hN with⟨rfl,rfl,_,rfl,hp⟩ | ⟨b,p,o,cap,hp,rfl,eG,hcap,hm,ho,hphys,hfull⟩
 ·by_cases hn:new=[]
  ·obtain⟨e1,e2⟩:=same hn;rw[e1,e2];subst hn;have fE:=tI (P:=P) (w:=w) (w':=w) (ty:=ty) (x:=x) (n:=0) (cap:=0) (m:=0) (base:=none) (news := #[]) ht Kx sE (src.len w) (by rw[← he];have:=src.first w 0 rfl (by simp);simpa using this) (by simp) (fun _ h=>by cases h) (fun _=>rfl);exact .pure (v:=.slice none 0 0) (by rw[Sem.run_bind,fE];rfl) (.ref0 hid hp) S
  ·have hnl:0<new.length:=aS.2 hn;exact growTo hN.symm none 0 #[] rfl (by omega) (by simp) (fun w' _=>by simp[Builtin.firstCells]) (fun i r j x hi=>by simp at hi) (zL _)
 ·by_cases aC2:len+new.length≤cap
  ·by_cases hn:new=[]
   ·obtain⟨e1,e2⟩:=same hn;rw[e1,e2];subst hn;have fE:=tI (P:=P) (w:=w) (w':=w) (ty:=ty) (x:=x) (n:=len) (cap:=cap) (m:=0) (base:=some ⟨b,o,none⟩) (news := #[]) ht Kx sE (src.len w) (by rw[← he];have:=src.first w 0 rfl (by simp);simpa using this) (by simpa using aC2) (fun a h=>by simp[storeCells]) (fun h=>by cases h);refine .pure (v:=.slice (some ⟨b,o,none⟩) len cap) (by rw[Sem.run_bind,fE];rfl) ?_ S;simp only[List.length_nil,aI];refine .ref hid hp eG hcap hm ho hphys (fun _=>?_);rcases Bt with hc | hc
    ·omega
    ·exact hfull hc.1
   ·have hnl:0<new.length:=aS.2 hn;have ho':o=0:=by have:=ho.resolve_left (by omega);simpa using this
    subst ho';rcases g5 with⟨g5,_⟩ | ⟨b',p',cs,tb,g5,g6,g7,g8,g9,g10⟩
    ·rw[hp] at g5;cases g5
    rw[hp] at g5;cases g5;have aMl:(len+new.length) * e.sz≤cs.size:=by
     rw[g8];refine aJ (zX _ ?_) hphys;omega
    have aQM:len * e.sz+new.length * e.sz≤cs.size:=by rw[← aB];exact aMl
    have mO:=run_storeCells_at P b (len * e.sz) tb ((aC (new.length * e.sz)).map f) 0 cs w g7 (by simp;omega) (fun u hu=>by
     obtain⟨k,hk,rfl⟩:=aT.1 hu;exact src.one k (by simpa using hk))
    rw[aI] at mO;obtain⟨q1,q2,q3,q4⟩:=Xt (cur:=cs) (new:=(aC (new.length * e.sz)).map f) (o:=len * e.sz) (by simp;omega);obtain⟨hd,hh⟩:=uC (cs:=(cs.toList.take (len * e.sz)++(aC (new.length * e.sz)).map f++cs.toList.drop (len * e.sz+((aC (new.length * e.sz)).map f).length)).toArray) g7;have fE:=tI (P:=P) (w:=w) (ty:=ty) (x:=x) (n:=len) (cap:=cap) (m:=new.length) (base:=some ⟨b,0,none⟩) (news:=((aC (new.length * e.sz)).map f).toArray) ht Kx sE (src.len w)
     (by rw[← he];exact src.first w _ rfl (zL _)) aC2 (fun a h=>by cases h;rw[kM,bG,← he];exact mO) (fun h=>by cases h)
    have vI:len≤rows.length:=by omega
    have vF:=hRlen vI;have aMo:max rows.length (len+new.length) * e.bytes≤dL∧max rows.length (len+new.length)≤maxLen:=by
     rcases Nat.le_total rows.length (len+new.length) with h1 | h1
     ·rw[aO h1];exact⟨dT,Vj⟩
     ·rw[bM h1];exact⟨g2,g3⟩
    have hRp:max rows.length (len+new.length) * e.sz≤p:=by
     rcases Nat.le_total rows.length (len+new.length) with h1 | h1
     ·rw[aO h1,← g8];exact aMl
     ·rw[bM h1];exact g9
    refine⟨_,_,ρ,.inl (by rw[Sem.run_bind,fE];rfl),?_,S.put hid hp hd (by rw[vF];omega) hh (by rw[q1];exact g8) (by rw[vF];exact aMo.1) (by rw[vF];exact aMo.2) hRrows (by rw[vF];exact hRp) (fun i r j y hi hj=>?_),.put hid hp hd (by rw[vF];omega)⟩
    ·refine .ref (zN Ms) hp (by rw[vF];omega) aC2 hm (.inr (by simp)) (by simpa using hphys) (fun _=>?_);rw[vF];rcases Bt with hc | hc
     ·omega
     ·have:=hfull hc.1;omega
    ·refine Ec (cur:=cs) (len:=len) g10 g4 src.rows src.one src.rep vI (fun k hk=>q2 k hk) (fun k hk=>?_) (fun k hk _=>q4 k (by simp only[zg,aH];rw[← aB];exact hk)) hi hj;rw[q3 k (by simpa using hk)];exact tW hk
  ·have hlN:len=N:=by
    rcases Bt with hc | hc
    ·exact hc
    ·have:=hfull hc.1;omega
   obtain⟨f0,src0⟩:=Qr (P:=P) (e:=e) (a:=.ref id N 0 len full) S g1 hx (new:=(rows.drop 0).take len) (by simp only[eX,hid];exact if_pos ⟨trivial,hN⟩);have hln:((rows.drop 0).take len).length=len:=by simp;omega
   refine growTo hlN (some ⟨b,o,none⟩) cap ((aC (len * e.sz)).map f0).toArray rfl (by omega) (by simp) (fun w' hw=>?_) (fun i r j x hi hj=>?_) hcap
   ·rw[← he];exact src0.first w' len hw (by rw[hln];exact zL _)
   ·have Vg:i<len:=by have:=(zA.1 hi).1;omega
    have nX:((rows.drop 0).take len)[i]? = some r:=by rw[aA Vg];simpa using hi
    have qO:j<e.sz:=by have:=(zA.1 hj).1;rwa [g4 r (zY hi)] at this
    have hk:i * e.sz+j<len * e.sz:=by
     have:(i+1) * e.sz≤len * e.sz:=zX _ Vg;rw[aB] at this;omega
    exact⟨f0 (i * e.sz+j),by simpa using tW hk,src0.one _ (by rw[hln];exact hk),src0.rep i r j x nX hj⟩
end
section
variable {P:Program}{w w':World}{M:Nat→Prop}{ρ ρ':fJ}{h h':cM}
theorem Oq{t t' ty et:TypeId}{ti:TypeInfo}{zv:Value}{e:Elt}{new:List (List A)}{v x:Value}{f:Nat→Value}{pl:Option Nat}{K:A→cM→Prop}(S:SimH w M ρ h)(bnd:∀ b,M b→b<w.heap.size)
  (ht:P.underlying t=some (.slice et)) (Kx:(∃ e2,P.underlying t'=some (.slice e2))∨P.underlying t'=some .string) (sE:P.info? et=some ti) (hz:ti.zero=some zv) (hzv:zv.cells.size=ti.size) (he:e.sz=ti.size) (heb:e.bytes=ti.bytes) (h0:0<e.sz)
  (hx:RepA w M ρ h .nil v) (src:Src P w M ρ h e.sz new x f)
  (hK:if new=[] then K .nil h else new.length * e.bytes≤dL∧new.length≤maxLen∧gP pl h (.cells e new) fun id h1=>K (.ref id new.length 0 new.length true) h1) :
  ∃ r h',K r h'∧iI P (do pure (.value (← Builtin.append_ #[t,t'] ty #[v,x]))) w M ρ h r h':=by
 have:=Eb hx;subst this;split at hK
 ·rename_i hn;subst hn;have fE:=tI (P:=P) (w:=w) (w':=w) (ty:=ty) (x:=x) (n:=0) (cap:=0) (m:=0) (base:=none) (news := #[]) ht Kx sE (src.len w) (by rw[← he];have:=src.first w 0 rfl (by simp);simpa using this) (by simp) (fun _ h=>by cases h) (fun _=>rfl);exact⟨_,_,hK,.pure (v:=.slice none 0 0) (by rw[Sem.run_bind,fE];rfl) .nil S⟩
 ·obtain⟨k1,k2,k3⟩:=hK;obtain⟨id,h1,ρ1,n,hKr⟩:=tV (ρ:=ρ) k3 none
  -- the same gP, first with a block without rows
  have hn:∃ h0 ρ0,NewAt h ρ (.cells e []) none pl id h0 ρ0∧h0.set id (.cells e new)=h1:=by
   cases n with
   | push=>exact⟨_,_,.push,by simp⟩
   | set hr=>exact⟨_,_,.set hr,by simp⟩
  obtain⟨h0',ρ0,n0,e1⟩:=hn;have g:=Evo.newNil (w:=w) n0 S.len;have src':Src P w M ρ0 h0' e.sz new x f:=⟨src.rows,src.len,src.first,src.one,fun i r j y hi hj=>g.rep' (src.rep i r j y hi hj)⟩;have hd:=Ch (P:=P) (t:=t) (t':=t') (ty:=ty) (len:=0) (full:=true) (id:=id) (e:=e) (rows:=[]) (v:=.slice none 0 0) (x:=x) (N:=0) (S.newNil h0 n0) bnd ht Kx sE hz hzv he heb n0.heap rfl (.ref0 n0.heap (n0.phys S.len)) src' (by simpa using k1) (by simpa using k2) (.inl rfl);simp only[List.take_nil,List.nil_append,List.drop_nil,bN,bG] at hd;rw[e1] at hd;obtain⟨v',w',ρ',q1,q2,q3,q4⟩:=hd;refine⟨_,_,hKr,v',w',ρ',q1,q2,q3,g.trans (q4.mono (n0.len S.len).2)⟩
theorem Qs{t t' ty et:TypeId}{ti:TypeInfo}{zv:Value}{e e':Elt}{rows:List (List D)}{new:List (List A)}{v x:Value}{f:Nat→Value}{pl:Option Nat}{K:A→cM→Prop}(S:SimH w M ρ h)(bnd:∀ b,M b→b<w.heap.size)
  (ht:P.underlying t=some (.slice et)) (Kx:(∃ e2,P.underlying t'=some (.slice e2))∨P.underlying t'=some .string) (sE:P.info? et=some ti) (hz:ti.zero=some zv) (hzv:zv.cells.size=ti.size) (he:e.sz=ti.size) (heb:e.bytes=ti.bytes) (h0:0<e.sz)
  (hx:RepA w M ρ h (.fd e' rows) v) (src:Src P w M ρ h e.sz new x f)
  (hK:e'.sz=e.sz∧new≠[]∧(rows.length+new.length) * e.bytes≤dL∧rows.length+new.length≤maxLen ∧
   gP pl h (.cells e ((rows.map fun r=>r.map .d)++new)) fun id h1=>K (.ref id (rows.length+new.length) 0 (rows.length+new.length) true) h1) :
  ∃ r h',K r h'∧iI P (do pure (.value (← Builtin.append_ #[t,t'] ty #[v,x]))) w M ρ h r h':=by
 obtain⟨k0,fM,k1,k2,k3⟩:=hK;obtain⟨hnn,a,rfl⟩:=Qo hx;have hnl:0<new.length:=aS.2 fM;obtain⟨id,h1,ρ1,n,hKr⟩:=tV (ρ:=ρ) k3 none;have hn:∃ h0 ρ0,NewAt h ρ (.cells e []) none pl id h0 ρ0∧h0.set id (.cells e ((rows.map fun r=>r.map .d)++new))=h1:=by
  cases n with
  | push=>exact⟨_,_,.push,by simp⟩
  | set hr=>exact⟨_,_,.set hr,by simp⟩
 obtain⟨h0',ρ0,n0,e1⟩:=hn;have g:=Evo.newNil (w:=w) n0 S.len;have S0:=S.newNil h0 n0;have src':Src P w M ρ0 h0' e.sz new x f:=⟨src.rows,src.len,src.first,src.one,fun i r j y hi hj=>g.rep' (src.rep i r j y hi hj)⟩;obtain⟨f0,src0⟩:=Qr (P:=P) (e:=e) (a:=.nn e' rows) S0 h0 (g.rep' hnn) (new:=rows.map fun r=>r.map .d) (by simp only[eX];exact if_pos k0);have hlm:(rows.map fun r=>r.map A.d).length=rows.length:=by simp
 have fE:=Iu (P:=P) (w:=w) (ty:=ty) (x:=x) (base:=some a) (n:=rows.length) (cap:=rows.length) (olds:=((aC (rows.length * e.sz)).map f0).toArray) (news:=((aC (new.length * e.sz)).map f).toArray) ht Kx sE hz (src.len w)
  (by rw[← he];exact src0.first _ _ rfl (by rw[hlm];exact zL _)) (by rw[← he];exact src.first _ _ rfl (zL _)) (by omega) k2 (by rw[← heb];exact k1)
 have hRl:((rows.map fun r=>r.map A.d)++new).length=rows.length+new.length:=by simp
 have hRr:∀ r∈(rows.map fun r=>r.map A.d)++new,r.length=e.sz:=by
  intro r hr;rcases bA.1 hr with hr | hr
  ·exact src0.rows r hr
  ·exact src.rows r hr
 have S1:SimH w.drew M ρ0 h0':=S0.drew;have nC:∀ (extra:Array Value) (i:Nat) (r:List A) (j:Nat) (y:A),((rows.map fun r=>r.map A.d)++new)[i]? = some r→r[j]? = some y →
   ∃ v,(((aC (rows.length * e.sz)).map f0).toArray++((aC (new.length * e.sz)).map f).toArray++extra)[i * e.sz+j]? = some v∧v.oneCell'=true∧RepA w M ρ0 h0' y v:=by
  intro extra i r j y hi hj;have hi0:(((rows.map fun r=>r.map A.d).take rows.length)++new++((rows.map fun r=>r.map A.d).drop (rows.length+new.length)))[i]? = some r:=by
   rw[List.take_of_length_le (by simp),List.drop_eq_nil_of_le (by simp),bN];exact hi
  refine Ec (cur:=((aC (rows.length * e.sz)).map f0).toArray) (len:=rows.length) (rows:=rows.map fun r=>r.map A.d) (fun i r j y hi hj=>?_) src0.rows src'.rows src'.one src'.rep (by simp) (fun k hk=>?_) (fun k hk=>?_) (fun k hk Io=>?_) hi0 hj
  ·have Vg:i<rows.length:=by have:=(zA.1 hi).1;simpa using this
   have qO:j<e.sz:=by have:=(zA.1 hj).1;rwa [src0.rows r (zY hi)] at this
   have hk:i * e.sz+j<rows.length * e.sz:=by
    have:(i+1) * e.sz≤rows.length * e.sz:=zX _ Vg;rw[aB] at this;omega
   exact⟨f0 (i * e.sz+j),by simpa using tW hk,src0.one _ (by rw[hlm];exact hk),src0.rep i r j y hi hj⟩
  ·rw[Array.getElem?_append_left (by simp;omega),Array.getElem?_append_left (by simp;omega)]
  ·rw[Array.getElem?_append_left (by simp;omega),Array.getElem?_append_right (by simp)];simp only[aK,zg,aH,aL];simpa using tW hk
  ·rw[hlm] at Io;have:rows.length * e.sz≤(rows.length+new.length) * e.sz:=zX _ (by omega);omega
 have hgc:=grownCap_ge w (rows.length+new.length) rows.length et;have hgm:=grownCap_le_maxLen w (rows.length+new.length) rows.length et k2;have S2:=S1.grow (e:=e) (rows':=(rows.map fun r=>r.map A.d)++new) (cs:=((aC (rows.length * e.sz)).map f0).toArray++((aC (new.length * e.sz)).map f).toArray++Builtin.zeroCells zv.cells (grownCap w (rows.length+new.length) rows.length et-(rows.length+new.length))) bnd et n0.heap
  (by rw[hRl];simp;omega) (by rw[hRl];exact k1) (by rw[hRl];exact k2) hRr
  (by
   rw[hRl];simp only[Array.size_append,aK,zg,aH,aB];omega)
  (fun i r j y hi hj=>by
   obtain⟨u,q1,q2,q3⟩:=nC _ i r j y hi hj;exact⟨u,q1,q2,(Evo.drew (h:=h0') (ρ:=ρ0) (w:=w) _ (zL _)).rep' q3⟩)
 have Ms:id<h0'.length:=(zA.1 n0.heap).1;rw[← e1] at hKr;refine⟨_,_,hKr,_,_,_,.inl (by rw[Sem.run_bind,fE];rfl),?_,S2,g.trans (((Evo.drew _ (zL _)).trans (.grow _ _ n0.heap (by rw[hRl];simp;omega))).mono (n0.len S.len).2)⟩;rw[← hRl];refine .ref (zN Ms) (zN (by rw[S0.len];exact Ms)) (by omega) (by rw[hRl];exact hgc) (by rw[hRl];exact hgm) (.inr (by simp)) ?_ (fun _=>by rw[hRl];omega);simp only[Array.size_append,aK,zg,aH,size_zeroCells,hzv,← he,← aB];exact zX _ (by omega)
theorem aFL{t t' ty et:TypeId}{ti:TypeInfo}{e:Elt}{rows new:List (List A)}{id N off len:Nat}{full:Bool}{v x:Value}{f:Nat→Value}(S:SimH w M ρ h)
  (ht:P.underlying t=some (.slice et)) (sE:P.info? et=some ti) (he:e.sz=ti.size)
  (hid:h[id]? = some (.cells e rows)) (hN:N=rows.length) (hx:RepA w M ρ h (.ref id N off len full) v) (src:Src P w M ρ h e.sz new x f) :
  iI P (do pure (.value (← Builtin.copy_ #[t,t'] ty #[v,x]))) w M ρ h (.int (min new.length len:Nat)) (h.set id (.cells e (rows.take off++new.take (min new.length len)++rows.drop (off+min new.length len)))):=by
 obtain⟨g1,g2,g3,g4,g5⟩:=S.cells id e rows hid;have Ms:id<h.length:=(zA.1 hid).1;have hn1:min new.length len≤new.length:=Nat.min_le_left _ _;have kZ:=src.first w (min new.length len) rfl hn1;have aRh:Nat.min new.length len=min new.length len:=rfl;have gZ:min new.length len≤maxLen:=by
  rcases rL hx hid hN with⟨_,_,_,rfl,_⟩ | ⟨_,_,_,_,_,_,eG,_⟩
  ·simp
  ·have:=bJ new.length len;omega
 by_cases hn:min new.length len=0
 ·rw[hn];have e1:rows.take off++new.take 0++rows.drop (off+0)=rows:=by simp
  have e2:h.set id (.cells e rows)=h:=by
   obtain⟨cY,heq⟩:=zA.1 hid;rw[← heq];exact bB cY
  rw[e1,e2];rw[hn] at kZ;refine .pure (v:=.int .i64 0) ?_ (.d (.sc (pI (n:=0) (by simp)))) S;have aMp:Nat.min new.length len=0:=hn;rcases rL hx hid hN with⟨rfl,_⟩ | ⟨b,p,o,cap,hp,rfl,_⟩
  ·simp[Builtin.copy_,run_underlying ht,src.len,aMp,hU sE,← he,kZ,goInt]
  ·simp[Builtin.copy_,run_underlying ht,src.len,aMp,hU sE,← he,kZ,goInt,storeCells]
 ·rcases rL hx hid hN with⟨rfl,_,_,rfl,_⟩ | ⟨b,p,o,cap,hp,rfl,eG,hcap,hm,ho,hphys,hfull⟩
  ·simp at hn
  ·have hl2:min new.length len≤len:=bJ _ _;have ho':o=off * e.sz:=ho.resolve_left (by omega);subst ho';rcases g5 with⟨g5,_⟩ | ⟨b',p',cs,tb,g5,g6,g7,g8,g9,g10⟩
   ·rw[hp] at g5;cases g5
   rw[hp] at g5;cases g5;generalize hnn:min new.length len=n at *;have aC2:off * e.sz+n * e.sz≤cs.size:=by
    rw[g8,← aB];exact aJ (zX _ (by omega)) hphys
   have mO:=run_storeCells_at P b (off * e.sz) tb ((aC (n * e.sz)).map f) 0 cs w g7 (by simp;omega) (fun u hu=>by
    obtain⟨k,hk,rfl⟩:=aT.1 hu;have Io:k<n * e.sz:=by simpa using hk
    exact src.one k (aU Io (zX _ hn1)))
   obtain⟨q1,q2,q3,q4⟩:=Xt (cur:=cs) (new:=(aC (n * e.sz)).map f) (o:=off * e.sz) (by simp;omega);obtain⟨hd,hh⟩:=uC (cs:=(cs.toList.take (off * e.sz)++(aC (n * e.sz)).map f++cs.toList.drop (off * e.sz+((aC (n * e.sz)).map f).length)).toArray) g7;have hRl:(rows.take off++new.take n++rows.drop (off+n)).length=rows.length:=by simp;omega
   have hRrows:∀ r∈rows.take off++new.take n++rows.drop (off+n),r.length=e.sz:=by
    intro r hr;simp only[bA] at hr;rcases hr with(hr | hr) | hr
    ·exact g4 r (aD hr)
    ·exact src.rows r (aD hr)
    ·exact g4 r (aF hr)
   refine⟨.int .i64 n,_,ρ,.inl ?_,.d (.sc (pI gZ)),S.put hid hp hd (by rw[hRl];exact zL _) hh (by rw[q1];exact g8) (by rw[hRl];exact g2) (by rw[hRl];exact g3) hRrows (by rw[hRl];exact g9) (fun i r j y hi hj=>?_),.put hid hp hd (by rw[hRl];exact zL _)⟩
   ·have aPO:Nat.min new.length len=n:=hnn;rw[aI] at mO;simp[Builtin.copy_,run_underlying ht,src.len,aPO,hU sE,← he,kZ,goInt];simpa using congrArg (fun r=>(r.andThen fun _ w=>Result.ok (Value.int .i64 n) w).andThen fun a w=>Result.ok (Next.value a) w) mO
   ·have hnl:(new.take n).length=n:=by simp;omega
    refine Ec (cur:=cs) (len:=off) (new:=new.take n) (f:=f) g10 g4 (fun r hr=>src.rows r (aD hr)) (fun k hk=>src.one k ?_) (fun i r j y hi hj=>?_) (by omega) (fun k hk=>q2 k hk) (fun k hk=>?_) (fun k hk _=>q4 k ?_) (by rw[hnl];exact hi) hj
    ·rw[hnl] at hk;exact aU hk (zX _ hn1)
    ·have Vg:i<n:=by have:=(zA.1 hi).1;omega
     rw[aA Vg] at hi;exact src.rep i r j y hi hj
    ·rw[hnl] at hk;rw[q3 k (by simpa using hk)];exact tW hk
    ·simp only[zg,aH];rw[hnl] at hk;rw[← aB];exact hk
theorem aFM{t et:TypeId}{e:Elt}{z:List A}{n c:Int}{u u':Value}{pl:Option Nat}{K:A→cM→Prop}(S:SimH w M ρ h)(bnd:∀ b,M b→b<w.heap.size)
  (ht:P.underlying t=some (.slice et)) (he:elt? P et=some e) (hz:zeroCells? P et=some z) (hs:vO e=true) (hx:RepA w M ρ h (.int n) u) (hy:RepA w M ρ h (.int c) u')
  (h0:0≤n) (h1:n≤c) (h63:c≤9223372036854775807) (dT:c * e.bytes≤dL) (hK:gP pl h (.cells e (bC n.toNat z)) fun id h1=>K (.ref id n.toNat 0 n.toNat true) h1) :
  ∃ r h',K r h'∧iI P (do pure (.value (← Instr.makeSlice t u u'))) w M ρ h r h':=by
 obtain⟨rfl, -⟩:=fV hx;obtain⟨rfl, -⟩:=fV hy;obtain⟨ti,zv,z1,z2,z3,z4,z5,z6⟩:=Cd (w:=w) (M:=M) (ρ:=ρ) (h:=h) hz;obtain⟨ti',sE,rfl⟩:=pH he;rw[z1] at sE;cases sE;obtain⟨s1,s2⟩:=uB hs;dsimp only at *;have hb:(ti.bytes:Int) * c≤281474976710656:=by rw[Int.mul_comm];unfold dL at dT;omega
 have fE:=run_make (P:=P) w t et ti zv ht z1 z2 .i64 .i64 n c h0 h1 hb h63;have hR:=Xq (n:=c.toNat) (w:=w) (M:=M) (ρ:=ρ) (h:=h) (sz:=ti.size) (zv:=zv.cells) (z:=z) ⟨by omega,z5,z6⟩ z4 s1;have Il:(madeCells zv.cells (c.toNat * ti.size)).size=c.toNat * ti.size:=size_madeCells _ _;have hnc:n.toNat≤c.toNat:=by omega
 have hcb:c.toNat * ti.bytes≤dL:=by
  have:((c.toNat * ti.bytes:Nat):Int)≤dL:=by
   rw[Int.natCast_mul];have:(c.toNat:Int)=c:=by omega
   rw[this];exact dT
  omega
 obtain⟨id,Gb,ρ1,nw,hKr⟩:=tV (ρ:=ρ) hK (some (w.heap.size,(madeCells zv.cells (c.toNat * ti.size)).size));refine⟨_,_,hKr,_,_,ρ1,.inl (by rw[Sem.run_bind,fE];rfl),?_,S.newCells bnd et nw s1 ?_ ?_ ?_ ?_ ?_,.newAlloc nw S.len⟩
 ·have:=RepA.ref (w:=w.alloc (.cells (madeCells zv.cells (c.toNat * ti.size)) et)) (M:=M) (off:=0) (len:=n.toNat) (o:=0) (cap:=c.toNat) (full:=true) nw.heap (nw.phys S.len) (by simp) hnc (by unfold maxLen;omega) (.inr (by simp)) (by rw[Il];simp) (fun _=>by simp;omega);simpa using this
 ·simp only[aQ];exact aJ (zX _ hnc) hcb
 ·simp only[aQ];unfold maxLen;omega
 ·intro r hr;rw[(bE.1 hr).2];exact z4
 ·simp only[aQ,Il];exact zX _ hnc
 ·intro i r j x hi hj;have nX:i<n.toNat:=by have:=(zA.1 hi).1;simpa using this
  have hr:r=z:=by
   have:=aM (a:=z) nX;rw[this] at hi;exact(Option.some.inj hi).symm
  subst hr;exact hR.get (aM (by omega)) hj
theorem Zq{isMax:Bool}{k:IntKind}{a b:Int}{u v:Value}{ts:Array TypeId}{ty:TypeId}(S:SimH w M ρ h)(hx:RepA w M ρ h (.sc (.int k a)) u)(hy:RepA w M ρ h (.sc (.int k b)) v) :
  iI P (do pure (.value (← if isMax then Builtin.max_ ts ty #[u,v] else Builtin.min_ ts ty #[u,v]))) w M ρ h (.sc (.int k (eB isMax a b))) h:=by
 obtain⟨rfl,ha⟩:=fV hx;obtain⟨rfl,hb⟩:=fV hy;refine .pure (v:=.int k (eB isMax a b)) ?_ (.d (.sc ?_)) S
 ·cases isMax<;>simp[Builtin.max_,Builtin.min_,Builtin.max2,Builtin.min2,eB]
 ·unfold eB;cases isMax<;>simp only[aE,if_false,if_true]<;>split<;>assumption
theorem Zr{isMax:Bool}{k:IntKind}{a b c:Int}{u v x:Value}{ts:Array TypeId}{ty:TypeId}(S:SimH w M ρ h)(hx:RepA w M ρ h (.sc (.int k a)) u)(hy:RepA w M ρ h (.sc (.int k b)) v)(hz:RepA w M ρ h (.sc (.int k c)) x) :
  iI P (do pure (.value (← if isMax then Builtin.max_ ts ty #[u,v,x] else Builtin.min_ ts ty #[u,v,x]))) w M ρ h (.sc (.int k (eB isMax (eB isMax a b) c))) h:=by
 obtain⟨rfl,ha⟩:=fV hx;obtain⟨rfl,hb⟩:=fV hy;obtain⟨rfl,hc⟩:=fV hz;refine .pure (v:=.int k (eB isMax (eB isMax a b) c)) ?_ (.d (.sc ?_)) S
 ·cases isMax<;>simp[Builtin.max_,Builtin.min_,Builtin.max2,Builtin.min2,eB]
 ·unfold eB;cases isMax<;>simp only[aE,if_false,if_true]<;>(repeat' split)<;>assumption
theorem aDe{t et:TypeId}{n:Nat}{ti:TypeInfo}{x y:A}{v u:Value}{K:A→cM→Prop}(S:SimH w M ρ h)(ht:P.underlying t=some (.array n et))(sE:P.info? et=some ti)(hx:RepA w M ρ h x v)(hy:RepA w M ρ h y u)
  (hK:match (generalizing:=false) x,y with
   | .ptr id N i' off,.d (.sc (.int _ m))=>match h[id]? with
    | some (.cells _ rows)=>N=rows.length∧0≤m∧m<n∧K (.ptr id N i' (off+m.toNat * ti.size)) h
    | _=>False
   | .iptr cs,.d (.sc (.int _ m))=>0≤m∧m<n∧K (.iptr (cs.drop (m.toNat * ti.size))) h
   | _,_=>False) :
  ∃ r h',K r h'∧iI P (do pure (.value (← Instr.indexAt t v u))) w M ρ h r h':=by
 have run:∀ (a:Addr) (k:IntKind) (m:Int),0≤m→m<n→(Instr.indexAt t (.pointer (some a)) (.int k m)).run P w = .ok (.pointer (some (a.add (m.toNat * ti.size)))) w:=by
  intro a k m h0 h1;simp[Instr.indexAt,asIntOf,run_underlying ht,Instr.sureAddr,h0,h1,hU sE]
 split at hK
 ·rename_i id N i' off k m;obtain⟨rfl, -⟩:=fV hy;split at hK
  ·rename_i e rows hid;obtain⟨hN,h0,h1,hK⟩:=hK;obtain⟨b,p,hρ,rfl⟩:=vP hx hid hN;refine⟨_,_,hK,.pure (by rw[Sem.run_bind,run _ _ _ h0 h1];rfl) ?_ S⟩;rw[kM,aN,hN];exact .ptr hid hρ
  ·exact hK.elim
 ·rename_i cs k m;obtain⟨rfl, -⟩:=fV hy;obtain⟨h0,h1,hK⟩:=hK;cases hx with
  | iptr f hc hr =>
   refine⟨_,_,hK,.pure (by rw[Sem.run_bind,run _ _ _ h0 h1];rfl) ?_ S⟩;refine .iptr (fun j=>f (m.toNat * ti.size+j)) (fun j d hj=>?_) (fun j d hj=>?_)
   ·rw[zl] at hj;rw[Pn,lD];exact hc _ d hj
   ·rw[zl] at hj;exact hr _ d hj
 ·exact hK.elim
theorem aFN{t et:TypeId}{n:Nat}{ti:TypeInfo}{x y:A}{v u:Value}{K:A→cM→Prop}(S:SimH w M ρ h)(ht:P.underlying t=some (.array n et))(sE:P.info? et=some ti)(hk:xI P et=true)(hx:RepA w M ρ h x v)(hy:RepA w M ρ h y u)
  (hK:match (generalizing:=false) x,y with
   | .agg cs,.d (.sc (.int _ m))=>0≤m∧m<n∧dI ti.size (sG P et) (cs.drop (m.toNat * ti.size)) fun a=>K a h
   | _,_=>False) :
  ∃ r h',K r h'∧iI P (do pure (.value (← Instr.index t v u))) w M ρ h r h':=by
 split at hK
 ·rename_i cs k m;obtain⟨rfl, -⟩:=fV hy;obtain⟨h0,h1,hK⟩:=hK;obtain⟨vs,rfl⟩:∃ vs,v = .agg vs:=by cases hx;exact⟨_,rfl⟩
  obtain⟨a,b,hKa,fE,nD⟩:=Is (P:=P) hk sE hx hK;refine⟨a,h,hKa,.pure ?_ nD S⟩;simp[Instr.index,asIntOf,run_underlying ht,h0,h1,hU sE,fE]
 ·exact hK.elim
end
section
variable {P:Program}{w w':World}{M:Nat→Prop}{ρ ρ':fJ}{h h':cM}
theorem oO{α β:Type}{f:α→Option β}:∀ {l:List α} {ys:List β},l.mapM f=some ys→ys.length=l.length∧∀ (j:Nat) (x:α),l[j]? = some x→∃ y,ys[j]? = some y∧f x=some y:=by
 intro l
 induction l with
 | nil=>intro ys hm;simp at hm;subst hm;simp
 | cons a l ih =>
  intro ys hm;simp only[List.mapM_cons,Option.bind_eq_bind,Option.pure_def,Option.bind_eq_some_iff,zH] at hm;obtain⟨y,hy,ys',hys,rfl⟩:=hm;obtain⟨h1,h2⟩:=ih hys;refine⟨by simp[h1],fun j x hj=>?_⟩;cases j with
  | zero=>simp at hj;subst hj;exact⟨y,by simp,hy⟩
  | succ j=>simp at hj;simpa using h2 j x hj
theorem Iv(s:ByteArray):∀ (b i:Nat) (acc:Array Value),Conv.runesFrom s b i acc=acc++((kO s b i).map fun(n:Nat)=>Value.int .i32 (n:Int)).toArray
 | 0,i,acc=>by simp[Conv.runesFrom,kO]
 | b+1,i,acc=>by
  simp only[Conv.runesFrom,kO];split
  ·rw[Iv s b];simp
  ·simp
theorem Ci(s:ByteArray):∀ b i,(kO s b i).length≤b
 | 0,i=>by simp[kO]
 | b+1,i=>by
  simp only[kO];split
  ·simp only[List.length_cons];have:=Ci s b (i+(Utf8.decode s i).2);omega
  ·simp
theorem Xu(s:ByteArray)(i:Nat):(Utf8.decode s i).1≤1114111:=by
 unfold Utf8.decode;dsimp only;split
 ·dsimp only;omega
 ·split
  ·split
   ·dsimp only;omega
   ·simp[Utf8.runeError]
  ·split
   ·split
    ·dsimp only;omega
    ·simp[Utf8.runeError]
   ·split
    ·split
     ·rename_i hv;simp only[Utf8.valid,zf,Bool.or_eq_true,decide_eq_true_eq] at hv;dsimp only;omega
     ·simp[Utf8.runeError]
    ·simp[Utf8.runeError]
theorem Qt(s:ByteArray):∀ b i,∀ n∈kO s b i,n≤1114111
 | 0,i=>by simp[kO]
 | b+1,i=>by
  simp only[kO];split
  ·intro n hn;rcases List.mem_cons.1 hn with rfl | hn
   ·exact Xu s i
   ·exact Qt s b _ n hn
  ·simp
theorem aEO{n:Nat}(hn:n≤1114111):Iq (.int .i32 n):=by
 have h1:IntKind.i32.min = -2147483648:=by decide
 have h2:IntKind.i32.max=2147483647:=by decide
 exact⟨by rw[h1];omega,by rw[h2];omega⟩
theorem Evo.foreign(hos:w'.os=w.os)(ht:w'.tape=w.tape)(ho:w'.output=w.output)(mB:w.heap.size≤w'.heap.size)(pF:∀ b,b<w.heap.size→w'.heap[b]? = w.heap[b]?):Evo h.length h ρ w h ρ w' :=
 ⟨hos,ht,ho,mB,fun b hb _=>pF b hb,fun id b p hb=>.inr ⟨id,p,hb⟩,zL _,fun _ _ _ hb=>.refl hb⟩
theorem SimH.foreign(S:SimH w M ρ h)(g:Evo h.length h ρ w h ρ w')(pF:∀ b,b<w.heap.size→w'.heap[b]? = w.heap[b]?):SimH w' M ρ h where
 len:=S.len
 cells id e rows hB:=by
  obtain⟨q1,q2,q3,q4,q5⟩:=S.cells id e rows hB;refine⟨q1,q2,q3,q4,?_⟩;rcases q5 with q5 | ⟨b,p,cs,t,k1,k2,k3,k4,k5,k6⟩
  ·exact .inl q5
  ·have hb:b<w.heap.size:=(Array.getElem?_eq_some_iff.1 k3).1;refine .inr ⟨b,p,cs,t,k1,k2,(pF b hb).trans k3,k4,k5,fun i r j x hi hj=>?_⟩;obtain⟨v,r1,r2,r3⟩:=k6 i r j x hi hj;exact⟨v,r1,r2,g.rep' r3⟩
 obj id o hB:=by
  obtain⟨b,p,k1,k2,k3,k4⟩:=S.obj id o hB;exact⟨b,p,k1,k2,(pF b (Array.getElem?_eq_some_iff.1 k3).1).trans k3,k4⟩
 res:=S.res
 inj:=S.inj
theorem Iw(src dst et:TypeId)(s:ByteArray)(hs:P.underlying src=some .string)(hd:P.underlying dst=some (.slice et))(he:P.underlying et=some (.int .i32)) :
  (convert src dst (.string s)).run P w = .ok (.slice (some ⟨w.heap.size,0,none⟩) (eI s).length (grownCap w (eI s).length 0 et))
   (w.drew.alloc (.cells (((eI s).map fun(n:Nat)=>Value.int .i32 (n:Int)).toArray++Array.replicate (grownCap w (eI s).length 0 et-(eI s).length) (.int .i32 0)) et)):=by
 simp[convert,run_underlying hs,run_underlying hd,run_underlying he,Conv.stringToRunes,newRow,Question.forced,grownCap,Iv,eI]
theorem aHL{src dst et:TypeId}{e:Elt}{s:ByteArray}{u:Value}(S:SimH w M ρ h)(bnd:∀ b,M b→b<w.heap.size)(hs:P.underlying src=some .string)(hd:P.underlying dst=some (.slice et))(he:P.underlying et=some (.int .i32))(mB:e.sz=1)
  (hx:RepA w M ρ h (.str s) u) (dT:(eI s).length * e.bytes≤dL) :
  iI P (do pure (.value (← convert src dst u))) w M ρ h (.d (.sl e ((eI s).map nE))) h:=by
 obtain⟨rfl,hss⟩:=fV hx;have fE:=Iw (P:=P) (w:=w) src dst et s hs hd he;have eG:(eI s).length≤maxLen:=aJ (Ci s _ _) hss;generalize Il:(((eI s).map fun(n:Nat)=>Value.int .i32 (n:Int)).toArray++Array.replicate (grownCap w (eI s).length 0 et-(eI s).length) (.int .i32 0))=cs at fE;have pF:∀ b,b<w.heap.size→(w.drew.alloc (.cells cs et)).heap[b]? = w.heap[b]? := fun b hb=>by
  simp[World.alloc,World.drew, -World.alloc_eq, -World.drew_eq,Array.getElem?_push,show b≠w.heap.size by omega]
 have g:Evo h.length h ρ w h ρ (w.drew.alloc (.cells cs et)):=.foreign rfl rfl rfl (by simp[World.alloc,World.drew, -World.alloc_eq, -World.drew_eq]) pF;have vG:(w.drew.alloc (.cells cs et)).heap[w.heap.size]? = some (.cells cs et (0,0)):=by
  simp[World.alloc,World.drew, -World.alloc_eq, -World.drew_eq]
 have Vl:¬ vH M ρ w.heap.size:=by
  rintro(hm | ⟨id,p,hp⟩)
  ·exact absurd (bnd _ hm) (Nat.lt_irrefl _)
  ·exact absurd (S.lt hp) (Nat.lt_irrefl _)
 refine⟨_,_,ρ,.inl (by rw[Sem.run_bind,fE];rfl),?_,S.foreign g pF,g⟩;have key:∀ (i:Nat) (r:List D) (j:Nat) (d:D),((eI s).map nE)[i]? = some r→r[j]? = some d→∃ n:Nat,cs[i * e.sz+j]? = some (.int .i32 n)∧d = .sc (.int .i32 n)∧n≤1114111:=by
  intro i r j d hi hj;simp only[zK,zT] at hi;obtain⟨n,hn,rfl⟩:=hi;cases j with
  | succ j=>simp[nE] at hj
  | zero =>
   simp only[nE,List.getElem?_cons_zero,zH] at hj;have cY:i<(eI s).length:=(zA.1 hn).1;refine⟨n,?_,hj.symm,Qt s _ _ n (zY hn)⟩;rw[mB,aR,aI,← Il,Array.getElem?_append_left (by simpa using cY)];simp[hn]
 have hl':((eI s).map nE).length=(eI s).length:=by simp
 rw[← hl'];refine .d (.sl (fun i j=>cs.getD (i * e.sz+j) undef) ?_ (grownCap_le_maxLen w _ 0 et (by rw[hl'];exact eG)) (by rw[hl'];exact dT) (fun r hr=>?_) (fun i r j d hi hj=>?_) (fun i r j d hi hj=>?_))
 ·exact grownCap_ge w _ 0 et
 ·obtain⟨n,_,rfl⟩:=aT.1 hr;simp[nE,mB]
 ·obtain⟨n,h1,h2,h3⟩:=key i r j d hi hj;refine⟨?_,Vl⟩;rw[kM,bG];simp only[World.cell?,vG];rw[zR,h1];simpa using h1
 ·obtain⟨n,h1,rfl,h3⟩:=key i r j d hi hj;rw[zR,h1];exact .sc (aEO h3)
theorem Vs{e:Elt}{x:A}{rows:List (List A)}(hs:gV e h x=some rows):eX e h x=some rows:=by
 unfold gV at hs;split at hs
 ·cases hs
 ·exact hs
theorem aBf{e:Elt}{x:A}{rows:List (List A)}{u:Value}(hs:gV e h x=some rows)(hx:RepA w M ρ h x u)(S:SimH w M ρ h):∃ a n c,u = .slice a n c:=by
 cases x with
 | nil=>cases hx;exact⟨_,_,_,rfl⟩
 | d y=>cases y with
  | sc v=>simp[gV] at hs
  | sl e' r=>cases hx with
   | d hy=>obtain⟨a,c,rfl,_⟩:=yR hy;exact⟨_,_,_,rfl⟩
 | nn e' r=>obtain⟨_,a,n,c,rfl⟩:=wH hx;exact⟨_,_,_,rfl⟩
 | fd e' r=>obtain⟨_,a,n,c,rfl⟩:=wH (Qo hx).1;exact⟨_,_,_,rfl⟩
 | ref id N off len full =>
  simp only[gV,eX] at hs;split at hs
  ·rename_i hid;split at hs
   ·rename_i hc;rcases rL hx hid hc.2 with⟨rfl,_⟩ | ⟨b,p,o,cap,hp,rfl,_⟩
    ·exact⟨_,_,_,rfl⟩
    ·exact⟨_,_,_,rfl⟩
   ·cases hs
  ·cases hs
 | _=>simp[gV,eX] at hs
theorem aHM{src dst et:TypeId}{x:A}{rows:List (List A)}{ns:List Int}{u:Value}(S:SimH w M ρ h)(hs:P.underlying src=some (.slice et))(hd:P.underlying dst=some .string)(he:P.underlying et=some (.int .u8))
  (hx:RepA w M ρ h x u) {e:Elt} (mB:e.sz=1) (hr:gV e h x=some rows) (hn:rows.mapM Ge=some ns) (hl:ns.length≤maxLen) :
  iI P (do pure (.value (← convert src dst u))) w M ρ h (.str (strOfNums ns)) h:=by
 obtain⟨a,n,c,rfl⟩:=aBf hr hx S;obtain⟨f,src'⟩:=Qr (P:=P) S (by omega) hx (Vs hr);obtain⟨m1,m2⟩:=oO hn;have eG:=src'.len w;simp only[Builtin.lenOf,Sem.run_pure,Result.ok.injEq,and_true] at eG;have kZ:=src'.first w rows.length rfl (zL _);rw[mB,aR] at kZ;refine .pure (v:=.string (strOfNums ns)) ?_ (.d (.sc (by show(strOfNums ns).size≤maxLen;rw[strOfNums_size];exact hl))) S;rw[Sem.run_bind,run_convert_bytes_string w src dst et a n c hs he hd];cases a with
 | none =>
  have h0:rows.length=0:=by
   simp only[Builtin.firstCells,Sem.run_pure,Result.ok.injEq,and_true] at kZ;have:=congrArg Array.size kZ;simpa using this.symm
  have:ns=[]:=List.eq_nil_of_length_eq_zero (by omega);subst this;simp[Conv.bytesToString,strOfNums];rfl
 | some a =>
  have nW:((aC rows.length).map f).toArray=(ns.map (Value.int .u8)).toArray:=by
   congr 1;apply bF;intro i
   by_cases hi:i<rows.length
   ·obtain⟨y,hy,hb⟩:=m2 i _ (zB hi);have fK:rows[i]? = some rows[i]:=zB hi;generalize rows[i]=r at hb fK;have hr1:r=[.d (.sc (.int .u8 y))]:=by
     unfold Ge at hb;split at hb
     ·cases hb;rfl
     ·cases hb
    subst hr1;have nD:=src'.rep i _ 0 _ fK rfl;rw[mB,aR,aI] at nD;obtain⟨hf,_⟩:=fV nD;simp[hi,hy,hf]
   ·rw[zk (by simpa using hi),zk (by simp;omega)]
  simp only[Builtin.firstCells,aR] at kZ;rw[nW] at kZ;have hn':n=rows.length:=by simpa using eG
  subst hn';rw[run_bytesToString w a _ c ns (by simpa using kZ),foldl_push_bytes];simp[strOfNums,ByteArray.empty,ByteArray.emptyWithCapacity];rfl
theorem aBg(n:Int):(Utf8.encode n).size≤4:=by
 unfold Utf8.encode;generalize (if Utf8.valid n=true then n.toNat else Utf8.runeError)=c;dsimp only
 repeat' split
 all_goals simp[ByteArray.size]
theorem aHN{src dst:TypeId}{k:IntKind}{n:Int}{u:Value}{kk:IntKind}(S:SimH w M ρ h)(hs:P.underlying src=some (.int kk))(hd:P.underlying dst=some .string)(hx:RepA w M ρ h (.sc (.int k n)) u) :
  iI P (do pure (.value (← convert src dst u))) w M ρ h (.str (Utf8.encode n)) h:=by
 obtain⟨rfl,_⟩:=fV hx;refine .pure (v:=.string (Utf8.encode n)) ?_ (.d (.sc (aJ (aBg n) (by decide)))) S;simp[convert,run_underlying hs,run_underlying hd,Conv.intToString]
theorem Zs{t ty et:TypeId}{u:Value}(S:SimH w M ρ h)(hu:P.underlying t=some (.slice et))(hx:RepA w M ρ h .nil u) :
  iI P (do pure (.value (← Builtin.cap_ #[t] ty #[u]))) w M ρ h (.int 0) h:=by
 rw[Eb hx];refine .pure (v:=.int .i64 0) ?_ (.d (.sc (pI (n:=0) (by simp)))) S;simp[Builtin.cap_,run_underlying hu,goInt]
theorem aFO{t:TypeId}{s:ByteArray}{u:Value}{pl:Option Nat}{K:A→cM→Prop}(S:SimH w M ρ h)(bnd:∀ b,M b→b<w.heap.size)(hu:P.underlying t=some .string)(hx:RepA w M ρ h (.str s) u)
  (hK:gP pl h (.obj (.stringIter s 0)) fun id h1=>K (.ptr id 0 0 0) h1):∃ r h',K r h'∧iI P (do pure (.value (← Instr.range t u))) w M ρ h r h':=by
 obtain⟨rfl,_⟩:=fV hx;obtain⟨id,h1,ρ1,n,hKr⟩:=tV (ρ:=ρ) hK (some (w.heap.size,0));refine⟨_,_,hKr,.pointer (some ⟨w.heap.size,0,none⟩),w.alloc (.stringIter s 0),ρ1,.inl ?_,.obj n.heap (n.phys S.len),S.newObj bnd n (fun c t f=>by simp),.newAlloc n S.len⟩;simp[Instr.range,run_underlying hu]
theorem aFP{ty:TypeId}{s:ByteArray}{pos id:Nat}{u:Value}{K:A→cM→Prop}(S:SimH w M ρ h)(hx:RepA w M ρ h (.ptr id 0 0 0) u)(hid:h[id]? = some (.obj (.stringIter s pos)))(hs:s.size≤maxLen)
  (hK:Ir s pos id h K):∃ r h',K r h'∧iI P (do pure (.value (← Instr.next u true ty))) w M ρ h r h':=by
 have hv:∃ b p,u = .pointer (some ⟨b,0,none⟩)∧ρ[id]? = some (some (b,p)):=by
  generalize hz:(0:Nat)=z at hx;cases hx with
  | ptr hh hp=>rw[hid] at hh;cases hh
  | pstale hh _ _=>rw[hid] at hh;cases hh
  | obj hh hp=>exact⟨_,_,rfl,hp⟩
 obtain⟨b,p,rfl,hρ⟩:=hv;obtain⟨b',p',k1,k2,k3,k4⟩:=S.obj id _ hid;rw[hρ] at k1;cases k1;have cY:b<w.heap.size:=(Array.getElem?_eq_some_iff.1 k3).1;simp only[Ir] at hK;split at hK
 ·rename_i hp;have hd:Differs b w (w.putObj b (.stringIter s (pos+(Utf8.decode s pos).2))):=⟨rfl,rfl,rfl,by simp[World.putObj],fun j hj=>World.putObj_heap_other (fun e=>hj e)⟩;refine⟨_,_,hK,.tuple #[.bool true,goInt pos,.int .i32 (Utf8.decode s pos).1],w.putObj b (.stringIter s (pos+(Utf8.decode s pos).2)),ρ,.inl ?_,?_,S.putObj hid hρ hd (World.putObj_heap_same cY) (fun c t f=>by simp),.putObj hid hρ hd⟩
  ·simp[Instr.next,getObj,setObj,Sem.run,k3,hp,World.putObj]
  ·refine .tup rfl fun j x hj=>?_
   match j with
   | 0=>simp at hj;subst hj;exact .d (.sc trivial)
   | 1=>simp at hj;subst hj;exact .d (.sc (pI (n:=pos) (by omega)))
   | 2 =>
    simp at hj;subst hj;exact .d (.sc (aEO (Xu s pos)))
   | j+3=>simp at hj
 ·rename_i hp;refine⟨_,_,hK,.pure (v:=.tuple #[.bool false]) ?_ (.tup rfl fun j x hj=>?_) S⟩
  ·simp[Instr.next,getObj,Sem.run,k3,hp]
  ·cases j with
   | zero=>simp at hj;subst hj;exact .d (.sc trivial)
   | succ j=>simp at hj
end
end Go.Proofs.YtlllnjhgjijnkaaGreatDoor.Nx

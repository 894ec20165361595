import Derived.Test.YtlllnjhgjijnkaaGreatDoorNxDraw
set_option linter.all false
open List renaming getElem?_eq_some_iff → zA, getElem?_eq_getElem → zB, getD_eq_getElem?_getD → zC, getElem?_append_left → zF, getElem?_append_right → zG, getElem?_set_ne → zM, getElem?_set_self → zN, map_cons → zU, mem_cons_self → zW, mem_cons_of_mem → zZ, length_append → zb, getElem?_take → zm, mem_cons → zp, eq_nil_of_length_eq_zero → zx
open Nat renaming zero_le → zI, le_refl → zL, lt_irrefl → zv
open Array renaming getD_eq_getD_getElem? → zR
open List renaming length_set → aA, mem_map → aD
open Nat renaming lt_of_lt_of_le → aB, le_trans → aC
namespace Go.Proofs.YtlllnjhgjijnkaaGreatDoor.Nx
open Go
section
variable {P:Program}{w w':World}{M:Nat→Prop}{ρ ρ':fJ}{h h':cM}{N n0:Nat}
inductive FrzD (k:Nat) (h:cM):A→D→Prop
 | d (x:D):FrzD k h (.d x) x
 | nil (e:Elt):FrzD k h .nil (.sl e [])
 | nn (e:Elt) (rows:List (List D)):FrzD k h (.nn e rows) (.sl e rows)
 | fd (e:Elt) (rows:List (List D)):FrzD k h (.fd e rows) (.sl e rows)
 | ref {id off len:Nat} {full:Bool} {e:Elt} {rows:List (List A)} {rowsD:List (List D)} (hk:k≤id) (hh:h[id]? = some (.cells e rows)) (hl:rowsD.length=len)
   (hr:∀ i r,rowsD[i]? = some r→(rows.getD (off+i) []).length=r.length)
   (hc:∀ i r j d,rowsD[i]? = some r→r[j]? = some d→FrzD k h ((rows.getD (off+i) []).getD j .any) d):FrzD k h (.ref id rows.length off len full) (.sl e rowsD)
inductive FrzA (k:Nat) (h:cM):A→A→Prop
 | same {x:A} (hu:x.under k=true):FrzA k h x x
 | any {x:A}:FrzA k h x .any
 | d {x:A} {y:D} (hx:FrzD k h x y):FrzA k h x (.d y)
 | agg {l l':List A} (hl:l'.length=l.length) (hr:∀ j y,l'[j]? = some y→FrzA k h (l.getD j .any) y):FrzA k h (.agg l) (.agg l')
 | tup {l l':List A} (hl:l'.length=l.length) (hr:∀ j y,l'[j]? = some y→FrzA k h (l.getD j .any) y):FrzA k h (.tup l) (.tup l')
 | fn {f:FuncId} {l l':List A} (hl:l'.length=l.length) (hr:∀ j y,l'[j]? = some y→FrzA k h (l.getD j .any) y):FrzA k h (.fn f l) (.fn f l')
 | iptr {id i off:Nat} {e:Elt} {rows:List (List A)} {r:List A} {cs:List D} (hk:k≤id) (hh:h[id]? = some (.cells e rows)) (hi:rows[i]? = some r)
   (hc:∀ j d,cs[j]? = some d→off+j<r.length∧FrzD k h (r.getD (off+j) .any) d):FrzA k h (.ptr id rows.length i off) (.iptr cs)
theorem aHW{k b:Nat}(ho:¬ vH M ρ b):¬ vH M (ρ.take k) b:=by
 rintro(hm | ⟨id,p,hp⟩)
 ·exact ho (.inl hm)
 ·rw[zm] at hp;split at hp
  ·exact ho (.inr ⟨id,p,hp⟩)
  ·cases hp
theorem RepD.take{k:Nat}{x:D}{v:Value}(hx:RepD w (vH M ρ) x v):RepD w (vH M (ρ.take k)) x v :=
 hx.move fun _ _ hn hc=>⟨hc,aHW hn⟩
theorem kP{α:Type}{l:List α}{j:Nat}(x:α)(hj:j<l.length):l[j]? = some (l.getD j x):=by
 rw[zC,zB hj];rfl
theorem FrzD.rep(S:SimH w M ρ h){k:Nat}{x:A}{d:D}(hf:FrzD k h x d):∀ {v:Value},RepA w M ρ h x v→RepD w (vH M (ρ.take k)) d v:=by
 induction hf with
 | d x=>intro v hr;cases hr with
  | d hx=>exact hx.take
 | nil e=>intro v hr;cases hr with
  | nil=>exact .nil (zI _) (fun _=>rfl)
 | nn e rows=>intro v hr;cases hr with
  | nn hx=>exact hx.take
 | fd e rows=>intro v hr;cases hr with
  | fd hx=>exact hx.take
 | @ref id off len full e rows rowsD hk hh hl hr hc ih =>
  intro v hv;obtain⟨_,q2,q3,q4,q5⟩:=S.cells id e rows hh;subst hl;generalize hN:rows.length=n at hv;generalize hL:rowsD.length=m at hv;cases hv with
  | stale Om cY _=>rw[hh] at Om;cases Om;omega
  | ref0 Om _ =>
   have:rowsD=[]:=zx hL;subst this;exact .nil (zI _) (fun _=>rfl)
  | @ref _ _ _ o cap _ e' rows' b p Om hp eG hcap hm ho hphys hfull =>
   rw[hh] at Om;injection Om with Om;injection Om with e1 e2;subst e1 e2;cases hD:rowsD with
   | nil=>rw[hD] at hL;subst hL;exact .nil hm (fun h=>by cases h)
   | cons r0 rest =>
    rw[← hD];have sD:0<rowsD.length:=by rw[hD];simp
    have ho':o=off * e.sz:=by
     rcases ho with h0 | h0
     ·omega
     ·exact h0
    subst ho';have Vl:¬ vH M (ρ.take k) b:=by
     rintro(hm' | ⟨i,p',Xk⟩)
     ·exact S.notM hp hm'
     ·rw[zm] at Xk;split at Xk
      ·have:=S.inj i id b p' p Xk hp;omega
      ·cases Xk
    have key:∀ i r j d,rowsD[i]? = some r→r[j]? = some d→∃ u,w.cell? (⟨b,off * e.sz+(i * e.sz+j),none⟩:Addr)=some u∧RepD w (vH M (ρ.take k)) d u:=by
     intro i r j d hi hj;have aA1:i<rowsD.length:=(zA.1 hi).1;have fK:rows[off+i]? = some (rows.getD (off+i) []):=by
      have cY:off+i<rows.length:=by omega
      simp[zC,zB cY]
     have aJ4:j<(rows.getD (off+i) []).length:=by rw[hr i r hi];exact(zA.1 hj).1
     have nW:=nZ S hh hp fK 0;have Bm:((rows.getD (off+i) []).drop 0)[j]? = some ((rows.getD (off+i) []).getD j .any):=by
      rw[List.drop_zero];exact kP _ aJ4
     obtain⟨u,h1,_,h3⟩:=nW j _ Bm;rw[kM] at h1;refine⟨u,?_,ih i r j d hi hj h3⟩;have:off * e.sz+(i * e.sz+j)=(off+i) * e.sz+0+j:=by rw[Nat.add_mul];omega
     rw[this];exact h1
    have Bu:∀ i j,∃ u,∀ r d,rowsD[i]? = some r→r[j]? = some d→w.cell? (⟨b,off * e.sz+(i * e.sz+j),none⟩:Addr)=some u∧RepD w (vH M (ρ.take k)) d u:=by
     intro i j;cases hi:rowsD[i]? with
     | none=>exact⟨undef,fun r d qC=>by cases qC⟩
     | some r =>
      cases hj:r[j]? with
      | none=>exact⟨undef,fun r' d qC hd=>by cases qC;rw[hj] at hd;cases hd⟩
      | some d =>
       obtain⟨u,h1,h2⟩:=key i r j d hi hj;exact⟨u,fun r' d' qC hd=>by cases qC;rw[hj] at hd;cases hd;exact⟨h1,h2⟩⟩
    rw[← hL];refine .sl (fun i j=>Classical.choose (Bu i j)) (by omega) hm ?_ (fun r qC=>?_) (fun i r j d hi hj=>?_) (fun i r j d hi hj=>?_)
    ·refine aC (Nat.mul_le_mul_right _ ?_) q2;omega
    ·obtain⟨i,hi⟩:=List.mem_iff_getElem?.1 qC;have aA1:i<rowsD.length:=(zA.1 hi).1;rw[← hr i r hi];have cY:off+i<rows.length:=by omega
     refine q4 _ ?_;simp[zC,zB cY]
    ·have:=Classical.choose_spec (Bu i j) r d hi hj;rw[kM];exact⟨this.1,Vl⟩
    ·exact(Classical.choose_spec (Bu i j) r d hi hj).2
theorem FrzA.rep(S:SimH w M ρ h){k:Nat}(hk:k≤h.length){x y:A}(hf:FrzA k h x y):∀ {v:Value},RepA w M ρ h x v→RepA w M (ρ.take k) (h.take k) y v:=by
 induction hf with
 | same hu=>intro v hr;exact(Evo.take (n0:=k) (zL _) hk).rep hr hu
 | any=>intro v hr;exact .any
 | d hx=>intro v hr;exact .d (hx.rep S hr)
 | @agg l l' hl _ ih =>
  intro v hr;cases hr with
  | agg hs ho hr =>
   refine .agg (by omega) ho fun j y hj=>ih j y hj ?_;have cY:j<l.length:=by rw[← hl];exact(zA.1 hj).1
   rw[zC,zB cY];exact hr j _ (zB cY)
 | @tup l l' hl _ ih =>
  intro v hr;cases hr with
  | tup hs hr =>
   refine .tup (by omega) fun j y hj=>ih j y hj ?_;have cY:j<l.length:=by rw[← hl];exact(zA.1 hj).1
   rw[zC,zB cY];exact hr j _ (zB cY)
 | @fn f l l' hl _ ih =>
  intro v hr;cases hr with
  | fn hs hr =>
   refine .fn (by omega) fun j y hj=>ih j y hj ?_;have cY:j<l.length:=by rw[← hl];exact(zA.1 hj).1
   rw[zC,zB cY];exact hr j _ (zB cY)
 | @iptr id i off e rows r cs aHA hh hi hc =>
  intro v hr;obtain⟨b,p,hp,rfl⟩:=vP hr hh rfl;have Vl:¬ vH M (ρ.take k) b:=by
   rintro(hm' | ⟨i',p',Xk⟩)
   ·exact S.notM hp hm'
   ·rw[zm] at Xk;split at Xk
    ·have:=S.inj i' id b p' p Xk hp;omega
    ·cases Xk
  have nW:=nZ S hh hp hi off;have Bu:∀ j,∃ u,∀ d,cs[j]? = some d→w.cell? ((⟨b,i * e.sz+off,none⟩:Addr).add j)=some u∧RepD w (vH M (ρ.take k)) d u:=by
   intro j;cases hj:cs[j]? with
   | none=>exact⟨undef,fun d hd=>by cases hd⟩
   | some d =>
    obtain⟨h1,h2⟩:=hc j d hj;have Bm:(r.drop off)[j]? = some (r.getD (off+j) .any):=by rw[List.getElem?_drop];exact kP _ h1
    obtain⟨u,k1,_,k3⟩:=nW j _ Bm;exact⟨u,fun d' hd=>by cases hd;exact⟨k1,h2.rep S k3⟩⟩
  refine .iptr (fun j=>Classical.choose (Bu j)) (fun j d hj=>⟨(Classical.choose_spec (Bu j) d hj).1,Vl⟩) (fun j d hj=>(Classical.choose_spec (Bu j) d hj).2)
inductive XR where
 | t (n:Nat)
 | c (p n:Nat) (agg:Bool)
def Ri(P:Program):ResultVar→Option XR
 | .tmp t=>if t<iY then some (.t t) else none
 | .cell p ty=>match P.info? ty with
  | some i=>if xI P ty&&decide (p<iY) then some (.c p i.size (sG P ty)) else none
  | none=>none
def eH(s:St):XR→(A→Prop)→Prop
 | .t n,K=>K (s.slots n)
 | .c p n g,K=>match s.slots p with
  | .ptr id N i off=>match s.heap[id]? with
   | some (.cells _ rows)=>N=rows.length∧match rows[i]? with
    | some r=>dI n g (r.drop off) K
    | none=>False
   | _=>False
  | _=>False
def dK(s:St):List XR→(List A→Prop)→Prop
 | [],K=>K []
 | x::l,K=>eH s x fun a=>dK s l fun as=>K (a::as)
def dM:List A→A
 | [x]=>x
 | l=>.tup l
abbrev aHX(P:Program)(tmps:Array Value):ResultVar→Sem Value
 | .tmp t=>pure (tmps.getD t undef)
 | .cell a t=>do loadVar t (← asAddr (tmps.getD a undef))
theorem aF0{z:Still}{s:St}{a:Act}(S:Sim z w M ρ s a){x:ResultVar}{y:XR}(hc:Ri P x=some y){K:A→Prop}(hK:eH s y K):∃ r v,K r∧(aHX P a.tmps x).run P w = .ok v w∧RepA w M ρ s.heap r v:=by
 cases x with
 | tmp t =>
  simp only[Ri] at hc;split at hc
  ·rename_i cY;injection hc with hc;subst hc;have:=S.slots t;rw[nY,if_pos cY] at this;exact⟨_,_,hK,rfl,this⟩
  ·cases hc
 | cell p ty =>
  simp only[Ri] at hc;split at hc
  ·rename_i i hi;split at hc
   ·rename_i hkn;injection hc with hc;subst hc;simp only[Bool.and_eq_true,decide_eq_true_eq] at hkn;obtain⟨hkn,aQ2⟩:=hkn;simp only[eH] at hK;have hp:=S.slots p;rw[nY,if_pos aQ2] at hp;generalize s.slots p=X at hK hp;cases X with
    | ptr id N i' off =>
     dsimp only at hK;split at hK
     ·rename_i e rows hid;obtain⟨hN,hK⟩:=hK;split at hK
      ·rename_i r fK;obtain⟨b,q,hρ,hv⟩:=vP hp hid hN;obtain⟨r',v,k1,k2,k3⟩:=Cf (P:=P) hkn hi (nZ S.sim hid hρ fK off) hK;refine⟨r',v,k1,?_,k3⟩;simp only[aHX];rw[hv];simpa[asAddr] using k2
      ·exact hK.elim
     ·exact hK.elim
    | _=>exact hK.elim
   ·cases hc
  ·cases hc
theorem aDo{z:Still}{s:St}{a:Act}(S:Sim z w M ρ s a):∀ {xs:List ResultVar} {ys:List XR},xs.mapM (Ri P)=some ys→∀ {K:List A→Prop},dK s ys K →
  ∃ rs vs,K rs∧(xs.mapM (aHX P a.tmps)).run P w = .ok vs w∧rs.length=vs.length∧∀ j r,rs[j]? = some r→RepA w M ρ s.heap r (vs.getD j undef):=by
 intro xs
 induction xs with
 | nil =>
  intro ys hm K hK;simp at hm;subst hm;exact⟨[],[],hK,by simp,rfl,fun j r hj=>by simp at hj⟩
 | cons x xs ih =>
  intro ys hm K hK;simp only[List.mapM_cons,Option.bind_eq_bind,Option.pure_def,Option.bind_eq_some_iff,Option.some.injEq] at hm;obtain⟨y,hy,ys',hys,rfl⟩:=hm;obtain⟨r,v,h1,h2,h3⟩:=aF0 S hy hK;obtain⟨rs,vs,k1,k2,k3,k4⟩:=ih hys h1;refine⟨r::rs,v::vs,k1,by simp[List.mapM_cons,Sem.run_bind,h2,k2],by simp[k3],fun j r' hj=>?_⟩;cases j with
  | zero=>simp at hj;subst hj;exact h3
  | succ j=>simp at hj;simpa using k4 j r' hj
end
section
variable {Γ:Ctx}{P:Program}{w w':World}{M:Nat→Prop}{ρ ρ':fJ}{h h':cM}{N n0:Nat}
structure FnIs(P:Program)(f:FuncId)(N:Nat)(res:List XR)(x:XC):Prop where
 ex : ∃ fn code, P.funcs[f]? = some fn ∧ (fn.name == "runtime.NumGoroutine") = false ∧ fn.body = some code ∧ fn.ntmps = N ∧ N ≤ iY ∧ fn.results.toList.mapM (Ri P) = some res ∧ qR P N code x
def gQ:Nat→List A→List (Nat × A)
 | _,[]=>[]
 | i,x::l=>(i,x)::gQ (i+1) l
theorem aBt:∀ {l:List A} {i n:Nat} {x:A},(n,x)∈gQ i l→i≤n∧l[n-i]? = some x
 | [],i,n,x,h=>by cases h
 | y::l,i,n,x,h=>by
  simp only[gQ,zp,Prod.mk.injEq] at h;rcases h with⟨rfl,rfl⟩ | h
  ·simp
  ·obtain⟨h1,h2⟩:=aBt h;refine⟨by omega,?_⟩;have:n-i=(n-(i+1))+1:=by omega
   rw[this,List.getElem?_cons_succ];exact h2
theorem aBu{z:Still}{s:St}{a:Act}(S:Sim z w M ρ s a){fn:Func}{res:List XR}(hr:fn.results.toList.mapM (Ri P)=some res){K:List A→Prop}(hK:dK s res K) :
  ∃ rs v,K rs∧(results fn a.tmps).run P w = .ok v w∧RepA w M ρ s.heap (dM rs) v:=by
 obtain⟨rs,vs,k1,k2,k3,k4⟩:=aDo S hr hK;have fE:(results fn a.tmps).run P w = .ok (if h:vs.toArray.size=1 then vs.toArray[0] else .tuple vs.toArray) w:=by
  have e:results fn a.tmps=(do let vs ← fn.results.mapM (aHX P a.tmps);pure (if h:vs.size=1 then vs[0] else .tuple vs)):=rfl;rw[e];have:(fn.results.mapM (aHX P a.tmps):Sem (Array Value)).run P w = .ok vs.toArray w:=by
   rw[Array.mapM_eq_mapM_toList];simp[Sem.run_map,k2]
  rw[Sem.run_bind,this];rfl
 refine⟨rs,_,k1,fE,?_⟩
 match rs,vs,k3,k4 with
 | [r],[v],_,k4=>simpa[dM] using k4 0 r rfl
 | [],[],_,_=>simp only[dM];exact .tup rfl fun j x hj=>by simp at hj
 | r::r'::rs,v::v'::vs,k3,k4 =>
  have fM:¬ (v::v'::vs).toArray.size=1:=by simp
  rw[dif_neg fM];exact .tup (by simpa using k3.symm) fun j x hj=>by
   have:=k4 j x hj;simpa[zR] using this
def Bw(res:List XR)(r:A):Exit→St→Prop:=fun e s=>(e = .normal∨e = .ret)∧dK s res fun l=>FrzA 0 s.heap (dM l) r
theorem aBv:∀ (l l':List (Nat × A)) (n:Nat),dB l n = .any∨dB l n=dB (l++l') n
 | [],l',n=>.inl rfl
 | (k,x)::l,l',n=>by
  simp only[dB,List.cons_append]
  by_cases h:n=k
  ·simp[h]
  ·simp only[if_neg h];exact aBv l l' n
def Jb(Γ:dP):List (Nat × A):=Γ.map fun p=>(iY+p.1,.iptr p.2)
structure Shut(lo:Nat)(ρ:fJ)(w w2:World):Prop where
 os:w2.os=w.os
 tape:w2.tape=w.tape
 output:w2.output=w.output
 size:w2.heap.size=w.heap.size
 low:∀ b,b<lo→w2.heap[b]? = w.heap[b]?
 own:∀ b id p:Nat,ρ[id]? = some (some (b,p))→w2.heap[b]? = w.heap[b]?
 cell:∀ a u,w.cell? a=some u→w2.cell? a=some u
theorem Shut.refl{lo:Nat}:Shut lo ρ w w:=⟨rfl,rfl,rfl,rfl,fun _ _=>rfl,fun _ _ _ _=>rfl,fun _ _ h=>h⟩
theorem Shut.head{lo D:Nat}{w2:World}(hD:lo≤D)(hh:w.heap[D]? = some (.deferred (some [])))(hρ:∀ id p:Nat,ρ[id]? ≠ some (some (D,p)))(c:Shut lo ρ (w.putObj D (.deferred none)) w2):Shut lo ρ w w2:=by
 refine⟨c.os,c.tape,c.output,by rw[c.size];simp,fun b hb=>?_,fun b id p hp=>?_,fun a u hc=>c.cell a u ?_⟩
 ·rw[c.low b hb];exact World.putObj_heap_other (by omega)
 ·rw[c.own b id p hp];exact World.putObj_heap_other (fun e=>hρ id p (e ▸ hp))
 ·have fM:a.block≠D:=by
   intro e;unfold World.cell? at hc;rw[e,hh] at hc;simp at hc
  rw[World.cell?_of_block (World.putObj_heap_other fM)];exact hc
theorem MarksOk.put{lo D:Nat}{l:List Deferred}(m:MarksOk w ρ lo l)(hn:∀ d∈l,d.target ≠ .collected D):MarksOk (w.putObj D (.deferred none)) ρ lo l:=by
 induction m with
 | nil h=>exact .nil (by simpa using h)
 | @cons D' l hD hh hρ hn' _ ih =>
  have fM:D'≠D:=fun e=>hn _ (zW ..) (by rw[e]);exact .cons hD (by rw[World.putObj_heap_other fM];exact hh) hρ hn' (ih fun d hd=>hn d (zZ _ hd))
theorem Jc{F:Fence}{n lo:Nat}{fn:Func}{tmps:Array Value}{R:Ending→World→Prop}:∀ {l:List Deferred} {w:World},MarksOk w ρ lo l→(∀ w2,Shut lo ρ w w2→LeavesIn F n P fn tmps R [] .returning w2)→LeavesInM F n P fn tmps R l .returning w
 | [],w,_,h=>h w .refl
 | d::l,w,m,h=>by
  cases m with
  | @cons D _ hD hh hρ hn hl =>
   refine⟨fun e=>(by cases e),.inl ⟨D,_,rfl,run_takeDeferred hh,Jc (hl.put hn) fun w2 c=>h w2 (.head hD hh hρ c)⟩⟩
theorem RepA.shut{lo:Nat}{w2:World}(c:Shut lo ρ w w2){x:A}{v:Value}(hr:RepA w M ρ h x v):RepA w2 M ρ h x v :=
 hr.move (n0:=h.length) (fun a u hn hc=>⟨c.cell a u hc,hn⟩) (fun _ _ _ hb=>.refl hb) hr.under
theorem SimH.shut{lo:Nat}{w2:World}(c:Shut lo ρ w w2)(S:SimH w M ρ h):SimH w2 M ρ h where
 len:=S.len
 cells id e rows hB:=by
  obtain⟨q1,q2,q3,q4,q5⟩:=S.cells id e rows hB;refine⟨q1,q2,q3,q4,?_⟩;rcases q5 with q5 | ⟨b,p,cs,t,k1,k2,k3,k4,k5,k6⟩
  ·exact .inl q5
  ·refine .inr ⟨b,p,cs,t,k1,k2,(c.own b id p k1).trans k3,k4,k5,fun i r j x hi hj=>?_⟩;obtain⟨v,r1,r2,r3⟩:=k6 i r j x hi hj;exact⟨v,r1,r2,r3.shut c⟩
 obj id o hB:=by
  obtain⟨b,p,k1,k2,k3,k4⟩:=S.obj id o hB;exact⟨b,p,k1,k2,(c.own b id p k1).trans k3,k4⟩
 res:=S.res
 inj:=S.inj
theorem Evo.shut{n0 lo:Nat}{h1:cM}{ρ1:fJ}{w1 w2:World}(g:Evo n0 h1 ρ1 w1 h ρ w)(c:Shut lo ρ w w2)(On:w1.heap.size≤lo):Evo n0 h1 ρ1 w1 h ρ w2 :=
 ⟨c.os.trans g.os,c.tape.trans g.tape,c.output.trans g.output,by rw[c.size];exact g.size,fun b hb hn=>(c.low b (by omega)).trans (g.old b hb hn),fun id b p hp=>g.fresh id b p hp,g.len,g.keep⟩
theorem Gj{f:FuncId}{res:List XR}{x:XC}{args:List A}{Q:A→St→Prop}(H:FnIs P f N res x)(hn:args.length≤N)(h:cM)(n0:Nat)(Qc:Γ.b≤n0)(hn0:n0≤h.length)
  (hW:W Γ P N none n0 x (fun e s=>(e = .normal∨e = .ret)∧dK s res fun l=>Q (dM l) s) ⟨dB (gQ 0 args++Jb Γ.t),h⟩)
  (M:Nat→Prop) (w:World) (ρ:fJ) (vs:Array Value) (bnd:∀ b,M b→b<w.heap.size) (S0:SimH w M ρ h) (T:TabsOk Γ w M ρ h) (fR:tB w M ρ h args vs) :
  Calls P f vs w fun e w'=>∃ r s' v ρ',Q r s'∧e = .returned v∧RepA w' M ρ' s'.heap r v∧SimH w' M ρ' s'.heap∧Evo n0 h ρ w s'.heap ρ' w':=by
 obtain⟨fn,code,hf,Zk,hb,hN,hNt,aEI,hc⟩:=H.ex;refine(callsIn_wide (n:=0)).1 (callsIn_of_wp_marks hf hb trivial ?_);have S:Sim ⟨w.heap.size,N,Γ⟩ w M ρ ⟨dB (gQ 0 args++Jb Γ.t),h⟩ { tmps:=vs++Array.replicate (fn.ntmps-vs.size) undef,defers:=[] }:=by
  refine⟨bnd,S0,fun n=>?_,?_,hNt,T,.nil (zL _)⟩
  ·dsimp only;rcases xO (l:=gQ 0 args++Jb Γ.t) (n:=n) with hh | hh
   ·rw[hh];exact .any
   ·generalize dB (gQ 0 args++Jb Γ.t) n=y at hh;rcases List.mem_append.1 hh with hh | hh
    ·obtain⟨_,hh⟩:=aBt hh;have:=fR.2 n _ hh;have hl:=(zA.1 hh).1;have cY:n<vs.size:=by rw[fR.1];exact hl
     rw[nY,if_pos (by simp only[Nat.sub_zero] at hl;omega)];rw[zR,Array.getElem?_append_left cY,← zR];exact this
    ·simp only[Jb,aD,Prod.mk.injEq] at hh;obtain⟨⟨g,cs⟩,hg,rfl,rfl⟩:=hh;have hn:¬ iY+g<iY:=by omega
     simp only[nY,if_neg hn,Nat.add_sub_cancel_left];exact T.t g cs hg
  ·simp[fR.1,hN];omega
 refine wpIn_mono (hW code hc ⟨w.heap.size,N,Γ⟩ M ρ _ w rfl ⟨Qc,hn0⟩ S) fun e a' w' hp=>?_;obtain⟨s',ρ',⟨he,aPY⟩,S',g⟩:=hp;have fin:LeavesInM Fence.wide 0 P fn a'.tmps (fun e w'=>∃ r s' v ρ',Q r s'∧e = .returned v∧RepA w' M ρ' s'.heap r v∧SimH w' M ρ' s'.heap∧Evo n0 h ρ w s'.heap ρ' w') a'.defers .returning w':=by
  refine Jc S'.defers fun w2 c=>?_;have S2:Sim ⟨w.heap.size,N,Γ⟩ w2 M ρ' s' { a' with defers:=[] }:=⟨fun b hb=>by rw[c.size];exact S'.bnd b hb,S'.sim.shut c,fun n=>(S'.slots n).shut c,S'.size,S'.nlt,⟨fun u cs hu=>(S'.tabs.t u cs hu).shut c,fun a v hv=>⟨(S'.tabs.env a v hv).1,(S'.tabs.env a v hv).2.shut c⟩⟩,.nil (by rw[c.size];exact S'.defers.lo)⟩;obtain⟨rs,v,k1,k2,k3⟩:=aBu S2 aEI aPY;exact⟨v,k2,dM rs,s',v,ρ',k1,rfl,k3,S2.sim,g.shut c (zL _)⟩
 rcases he with rfl | rfl
 ·exact fin
 ·exact fin
theorem FnIs.enters{f:FuncId}{res:List XR}{x:XC}(H:FnIs P f N res x):sI P f:=by
 obtain⟨fn,code,hf,Zk,hb,_⟩:=H.ex;exact⟨fn,hf,Zk,by rw[hb];rfl⟩
abbrev dP.ctx(t:dP):Ctx:=⟨t,fun _ _=>False,0⟩
theorem FnP.of_WT{Γ:dP}{f:FuncId}{res:List XR}{x:XC}{args:List A}{r:A}(H:FnIs P f N res x)(hn:args.length≤N)(hW:W Γ.ctx P N none 0 x (Bw res r) ⟨dB (gQ 0 args++Jb Γ),[]⟩):FnP Γ P f args r:=by
 refine⟨H.enters,fun M w vs bnd T fR=>?_⟩;refine(Gj (Γ:=Γ.ctx) (Q:=fun r0 s=>FrzA 0 s.heap r0 r) H hn [] 0 (zL _) (zI _) hW M w [] vs bnd ⟨rfl,fun id e rows hh=>by simp at hh,fun id o hh=>by simp at hh,fun id hh=>by simp at hh,fun i j b p q hi=>by simp at hi⟩ (.of_t T) fR).mono fun e w' hp=>?_;obtain⟨r0,s',v,ρ',k1,he,k3,k4,g⟩:=hp;have nD:=k1.rep k4 (zI _) k3;simp only[List.take_zero] at nD;have g':Evo 0 [] [] w [] [] w':=by
  have:=g.trans (Evo.take (n0:=0) (k:=0) (h:=s'.heap) (ρ:=ρ') (w:=w') (zL _) (zI _));simpa using this
 exact⟨v,he,nD,g'⟩
theorem xP{res:XC}{Q:Exit→St→Prop}{n0:Nat}{rl:Option Nat}{args:List A}{h:cM}(hW:W Γ P N rl n0 res Q ⟨dB (gQ 0 args),h⟩):W Γ P N rl n0 res Q ⟨dB (gQ 0 args++Jb Γ.t),h⟩ :=
 dX (s:=⟨dB (gQ 0 args++Jb Γ.t),h⟩) (s':=⟨dB (gQ 0 args),h⟩) (fun z M ρ a w hn S=>⟨ρ,⟨S.bnd,S.sim,fun n=>by
  have:=S.slots n;dsimp only at this ⊢;rcases aBv (gQ 0 args) (Jb Γ.t) n with h | h
  ·rw[h];exact .any
  ·rw[h];exact this,S.size,S.nlt,S.tabs,S.defers⟩,.refl _ _ _ _ hn.2⟩) hW
theorem FnP.of_W{Γ:dP}{f:FuncId}{res:List XR}{x:XC}{args:List A}{r:A}(H:FnIs P f N res x)(hn:args.length≤N)(hW:W Γ.ctx P N none 0 x (Bw res r) ⟨dB (gQ 0 args),[]⟩):FnP Γ P f args r :=
 .of_WT H hn (xP hW)
def Gk(res:List XR)(r:A)(h':cM):Exit→St→Prop:=fun e s=>(e = .normal∨e = .ret)∧dK s res fun l=>dM l=r∧s.heap=h'
theorem FnD.of_WT{f:FuncId}{res:List XR}{x:XC}{args:List A}{h h':cM}{r:A}(H:FnIs P f N res x)(hn:args.length≤N)(hb:Γ.b≤h.length)(hW:W Γ P N none h.length x (Gk res r h') ⟨dB (gQ 0 args++Jb Γ.t),h⟩):FnD Γ P f args h r h':=by
 refine⟨H.enters,fun M w ρ vs bnd S T fR=>?_⟩;refine(Gj (Q:=fun r0 s=>r0=r∧s.heap=h') H hn h h.length hb (zL _) hW M w ρ vs bnd S T fR).mono fun e w' hp=>?_;obtain⟨r0,s',v,ρ',⟨rfl,rfl⟩,he,k3,k4,g⟩:=hp;exact⟨v,ρ',he,k3,k4,g⟩
theorem FnD.of_W{f:FuncId}{res:List XR}{x:XC}{args:List A}{h h':cM}{r:A}(H:FnIs P f N res x)(hn:args.length≤N)(hb:Γ.b≤h.length)(hW:W Γ P N none h.length x (Gk res r h') ⟨dB (gQ 0 args),h⟩):FnD Γ P f args h r h' :=
 .of_WT H hn hb (xP hW)
end
section
variable {Γ:Ctx}{P:Program}{w w':World}{M:Nat→Prop}{ρ ρ':fJ}{h h':cM}{N n0:Nat}
def Ky(L:List (Nat × HB))(h:cM):Prop:=∀ p∈L,h[p.1]? = some p.2
def mP(L:List (Nat × HB)):List Nat:=L.map (·.1)
structure Turn(L L':List (Nat × HB))(h h':cM):Prop where
 has:Ky L' h'
 len:h.length≤h'.length
 keep:∀ q,q<h.length→q ∉ mP L→h'[q]? = h[q]?
 new:∀ q∈mP L',q∈mP L∨h.length≤q
theorem Turn.refl{L:List (Nat × HB)}(hL:Ky L h):Turn L L h h:=⟨hL,zL _,fun _ _ _=>rfl,fun _ hq=>.inl hq⟩
theorem Turn.trans{L L1 L2:List (Nat × HB)}{h1 h2:cM}(a:Turn L L1 h h1)(b:Turn L1 L2 h1 h2):Turn L L2 h h2 where
 has:=b.has
 len:=aC a.len b.len
 keep q hq hn:=by
  rw[b.keep q (aB hq a.len) (fun hm=>?_),a.keep q hq hn];rcases a.new q hm with hm | hm
  ·exact hn hm
  ·omega
 new q hq:=by
  rcases b.new q hq with hq | hq
  ·exact a.new q hq
  ·exact .inr (aC a.len hq)
structure FnX(Γ:Ctx)(P:Program)(f:FuncId)(args:List A)(h:cM)(Q:A→cM→Prop):Prop where
 ent:sI P f
 run:∀ (M:Nat→Prop) (w:World) (ρ:fJ) (vs:Array Value),(∀ b,M b→b<w.heap.size)→SimH w M ρ h→TabsOk Γ w M ρ h→tB w M ρ h args vs →
  Calls P f vs w fun e w'=>∃ r h' v ρ',Q r h'∧e = .returned v∧RepA w' M ρ' h' r v∧SimH w' M ρ' h'∧Evo h.length h ρ w h' ρ' w'
theorem FnX.of_WT{f:FuncId}{res:List XR}{x:XC}{args:List A}{h:cM}{Q:A→cM→Prop}(H:FnIs P f N res x)(hn:args.length≤N)(hb:Γ.b≤h.length)
  (hW:W Γ P N none h.length x (fun e s=>(e = .normal∨e = .ret)∧dK s res fun l=>Q (dM l) s.heap) ⟨dB (gQ 0 args++Jb Γ.t),h⟩):FnX Γ P f args h Q:=by
 refine⟨H.enters,fun M w ρ vs bnd S T fR=>?_⟩;refine(Gj (Q:=fun r0 s=>Q r0 s.heap) H hn h h.length hb (zL _) hW M w ρ vs bnd S T fR).mono fun e w' hp=>?_;obtain⟨r0,s',v,ρ',q,he,k3,k4,g⟩:=hp;exact⟨r0,s'.heap,v,ρ',q,he,k3,k4,g⟩
def aBw(Γ:dP)(P:Program)(f:FuncId)(caps:List A)(xs:List (List A)):Prop :=
 sI P f∧∀ (env:A→Value→Prop) (b id:Nat) (I:Nat→List (Nat × HB)→Prop) (E:List (Nat × HB)→Prop),
  (∀ k x L h,xs[k]? = some x→I k L→Ky L h→b≤h.length →
   (∃ L' h',Cj ⟨Γ,env,b⟩ P id x h (.bool true) h'∧Turn L L' h h'∧I (k+1) L') ∨
   (∃ L' h',Cj ⟨Γ,env,b⟩ P id x h (.bool false) h'∧Turn L L' h h'∧E L')) →
  ∀ L h,I 0 L→Ky L h→b≤h.length→FnX ⟨Γ,env,b⟩ P f (.yld id::caps) h fun _ h'=>∃ L',Turn L L' h h'∧(I xs.length L'∨E L')
def sJ:List Nat→List A→(Nat→A)→Nat→A
 | p::ps,x::xs,sl=>sJ ps xs (upd sl p x)
 | _,_,sl=>sl
theorem Rj:∀ (ps:List Nat) (xs:List A) (vs:List Value) {sl:Nat→A} {tmps:Array Value},Vu w M ρ h sl tmps→xs.length=vs.length→(∀ (j:Nat) (x:A),xs[j]? = some x→RepA w M ρ h x (vs.getD j undef)) →
  (∀ p∈ps,p<tmps.size∧p<iY)→Vu w M ρ h (sJ ps xs sl) ((ps.zip vs).foldl (fun(t:Array Value) (pv:Nat × Value)=>t.setIfInBounds pv.1 pv.2) tmps)
 | [],xs,vs,sl,tmps,hs,_,_,_=>by cases xs<;>exact hs
 | p::ps,[],vs,sl,tmps,hs,hl,_,_=>by
  have:vs=[]:=zx (by simpa using hl.symm);subst this;exact hs
 | p::ps,x::xs,[],sl,tmps,hs,hl,_,_=>by simp at hl
 | p::ps,x::xs,v::vs,sl,tmps,hs,hl,hr,hp=>by
  simp only[sJ,List.zip_cons_cons,List.foldl_cons];refine Rj ps xs vs ?_ (by simpa using hl) (fun j y hj=>by simpa using hr (j+1) y (by simpa using hj)) (fun q hq=>by simpa using hp q (zZ _ hq));have:=Vu.put (w:=w) (M:=M) (ρ:=ρ) (h:=h) (l:=sl) (d:=some p) (r:=x) (v:=v) (a:={ tmps:=tmps,defers:=[] }) hs (by simpa using hr 0 x rfl) (fun n hn=>by cases hn;exact(hp p (zW ..)).1) (fun n hn=>by cases hn;exact(hp p (zW ..)).2);exact this
theorem aDp{α:Type}(l:List α)(f:α→Nat × Value)(t:Array Value):(l.foldl (fun(t:Array Value) x=>t.setIfInBounds (f x).1 (f x).2) t).size=t.size:=by
 induction l generalizing t with
 | nil=>rfl
 | cons x l ih=>simp[ih]
theorem Ky.set{L:List (Nat × HB)}(hL:Ky L h){id:Nat}(hn:id ∉ mP L)(B:HB):Ky L (h.set id B):=fun p hp=>by
 rw[zM (fun e=>hn (aD.2 ⟨p,hp,e.symm⟩))];exact hL p hp
theorem Ky.app{L:List (Nat × HB)}(hL:Ky L h)(t:cM):Ky L (h++t):=fun p hp=>by
 have:=hL p hp;rw[zF (zA.1 this).1];exact this
theorem Ky.lt{L:List (Nat × HB)}(hL:Ky L h):∀ q∈mP L,q<h.length:=fun q hq=>by
 obtain⟨p,hp,rfl⟩:=aD.1 hq;exact(zA.1 (hL p hp)).1
def yZ:Exit→Option Code
 | .ret=>some .ret
 | .exit j=>some (.exit j)
 | _=>none
theorem aDq{z:Still}{code1 code2:Code}{x y:XC}{fn:FuncId}{tmps:Array Value}{ps:Array Tmp}{D id:Nat}{xa:List A}{sl sl1:Nat→A}{L L':List (Nat × HB)}{Xe:cM}{e0:Exit}{env:A→Value→Prop}{b:Nat}(t:cM)
  (c1:qR P N code1 x) (c2:qR P N code2 y)
  (mB:tmps.size=N) (hN:N≤iY) (hps:∀ p∈ps.toList,p<N) (eG:xa.length=ps.size) (hb:Γ.b≤h.length)
  (hid:h[id]? = some (.obj (.loop { state:=.ready,pending:=none,fn:=fn,tmps:=tmps,params:=ps,assign:=code1,body:=code2,defers:=D })))
  (henv:∀ n,env (sl n) (nY tmps n)) (hΓ:∀ a v,Γ.env a v→env a v∧a.under Γ.b=true)
  (he0:e0 = .normal∨e0 = .ret∨∃ j,e0 = .exit j)
  (hx:∀ rl,W Γ P N rl h.length x (fun e s1=>e = .normal∧s1.slots=sl1∧s1.heap=h++t) ⟨sJ ps.toList xa sl,h⟩)
  (T:Turn L L' ((h++t).set id (.obj (.loop { state:=.busy,pending:=none,fn:=fn,tmps:=tmps,params:=ps,assign:=code1,body:=code2,defers:=D }))) Xe) (hidL:id ∉ mP L)
  (hy:∀ rl,W Γ P N rl h.length y (fun e s'=>e=e0∧s'.heap=Xe) ⟨sl1,(h++t).set id (.obj (.loop { state:=.busy,pending:=none,fn:=fn,tmps:=tmps,params:=ps,assign:=code1,body:=code2,defers:=D }))⟩) :
  Cj ⟨Γ.t,env,b⟩ P id xa h (.bool (yZ e0).isNone) (Xe.set id (.obj (.loop { state:=if(yZ e0).isNone then .ready else .done,pending:=yZ e0,fn:=fn,tmps:=tmps,params:=ps,assign:=code1,body:=code2,defers:=D }))):=by
 intro M w ρ vs l p bnd S T0 hp fR;obtain⟨b',p',k1,k2,k3,k4⟩:=S.obj id _ hid;rw[hp] at k1;cases k1;have aJ2:id<h.length:=(zA.1 hid).1;have hvs:vs.size=ps.size:=by rw[fR.1,eG]
 refine⟨fn,_,code1,code2,run_yield k3 (by simpa using hvs),roundIn_of_wpIn trivial ?_⟩;dsimp only;have aMm:(ps.zip vs).foldl (fun tmps x=>match x with | (t,a)=>tmps.setIfInBounds t a) tmps=(ps.toList.zip vs.toList).foldl (fun(t:Array Value) (pv:Nat × Value)=>t.setIfInBounds pv.1 pv.2) tmps:=by
  rw[← Array.foldl_toList,Array.toList_zip]
 have S1:Sim ⟨w.heap.size,N,Γ⟩ w M ρ ⟨sJ ps.toList xa sl,h⟩ { tmps:=(ps.zip vs).foldl (fun tmps x=>match x with | (t,a)=>tmps.setIfInBounds t a) tmps,defers:=[] }:=by
  refine⟨bnd,S,?_,?_,hN,⟨T0.t,fun a v hv=>⟨(hΓ a v hv).2,(T0.env a v (hΓ a v hv).1).2⟩⟩,.nil (zL _)⟩
  ·dsimp only;rw[aMm];refine Rj ps.toList xa vs.toList (fun n=>(T0.env _ _ (henv n)).2) (by simp[eG,hvs]) (fun j y hj=>?_) (fun q hq=>?_)
   ·have:=fR.2 j y hj;have e:vs.toList.getD j undef=vs.getD j undef:=by rw[zR,zC,Array.getElem?_toList]
    rw[e];exact this
   ·have:=hps q hq;rw[mB];exact⟨this,aB this hN⟩
  ·dsimp only;rw[aMm,aDp (f:=fun x=>x),mB]
 refine wpIn_mono (hx (some l) code1 c1 ⟨w.heap.size,N,Γ⟩ M ρ _ w rfl ⟨hb,zL _⟩ S1) fun e a1 w1 hp1=>?_;obtain⟨s1,ρ1,⟨rfl,hs1,hs2⟩,S2,g1⟩:=hp1;obtain⟨sl',Xk⟩:=s1;dsimp only at hs1 hs2;subst hs1 hs2;dsimp only at g1;have aN8:(h++t)[id]? = some (.obj (.loop { state:=.ready,pending:=none,fn:=fn,tmps:=tmps,params:=ps,assign:=code1,body:=code2,defers:=D })):=by
  rw[zF aJ2];exact hid
 have aEF:id<(h++t).length:=by simp;omega
 -- the record is busy
 have Cb:=g1.keep id _ aJ2 hid;have hρ1:ρ1[id]? = some (some (l,p)):=Cb.2.trans hp;obtain⟨b1,p1,q1,q2,q3,q4⟩:=S2.sim.obj id _ aN8;rw[hρ1] at q1;cases q1;have hl1:l<w1.heap.size:=(Array.getElem?_eq_some_iff.1 q3).1;refine⟨_,run_beginRound q3 rfl,?_⟩;dsimp only;have tU:Differs l w1 (w1.putObj l (.loop { state:=.busy,pending:=none,fn:=fn,tmps:=tmps,params:=ps,assign:=code1,body:=code2,defers:=D })):=⟨rfl,rfl,rfl,by simp[World.putObj],fun j hj=>World.putObj_heap_other (fun e=>hj e)⟩;have g2:=Evo.putObj (h:=h++t) (o':=.loop { state:=.busy,pending:=none,fn:=fn,tmps:=tmps,params:=ps,assign:=code1,body:=code2,defers:=D }) aN8 hρ1 tU;have S3:Sim ⟨w.heap.size,N,Γ⟩ (w1.putObj l (.loop { state:=.busy,pending:=none,fn:=fn,tmps:=tmps,params:=ps,assign:=code1,body:=code2,defers:=D })) M ρ1 ⟨sl',(h++t).set id (.obj (.loop { state:=.busy,pending:=none,fn:=fn,tmps:=tmps,params:=ps,assign:=code1,body:=code2,defers:=D }))⟩ a1 :=
  ⟨fun b hb=>by rw[tU.size];exact S2.bnd b hb,S2.sim.putObj aN8 hρ1 tU (World.putObj_heap_same hl1) (fun c t f=>by simp),S2.slots.evo g2,S2.size,S2.nlt,S2.tabs.evo g2,S2.defers.evo g2⟩
 refine wpIn_mono (hy (some l) code2 c2 ⟨w.heap.size,N,Γ⟩ M ρ1 _ _ rfl ⟨hb,by simp⟩ S3) fun e a3 w3 hp3=>?_;obtain⟨s3,ρ3,⟨rfl,hs3⟩,S4,g3⟩:=hp3;obtain⟨sl3,hp3⟩:=s3;dsimp only at hs3 g3;subst hs3
 -- the round ends
 have aC4:id<((h++t).set id (.obj (.loop { state:=.busy,pending:=none,fn:=fn,tmps:=tmps,params:=ps,assign:=code1,body:=code2,defers:=D }))).length:=by rw[aA];exact aEF
 have aN7:hp3[id]? = some (.obj (.loop { state:=.busy,pending:=none,fn:=fn,tmps:=tmps,params:=ps,assign:=code1,body:=code2,defers:=D })):=by
  rw[T.keep id aC4 hidL,zN aEF]
 have hk3:=g3.keep id _ aJ2 (zN aEF);have hρ3:ρ3[id]? = some (some (l,p)):=hk3.2.trans hρ1;obtain⟨b3,p3,r1,r2,r3,r4⟩:=S4.sim.obj id _ aN7;rw[hρ3] at r1;cases r1;have hl3:l<w3.heap.size:=(Array.getElem?_eq_some_iff.1 r3).1;have fin:∀ j:Option Code,∃ v w4,(Instr.endRound l j).run P w3 = .ok v w4∧∃ v' ρ',Ending.returned v = .returned v' ∧
   RepA w4 M ρ' (hp3.set id (.obj (.loop { state:=if j.isNone then .ready else .done,pending:=j,fn:=fn,tmps:=tmps,params:=ps,assign:=code1,body:=code2,defers:=D }))) (.bool j.isNone) v' ∧
   SimH w4 M ρ' (hp3.set id (.obj (.loop { state:=if j.isNone then .ready else .done,pending:=j,fn:=fn,tmps:=tmps,params:=ps,assign:=code1,body:=code2,defers:=D }))) ∧
   Evo h.length h ρ w (hp3.set id (.obj (.loop { state:=if j.isNone then .ready else .done,pending:=j,fn:=fn,tmps:=tmps,params:=ps,assign:=code1,body:=code2,defers:=D }))) ρ' w4:=by
  intro j;have hd4:Differs l w3 (w3.putObj l (.loop { state:=if j.isNone then .ready else .done,pending:=j,fn:=fn,tmps:=tmps,params:=ps,assign:=code1,body:=code2,defers:=D })):=⟨rfl,rfl,rfl,by simp[World.putObj],fun k hk=>World.putObj_heap_other (fun e=>hk e)⟩;have g4:=Evo.putObj (h:=hp3) (o':=.loop { state:=if j.isNone then .ready else .done,pending:=j,fn:=fn,tmps:=tmps,params:=ps,assign:=code1,body:=code2,defers:=D }) aN7 hρ3 hd4;refine⟨_,_,run_endRound j r3,_,ρ3,rfl,.d (.sc trivial),S4.sim.putObj aN7 hρ3 hd4 (World.putObj_heap_same hl3) (fun c t f=>by simp),?_⟩;have aJ5:h.length≤hp3.length:=by have:=T.len;simp at this;omega
  exact g1.trans ((g2.mono (by simp)).trans (g3.trans (g4.mono aJ5)))
 rcases he0 with rfl | rfl | ⟨j,rfl⟩
 ·exact fin none
 ·exact fin (some .ret)
 ·exact fin (some (.exit j))
theorem aHY{L L':List (Nat × HB)}{Xe t:cM}{id:Nat}{B B1 X:HB}(hid:id<h.length)(hL:id ∉ mP L)(T:Turn L L' ((h++t).set id B1) Xe):id ∉ mP L'∧Turn ((id,B)::L) ((id,X)::L') h (Xe.set id X):=by
 have hl:=T.len;simp only[aA,zb] at hl;have vG:=T.new;simp only[aA,zb] at vG;have hL':id ∉ mP L':=fun hm=>by
  rcases vG id hm with h1 | h1
  ·exact hL h1
  ·omega
 refine⟨hL',fun p hp=>?_,by rw[aA];omega,fun q hq hn=>?_,fun q hq=>?_⟩
 ·rcases zp.1 hp with rfl | hp
  ·exact zN (by omega)
  ·exact T.has.set hL' X p hp
 ·simp only[mP,zU,zp,not_or] at hn;rw[zM (Ne.symm hn.1),T.keep q (by simp;omega) hn.2,zM (Ne.symm hn.1),zF hq]
 ·simp only[mP,zU,zp] at hq ⊢;rcases hq with rfl | hq
  ·exact .inl (.inl rfl)
  ·rcases vG q hq with h1 | h1
   ·exact .inl (.inr h1)
   ·exact .inr (by omega)
theorem Jd{g:XO}{ps:List Nat}{x y:XC}{Q:Exit→St→Prop}{s:St}{f:FuncId}{caps:List A}{xs:List (List A)}(hg:ev s.slots g = .fn f caps)(hG:aBw Γ.t P f caps xs)
  (I:Nat→List (Nat × HB)→Prop) (E:Exit→List (Nat × HB)→Prop) (L0:List (Nat × HB)) (h0:I 0 L0) (hL0:Ky L0 s.heap) (sl:Nat→Nat→Nat→A) (t:Nat→cM) (eG:∀ (k:Nat) (xa:List A),xs[k]? = some xa→xa.length=ps.length)
  (hx:∀ k xa h rl,xs[k]? = some xa→s.heap.length<h.length→W Γ P N rl h.length x (fun e s1=>e = .normal∧s1.slots=sl k h.length∧s1.heap=h++t k) ⟨sJ ps xa s.slots,h⟩)
  (hy:∀ k xa L h,xs[k]? = some xa→I k L→Ky L h→s.heap.length<h.length→∃ e0 L' h',Turn L L' (h++t k) h'∧(∀ rl,W Γ P N rl h.length y (fun e s'=>e=e0∧s'.heap=h') ⟨sl k h.length,h++t k⟩) ∧
   (e0 = .normal∧I (k+1) L'∨(e0 = .ret∨∃ j,e0 = .exit j)∧E e0 L'))
  (hq:∀ L' h',Turn L0 L' s.heap h'→I xs.length L'→Q .normal ⟨s.slots,h'⟩) (hqe:∀ e0 L' h',Turn L0 L' s.heap h'→E e0 L'→Q e0 ⟨s.slots,h'⟩):W Γ P N none n0 (.range g ps x y) Q s:=by
 intro code hc z M ρ a w hz hn S;cases code<;>first | exact hc.elim | skip
 rename_i g' ps' code1 code2;obtain⟨c0,rfl,hpN,c1,c2⟩:=hc;have hb:Γ.b≤s.heap.length:=by rw[hz] at hn;exact aC hn.1 hn.2
 have hzn:z.n=N:=by rw[hz]
 have hzΓ:z.Γ=Γ:=by rw[hz]
 refine wpIn_rangeFunc ?_;intro fn _;have hfv:=S.env _ _ c0;rw[hg] at hfv;obtain⟨cs,hv,aFC⟩:=aDg hfv;obtain⟨rec,Vm⟩:∃ rec:LoopState→Option Code→Loop,rec=fun st pe=>{ state:=st,pending:=pe,fn,tmps:=a.tmps,params:=ps',assign:=code1,body:=code2,defers:=w.heap.size }:=⟨_,rfl⟩
 -- the block for the rounds' deferred calls, and the record
 have aMq:∀ b,b<w.heap.size→(w.alloc (.deferred (some []))).heap[b]? = w.heap[b]? := fun b hb=>by
  simp[World.alloc, -World.alloc_eq,Array.getElem?_push,show b≠w.heap.size by omega]
 have aP0:(w.alloc (.deferred (some []))).heap.size=w.heap.size+1:=by simp[World.alloc, -World.alloc_eq]
 have g1:Evo s.heap.length s.heap ρ w s.heap ρ (w.alloc (.deferred (some []))):=.foreign rfl rfl rfl (by omega) aMq;have S1:=S.sim.foreign g1 aMq;have bnd1:∀ b,M b→b<(w.alloc (.deferred (some []))).heap.size:=fun b hb=>by have:=S.bnd b hb;omega
 have nw:NewAt s.heap ρ (.obj (.loop (rec .ready none))) (some ((w.alloc (.deferred (some []))).heap.size,0)) none s.heap.length (s.heap++[.obj (.loop (rec .ready none))]) (ρ++[some ((w.alloc (.deferred (some []))).heap.size,0)]):=.push;have S2:=S1.newObj bnd1 nw (fun c t f=>by simp);have g2:=Evo.newAlloc (w:=w.alloc (.deferred (some []))) (o:=.loop (rec .ready none)) nw S1.len;obtain⟨W1,hW1⟩:∃ W1,(w.alloc (.deferred (some []))).alloc (.loop (rec .ready none))=W1:=⟨_,rfl⟩;rw[hW1] at S2 g2;have g12:=g1.trans g2;have hl1:s.heap.length<(s.heap++[HB.obj (.loop (rec .ready none))]).length:=by simp
 have hD1:W1.heap[w.heap.size]? = some (.deferred (some [])):=by
  rw[← hW1];have:((w.alloc (.deferred (some []))).alloc (.loop (rec .ready none))).heap[w.heap.size]? = (w.alloc (.deferred (some []))).heap[w.heap.size]? := by
   simp[World.alloc, -World.alloc_eq,Array.getElem?_push]
  rw[this];exact World.alloc_heap_new w _
 have hρ1:(ρ++[some ((w.alloc (.deferred (some []))).heap.size,0)])[s.heap.length]? = some (some (w.heap.size+1,0)):=by
  rw[← S.sim.len,zG (zL _)];simp[aP0]
 have hDρ:∀ id p:Nat,(ρ++[some ((w.alloc (.deferred (some []))).heap.size,0)])[id]? ≠ some (some (w.heap.size,p)):=by
  intro id p hp;rcases Nat.lt_or_ge id ρ.length with cY | vX
  ·rw[zF cY] at hp;exact absurd (S.sim.lt hp) (zv _)
  ·rw[zG vX] at hp;cases hk:id-ρ.length with
   | zero=>rw[hk] at hp;simp[aP0] at hp
   | succ k=>rw[hk] at hp;simp at hp
 refine⟨w.heap.size+1,[{ target:=.collected w.heap.size,args := #[] }],W1,{ target:=.fn (.func f) cs,args := #[.func (.yield (w.heap.size+1)) #[] #[]] },W1,f,
  #[.func (.yield (w.heap.size+1)) #[] #[]]++cs,W1,?_,?_,fun _ _=>trivial,?_,fun hh=>(by cases hh),Mv ?_⟩
 ·rw[← hW1,Vm];exact run_enterLoop_outer _ _ _ _ _
 ·simp only[resolve,hv];simp[go_sem]
 ·simp only[invoke,Array.empty_append];exact Iz hG.1 _
 ·-- the function that is ranged over
  let env':A→Value→Prop:=fun u v=>Γ.env u v∨∃ n,u=s.slots n∧v=nY a.tmps n;have T1:TabsOk ⟨Γ.t,env',s.heap.length+1⟩ W1 M (ρ++[some ((w.alloc (.deferred (some []))).heap.size,0)]) (s.heap++[HB.obj (.loop (rec .ready none))]):=by
   have TT:=S.tabs;rw[hzΓ] at TT;refine⟨(TT.evo g12).t,fun u v hu=>?_⟩;rcases hu with hu | ⟨n,rfl,rfl⟩
   ·exact⟨A.under_mono (TT.env u v hu).1 (show Γ.b≤s.heap.length+1 by omega),((TT.evo g12).env u v hu).2⟩
   ·exact⟨A.under_mono (S.slots n).under (show s.heap.length≤s.heap.length+1 by omega),g12.rep' (S.slots n)⟩
  have fR:tB W1 M (ρ++[some ((w.alloc (.deferred (some []))).heap.size,0)]) (s.heap++[HB.obj (.loop (rec .ready none))]) (.yld s.heap.length::caps) (#[.func (.yield (w.heap.size+1)) #[] #[]]++cs):=by
   have hy1:tB W1 M (ρ++[some ((w.alloc (.deferred (some []))).heap.size,0)]) (s.heap++[HB.obj (.loop (rec .ready none))]) [.yld s.heap.length] #[.func (.yield (w.heap.size+1)) #[] #[]]:=by
    refine⟨rfl,fun j u hj=>?_⟩;cases j with
    | zero=>simp at hj;subst hj;exact .yld (o:=.loop (rec .ready none)) (by simp) hρ1
    | succ j=>simp at hj
   exact hy1.append ⟨aFC.1,fun j u hj=>g12.rep' (aFC.2 j u hj)⟩
  let I':Nat→List (Nat × HB)→Prop:=fun k L=>∃ L1,L=(s.heap.length,.obj (.loop (rec .ready none)))::L1∧I k L1∧s.heap.length ∉ mP L1;let E':List (Nat × HB)→Prop:=fun L=>∃ L1 e0,L=(s.heap.length,.obj (.loop (rec .done (yZ e0))))::L1∧E e0 L1∧s.heap.length ∉ mP L1∧(e0 = .ret∨∃ j,e0 = .exit j);have aQP:s.heap.length ∉ mP L0:=fun hm=>absurd (hL0.lt _ hm) (zv _);have hX:=hG.2 env' (s.heap.length+1) s.heap.length I' E' ?_ ((s.heap.length,.obj (.loop (rec .ready none)))::L0) (s.heap++[HB.obj (.loop (rec .ready none))]) ⟨L0,rfl,h0,aQP⟩ ?_ (by simp)
  ·refine(hX.run M W1 _ _ (fun b hb=>?_) S2 T1 fR).mono fun e W2 hp=>?_
   ·have h1:=S.bnd b hb;have h2:=g12.size;omega
   obtain⟨r,h',v,ρ',⟨L',T,hIE⟩,rfl,_,S3,g3⟩:=hp;have Ms:s.heap.length<h'.length:=by have:=T.len;simp at this;omega
   have g123:=g12.trans (g3.mono (by simp))
   -- what is said at the statement's end
   have fin:∀ (st:LoopState) (pe:Option Code) (L1:List (Nat × HB)),st ≠ .busy→L'=(s.heap.length,.obj (.loop (rec st pe)))::L1→s.heap.length ∉ mP L1 →
     ∃ w4 h'' , (Instr.endLoop (w.heap.size+1)).run P W2 = .ok pe w4∧Turn L0 L1 s.heap h''∧Sim z w4 M ρ' ⟨s.slots,h''⟩ { a with defers:=[{ target:=.collected w.heap.size,args := #[] }]++a.defers }∧Evo n0 s.heap ρ w h'' ρ' w4:=by
    rintro st pe L1 mO rfl aPH;have aEE:=T.has _ (zW ..);dsimp only at aEE;have hk:=g3.keep s.heap.length _ hl1 (by simp:(s.heap++[HB.obj (.loop (rec .ready none))])[s.heap.length]? = some (HB.obj (.loop (rec .ready none))));have hρ':ρ'[s.heap.length]? = some (some (w.heap.size+1,0)):=hk.2.trans hρ1;obtain⟨b3,p3,r1,r2,r3,r4⟩:=S3.obj _ _ aEE;rw[hρ'] at r1;cases r1;have aQV:w.heap.size+1<W2.heap.size:=(Array.getElem?_eq_some_iff.1 r3).1;have hd4:Differs (w.heap.size+1) W2 (W2.putObj (w.heap.size+1) (.loop { rec st pe with state:=.exhausted })):=⟨rfl,rfl,rfl,by simp[World.putObj],fun k hk=>World.putObj_heap_other (fun e=>hk e)⟩;have g4:=Evo.putObj (h:=h') (o':=.loop { rec st pe with state:=.exhausted }) aEE hρ' hd4;have g1234:=g123.trans (g4.mono (by omega));have aRb:(rec st pe).pending=pe:=by rw[Vm]
    have aOg:(rec st pe).state=st:=by rw[Vm]
    refine⟨W2.putObj (w.heap.size+1) (.loop { rec st pe with state:=.exhausted }),h'.set s.heap.length (.obj (.loop { rec st pe with state:=.exhausted })),(run_endLoop (P:=P) r3 (by rw[aOg];exact mO)).trans (by subst Vm;rfl),?_,?_,g1234.mono hn.2⟩
    ·refine⟨?_,by simp;omega,fun q hq hnq=>?_,fun q hq=>?_⟩
     ·exact Ky.set (fun p hp=>T.has p (zZ _ hp)) aPH _
     ·have fM:q≠s.heap.length:=by omega
      rw[zM (Ne.symm fM),T.keep q (by simp;omega) (by simp only[mP,zU,zp,not_or];exact⟨fM,hnq⟩),zF hq]
     ·rcases T.new q (by simp only[mP,zU,zp];exact .inr hq) with h1 | h1
      ·simp only[mP,zU,zp] at h1;rcases h1 with rfl | h1
       ·exact .inr (zL _)
       ·exact .inl h1
      ·simp at h1;exact .inr (by omega)
    ·refine⟨fun b hb=>aB (S.bnd b hb) g1234.size,S3.putObj aEE hρ' hd4 (World.putObj_heap_same aQV) (fun c t f=>by simp),fun n=>g1234.rep' (S.slots n),S.size,S.nlt,S.tabs.evo g1234,?_⟩;have hDlt:w.heap.size<W1.heap.size:=(Array.getElem?_eq_some_iff.1 hD1).1;refine .cons S.defers.lo ?_ (fun id p hp=>?_) (fun d hd he=>absurd (S.defers.lt d hd _ he) (zv _)) (S.defers.evo g1234)
     ·rw[World.putObj_heap_other (by omega),g3.old _ hDlt hDρ];exact hD1
     ·rcases g3.fresh id _ p hp with hf | ⟨i,q,hq⟩
      ·omega
      ·exact hDρ i q hq
   rcases hIE with⟨L1,hL,hi,aEH⟩ | ⟨L1,e0,hL,hi,aEH,hj⟩
   ·obtain⟨w4,h'',k1,k2,k3,k4⟩:=fin .ready none L1 (by simp) hL aEH;exact⟨none,w4,k1,⟨_,ρ',hq L1 h'' k2 hi,k3,k4⟩⟩
   ·obtain⟨w4,h'',k1,k2,k3,k4⟩:=fin .done (yZ e0) L1 (by simp) hL aEH;refine⟨yZ e0,w4,k1,?_⟩;rcases hj with rfl | ⟨j,rfl⟩
    ·exact wpIn_ret ⟨_,ρ',hqe _ L1 h'' k2 hi,k3,k4⟩
    ·exact wpIn_exit ⟨_,ρ',hqe _ L1 h'' k2 hi,k3,k4⟩
  ·-- a round
   rintro k xa L h hk ⟨L1,rfl,hi,aEH⟩ hL Qd;have aEE:=hL _ (zW ..);have hL1:Ky L1 h:=fun p hp=>hL p (zZ _ hp);have Ms:s.heap.length<h.length:=by omega
   obtain⟨e0,L',Xe,T,hyW,Bt⟩:=hy k xa L1 (h.set s.heap.length (.obj (.loop (rec .busy none)))) hk hi (hL1.set aEH _) (by simpa using Ms);have eset:h.set s.heap.length (.obj (.loop (rec .busy none)))++t k=(h++t k).set s.heap.length (.obj (.loop (rec .busy none))):=(List.set_append_left _ _ Ms).symm;rw[eset] at T;simp only[eset,aA] at hyW;have he0:e0 = .normal∨e0 = .ret∨∃ j,e0 = .exit j:=by
    rcases Bt with⟨h1,_⟩ | ⟨h1,_⟩
    ·exact .inl h1
    ·exact .inr h1
   have hR:=aDq (Γ:=Γ) (P:=P) (N:=N) (z:=z) (x:=x) (y:=y) (fn:=fn) (tmps:=a.tmps) (ps:=ps') (D:=w.heap.size) (id:=s.heap.length) (xa:=xa) (sl:=s.slots) (sl1:=sl k h.length) (L:=L1) (L':=L') (h:=h) (Xe:=Xe) (e0:=e0) (env:=env') (b:=s.heap.length+1) (t k)
    c1 c2 (by rw[S.size,hzn]) (by rw[← hzn];exact S.nlt) hpN (by rw[eG k xa hk];simp) (by omega) (by rw[Vm] at aEE;exact aEE) (fun n=>.inr ⟨n,rfl,rfl⟩) (fun u v hu=>⟨.inl hu,by
     have TT:=S.tabs;rw[hzΓ] at TT;exact(TT.env u v hu).1⟩) he0 (fun rl=>hx k xa h rl hk Ms) (by rw[Vm] at T;exact T) aEH (fun rl=>by
     have:=hyW rl;rw[Vm] at this;exact this)
   have hT:=aHY (h:=h) (B:=.obj (.loop (rec .ready none))) (X:=.obj (.loop (rec (if(yZ e0).isNone then .ready else .done) (yZ e0)))) Ms aEH T;rcases Bt with⟨rfl,nX⟩ | ⟨hj,he⟩
   ·refine .inl ⟨_,_,?_,hT.2,L',rfl,nX,hT.1⟩;rw[Vm];exact hR
   ·have aPZ:(yZ e0).isNone=false:=by rcases hj with rfl | ⟨j,rfl⟩<;>rfl
    rw[aPZ] at hR hT;refine .inr ⟨_,_,?_,hT.2,L',e0,rfl,he,hT.1,hj⟩;rw[Vm];exact hR
  ·intro p hp;rcases zp.1 hp with rfl | hp
   ·simp
   ·exact hL0.app _ p hp
end
end Go.Proofs.YtlllnjhgjijnkaaGreatDoor.Nx

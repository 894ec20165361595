import Derived.Test.YtlllnjhgjijnkaaGreatDoorNxWalk
set_option linter.all false
open List renaming getElem?_eq_some_iff → zA, getElem?_eq_getElem → zB, getD_eq_getElem?_getD → zC, getElem?_append_left → zF, mem_of_getElem? → zY, eq_nil_of_length_eq_zero → zx
open Nat renaming zero_le → zI, le_refl → zL, mul_le_mul_right → zX, not_lt_zero → zw
open Bool renaming and_eq_true → zf
open List renaming getElem?_mapIdx → aA, mem_iff_getElem? → aC
open Nat renaming lt_or_ge → aB, le_antisymm → aD
namespace Go.Proofs.YtlllnjhgjijnkaaGreatDoor.Nx
open Go
section
variable {Γ:Ctx}{P:Program}{N:Nat}{rl:Option Nat}{n0:Nat}
def WE(Γ:Ctx)(P:Program)(N:Nat)(rl:Option Nat)(n0:Nat)(c:XC)(s:St)(e0:Exit)(s1:St):Prop:=W Γ P N rl n0 c (fun e s'=>e=e0∧Co n0 s' s1) s
theorem WE.seq{x y:XC}{s s1 s2:St}{e0:Exit}(h1:WE Γ P N rl n0 x s .normal s1)(h2:WE Γ P N rl n0 y s1 e0 s2):WE Γ P N rl n0 (.seq x y) s e0 s2 :=
 cN (yY (fun e s' ⟨he,hc⟩=>by subst he;exact dX hc h2) h1)
theorem WE.co{c:XC}{s s' s1:St}{e0:Exit}(hc:Co n0 s s')(h:WE Γ P N rl n0 c s' e0 s1):WE Γ P N rl n0 c s e0 s1:=dX hc h
theorem WE.block{j:Nat}{x:XC}{s s1:St}(h:WE Γ P N rl n0 x s (.exit j) s1):WE Γ P N rl n0 (.block j x) s .normal s1 :=
 cS (yY (fun e s' ⟨he,hc⟩=>by subst he;simp only[yX,if_true];exact⟨trivial,hc⟩) h)
inductive Path (Γ:Ctx) (P:Program) (N:Nat) (rl:Option Nat) (n0:Nat) (x:XC) (e0:Exit) (s1:St):Nat→St→Prop
 | stop {m:Nat} {s:St} (h:WE Γ P N rl n0 x s e0 s1) (he:e0 ≠ .normal):Path Γ P N rl n0 x e0 s1 m s
 | go {m m':Nat} {s s2:St} (hm:m'<m) (h:WE Γ P N rl n0 x s .normal s2) (hp:Path Γ P N rl n0 x e0 s1 m' s2):Path Γ P N rl n0 x e0 s1 m s
theorem Path.loop{x:XC}{e0:Exit}{s s1:St}{m:Nat}(h:Path Γ P N rl n0 x e0 s1 m s):WE Γ P N rl n0 (.loop x) s e0 s1 :=
 dN (Path Γ P N rl n0 x e0 s1) h fun m s hp=>by
  cases hp with
  | stop h he =>
   refine yY (fun e s' ⟨Zh,hc⟩=>?_) h;subst Zh;cases e with
   | normal=>exact absurd rfl he
   | _=>exact⟨rfl,hc⟩
  | go hm h hp=>exact yY (fun e s' ⟨he,hc⟩=>by subst he;exact⟨_,_,hm,hc,hp⟩) h
theorem aK1{x:XC}(I:Nat→St→Prop)(E:Exit→St→Prop)(step:∀ m s,I m s→(∃ m' s2,m'<m∧I m' s2∧WE Γ P N rl n0 x s .normal s2)∨(∃ e0 s1,e0 ≠ .normal∧E e0 s1∧WE Γ P N rl n0 x s e0 s1)) :
  ∀ m s,I m s→∃ e0 s1,e0 ≠ .normal∧E e0 s1∧WE Γ P N rl n0 (.loop x) s e0 s1:=by
 have:∀ m s,I m s→∃ e0 s1,e0 ≠ .normal∧E e0 s1∧Path Γ P N rl n0 x e0 s1 m s:=by
  intro m
  induction m using Nat.strongRecOn with
  | _ m ih =>
   intro s hi;rcases step m s hi with⟨m',s2,hm,nX,h⟩ | ⟨e0,s1,he,hE,h⟩
   ·obtain⟨e0,s1,he,hE,hp⟩:=ih m' hm s2 nX;exact⟨e0,s1,he,hE,.go hm h hp⟩
   ·exact⟨e0,s1,he,hE,.stop h he⟩
 intro m s hi;obtain⟨e0,s1,he,hE,hp⟩:=this m s hi;exact⟨e0,s1,he,hE,hp.loop⟩
theorem aBY{x:XC}{j:Nat}(I:Nat→St→Prop)(E:St→Prop)(step:∀ m s,I m s→(∃ m' s2,m'<m∧I m' s2∧WE Γ P N rl n0 x s .normal s2)∨(∃ s1,E s1∧WE Γ P N rl n0 x s (.exit j) s1)){m:Nat}{s:St}(h:I m s) :
  ∃ s1,E s1∧WE Γ P N rl n0 (.block j (.loop x)) s .normal s1:=by
 obtain⟨e0,s1,_,⟨rfl,hE⟩,hW⟩:=aK1 I (fun e s=>e = .exit j∧E s) (fun m s hi=>by
  rcases step m s hi with h | ⟨s1,hE,h⟩
  ·exact .inl h
  ·exact .inr ⟨.exit j,s1,by simp,⟨rfl,hE⟩,h⟩) m s h
 exact⟨s1,hE,hW.block⟩
theorem aDM{s:St}{x:XR}{K K':A→Prop}(hk:∀ a,K a→K' a)(h:eH s x K):eH s x K':=by
 cases x with
 | t n=>exact hk _ h
 | c p n g =>
  simp only[eH] at h ⊢;split at h
  ·split at h
   ·refine⟨h.1,?_⟩;have h:=h.2;split at h
    ·exact gW hk h
    ·exact h
   ·exact h
  ·exact h
theorem Ob{s:St}:∀ {l:List XR} {K K':List A→Prop},(∀ a,K a→K' a)→dK s l K→dK s l K'
 | [],_,_,hk,h=>hk _ h
 | _::_,_,_,hk,h=>aDM (fun _ ha=>Ob (fun _ hb=>hk _ hb) ha) h
theorem FnD.of_WE{f:FuncId}{res:List XR}{x:XC}{args:List A}{h:cM}{r:A}{e0:Exit}{s1:St}(H:FnIs P f N res x)(hn:args.length≤N)(hb:Γ.b≤h.length)(hW:WE Γ P N none h.length x ⟨dB (gQ 0 args),h⟩ e0 s1)(he:e0 = .normal∨e0 = .ret)
  (hr:dK s1 res fun l=>dM l=r):FnD Γ P f args h r s1.heap :=
 .of_W H hn hb (aHU (fun e s ⟨h1,h2⟩=>⟨s1,h2,by rw[h1];exact he,Ob (fun _ hl=>⟨hl,rfl⟩) hr⟩) hW)
end
section
def nR:Option Bool→A
 | some c=>.bool c
 | none=>cV
def pE:List (Nat × Option Bool)→Nat→Option (Option Bool)
 | [],_=>none
 | (m,c)::l,n=>if m=n then some c else pE l n
def gO(kn:List (Nat × Option Bool))(o:XOper):XOper :=
 match o with
 | ⟨d,op,none,pl⟩=>⟨d,op,none,pl⟩
 | ⟨d,op,some (g,b),pl⟩=>match pE kn g with
  | none=>⟨d,op,some (g,b),pl⟩
  | some none=>⟨d,.mov (.k cV),none,pl⟩
  | some (some c)=>if c=b then⟨d,op,none,pl⟩ else⟨d,.mov (.k cV),none,pl⟩
theorem aE6{sl:Nat→A}:∀ {kn:List (Nat × Option Bool)} {n:Nat} {c:Option Bool},(∀ p∈kn,sl p.1=nR p.2)→pE kn n=some c→sl n=nR c
 | [],_,_,_,h=>by simp[pE] at h
 | (m,c0)::l,n,c,hk,h=>by
  rw[pE] at h;split at h
  ·rename_i e;subst e;cases h;exact hk _ (List.mem_cons_self ..)
  ·exact aE6 (fun p hp=>hk p (List.mem_cons_of_mem _ hp)) h
theorem aBZ{kn:List (Nat × Option Bool)}{sl:Nat→A}(hk:∀ p∈kn,sl p.1=nR p.2)(o:XOper):(gO kn o).live sl=o.live sl:=by
 obtain⟨d,op,g,pl⟩:=o;cases g with
 | none=>rfl
 | some gb =>
  obtain⟨g,b⟩:=gb;simp only[gO];cases hg:pE kn g with
  | none=>rfl
  | some c =>
   have hs:=aE6 hk hg;cases c with
   | none=>simp only[XOper.live,hs,nR]
   | some c =>
    simp only;split
    ·rename_i e;simp only[XOper.live,hs,nR,e,if_true]
    ·rename_i e;simp only[XOper.live,hs,nR,if_neg e]
theorem Sf{kn:List (Nat × Option Bool)}(o:XOper):(gO kn o).dst=o.dst∧(gO kn o).pl=o.pl:=by
 obtain⟨d,op,g,pl⟩:=o;cases g with
 | none=>exact⟨rfl,rfl⟩
 | some gb =>
  obtain⟨g,b⟩:=gb;simp only[gO];split
  ·exact⟨rfl,rfl⟩
  ·exact⟨rfl,rfl⟩
  ·split<;>exact⟨rfl,rfl⟩
def aIG(kn:List (Nat × Option Bool))(o:XOper):Bool:=match o.dst with
 | none=>true
 | some d=>kn.all fun p=>p.1 != d
theorem eZ{F:Fns}{b:Nat}{K:St→Prop}(kn:List (Nat × Option Bool)):∀ {os:List XOper} {s:St},(os.all (aIG kn))=true→(∀ p∈kn,s.slots p.1=nR p.2)→kH F b (os.map (gO kn)) s K→kH F b os s K
 | [],_,_,_,h=>h
 | o::os,s,ha,hk,h=>by
  rw[List.all_cons,zf] at ha;rw[List.map_cons] at h;simp only[kH] at h ⊢;unfold jA at h ⊢;rw[aBZ hk,(Sf o).1,(Sf o).2] at h;split
  ·rename_i op uA;rw[uA] at h;refine jD (fun r h' hr=>?_) h;refine eZ kn ha.2 (fun p hp=>?_) hr;have h1:=ha.1;unfold aIG at h1;cases hd:o.dst with
   | none=>simp only[put];exact hk p hp
   | some d =>
    rw[hd] at h1;have:=List.all_eq_true.1 h1 p hp;have fM:p.1≠d:=by simpa using this
    simp only[put,upd,if_neg fM];exact hk p hp
  ·rename_i uA;rw[uA] at h;exact h
end
section
variable {P:Program}{w w':World}{M:Nat→Prop}{ρ ρ':fJ}{h h':cM}{Γ:Ctx}
mutual
def A.keptIn(K:Nat→Bool):A→Bool
 | .agg l=>A.keptInL K l
 | .tup l=>A.keptInL K l
 | .fn _ l=>A.keptInL K l
 | .ptr id _ _ _=>K id
 | .ref id _ _ _ _=>K id
 | .yld id=>K id
 | _=>true
def A.keptInL(K:Nat→Bool):List A→Bool
 | []=>true
 | x::xs=>A.keptIn K x&&A.keptInL K xs
end
theorem A.keptInL_get{K:Nat→Bool}{l:List A}(h:A.keptInL K l=true){j:Nat}{x:A}(hj:l[j]? = some x):x.keptIn K=true:=by
 induction l generalizing j with
 | nil=>simp at hj
 | cons y ys ih =>
  simp only[A.keptInL,zf] at h;cases j with
  | zero=>simp at hj;exact hj ▸ h.1
  | succ j=>simp at hj;exact ih h.2 hj
mutual
theorem A.kept_under{K:Nat→Bool}{n:Nat}(hk:∀ id,id<n→K id=true):∀ {x:A},x.under n=true→x.keptIn K=true
 | .agg l,h=>A.keptL_under hk (l:=l) h
 | .tup l,h=>A.keptL_under hk (l:=l) h
 | .fn _ l,h=>A.keptL_under hk (l:=l) h
 | .ptr _ _ _ _,h=>hk _ (of_decide_eq_true h)
 | .ref _ _ _ _ _,h=>hk _ (of_decide_eq_true h)
 | .yld _,h=>hk _ (of_decide_eq_true h)
 | .any,_=>rfl
 | .nil,_=>rfl
 | .d _,_=>rfl
 | .nn _ _,_=>rfl
 | .fd _ _,_=>rfl
 | .iptr _,_=>rfl
theorem A.keptL_under{K:Nat→Bool}{n:Nat}(hk:∀ id,id<n→K id=true):∀ {l:List A},A.underL n l=true→A.keptInL K l=true
 | [],_=>rfl
 | x::l,h=>by
  simp only[A.underL,A.keptInL,zf] at h ⊢;exact⟨A.kept_under hk h.1,A.keptL_under hk h.2⟩
end
theorem RepA.moveG{K:Nat→Bool}{M':Nat→Prop}
  (hm:∀ a u,¬ vH M ρ a.block→w.cell? a=some u→w'.cell? a=some u∧¬ vH M' ρ' a.block)
  (hk:∀ id B,K id=true→h[id]? = some B→Qg h' ρ ρ' id B) {x:A} {v:Value} (hr:RepA w M ρ h x v) (hb:x.keptIn K=true):RepA w' M' ρ' h' x v:=by
 induction hr with
 | any=>exact .any
 | nil=>exact .nil
 | d hx=>exact .d (hx.move hm)
 | nn hx=>exact .nn (hx.move hm)
 | fd hx=>exact .fd (hx.move hm)
 | agg hl ho _ ih=>exact .agg hl ho fun j x hj=>ih j x hj (A.keptInL_get hb hj)
 | tup hl _ ih=>exact .tup hl fun j x hj=>ih j x hj (A.keptInL_get hb hj)
 | fn hl _ ih=>exact .fn hl fun j x hj=>ih j x hj (A.keptInL_get hb hj)
 | iptr u hc hr =>
  refine .iptr u (fun j d hj=>?_) (fun j d hj=>(hr j d hj).move hm);obtain⟨h1,h2⟩:=hc j d hj;have:=hm _ _ (by rw[lD];exact h2) h1;rw[lD] at this;exact this
 | ptr hh hp =>
  obtain⟨rows',h1,h2,h3⟩:=hk _ _ hb hh;rcases aB _ rows'.length with cY | vX
  ·exact .pstale h1 cY rfl
  ·have he:rows'.length=_:=aD vX h2;rw[← he];exact .ptr h1 ((h3 he).trans hp)
 | pstale hh hN ho =>
  obtain⟨rows',h1,h2,h3⟩:=hk _ _ hb hh;exact .pstale h1 (by omega) ho
 | obj hh hp =>
  obtain⟨⟨o',h1⟩,h2⟩:=hk _ _ hb hh;exact .obj h1 (h2.trans hp)
 | yld hh hp =>
  obtain⟨⟨o',h1⟩,h2⟩:=hk _ _ hb hh;exact .yld h1 (h2.trans hp)
 | stale hh hN ho =>
  obtain⟨rows',h1,h2,h3⟩:=hk _ _ hb hh;exact .stale h1 (by omega) ho
 | ref0 hh hp =>
  obtain⟨rows',h1,h2,h3⟩:=hk _ _ hb hh;rcases aB 0 rows'.length with cY | vX
  ·exact .stale h1 cY rfl
  ·have he:rows'=[]:=zx (by omega);subst he;exact .ref0 h1 ((h3 rfl).trans hp)
 | ref hh hp eG hcap hm' ho hphys hfull =>
  obtain⟨rows',h1,h2,h3⟩:=hk _ _ hb hh;rcases aB _ rows'.length with cY | vX
  ·exact .stale h1 cY rfl
  ·have he:rows'.length=_:=aD vX h2;rw[← he];exact .ref h1 ((h3 he).trans hp) (by omega) hcap hm' ho hphys (fun hf=>by have:=hfull hf;omega)
inductive FrzE (K:Nat→Bool) (h:cM):A→D→Prop
 | d (x:D):FrzE K h (.d x) x
 | nil (e:Elt):FrzE K h .nil (.sl e [])
 | nn (e:Elt) (rows:List (List D)):FrzE K h (.nn e rows) (.sl e rows)
 | fd (e:Elt) (rows:List (List D)):FrzE K h (.fd e rows) (.sl e rows)
 | ref {id off len:Nat} {full:Bool} {e:Elt} {rows:List (List A)} {rowsD:List (List D)} (hk:K id=false) (hh:h[id]? = some (.cells e rows)) (hl:rowsD.length=len)
   (hr:∀ i r,rowsD[i]? = some r→(rows.getD (off+i) []).length=r.length)
   (hc:∀ i r j d,rowsD[i]? = some r→r[j]? = some d→FrzE K h ((rows.getD (off+i) []).getD j .any) d):FrzE K h (.ref id rows.length off len full) (.sl e rowsD)
inductive FrzG (K:Nat→Bool) (h:cM):A→A→Prop
 | same {x:A} (hu:x.keptIn K=true):FrzG K h x x
 | any {x:A}:FrzG K h x .any
 | d {x:A} {y:D} (hx:FrzE K h x y):FrzG K h x (.d y)
 | agg {l l':List A} (hl:l'.length=l.length) (hr:∀ j y,l'[j]? = some y→FrzG K h (l.getD j .any) y):FrzG K h (.agg l) (.agg l')
 | tup {l l':List A} (hl:l'.length=l.length) (hr:∀ j y,l'[j]? = some y→FrzG K h (l.getD j .any) y):FrzG K h (.tup l) (.tup l')
 | fn {f:FuncId} {l l':List A} (hl:l'.length=l.length) (hr:∀ j y,l'[j]? = some y→FrzG K h (l.getD j .any) y):FrzG K h (.fn f l) (.fn f l')
 | iptr {id i off:Nat} {e:Elt} {rows:List (List A)} {r:List A} {cs:List D} (hk:K id=false) (hh:h[id]? = some (.cells e rows)) (hi:rows[i]? = some r)
   (hc:∀ j d,cs[j]? = some d→off+j<r.length∧FrzE K h (r.getD (off+j) .any) d):FrzG K h (.ptr id rows.length i off) (.iptr cs)
def mZ(K:Nat→Bool)(ρ:fJ):fJ:=ρ.mapIdx fun i o=>if K i then o else none
theorem xZ{K:Nat→Bool}{ρ:fJ}{id:Nat}(hk:K id=true):(mZ K ρ)[id]? = ρ[id]? := by
 rw[mZ,aA];cases ρ[id]? with
 | none=>rfl
 | some o=>simp[hk]
theorem tZ{K:Nat→Bool}{ρ:fJ}{id b p:Nat}(hp:(mZ K ρ)[id]? = some (some (b,p))):K id=true∧ρ[id]? = some (some (b,p)):=by
 rw[mZ,aA] at hp;cases hx:ρ[id]? with
 | none=>rw[hx] at hp;cases hp
 | some o =>
  rw[hx] at hp;simp only[Option.map_some,Option.some.injEq] at hp;split at hp
  ·rename_i hk;exact⟨hk,by rw[hp]⟩
  ·cases hp
theorem aGl{K:Nat→Bool}{ρ:fJ}:(mZ K ρ).length=ρ.length:=by simp[mZ]
theorem Jq{K:Nat→Bool}{b:Nat}(ho:¬ vH M ρ b):¬ vH M (mZ K ρ) b:=by
 rintro(hm | ⟨id,p,hp⟩)
 ·exact ho (.inl hm)
 ·exact ho (.inr ⟨id,p,(tZ hp).2⟩)
theorem FrzE.rep(S:SimH w M ρ h){K:Nat→Bool}{x:A}{d:D}(hf:FrzE K h x d):∀ {v:Value},RepA w M ρ h x v→RepD w (vH M (mZ K ρ)) d v:=by
 induction hf with
 | d x=>intro v hr;cases hr with
  | d hx=>exact hx.move fun _ _ hn hc=>⟨hc,Jq hn⟩
 | nil e=>intro v hr;cases hr with
  | nil=>exact .nil (zI _) (fun _=>rfl)
 | nn e rows=>intro v hr;cases hr with
  | nn hx=>exact hx.move fun _ _ hn hc=>⟨hc,Jq hn⟩
 | fd e rows=>intro v hr;cases hr with
  | fd hx=>exact hx.move fun _ _ hn hc=>⟨hc,Jq hn⟩
 | @ref id off len full e rows rowsD hk hh hl hr hc ih =>
  intro v hv;obtain⟨_,q2,q3,q4,q5⟩:=S.cells id e rows hh;subst hl;generalize hN:rows.length=n at hv;generalize hL:rowsD.length=m at hv;cases hv with
  | stale Om cY _=>rw[hh] at Om;cases Om;omega
  | ref0 Om _ =>
   have:rowsD=[]:=zx hL;subst this;exact .nil (zI _) (fun _=>rfl)
  | @ref _ _ _ o cap _ e' rows' b p Om hp eG hcap hm ho hphys hfull =>
   rw[hh] at Om;injection Om with Om;injection Om with e1 e2;subst e1 e2;cases hD:rowsD with
   | nil=>rw[hD] at hL;subst hL;exact .nil hm (fun h=>by cases h)
   | cons r0 rest =>
    rw[← hD];have sD:0<rowsD.length:=by rw[hD];simp
    have ho':o=off * e.sz:=by
     rcases ho with h0 | h0
     ·omega
     ·exact h0
    subst ho';have Vl:¬ vH M (mZ K ρ) b:=by
     rintro(hm' | ⟨i,p',Xk⟩)
     ·exact S.notM hp hm'
     ·obtain⟨hki,Xk⟩:=tZ Xk;have:=S.inj i id b p' p Xk hp;subst this;rw[hk] at hki;cases hki
    have key:∀ i r j d,rowsD[i]? = some r→r[j]? = some d→∃ u,w.cell? (⟨b,off * e.sz+(i * e.sz+j),none⟩:Addr)=some u∧RepD w (vH M (mZ K ρ)) d u:=by
     intro i r j d hi hj;have aA1:i<rowsD.length:=(zA.1 hi).1;have fK:rows[off+i]? = some (rows.getD (off+i) []):=by
      have cY:off+i<rows.length:=by omega
      simp[zC,zB cY]
     have aJ4:j<(rows.getD (off+i) []).length:=by rw[hr i r hi];exact(zA.1 hj).1
     have nW:=nZ S hh hp fK 0;have Bm:((rows.getD (off+i) []).drop 0)[j]? = some ((rows.getD (off+i) []).getD j .any):=by
      rw[List.drop_zero];exact kP _ aJ4
     obtain⟨u,h1,_,h3⟩:=nW j _ Bm;rw[kM] at h1;refine⟨u,?_,ih i r j d hi hj h3⟩;have:off * e.sz+(i * e.sz+j)=(off+i) * e.sz+0+j:=by rw[Nat.add_mul];omega
     rw[this];exact h1
    have Bu:∀ i j,∃ u,∀ r d,rowsD[i]? = some r→r[j]? = some d→w.cell? (⟨b,off * e.sz+(i * e.sz+j),none⟩:Addr)=some u∧RepD w (vH M (mZ K ρ)) d u:=by
     intro i j;cases hi:rowsD[i]? with
     | none=>exact⟨undef,fun r d qC=>by cases qC⟩
     | some r =>
      cases hj:r[j]? with
      | none=>exact⟨undef,fun r' d qC hd=>by cases qC;rw[hj] at hd;cases hd⟩
      | some d =>
       obtain⟨u,h1,h2⟩:=key i r j d hi hj;exact⟨u,fun r' d' qC hd=>by cases qC;rw[hj] at hd;cases hd;exact⟨h1,h2⟩⟩
    rw[← hL];refine .sl (fun i j=>Classical.choose (Bu i j)) (by omega) hm ?_ (fun r qC=>?_) (fun i r j d hi hj=>?_) (fun i r j d hi hj=>?_)
    ·refine Nat.le_trans (zX _ ?_) q2;omega
    ·obtain⟨i,hi⟩:=aC.1 qC;have aA1:i<rowsD.length:=(zA.1 hi).1;rw[← hr i r hi];have cY:off+i<rows.length:=by omega
     refine q4 _ ?_;simp[zC,zB cY]
    ·have:=Classical.choose_spec (Bu i j) r d hi hj;rw[kM];exact⟨this.1,Vl⟩
    ·exact(Classical.choose_spec (Bu i j) r d hi hj).2
theorem FrzG.rep(S:SimH w M ρ h){K:Nat→Bool}{h2:cM}(hk:∀ id B,K id=true→h[id]? = some B→Qg h2 ρ (mZ K ρ) id B){x y:A}(hf:FrzG K h x y):∀ {v:Value},RepA w M ρ h x v→RepA w M (mZ K ρ) h2 y v:=by
 induction hf with
 | same hu=>intro v hr;exact hr.moveG (fun a u hn hc=>⟨hc,Jq hn⟩) hk hu
 | any=>intro v hr;exact .any
 | d hx=>intro v hr;exact .d (hx.rep S hr)
 | @agg l l' hl _ ih =>
  intro v hr;cases hr with
  | agg hs ho hr =>
   refine .agg (by omega) ho fun j y hj=>ih j y hj ?_;have cY:j<l.length:=by rw[← hl];exact(zA.1 hj).1
   rw[zC,zB cY];exact hr j _ (zB cY)
 | @tup l l' hl _ ih =>
  intro v hr;cases hr with
  | tup hs hr =>
   refine .tup (by omega) fun j y hj=>ih j y hj ?_;have cY:j<l.length:=by rw[← hl];exact(zA.1 hj).1
   rw[zC,zB cY];exact hr j _ (zB cY)
 | @fn f l l' hl _ ih =>
  intro v hr;cases hr with
  | fn hs hr =>
   refine .fn (by omega) fun j y hj=>ih j y hj ?_;have cY:j<l.length:=by rw[← hl];exact(zA.1 hj).1
   rw[zC,zB cY];exact hr j _ (zB cY)
 | @iptr id i off e rows r cs aHA hh hi hc =>
  intro v hr;obtain⟨b,p,hp,rfl⟩:=vP hr hh rfl;have Vl:¬ vH M (mZ K ρ) b:=by
   rintro(hm' | ⟨i',p',Xk⟩)
   ·exact S.notM hp hm'
   ·obtain⟨hki,Xk⟩:=tZ Xk;have:=S.inj i' id b p' p Xk hp;subst this;rw[aHA] at hki;cases hki
  have nW:=nZ S hh hp hi off;have Bu:∀ j,∃ u,∀ d,cs[j]? = some d→w.cell? ((⟨b,i * e.sz+off,none⟩:Addr).add j)=some u∧RepD w (vH M (mZ K ρ)) d u:=by
   intro j;cases hj:cs[j]? with
   | none=>exact⟨undef,fun d hd=>by cases hd⟩
   | some d =>
    obtain⟨h1,h2⟩:=hc j d hj;have Bm:(r.drop off)[j]? = some (r.getD (off+j) .any):=by rw[List.getElem?_drop];exact kP _ h1
    obtain⟨u,k1,_,k3⟩:=nW j _ Bm;exact⟨u,fun d' hd=>by cases hd;exact⟨k1,h2.rep S k3⟩⟩
  refine .iptr (fun j=>Classical.choose (Bu j)) (fun j d hj=>⟨(Classical.choose_spec (Bu j) d hj).1,Vl⟩) (fun j d hj=>(Classical.choose_spec (Bu j) d hj).2)
def aQy(K:Nat→Bool)(h h2:cM)(id:Nat):Prop :=
 (K id=false∧h2[id]? = some .res)∨(K id=true∧((∃ o,h[id]? = some (.obj o)∧h2[id]? = some (.obj o))∨(h[id]? = some .res∧h2[id]? = some .res) ∨
  ∃ e rows rows2,h[id]? = some (.cells e rows)∧h2[id]? = some (.cells e rows2)∧rows2.length=rows.length ∧
  ∀ (i:Nat) (r r2:List A),rows[i]? = some r→rows2[i]? = some r2→r2.length=r.length∧∀ (j:Nat) (y:A),r2[j]? = some y→FrzG K h (r.getD j .any) y))
theorem Co.gc{n0:Nat}{s:St}(K:Nat→Bool)(l:List (Nat × A))(h2:cM)(hl:∀ p∈l,FrzG K s.heap (s.slots p.1) p.2)(hn:∀ id,id<n0→K id=true)(h2l:h2.length=s.heap.length)(hb:∀ id,id<s.heap.length→aQy K s.heap h2 id):Co n0 s ⟨dB l,h2⟩ :=
 fun z M ρ a w hz S=>by
  have lt2:∀ {id:Nat} {B:HB},h2[id]? = some B→id<s.heap.length:=fun hB=>by
   have:=(zA.1 hB).1;omega
  have lt1:∀ {id:Nat} {B:HB},s.heap[id]? = some B→id<s.heap.length:=fun hB=>(zA.1 hB).1;have keep:∀ id B,K id=true→s.heap[id]? = some B→Qg h2 ρ (mZ K ρ) id B:=fun id B hk hB=>by
   rcases hb id (lt1 hB) with⟨Io,_⟩ | ⟨_,⟨o,q1,q2⟩ | ⟨q1,q2⟩ | ⟨e,rows,rows2,q1,q2,q3,_⟩⟩
   ·rw[hk] at Io;cases Io
   ·rw[q1] at hB;cases hB;exact⟨⟨o,q2⟩,xZ hk⟩
   ·rw[q1] at hB;cases hB;trivial
   ·rw[q1] at hB;cases hB;exact⟨rows2,q2,by omega,fun _=>xZ hk⟩
  have rp:∀ {x y:A} {v:Value},FrzG K s.heap x y→RepA w M ρ s.heap x v→RepA w M (mZ K ρ) h2 y v:=fun hf hr=>hf.rep S.sim keep hr;have g:Evo n0 s.heap ρ w h2 (mZ K ρ) w:=⟨rfl,rfl,rfl,zL _,fun _ _ _=>rfl,fun id b p hp=>.inr ⟨id,p,(tZ hp).2⟩,by have:=hz.2;omega,fun id B hid hB=>keep id B (hn id hid) hB⟩;refine⟨mZ K ρ,⟨S.bnd,⟨by show(mZ K ρ).length=h2.length;rw[h2l,aGl,S.sim.len],fun id e rows2 hB=>?_,fun id o hB=>?_,fun id hB=>?_,fun i j b p q hi hj=>?_⟩,fun n=>?_,S.size,S.nlt,?_,?_⟩,g⟩
  ·rcases hb id (lt2 hB) with⟨_,q2⟩ | ⟨hk,⟨o,q1,q2⟩ | ⟨q1,q2⟩ | ⟨e',rows,rows2',q1,q2,q3,q4⟩⟩
   ·rw[q2] at hB;cases hB
   ·rw[q2] at hB;cases hB
   ·rw[q2] at hB;cases hB
   rw[q2] at hB;cases hB;obtain⟨c1,c2,c3,c4,c5⟩:=S.sim.cells id e rows q1;refine⟨c1,by rw[q3];exact c2,by rw[q3];exact c3,fun r2 hr2=>?_,?_⟩
   ·obtain⟨i,hi,rfl⟩:=List.mem_iff_getElem.1 hr2;have nX:i<rows.length:=by omega
    rw[(q4 i _ _ (zB nX) (zB hi)).1];exact c4 _ (List.getElem_mem nX)
   ·rcases c5 with⟨h5,h6⟩ | ⟨b,q,cs,t,h5,h6,h7,h8,h9,Ve⟩
    ·refine .inl ⟨(xZ hk).trans h5,?_⟩;subst h6;exact zx q3
    ·refine .inr ⟨b,q,cs,t,(xZ hk).trans h5,h6,h7,h8,by rw[q3];exact h9,fun i r2 j y hi hj=>?_⟩;have hi2:i<rows.length:=by have:=(zA.1 hi).1;omega
     obtain⟨d1,d2⟩:=q4 i _ _ (zB hi2) hi;have e1:=d2 j y hj;have hj2:j<rows[i].length:=by have:=(zA.1 hj).1;omega
     rw[zC,zB hj2] at e1;obtain⟨v,v1,v2,v3⟩:=Ve i _ j _ (zB hi2) (zB hj2);exact⟨v,v1,v2,rp e1 v3⟩
  ·rcases hb id (lt2 hB) with⟨_,q2⟩ | ⟨hk,⟨o',q1,q2⟩ | ⟨q1,q2⟩ | ⟨e',rows,rows2',q1,q2,q3,q4⟩⟩
   ·rw[q2] at hB;cases hB
   ·rw[q2] at hB;cases hB;obtain⟨b,p,k1,k2,k3,k4⟩:=S.sim.obj id _ q1;exact⟨b,p,(xZ hk).trans k1,k2,k3,k4⟩
   ·rw[q2] at hB;cases hB
   ·rw[q2] at hB;cases hB
  ·have cY:=lt2 hB;rcases hb id cY with⟨hk,_⟩ | ⟨hk,⟨o',q1,q2⟩ | ⟨q1,q2⟩ | ⟨e',rows,rows2',q1,q2,q3,q4⟩⟩
   ·have:id<ρ.length:=by rw[S.sim.len];exact cY
    rw[mZ,aA,zB this];simp[hk]
   ·rw[q2] at hB;cases hB
   ·rw[xZ hk];exact S.sim.res id q1
   ·rw[q2] at hB;cases hB
  ·exact S.sim.inj i j b p q (tZ hi).2 (tZ hj).2
  ·rcases xO (l:=l) (n:=n) with h | h
   ·show RepA w M _ _ (dB l n) _;rw[h];exact .any
   ·exact rp (hl _ h) (S.slots n)
  ·have T:=S.tabs;refine⟨fun u cs hu=>rp (.same rfl) (T.t u cs hu),fun x v hv=>⟨(T.env x v hv).1,rp (.same (A.kept_under (fun id hid=>hn id (Nat.lt_of_lt_of_le hid hz.1)) (T.env x v hv).1)) (T.env x v hv).2⟩⟩
  ·exact S.defers.evo g
end
section
variable {P:Program}{h h1:cM}{Γ:Ctx}
theorem FrzD.toE{K:Nat→Bool}(hh:∀ (id:Nat) (e:Elt) (rows:List (List A)),h1[id]? = some (.cells e rows)→K id=false∧h[id]? = some (.cells e rows)){x:A}{d:D}(hf:FrzD 0 h1 x d):FrzE K h x d:=by
 induction hf with
 | d x=>exact .d x
 | nil e=>exact .nil e
 | nn e rows=>exact .nn e rows
 | fd e rows=>exact .fd e rows
 | ref hk hi hl hr hc ih =>
  obtain⟨k1,k2⟩:=hh _ _ _ hi;exact .ref k1 k2 hl hr ih
theorem FrzA.toG{K:Nat→Bool}(hh:∀ (id:Nat) (e:Elt) (rows:List (List A)),h1[id]? = some (.cells e rows)→K id=false∧h[id]? = some (.cells e rows)){x y:A}(hf:FrzA 0 h1 x y):FrzG K h x y:=by
 induction hf with
 | same hu=>exact .same (A.kept_under (n:=0) (fun id hid=>absurd hid (zw _)) hu)
 | any=>exact .any
 | d hx=>exact .d (hx.toE hh)
 | agg hl _ ih=>exact .agg hl ih
 | tup hl _ ih=>exact .tup hl ih
 | fn hl _ ih=>exact .fn hl ih
 | iptr hk hi hr hc =>
  obtain⟨k1,k2⟩:=hh _ _ _ hi;exact .iptr k1 k2 hr fun j d hj=>⟨(hc j d hj).1,(hc j d hj).2.toE hh⟩
mutual
theorem A.kept_all:∀ (x:A),x.keptIn (fun _=>true)=true
 | .agg l=>A.keptL_all l
 | .tup l=>A.keptL_all l
 | .fn _ l=>A.keptL_all l
 | .ptr _ _ _ _=>rfl
 | .ref _ _ _ _ _=>rfl
 | .yld _=>rfl
 | .any=>rfl
 | .nil=>rfl
 | .d _=>rfl
 | .nn _ _=>rfl
 | .fd _ _=>rfl
 | .iptr _=>rfl
theorem A.keptL_all:∀ (l:List A),A.keptInL (fun _=>true) l=true
 | []=>rfl
 | x::l=>by rw[A.keptInL,A.kept_all x,A.keptL_all l];rfl
end
theorem Co.viewLast{n0:Nat}{sl:Nat→A}{h:cM}{e:Elt}{r r2:List A}(l:List (Nat × A))(hl:∀ p∈l,sl p.1=p.2)(hr:r2.length=r.length)(hf:∀ (j:Nat) (y:A),r2[j]? = some y→r.getD j .any=y∨FrzE (fun _=>true) (h++[.cells e [r]]) (r.getD j .any) (match y with | .d d=>d | _=>.sc (.bool false))∧∃ d,y = .d d) :
  Co n0 ⟨sl,h++[.cells e [r]]⟩ ⟨dB l,h++[.cells e [r2]]⟩:=by
 refine Co.gc (s:=⟨sl,h++[.cells e [r]]⟩) (fun _=>true) l (h++[.cells e [r2]]) (fun p hp=>by simp only;rw[hl p hp];exact .same (A.kept_all _)) (fun _ _=>rfl) (by simp) (fun id hid=>?_);refine .inr ⟨rfl,?_⟩;simp only at hid ⊢;rcases aB id h.length with cY | vX
 ·rw[zF cY,zF cY];cases hB:h[id] with
  | cells e' rows =>
   refine .inr (.inr ⟨e',rows,rows,by rw[zB cY,hB],by rw[zB cY,hB],rfl,fun i r' r2' h1 h2=>?_⟩);rw[h1] at h2;cases h2;refine⟨rfl,fun j y hj=>?_⟩;rw[zC,hj];exact .same (A.kept_all _)
  | obj o=>exact .inl ⟨o,by rw[zB cY,hB],by rw[zB cY,hB]⟩
  | res=>exact .inr (.inl ⟨by rw[zB cY,hB],by rw[zB cY,hB]⟩)
 ·have Kv:id=h.length:=by simp at hid;omega
  subst Kv;refine .inr (.inr ⟨e,[r],[r2],by simp,by simp,rfl,fun i r' r2' h1 h2=>?_⟩);cases i with
  | succ i=>simp at h1
  | zero =>
   simp at h1 h2;subst h1 h2;refine⟨hr,fun j y hj=>?_⟩;rcases hf j y hj with h1 | ⟨h1,d,rfl⟩
   ·rw[h1];exact .same (A.kept_all _)
   ·exact .d h1
def Dc(q:Nat)(h:cM):cM:=h.mapIdx fun i B=>if i=q then B else .res
theorem Lk{q:Nat}{h:cM}{B:HB}(hq:h[q]? = some B):(Dc q h)[q]? = some B:=by
 rw[Dc,aA,hq];simp
theorem Co.gc1{sl:Nat→A}{h:cM}(q:Nat){e:Elt}{rows:List (List A)}(hq:h[q]? = some (.cells e rows))(hf:∀ r∈rows,∀ x∈r,x.under 0=true)(l:List (Nat × A))
  (hl:∀ p∈l,(sl p.1=p.2∧p.2.keptIn (fun i=>decide (i=q))=true)∨FrzA 0 (h.set q .res) (sl p.1) p.2):Co 0 ⟨sl,h⟩ ⟨dB l,Dc q h⟩:=by
 have hh:∀ (id:Nat) (e':Elt) (rows':List (List A)),(h.set q .res)[id]? = some (.cells e' rows')→(fun i=>decide (i=q)) id=false∧h[id]? = some (.cells e' rows'):=by
  intro id e' rows' hi
  by_cases hd:id=q
  ·subst hd;rw[List.getElem?_set_self (zA.1 hq).1] at hi;cases hi
  ·rw[List.getElem?_set_ne (Ne.symm hd)] at hi;exact⟨by simpa using hd,hi⟩
 refine Co.gc (s:=⟨sl,h⟩) (fun i=>decide (i=q)) l (Dc q h) (fun p hp=>?_) (fun id hid=>absurd hid (zw _)) (by simp[Dc]) (fun id hid=>?_)
 ·rcases hl p hp with⟨h1,h2⟩ | h1
  ·simp only;rw[h1];exact .same h2
  ·exact h1.toG hh
 ·by_cases hd:id=q
  ·subst hd;refine .inr ⟨by simp,.inr (.inr ⟨e,rows,rows,hq,Lk hq,rfl,fun i r r2 h1 h2=>?_⟩)⟩;rw[h1] at h2;cases h2;refine⟨rfl,fun j y hj=>?_⟩;rw[zC,hj];exact .same (A.kept_under (n:=0) (fun id hid=>absurd hid (zw _)) (hf r (zY h1) y (zY hj)))
  ·refine .inl ⟨by simpa using hd,?_⟩;show(Dc q h)[id]? = _;rw[Dc,aA,zB hid];simp[hd]
end
section
variable {P:Program}{w w':World}{M:Nat→Prop}{ρ ρ':fJ}{h h':cM}{Γ:Ctx}{N:Nat}
inductive FrzN (h:cM):A→D→Prop
 | sc (v:Value):FrzN h (.d (.sc v)) (.sc v)
 | nil (e:Elt):FrzN h .nil (.sl e [])
 | ref {id off len:Nat} {full:Bool} {e:Elt} {rows:List (List A)} {rowsD:List (List D)} (hh:h[id]? = some (.cells e rows)) (hl:rowsD.length=len)
   (hr:∀ i r,rowsD[i]? = some r→(rows.getD (off+i) []).length=r.length)
   (hc:∀ i r j d,rowsD[i]? = some r→r[j]? = some d→FrzN h ((rows.getD (off+i) []).getD j .any) d):FrzN h (.ref id rows.length off len full) (.sl e rowsD)
inductive FrzNA (h:cM):A→A→Prop
 | d {x:A} {y:D} (hx:FrzN h x y):FrzNA h x (.d y)
 | agg {l l':List A} (hl:l'.length=l.length) (hr:∀ j y,l'[j]? = some y→FrzNA h (l.getD j .any) y):FrzNA h (.agg l) (.agg l')
 | tup {l l':List A} (hl:l'.length=l.length) (hr:∀ j y,l'[j]? = some y→FrzNA h (l.getD j .any) y):FrzNA h (.tup l) (.tup l')
theorem FrzN.rep(S:SimH w M ρ h){X:Nat→Prop}(hX:∀ id b p:Nat,ρ[id]? = some (some (b,p))→¬ X b){x:A}{d:D}(hf:FrzN h x d):∀ {v:Value},RepA w M ρ h x v→RepD w X d v:=by
 induction hf with
 | sc u=>intro v hr;cases hr with
  | d hx=>cases hx with
   | sc hk=>exact .sc hk
 | nil e=>intro v hr;cases hr with
  | nil=>exact .nil (zI _) (fun _=>rfl)
 | @ref id off len full e rows rowsD hh hl hr hc ih =>
  intro v hv;obtain⟨_,q2,q3,q4,q5⟩:=S.cells id e rows hh;subst hl;generalize hN:rows.length=n at hv;generalize hL:rowsD.length=m at hv;cases hv with
  | stale Om cY _=>rw[hh] at Om;cases Om;omega
  | ref0 Om _ =>
   have:rowsD=[]:=zx hL;subst this;exact .nil (zI _) (fun _=>rfl)
  | @ref _ _ _ o cap _ e' rows' b p Om hp eG hcap hm ho hphys hfull =>
   rw[hh] at Om;injection Om with Om;injection Om with e1 e2;subst e1 e2;cases hD:rowsD with
   | nil=>rw[hD] at hL;subst hL;exact .nil hm (fun h=>by cases h)
   | cons r0 rest =>
    rw[← hD];have sD:0<rowsD.length:=by rw[hD];simp
    have ho':o=off * e.sz:=by
     rcases ho with h0 | h0
     ·omega
     ·exact h0
    subst ho';have Vl:¬ X b:=hX id b p hp;have key:∀ i r j d,rowsD[i]? = some r→r[j]? = some d→∃ u,w.cell? (⟨b,off * e.sz+(i * e.sz+j),none⟩:Addr)=some u∧RepD w X d u:=by
     intro i r j d hi hj;have aA1:i<rowsD.length:=(zA.1 hi).1;have fK:rows[off+i]? = some (rows.getD (off+i) []):=by
      have cY:off+i<rows.length:=by omega
      simp[zC,zB cY]
     have aJ4:j<(rows.getD (off+i) []).length:=by rw[hr i r hi];exact(zA.1 hj).1
     have nW:=nZ S hh hp fK 0;have Bm:((rows.getD (off+i) []).drop 0)[j]? = some ((rows.getD (off+i) []).getD j .any):=by
      rw[List.drop_zero];exact kP _ aJ4
     obtain⟨u,h1,_,h3⟩:=nW j _ Bm;rw[kM] at h1;refine⟨u,?_,ih i r j d hi hj h3⟩;have:off * e.sz+(i * e.sz+j)=(off+i) * e.sz+0+j:=by rw[Nat.add_mul];omega
     rw[this];exact h1
    have Bu:∀ i j,∃ u,∀ r d,rowsD[i]? = some r→r[j]? = some d→w.cell? (⟨b,off * e.sz+(i * e.sz+j),none⟩:Addr)=some u∧RepD w X d u:=by
     intro i j;cases hi:rowsD[i]? with
     | none=>exact⟨undef,fun r d qC=>by cases qC⟩
     | some r =>
      cases hj:r[j]? with
      | none=>exact⟨undef,fun r' d qC hd=>by cases qC;rw[hj] at hd;cases hd⟩
      | some d =>
       obtain⟨u,h1,h2⟩:=key i r j d hi hj;exact⟨u,fun r' d' qC hd=>by cases qC;rw[hj] at hd;cases hd;exact⟨h1,h2⟩⟩
    rw[← hL];refine .sl (fun i j=>Classical.choose (Bu i j)) (by omega) hm ?_ (fun r qC=>?_) (fun i r j d hi hj=>?_) (fun i r j d hi hj=>?_)
    ·refine Nat.le_trans (zX _ ?_) q2;omega
    ·obtain⟨i,hi⟩:=aC.1 qC;have aA1:i<rowsD.length:=(zA.1 hi).1;rw[← hr i r hi];have cY:off+i<rows.length:=by omega
     refine q4 _ ?_;simp[zC,zB cY]
    ·have:=Classical.choose_spec (Bu i j) r d hi hj;rw[kM];exact⟨this.1,Vl⟩
    ·exact(Classical.choose_spec (Bu i j) r d hi hj).2
theorem FrzNA.rep(S:SimH w M ρ h){M2:Nat→Prop}{ρ2:fJ}{h2:cM}(hX:∀ id b p:Nat,ρ[id]? = some (some (b,p))→¬ vH M2 ρ2 b){x y:A}(hf:FrzNA h x y):∀ {v:Value},RepA w M ρ h x v→RepA w M2 ρ2 h2 y v:=by
 induction hf with
 | d hx=>intro v hr;exact .d (hx.rep S hX hr)
 | @agg l l' hl _ ih =>
  intro v hr;cases hr with
  | agg hs ho hr =>
   refine .agg (by omega) ho fun j y hj=>ih j y hj ?_;have cY:j<l.length:=by rw[← hl];exact(zA.1 hj).1
   rw[zC,zB cY];exact hr j _ (zB cY)
 | @tup l l' hl _ ih =>
  intro v hr;cases hr with
  | tup hs hr =>
   refine .tup (by omega) fun j y hj=>ih j y hj ?_;have cY:j<l.length:=by rw[← hl];exact(zA.1 hj).1
   rw[zC,zB cY];exact hr j _ (zB cY)
def aPh(res:List XR)(r:A):Exit→St→Prop:=fun e s=>(e = .normal∨e = .ret)∧dK s res fun l=>FrzNA s.heap (dM l) r
abbrev FnN(Γ:dP)(P:Program)(f:FuncId)(args:List A)(r:A):Prop:=FnX Γ.ctx P f args [] (fun r0 h'=>FrzNA h' r0 r)
theorem FnN.of_W{Γ:dP}{f:FuncId}{res:List XR}{x:XC}{args:List A}{r:A}(H:FnIs P f N res x)(hn:args.length≤N)(hW:W Γ.ctx P N none 0 x (aPh res r) ⟨dB (gQ 0 args),[]⟩):FnN Γ P f args r :=
 FnX.of_WT (Q:=fun r0 h'=>FrzNA h' r0 r) H hn (zL _) (xP hW)
theorem FnN.lend{f:FuncId}{args args':List A}{r:A}(hf:FnN Γ.t P f args' r)(hl:Vx h args args'):FnD Γ P f args h r h:=by
 refine⟨hf.ent,fun M w ρ vs bnd S T fR=>?_⟩;have S0:SimH w M [] []:=by
  refine⟨rfl,fun id e rows hh=>?_,fun id o hh=>?_,fun id hh=>?_,fun i j b p q hi=>?_⟩<;>simp at *
 refine(hf.run M w [] vs bnd S0 (.of_t T.t.lone) (hl.rep S fR)).mono fun e w' he=>?_;obtain⟨r0,h',v,ρ',hq,rfl,q1,q2,q3⟩:=he;have pF:∀ b,b<w.heap.size→w'.heap[b]? = w.heap[b]? := fun b hb=>q3.old b hb fun id p hp=>by simp at hp
 have g:Evo h.length h ρ w h ρ w':=⟨q3.os,q3.tape,q3.output,q3.size,fun b hb _=>pF b hb,fun id b p hp=>.inr ⟨id,p,hp⟩,zL _,fun _ _ _ hb=>.refl hb⟩;refine⟨v,ρ,rfl,hq.rep q2 (fun id b p hp=>?_) q1,S.same g (fun id b p hp=>pF b (S.lt hp)),g⟩;have vX:w.heap.size≤b:=by
  rcases q3.fresh id b p hp with hf | ⟨i,q,hq⟩
  ·exact hf
  ·simp at hq
 rintro(hm | ⟨i,q,hq⟩)
 ·have:=bnd b hm;omega
 ·have:=S.lt hq;omega
theorem FnN.toP{Γ:dP}{f:FuncId}{args:List A}{r:A}(hf:FnN Γ P f args r):FnP Γ P f args r:=by
 refine⟨hf.ent,fun M w vs bnd T fR=>?_⟩;have S0:SimH w M [] []:=by
  refine⟨rfl,fun id e rows hh=>?_,fun id o hh=>?_,fun id hh=>?_,fun i j b p q hi=>?_⟩<;>simp at *
 refine(hf.run M w [] vs bnd S0 (.of_t T) fR).mono fun e w' he=>?_;obtain⟨r0,h',v,ρ',hq,rfl,q1,q2,q3⟩:=he;refine⟨v,rfl,hq.rep q2 (fun id b p hp=>?_) q1,q3.os,q3.tape,q3.output,q3.size,q3.old,fun id b p hp=>?_,zI _,fun id B hid=>absurd hid (zw _)⟩
 ·have vX:w.heap.size≤b:=by
   rcases q3.fresh id b p hp with hf | ⟨i,q,hq⟩
   ·exact hf
   ·simp at hq
  rintro(hm | ⟨i,q,hq⟩)
  ·have:=bnd b hm;omega
  ·simp at hq
 ·simp at hp
end
end Go.Proofs.YtlllnjhgjijnkaaGreatDoor.Nx

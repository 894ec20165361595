import Derived.Test.YthhjkfilfhmakaaDoorNxWalk
set_option linter.unusedSimpArgs false
set_option linter.unusedVariables false
set_option linter.unnecessarySimpa false
open List renaming getElem?_eq_some_iff → zA, getElem?_eq_getElem → zB, getD_eq_getElem?_getD → zC, eq_nil_of_length_eq_zero → zx
namespace Go.Proofs.YthhjkfilfhmakaaDoor.Nx
open Go
variable {Γ:Ctx} {P:Program} {N:Nat} {rl:Option Nat} {n0:Nat}
def WE (Γ:Ctx) (P:Program) (N:Nat) (rl:Option Nat) (n0:Nat) (c:XC) (s:St) (e0:Exit) (s1:St):Prop:=W Γ P N rl n0 c (fun e s'=>e=e0∧Co n0 s' s1) s
theorem WE.seq {x y:XC} {s s1 s2:St} {e0:Exit} (h1:WE Γ P N rl n0 x s .normal s1) (h2:WE Γ P N rl n0 y s1 e0 s2):WE Γ P N rl n0 (.seq x y) s e0 s2 :=
  W_seq (W_mono (fun e s' ⟨he,hc⟩=>by subst he;exact W_co hc h2) h1)
theorem WE.block {j:Nat} {x:XC} {s s1:St} (h:WE Γ P N rl n0 x s (.exit j) s1):WE Γ P N rl n0 (.block j x) s .normal s1 :=
  W_block (W_mono (fun e s' ⟨he,hc⟩=>by subst he;simp only [blockQ,if_true];exact ⟨trivial,hc⟩) h)
theorem WE.then {x y:XC} {s s1:St} {Q:Exit→St→Prop} (h1:WE Γ P N rl n0 x s .normal s1) (h2:W Γ P N rl n0 y Q s1):W Γ P N rl n0 (.seq x y) Q s :=
  W_seq (W_mono (fun e s' ⟨he,hc⟩=>by subst he;exact W_co hc h2) h1)
inductive Path (Γ:Ctx) (P:Program) (N:Nat) (rl:Option Nat) (n0:Nat) (x:XC) (e0:Exit) (s1:St):Nat→St→Prop
  | stop {m:Nat} {s:St} (h:WE Γ P N rl n0 x s e0 s1) (he:e0 ≠ .normal):Path Γ P N rl n0 x e0 s1 m s
  | go {m m':Nat} {s s2:St} (hm:m'<m) (h:WE Γ P N rl n0 x s .normal s2) (hp:Path Γ P N rl n0 x e0 s1 m' s2):Path Γ P N rl n0 x e0 s1 m s
theorem Path.loop {x:XC} {e0:Exit} {s s1:St} {m:Nat} (h:Path Γ P N rl n0 x e0 s1 m s):WE Γ P N rl n0 (.loop x) s e0 s1 :=
  W_loop (Path Γ P N rl n0 x e0 s1) h fun m s hp=>by
    cases hp with
    | stop h he =>
      refine W_mono (fun e s' ⟨he',hc⟩=>?_) h
      subst he'
      cases e with
      | normal=>exact absurd rfl he
      | _=>exact ⟨rfl,hc⟩
    | go hm h hp=>exact W_mono (fun e s' ⟨he,hc⟩=>by subst he;exact ⟨_,_,hm,hc,hp⟩) h
end Go.Proofs.YthhjkfilfhmakaaDoor.Nx
namespace Go.Proofs.YthhjkfilfhmakaaDoor.Nx
open Go
variable {P:Program} {w w':World} {M:Nat→Prop} {ρ ρ':Phys} {h h':Heap} {Γ:Ctx}
def NewK (n:Nat) (K:Nat→Bool) (x:A):Prop:=FlatA x∨∃ id N off len full,x = .ref id N off len full∧n≤id∧K (id-n)=true
theorem NewK.move {n:Nat} {K:Nat→Bool} {x:A} {v:Value} (hn:NewK n K x) {h1 h2:Heap} {ρ1 ρ2:Phys} (hh:∀ id,n≤id→K (id-n)=true→h2[id]? = h1[id]?) (hρ:∀ id,n≤id→K (id-n)=true→ρ2[id]? = ρ1[id]?) (hr:RepA w M ρ1 h1 x v):RepA w M ρ2 h2 x v:=by
  rcases hn with hn | ⟨id,N,off,len,full,rfl,hid,hk⟩
  · exact hn hr
  · have e1:=hh id hid hk
    have e2:=hρ id hid hk
    generalize hx:A.ref id N off len full=x at hr
    cases hr with
    | stale k1 k2 k3=>cases hx;exact .stale (e1.trans k1) k2 k3
    | ref0 k1 k2=>cases hx;exact .ref0 (e1.trans k1) (e2.trans k2)
    | ref k1 k2 k3 k4 k5 k6 k7 k8=>cases hx;exact .ref (e1.trans k1) (e2.trans k2) k3 k4 k5 k6 k7 k8
    | _=>cases hx
end Go.Proofs.YthhjkfilfhmakaaDoor.Nx
namespace Go.Proofs.YthhjkfilfhmakaaDoor.Nx
open Go
variable {P:Program} {w w':World} {M:Nat→Prop} {ρ ρ':Phys} {h h':Heap} {Γ:Ctx}
mutual
def A.keptIn (K:Nat→Bool):A→Bool
  | .agg l=>A.keptInL K l
  | .tup l=>A.keptInL K l
  | .fn _ l=>A.keptInL K l
  | .ptr id _ _ _=>K id
  | .ref id _ _ _ _=>K id
  | .yld id=>K id
  | _=>true
def A.keptInL (K:Nat→Bool):List A→Bool
  | []=>true
  | x::xs=>A.keptIn K x&&A.keptInL K xs
end
theorem A.keptInL_get {K:Nat→Bool} {l:List A} (h:A.keptInL K l=true) {j:Nat} {x:A} (hj:l[j]? = some x):x.keptIn K=true:=by
  induction l generalizing j with
  | nil=>simp at hj
  | cons y ys ih =>
    simp only [A.keptInL,Bool.and_eq_true] at h
    cases j with
    | zero=>simp at hj;exact hj ▸ h.1
    | succ j=>simp at hj;exact ih h.2 hj
mutual
theorem A.kept_under {K:Nat→Bool} {n:Nat} (hk:∀ id,id<n→K id=true):∀ {x:A},x.under n=true→x.keptIn K=true
  | .agg l,h=>A.keptL_under hk (l:=l) h
  | .tup l,h=>A.keptL_under hk (l:=l) h
  | .fn _ l,h=>A.keptL_under hk (l:=l) h
  | .ptr _ _ _ _,h=>hk _ (of_decide_eq_true h)
  | .ref _ _ _ _ _,h=>hk _ (of_decide_eq_true h)
  | .yld _,h=>hk _ (of_decide_eq_true h)
  | .any,_=>rfl
  | .nil,_=>rfl
  | .d _,_=>rfl
  | .nn _ _,_=>rfl
  | .iptr _,_=>rfl
theorem A.keptL_under {K:Nat→Bool} {n:Nat} (hk:∀ id,id<n→K id=true):∀ {l:List A},A.underL n l=true→A.keptInL K l=true
  | [],_=>rfl
  | x::l,h=>by
    simp only [A.underL,A.keptInL,Bool.and_eq_true] at h ⊢
    exact ⟨A.kept_under hk h.1,A.keptL_under hk h.2⟩
end
theorem RepA.moveG {K:Nat→Bool} {M':Nat→Prop}
    (hm:∀ a u,¬ Own M ρ a.block→w.cell? a=some u→w'.cell? a=some u∧¬ Own M' ρ' a.block)
    (hk:∀ id B,K id=true→h[id]? = some B→Keeps h' ρ ρ' id B) {x:A} {v:Value} (hr:RepA w M ρ h x v) (hb:x.keptIn K=true):RepA w' M' ρ' h' x v:=by
  induction hr with
  | any=>exact .any
  | nil=>exact .nil
  | d hx=>exact .d (hx.move hm)
  | nn hx=>exact .nn (hx.move hm)
  | agg hl ho _ ih=>exact .agg hl ho fun j x hj=>ih j x hj (A.keptInL_get hb hj)
  | tup hl _ ih=>exact .tup hl fun j x hj=>ih j x hj (A.keptInL_get hb hj)
  | fn hl _ ih=>exact .fn hl fun j x hj=>ih j x hj (A.keptInL_get hb hj)
  | iptr u hc hr =>
    refine .iptr u (fun j d hj=>?_) (fun j d hj=>(hr j d hj).move hm)
    obtain ⟨h1,h2⟩:=hc j d hj
    have:=hm _ _ (by rw [add_block];exact h2) h1
    rw [add_block] at this
    exact this
  | ptr hh hp =>
    obtain ⟨rows',h1,h2,h3⟩:=hk _ _ hb hh
    rcases Nat.lt_or_ge _ rows'.length with hlt | hge
    · exact .pstale h1 hlt rfl
    · have he:rows'.length=_:=Nat.le_antisymm hge h2
      rw [← he]
      exact .ptr h1 ((h3 he).trans hp)
  | pstale hh hN ho =>
    obtain ⟨rows',h1,h2,h3⟩:=hk _ _ hb hh
    exact .pstale h1 (by omega) ho
  | obj hh hp =>
    obtain ⟨⟨o',h1⟩,h2⟩:=hk _ _ hb hh
    exact .obj h1 (h2.trans hp)
  | yld hh hp =>
    obtain ⟨⟨o',h1⟩,h2⟩:=hk _ _ hb hh
    exact .yld h1 (h2.trans hp)
  | stale hh hN ho =>
    obtain ⟨rows',h1,h2,h3⟩:=hk _ _ hb hh
    exact .stale h1 (by omega) ho
  | ref0 hh hp =>
    obtain ⟨rows',h1,h2,h3⟩:=hk _ _ hb hh
    rcases Nat.lt_or_ge 0 rows'.length with hlt | hge
    · exact .stale h1 hlt rfl
    · have he:rows'=[]:=zx (by omega)
      subst he
      exact .ref0 h1 ((h3 rfl).trans hp)
  | ref hh hp hlen hcap hm' ho hphys hfull =>
    obtain ⟨rows',h1,h2,h3⟩:=hk _ _ hb hh
    rcases Nat.lt_or_ge _ rows'.length with hlt | hge
    · exact .stale h1 hlt rfl
    · have he:rows'.length=_:=Nat.le_antisymm hge h2
      rw [← he]
      exact .ref h1 ((h3 he).trans hp) (by omega) hcap hm' ho hphys (fun hf=>by have:=hfull hf;omega)
inductive FrzE (K:Nat→Bool) (h:Heap):A→D→Prop
  | d (x:D):FrzE K h (.d x) x
  | nil (e:Elt):FrzE K h .nil (.sl e [])
  | nn (e:Elt) (rows:List (List D)):FrzE K h (.nn e rows) (.sl e rows)
  | ref {id off len:Nat} {full:Bool} {e:Elt} {rows:List (List A)} {rowsD:List (List D)} (hk:K id=false) (hh:h[id]? = some (.cells e rows)) (hl:rowsD.length=len)
      (hr:∀ i r,rowsD[i]? = some r→(rows.getD (off+i) []).length=r.length)
      (hc:∀ i r j d,rowsD[i]? = some r→r[j]? = some d→FrzE K h ((rows.getD (off+i) []).getD j .any) d):FrzE K h (.ref id rows.length off len full) (.sl e rowsD)
inductive FrzG (K:Nat→Bool) (h:Heap):A→A→Prop
  | same {x:A} (hu:x.keptIn K=true):FrzG K h x x
  | any {x:A}:FrzG K h x .any
  | d {x:A} {y:D} (hx:FrzE K h x y):FrzG K h x (.d y)
  | agg {l l':List A} (hl:l'.length=l.length) (hr:∀ j y,l'[j]? = some y→FrzG K h (l.getD j .any) y):FrzG K h (.agg l) (.agg l')
  | tup {l l':List A} (hl:l'.length=l.length) (hr:∀ j y,l'[j]? = some y→FrzG K h (l.getD j .any) y):FrzG K h (.tup l) (.tup l')
  | fn {f:FuncId} {l l':List A} (hl:l'.length=l.length) (hr:∀ j y,l'[j]? = some y→FrzG K h (l.getD j .any) y):FrzG K h (.fn f l) (.fn f l')
  | iptr {id i off:Nat} {e:Elt} {rows:List (List A)} {r:List A} {cs:List D} (hk:K id=false) (hh:h[id]? = some (.cells e rows)) (hi:rows[i]? = some r)
      (hc:∀ j d,cs[j]? = some d→off+j<r.length∧FrzE K h (r.getD (off+j) .any) d):FrzG K h (.ptr id rows.length i off) (.iptr cs)
def keepP (K:Nat→Bool) (ρ:Phys):Phys:=ρ.mapIdx fun i o=>if K i then o else none
theorem keepP_at {K:Nat→Bool} {ρ:Phys} {id:Nat} (hk:K id=true):(keepP K ρ)[id]? = ρ[id]? := by
  rw [keepP,List.getElem?_mapIdx]
  cases ρ[id]? with
  | none=>rfl
  | some o=>simp [hk]
theorem keepP_inv {K:Nat→Bool} {ρ:Phys} {id b p:Nat} (hp:(keepP K ρ)[id]? = some (some (b,p))):K id=true∧ρ[id]? = some (some (b,p)):=by
  rw [keepP,List.getElem?_mapIdx] at hp
  cases hx:ρ[id]? with
  | none=>rw [hx] at hp;cases hp
  | some o =>
    rw [hx] at hp
    simp only [Option.map_some,Option.some.injEq] at hp
    split at hp
    · rename_i hk;exact ⟨hk,by rw [hp]⟩
    · cases hp
theorem keepP_len {K:Nat→Bool} {ρ:Phys}:(keepP K ρ).length=ρ.length:=by simp [keepP]
theorem own_keep {K:Nat→Bool} {b:Nat} (ho:¬ Own M ρ b):¬ Own M (keepP K ρ) b:=by
  rintro (hm | ⟨id,p,hp⟩)
  · exact ho (.inl hm)
  · exact ho (.inr ⟨id,p,(keepP_inv hp).2⟩)
theorem FrzE.rep (S:SimH w M ρ h) {K:Nat→Bool} {x:A} {d:D} (hf:FrzE K h x d):∀ {v:Value},RepA w M ρ h x v→RepD w (Own M (keepP K ρ)) d v:=by
  induction hf with
  | d x=>intro v hr;cases hr with
    | d hx=>exact hx.move fun _ _ hn hc=>⟨hc,own_keep hn⟩
  | nil e=>intro v hr;cases hr with
    | nil=>exact .nil (Nat.zero_le _) (fun _=>rfl)
  | nn e rows=>intro v hr;cases hr with
    | nn hx=>exact hx.move fun _ _ hn hc=>⟨hc,own_keep hn⟩
  | @ref id off len full e rows rowsD hk hh hl hr hc ih =>
    intro v hv
    obtain ⟨_,q2,q3,q4,q5⟩:=S.cells id e rows hh
    subst hl
    generalize hN:rows.length=n at hv
    generalize hL:rowsD.length=m at hv
    cases hv with
    | stale hh' hlt _=>rw [hh] at hh';cases hh';omega
    | ref0 hh' _ =>
      have:rowsD=[]:=zx hL
      subst this
      exact .nil (Nat.zero_le _) (fun _=>rfl)
    | @ref _ _ _ o cap _ e' rows' b p hh' hp hlen hcap hm ho hphys hfull =>
      rw [hh] at hh'
      injection hh' with hh'
      injection hh' with e1 e2
      subst e1 e2
      cases hD:rowsD with
      | nil=>rw [hD] at hL;subst hL;exact .nil hm (fun h=>by cases h)
      | cons r0 rest =>
        rw [← hD]
        have hpos:0<rowsD.length:=by rw [hD];simp
        have ho':o=off * e.sz:=by
          rcases ho with h0 | h0
          · omega
          · exact h0
        subst ho'
        have hown:¬ Own M (keepP K ρ) b:=by
          rintro (hm' | ⟨i,p',hp'⟩)
          · exact S.notM hp hm'
          · obtain ⟨hki,hp'⟩:=keepP_inv hp'
            have:=S.inj i id b p' p hp' hp
            subst this
            rw [hk] at hki;cases hki
        have key:∀ i r j d,rowsD[i]? = some r→r[j]? = some d→∃ u,w.cell? (⟨b,off * e.sz+(i * e.sz+j),none⟩:Addr)=some u∧RepD w (Own M (keepP K ρ)) d u:=by
          intro i r j d hi hj
          have hilt:i<rowsD.length:=(zA.1 hi).1
          have hrow:rows[off+i]? = some (rows.getD (off+i) []):=by
            have hlt:off+i<rows.length:=by omega
            simp [zC,zB hlt]
          have hjlt:j<(rows.getD (off+i) []).length:=by rw [hr i r hi];exact (zA.1 hj).1
          have hcells:=own_cells S hh hp hrow 0
          have hget:((rows.getD (off+i) []).drop 0)[j]? = some ((rows.getD (off+i) []).getD j .any):=by
            rw [List.drop_zero];exact listD_some _ hjlt
          obtain ⟨u,h1,_,h3⟩:=hcells j _ hget
          rw [add_off] at h1
          refine ⟨u,?_,ih i r j d hi hj h3⟩
          have:off * e.sz+(i * e.sz+j)=(off+i) * e.sz+0+j:=by rw [Nat.add_mul];omega
          rw [this]
          exact h1
        have hex:∀ i j,∃ u,∀ r d,rowsD[i]? = some r→r[j]? = some d→w.cell? (⟨b,off * e.sz+(i * e.sz+j),none⟩:Addr)=some u∧RepD w (Own M (keepP K ρ)) d u:=by
          intro i j
          cases hi:rowsD[i]? with
          | none=>exact ⟨undef,fun r d hr'=>by cases hr'⟩
          | some r =>
            cases hj:r[j]? with
            | none=>exact ⟨undef,fun r' d hr' hd=>by cases hr';rw [hj] at hd;cases hd⟩
            | some d =>
              obtain ⟨u,h1,h2⟩:=key i r j d hi hj
              exact ⟨u,fun r' d' hr' hd=>by cases hr';rw [hj] at hd;cases hd;exact ⟨h1,h2⟩⟩
        rw [← hL]
        refine .sl (fun i j=>Classical.choose (hex i j)) (by omega) hm ?_ (fun r hr'=>?_) (fun i r j d hi hj=>?_) (fun i r j d hi hj=>?_)
        · refine Nat.le_trans (Nat.mul_le_mul_right _ ?_) q2
          omega
        · obtain ⟨i,hi⟩:=List.mem_iff_getElem?.1 hr'
          have hilt:i<rowsD.length:=(zA.1 hi).1
          rw [← hr i r hi]
          have hlt:off+i<rows.length:=by omega
          refine q4 _ ?_
          simp [zC,zB hlt]
        · have:=Classical.choose_spec (hex i j) r d hi hj
          rw [add_off]
          exact ⟨this.1,hown⟩
        · exact (Classical.choose_spec (hex i j) r d hi hj).2
theorem FrzG.rep (S:SimH w M ρ h) {K:Nat→Bool} {h2:Heap} (hk:∀ id B,K id=true→h[id]? = some B→Keeps h2 ρ (keepP K ρ) id B) {x y:A} (hf:FrzG K h x y):∀ {v:Value},RepA w M ρ h x v→RepA w M (keepP K ρ) h2 y v:=by
  induction hf with
  | same hu=>intro v hr;exact hr.moveG (fun a u hn hc=>⟨hc,own_keep hn⟩) hk hu
  | any=>intro v hr;exact .any
  | d hx=>intro v hr;exact .d (hx.rep S hr)
  | @agg l l' hl _ ih =>
    intro v hr
    cases hr with
    | agg hs ho hr =>
      refine .agg (by omega) ho fun j y hj=>ih j y hj ?_
      have hlt:j<l.length:=by rw [← hl];exact (zA.1 hj).1
      rw [zC,zB hlt]
      exact hr j _ (zB hlt)
  | @tup l l' hl _ ih =>
    intro v hr
    cases hr with
    | tup hs hr =>
      refine .tup (by omega) fun j y hj=>ih j y hj ?_
      have hlt:j<l.length:=by rw [← hl];exact (zA.1 hj).1
      rw [zC,zB hlt]
      exact hr j _ (zB hlt)
  | @fn f l l' hl _ ih =>
    intro v hr
    cases hr with
    | fn hs hr =>
      refine .fn (by omega) fun j y hj=>ih j y hj ?_
      have hlt:j<l.length:=by rw [← hl];exact (zA.1 hj).1
      rw [zC,zB hlt]
      exact hr j _ (zB hlt)
  | @iptr id i off e rows r cs hkid hh hi hc =>
    intro v hr
    obtain ⟨b,p,hp,rfl⟩:=ptr_inv hr hh rfl
    have hown:¬ Own M (keepP K ρ) b:=by
      rintro (hm' | ⟨i',p',hp'⟩)
      · exact S.notM hp hm'
      · obtain ⟨hki,hp'⟩:=keepP_inv hp'
        have:=S.inj i' id b p' p hp' hp
        subst this
        rw [hkid] at hki;cases hki
    have hcells:=own_cells S hh hp hi off
    have hex:∀ j,∃ u,∀ d,cs[j]? = some d→w.cell? ((⟨b,i * e.sz+off,none⟩:Addr).add j)=some u∧RepD w (Own M (keepP K ρ)) d u:=by
      intro j
      cases hj:cs[j]? with
      | none=>exact ⟨undef,fun d hd=>by cases hd⟩
      | some d =>
        obtain ⟨h1,h2⟩:=hc j d hj
        have hget:(r.drop off)[j]? = some (r.getD (off+j) .any):=by rw [List.getElem?_drop];exact listD_some _ h1
        obtain ⟨u,k1,_,k3⟩:=hcells j _ hget
        exact ⟨u,fun d' hd=>by cases hd;exact ⟨k1,h2.rep S k3⟩⟩
    refine .iptr (fun j=>Classical.choose (hex j)) (fun j d hj=>⟨(Classical.choose_spec (hex j) d hj).1,hown⟩) (fun j d hj=>(Classical.choose_spec (hex j) d hj).2)
def BlkG (K:Nat→Bool) (h h2:Heap) (id:Nat):Prop :=
  (K id=false∧h2[id]? = some .res)∨(K id=true∧((∃ o,h[id]? = some (.obj o)∧h2[id]? = some (.obj o))∨(h[id]? = some .res∧h2[id]? = some .res) ∨
    ∃ e rows rows2,h[id]? = some (.cells e rows)∧h2[id]? = some (.cells e rows2)∧rows2.length=rows.length ∧
    ∀ (i:Nat) (r r2:List A),rows[i]? = some r→rows2[i]? = some r2→r2.length=r.length∧∀ (j:Nat) (y:A),r2[j]? = some y→FrzG K h (r.getD j .any) y))
theorem Co.gc {n0:Nat} {s:St} (K:Nat→Bool) (l:List (Nat × A)) (h2:Heap) (hl:∀ p∈l,FrzG K s.heap (s.slots p.1) p.2) (hn:∀ id,id<n0→K id=true) (h2l:h2.length=s.heap.length) (hb:∀ id,id<s.heap.length→BlkG K s.heap h2 id):Co n0 s ⟨look l,h2⟩ :=
  fun z M ρ a w hz S=>by
    have lt2:∀ {id:Nat} {B:HB},h2[id]? = some B→id<s.heap.length:=fun hB=>by
      have:=(zA.1 hB).1;omega
    have lt1:∀ {id:Nat} {B:HB},s.heap[id]? = some B→id<s.heap.length:=fun hB=>(zA.1 hB).1
    have keep:∀ id B,K id=true→s.heap[id]? = some B→Keeps h2 ρ (keepP K ρ) id B:=fun id B hk hB=>by
      rcases hb id (lt1 hB) with ⟨hk',_⟩ | ⟨_,⟨o,q1,q2⟩ | ⟨q1,q2⟩ | ⟨e,rows,rows2,q1,q2,q3,_⟩⟩
      · rw [hk] at hk';cases hk'
      · rw [q1] at hB;cases hB;exact ⟨⟨o,q2⟩,keepP_at hk⟩
      · rw [q1] at hB;cases hB;trivial
      · rw [q1] at hB;cases hB;exact ⟨rows2,q2,by omega,fun _=>keepP_at hk⟩
    have rp:∀ {x y:A} {v:Value},FrzG K s.heap x y→RepA w M ρ s.heap x v→RepA w M (keepP K ρ) h2 y v:=fun hf hr=>hf.rep S.sim keep hr
    have g:Evo n0 s.heap ρ w h2 (keepP K ρ) w:=⟨rfl,rfl,rfl,Nat.le_refl _,fun _ _ _=>rfl,fun id b p hp=>.inr ⟨id,p,(keepP_inv hp).2⟩,by have:=hz.2;omega,fun id B hid hB=>keep id B (hn id hid) hB⟩
    refine ⟨keepP K ρ,⟨S.bnd,⟨by show (keepP K ρ).length=h2.length;rw [h2l,keepP_len,S.sim.len],fun id e rows2 hB=>?_,fun id o hB=>?_,fun id hB=>?_,fun i j b p q hi hj=>?_⟩,fun n=>?_,S.size,S.nlt,?_,?_⟩,g⟩
    · rcases hb id (lt2 hB) with ⟨_,q2⟩ | ⟨hk,⟨o,q1,q2⟩ | ⟨q1,q2⟩ | ⟨e',rows,rows2',q1,q2,q3,q4⟩⟩
      · rw [q2] at hB;cases hB
      · rw [q2] at hB;cases hB
      · rw [q2] at hB;cases hB
      rw [q2] at hB
      cases hB
      obtain ⟨c1,c2,c3,c4,c5⟩:=S.sim.cells id e rows q1
      refine ⟨c1,by rw [q3];exact c2,by rw [q3];exact c3,fun r2 hr2=>?_,?_⟩
      · obtain ⟨i,hi,rfl⟩:=List.mem_iff_getElem.1 hr2
        have hi':i<rows.length:=by omega
        rw [(q4 i _ _ (zB hi') (zB hi)).1]
        exact c4 _ (List.getElem_mem hi')
      · rcases c5 with ⟨h5,h6⟩ | ⟨b,q,cs,t,h5,h6,h7,h8,h9,h10⟩
        · refine .inl ⟨(keepP_at hk).trans h5,?_⟩
          subst h6
          exact zx q3
        · refine .inr ⟨b,q,cs,t,(keepP_at hk).trans h5,h6,h7,h8,by rw [q3];exact h9,fun i r2 j y hi hj=>?_⟩
          have hi2:i<rows.length:=by have:=(zA.1 hi).1;omega
          obtain ⟨d1,d2⟩:=q4 i _ _ (zB hi2) hi
          have e1:=d2 j y hj
          have hj2:j<rows[i].length:=by have:=(zA.1 hj).1;omega
          rw [zC,zB hj2] at e1
          obtain ⟨v,v1,v2,v3⟩:=h10 i _ j _ (zB hi2) (zB hj2)
          exact ⟨v,v1,v2,rp e1 v3⟩
    · rcases hb id (lt2 hB) with ⟨_,q2⟩ | ⟨hk,⟨o',q1,q2⟩ | ⟨q1,q2⟩ | ⟨e',rows,rows2',q1,q2,q3,q4⟩⟩
      · rw [q2] at hB;cases hB
      · rw [q2] at hB;cases hB
        obtain ⟨b,p,k1,k2,k3,k4⟩:=S.sim.obj id _ q1
        exact ⟨b,p,(keepP_at hk).trans k1,k2,k3,k4⟩
      · rw [q2] at hB;cases hB
      · rw [q2] at hB;cases hB
    · have hlt:=lt2 hB
      rcases hb id hlt with ⟨hk,_⟩ | ⟨hk,⟨o',q1,q2⟩ | ⟨q1,q2⟩ | ⟨e',rows,rows2',q1,q2,q3,q4⟩⟩
      · have:id<ρ.length:=by rw [S.sim.len];exact hlt
        rw [keepP,List.getElem?_mapIdx,zB this];simp [hk]
      · rw [q2] at hB;cases hB
      · rw [keepP_at hk];exact S.sim.res id q1
      · rw [q2] at hB;cases hB
    · exact S.sim.inj i j b p q (keepP_inv hi).2 (keepP_inv hj).2
    · rcases look_mem (l:=l) (n:=n) with h | h
      · show RepA w M _ _ (look l n) _
        rw [h];exact .any
      · exact rp (hl _ h) (S.slots n)
    · have T:=S.tabs
      refine ⟨fun u cs hu=>rp (.same rfl) (T.t u cs hu),fun x v hv=>⟨(T.env x v hv).1,rp (.same (A.kept_under (fun id hid=>hn id (Nat.lt_of_lt_of_le hid hz.1)) (T.env x v hv).1)) (T.env x v hv).2⟩⟩
    · exact S.defers.evo g
end Go.Proofs.YthhjkfilfhmakaaDoor.Nx

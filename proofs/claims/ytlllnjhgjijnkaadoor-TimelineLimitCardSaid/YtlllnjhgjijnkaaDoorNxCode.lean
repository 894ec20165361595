import Derived.Test.YtlllnjhgjijnkaaDoorNxRegion
set_option linter.unusedSimpArgs false
set_option linter.unusedVariables false
set_option linter.unnecessarySimpa false
open Nat renaming le_refl → zL
open List renaming mem_of_getElem? → zY, getElem?_take → zm
namespace Go.Proofs.YtlllnjhgjijnkaaDoor.Nx
open Go
variable {Γ:Ctx} {P:Program} {N:Nat} {rl:Option Nat} {n0:Nat}
inductive XC where
 | skip
 | ret
 | reg (xs:List XOper)
 | drw (n:Nat) (xs:List XOper) (rt:List (Nat × Option Nat):=[])
 | seq (x y:XC)
 | cond (c:XO) (x y:XC)
 | block (id:Nat) (x:XC)
 | loop (x:XC)
 | exit (id:Nat)
 | never
 | range (g:XO) (ps:List Nat) (x y:XC)
def CodeIs (P:Program) (N:Nat):Code→XC→Prop
 | _,.never=>True
 | .skip,.skip=>True
 | .ret,.ret=>True
 | .exit i,.exit j=>i=j
 | .region _ ops dr,.reg xs=>dr=false∧OpsAre P N ops xs
 | .region _ ops dr,.drw _ xs rt=>dr=true∧OpsAre P N ops xs∧drawOk rt ops xs=true∧P.follows .mixedOrders=true
 | .seq a b,.seq x y=>CodeIs P N a x∧CodeIs P N b y
 | .cond c a b,.cond d x y=>cO c=some d∧CodeIs P N a x∧CodeIs P N b y
 | .block i a,.block j x=>i=j∧CodeIs P N a x
 | .loop a,.loop x=>CodeIs P N a x
 | .rangeFunc g ps a b,.range g' ps' x y=>cO g=some g'∧ps.toList=ps'∧(∀ p∈ps',p<N)∧CodeIs P N a x∧CodeIs P N b y
 | _,_=>False
def Fns.all (Γ:Ctx) (P:Program):Fns:={ pure:=FnP Γ.t P,call:=FnD Γ P,round:=RoundD Γ P }
theorem all_ok:FnsOk Γ P (.all Γ P):=⟨fun _ _ _ h=>h,fun _ _ _ _ _ h=>h,fun _ _ _ _ _ h=>h⟩
def Post (z:Still) (n0:Nat) (M:Nat→Prop) (Q:Exit→St→Prop) (s:St) (ρ:Phys) (w:World):Exit→Act→World→Prop :=
 fun e a' w'=>∃ s' ρ',Q e s'∧Sim z w' M ρ' s' a'∧Evo n0 s.heap ρ w s'.heap ρ' w'
def W (Γ:Ctx) (P:Program) (N:Nat) (rl:Option Nat) (n0:Nat) (c:XC) (Q:Exit→St→Prop) (s:St):Prop :=
 ∀ (code:Code),CodeIs P N code c→∀ (z:Still) (M:Nat→Prop) (ρ:Phys) (a:Act) (w:World),z=⟨z.lo,N,Γ⟩→(z.Γ.b≤n0∧n0≤s.heap.length)→Sim z w M ρ s a→code.wpIn (Fw rl) 0 P (Post z n0 M Q s ρ w) a w
def thenQ (K:St→Prop) (Q:Exit→St→Prop):Exit→St→Prop
 | .normal,s=>K s
 | e,s=>Q e s
def blockQ (id:Nat) (Q:Exit→St→Prop):Exit→St→Prop
 | .exit i,s=>if i=id then Q .normal s else Q (.exit i) s
 | e,s=>Q e s
def Co (n0:Nat) (s s':St):Prop :=
 ∀ (z:Still) (M:Nat→Prop) (ρ:Phys) (a:Act) (w:World),(z.Γ.b≤n0∧n0≤s.heap.length)→Sim z w M ρ s a→∃ ρ',Sim z w M ρ' s' a∧Evo n0 s.heap ρ w s'.heap ρ' w
theorem Co.refl (s:St):Co n0 s s:=fun _ _ ρ _ _ hn S=>⟨ρ,S,.refl _ _ _ _ hn.2⟩
theorem Co.trans {s s1 s2:St} (h1:Co n0 s s1) (h2:Co n0 s1 s2):Co n0 s s2:=fun z M ρ a w hn S=>by
 obtain ⟨ρ1,S1,g1⟩:=h1 z M ρ a w hn S
 obtain ⟨ρ2,S2,g2⟩:=h2 z M ρ1 a w ⟨hn.1,g1.len⟩ S1
 exact ⟨ρ2,S2,g1.trans g2⟩
theorem Post.from {z:Still} {M:Nat→Prop} {Q:Exit→St→Prop} {s s1:St} {ρ ρ1:Phys} {w w1:World} (g:Evo n0 s.heap ρ w s1.heap ρ1 w1) {e:Exit} {a':Act} {w':World} (h:Post z n0 M Q s1 ρ1 w1 e a' w'):Post z n0 M Q s ρ w e a' w' :=
 let ⟨s',ρ',q,S,g'⟩:=h
 ⟨s',ρ',q,S,g.trans g'⟩
theorem W_mono {c:XC} {Q Q':Exit→St→Prop} {s:St} (hq:∀ e s,Q e s→Q' e s) (h:W Γ P N rl n0 c Q s):W Γ P N rl n0 c Q' s :=
 fun code hc z M ρ a w hz hn S=>wpIn_mono (h code hc z M ρ a w hz hn S) fun e _ _ ⟨s',ρ',q,S',g⟩=>⟨s',ρ',hq e s' q,S',g⟩
theorem W_co {c:XC} {Q:Exit→St→Prop} {s s':St} (hc:Co n0 s s') (h:W Γ P N rl n0 c Q s'):W Γ P N rl n0 c Q s:=fun code hi z M ρ a w hz hn S=>by
 obtain ⟨ρ',S',g⟩:=hc z M ρ a w hn S
 exact wpIn_mono (h code hi z M ρ' a w hz ⟨hn.1,g.len⟩ S') fun e a' w' hp=>hp.from g
theorem W_post {c:XC} {Q Q':Exit→St→Prop} {s:St} (hq:∀ e s,Q e s→∃ s',Co n0 s s'∧Q' e s') (h:W Γ P N rl n0 c Q s):W Γ P N rl n0 c Q' s :=
 fun code hc z M ρ a w hz hn S=>wpIn_mono (h code hc z M ρ a w hz hn S) fun e a' w' ⟨s',ρ',q,S',g⟩=>by
  obtain ⟨s'',hco,q'⟩:=hq e s' q
  obtain ⟨ρ'',S'',g'⟩:=hco z M ρ' a' w' ⟨hn.1,g.len⟩ S'
  exact ⟨s'',ρ'',q',S'',g.trans g'⟩
theorem W_skip {Q:Exit→St→Prop} {s:St} (h:Q .normal s):W Γ P N rl n0 .skip Q s:=fun code hc z M ρ a w hz hn S=>by
 cases code<;>first | exact hc.elim | skip
 exact wpIn_skip ⟨s,ρ,h,S,.refl _ _ _ _ hn.2⟩
theorem W_ret {Q:Exit→St→Prop} {s:St} (h:Q .ret s):W Γ P N rl n0 .ret Q s:=fun code hc z M ρ a w hz hn S=>by
 cases code<;>first | exact hc.elim | skip
 exact wpIn_ret ⟨s,ρ,h,S,.refl _ _ _ _ hn.2⟩
theorem W_exit {id:Nat} {Q:Exit→St→Prop} {s:St} (h:Q (.exit id) s):W Γ P N rl n0 (.exit id) Q s:=fun code hc z M ρ a w hz hn S=>by
 cases code<;>first | exact hc.elim | skip
 cases (show _=id from hc)
 exact wpIn_exit ⟨s,ρ,h,S,.refl _ _ _ _ hn.2⟩
theorem W_reg {xs:List XOper} {Q:Exit→St→Prop} {s:St} (h:runX (.all Γ P) s.heap.length xs s (Q .normal)):W Γ P N rl n0 (.reg xs) Q s:=fun code hc z M ρ a w hz hn S=>by
 cases code<;>first | exact hc.elim | skip
 obtain ⟨rfl,hc⟩:=hc
 rw [hz] at S ⊢
 exact region_sound all_ok hc S h fun s' ρ' a' w' q S' g=>⟨s',ρ',q,S',g.mono hn.2⟩
theorem W_drwG {σ:Nat→Nat} {n:Nat} {xs:List XOper} {rt:List (Nat × Option Nat)} {Q:Exit→St→Prop} {s:St} (hσ:SigOk σ rt) (hr:∀ p∈rt,∀ id,(s.slots p.1).touch=some id→RootIs σ s.heap.length p.2 id)
  (h:runX (.all Γ P) s.heap.length xs { s with heap:=s.heap++List.replicate n .res } (Q .normal)):W Γ P N rl n0 (.drw n xs rt) Q s:=fun code hc z M ρ a w hz hn S=>by
 cases code<;>first | exact hc.elim | skip
 obtain ⟨rfl,hc,hd,hm⟩:=hc
 rw [hz] at S ⊢
 exact drawn_sound (σ:=σ) all_ok hm hc hσ hd hr S h fun s' ρ' a' w' q S' g=>⟨s',ρ',q,S',g.mono hn.2⟩
theorem W_drw {n:Nat} {xs:List XOper} {rt:List (Nat × Option Nat)} {Q:Exit→St→Prop} {s:St} (hr:∀ p∈rt,(s.slots p.1).touch=none) (h:runX (.all Γ P) s.heap.length xs { s with heap:=s.heap++List.replicate n .res } (Q .normal)):W Γ P N rl n0 (.drw n xs rt) Q s :=
 W_drwG (σ:=id) (fun _ _ _ _ _ _ _ _ _ _ h=>h) (fun p hp i hi=>by rw [hr p hp] at hi;cases hi) h
theorem W_drw2 {n:Nat} {xs:List XOper} {rt:List (Nat × Option Nat)} {Q:Exit→St→Prop} {s:St} (a b:Nat) (hab:a≠b) (ha:a<s.heap.length) (hb:b<s.heap.length) (hk:rt.all (fun p=>match p.2 with | some k=>decide (k≤1002)||k == 9999 | none=>true)=true)
  (hr:∀ p∈rt,(s.slots p.1).touch=none∨(p.2=some 1001∧(s.slots p.1).touch=some a)∨(p.2=some 1002∧(s.slots p.1).touch=some b))
  (h:runX (.all Γ P) s.heap.length xs { s with heap:=s.heap++List.replicate n .res } (Q .normal)):W Γ P N rl n0 (.drw n xs rt) Q s:=by
 refine W_drwG (σ:=fun k=>if k=1001 then a else if k=1002 then b else a+b+1) (fun p hp q hq k k' e1 e2 h1 h2 hne=>?_) (fun p hp i hi=>?_) h
 ·have a1:=List.all_eq_true.1 hk p hp
  have a2:=List.all_eq_true.1 hk q hq
  simp only [e1,Bool.or_eq_true,decide_eq_true_eq,beq_iff_eq] at a1
  simp only [e2,Bool.or_eq_true,decide_eq_true_eq,beq_iff_eq] at a2
  have c1:k=1001∨k=1002∨k=9999:=by omega
  have c2:k'=1001∨k'=1002∨k'=9999:=by omega
  rcases c1 with rfl | rfl | rfl<;>rcases c2 with rfl | rfl | rfl<;>simp at hne ⊢ <;> omega
 ·rcases hr p hp with h1 | ⟨h1,h2⟩ | ⟨h1,h2⟩
  ·rw [h1] at hi;cases hi
  ·rw [h2] at hi;cases hi
   rw [h1]
   exact ⟨rfl,ha⟩
  ·rw [h2] at hi;cases hi
   rw [h1]
   exact ⟨rfl,hb⟩
theorem W_seq {x y:XC} {Q:Exit→St→Prop} {s:St} (h:W Γ P N rl n0 x (thenQ (W Γ P N rl n0 y Q) Q) s):W Γ P N rl n0 (.seq x y) Q s:=fun code hc z M ρ a w hz hn S=>by
 cases code<;>first | exact hc.elim | skip
 obtain ⟨h1,h2⟩:=hc
 refine wpIn_seq (wpIn_mono (h _ h1 z M ρ a w hz hn S) fun e a' w' hp=>?_)
 obtain ⟨s',ρ',q,S',g⟩:=hp
 cases e with
 | normal=>exact wpIn_mono (q _ h2 z M ρ' a' w' hz ⟨hn.1,g.len⟩ S') fun e a'' w'' hp=>hp.from g
 | _=>exact ⟨s',ρ',q,S',g⟩
theorem W_cond {c:XO} {x y:XC} {Q:Exit→St→Prop} {s:St} {t:Bool} (hc:ev s.slots c = .bool t) (ht:t=true→W Γ P N rl n0 x Q s) (hf:t=false→W Γ P N rl n0 y Q s):W Γ P N rl n0 (.cond c x y) Q s:=fun code hi z M ρ a w hz hn S=>by
 cases code<;>first | exact hi.elim | skip
 rename_i c' x' y'
 obtain ⟨h0,h1,h2⟩:=hi
 have he:=S.env _ _ h0
 rw [hc] at he
 have:a.eval c' = .bool t:=by
  generalize a.eval c'=v at he
  cases he with
  | d hx=>cases hx with
   | sc _=>rfl
 exact wpIn_cond_split this (fun h=>ht h _ h1 z M ρ a w hz hn S) (fun h=>hf h _ h2 z M ρ a w hz hn S)
theorem W_block {id:Nat} {x:XC} {Q:Exit→St→Prop} {s:St} (h:W Γ P N rl n0 x (blockQ id Q) s):W Γ P N rl n0 (.block id x) Q s:=fun code hc z M ρ a w hz hn S=>by
 cases code<;>first | exact hc.elim | skip
 obtain ⟨rfl,hc⟩:=hc
 refine wpIn_block (wpIn_mono (h _ hc z M ρ a w hz hn S) fun e a' w' hp=>?_)
 obtain ⟨s',ρ',q,S',g⟩:=hp
 cases e with
 | exit i =>
  simp only [blockQ] at q
  simp only [Exit.inBlock]
  split
  ·rw [if_pos ‹_›] at q;exact ⟨s',ρ',q,S',g⟩
  ·rw [if_neg ‹_›] at q;exact ⟨s',ρ',q,S',g⟩
 | _=>exact ⟨s',ρ',q,S',g⟩
theorem least {p:Nat→Prop}:∀ m,p m→∃ k,p k∧∀ j,p j→k≤j:=by
 intro m
 induction m using Nat.strongRecOn with
 | _ m ih =>
  intro hm
  by_cases h:∃ j,j<m∧p j
  ·obtain ⟨j,hj,hp⟩:=h
   exact ih j hj hp
  ·exact ⟨m,hm,fun j hp=>Nat.le_of_not_lt fun hlt=>h ⟨j,hlt,hp⟩⟩
theorem W_loop {x:XC} {Q:Exit→St→Prop} {s:St} (I:Nat→St→Prop) {m:Nat} (h0:I m s) (hb:∀ m s,I m s→W Γ P N rl n0 x (thenQ (fun s'=>∃ m' s'',m'<m∧Co n0 s' s''∧I m' s'') Q) s):W Γ P N rl n0 (.loop x) Q s:=fun code hc z M ρ a w hz hn S=>by
 cases code<;>first | exact hc.elim | skip
 let J:Act→World→Nat→Prop:=fun a' w' m=>∃ s' ρ',I m s'∧Sim z w' M ρ' s' a'∧Evo n0 s.heap ρ w s'.heap ρ' w'
 have hJ:∀ a' w' m,J a' w' m→∃ k,J a' w' k∧∀ j,J a' w' j→k≤j:=fun a' w' m h=>least m h
 let μ:Act→World→Nat:=fun a' w'=>open Classical in if h:∃ k,J a' w' k∧∀ j,J a' w' j→k≤j then h.choose else 0
 have hμ:∀ a' w' m,J a' w' m→J a' w' (μ a' w')∧μ a' w'≤m:=by
  intro a' w' m h
  have hx:=hJ a' w' m h
  have e:μ a' w'=hx.choose:=by simp only [μ];rw [dif_pos hx]
  rw [e]
  exact ⟨hx.choose_spec.1,hx.choose_spec.2 m h⟩
 refine wpIn_loop (fun a' w'=>∃ m,J a' w' m) μ ⟨m,s,ρ,h0,S,.refl _ _ _ _ hn.2⟩ fun a' w' hI=>?_
 obtain ⟨m1,hm1⟩:=hI
 obtain ⟨⟨s1,ρ1,hi,S1,g1⟩,_⟩:=hμ a' w' m1 hm1
 refine wpIn_mono (hb _ s1 hi _ hc z M ρ1 a' w' hz ⟨hn.1,g1.len⟩ S1) fun e a2 w2 hp=>?_
 obtain ⟨s2,ρ2,q,S2,g2⟩:=hp
 cases e with
 | normal =>
  obtain ⟨m',s3,hlt,hco,hi'⟩:=q
  obtain ⟨ρ3,S3,g3⟩:=hco z M ρ2 a2 w2 ⟨hn.1,g2.len⟩ S2
  have hj:J a2 w2 m':=⟨s3,ρ3,hi',S3,g1.trans (g2.trans g3)⟩
  exact ⟨⟨m',hj⟩,Nat.lt_of_le_of_lt (hμ a2 w2 m' hj).2 hlt⟩
 | _=>exact ⟨s2,ρ2,q,S2,g1.trans g2⟩
def look:List (Nat × A)→Nat→A
 | [],_=>.any
 | (k,x)::l,n=>if n=k then x else look l n
def HB.under (k:Nat):HB→Prop
 | .cells _ rows=>∀ r∈rows,∀ x∈r,x.under k=true
 | _=>True
theorem look_mem {l:List (Nat × A)} {n:Nat}:look l n = .any∨(n,look l n)∈l:=by
 induction l with
 | nil=>exact .inl rfl
 | cons p l ih =>
  obtain ⟨k,x⟩:=p
  simp only [look]
  by_cases h:n=k
  ·subst h;simp
  ·rw [if_neg h]
   rcases ih with ih | ih
   ·exact .inl ih
   ·exact .inr (List.mem_cons_of_mem _ ih)
theorem Evo.take {h:Heap} {ρ:Phys} {w:World} {k:Nat} (hn:n0≤k) (hk:k≤h.length):Evo n0 h ρ w (h.take k) (ρ.take k) w where
 os:=rfl
 tape:=rfl
 output:=rfl
 size:=zL _
 old _ _ _:=rfl
 fresh id b p hp:=by
  rw [zm] at hp
  split at hp
  ·exact .inr ⟨id,p,hp⟩
  ·cases hp
 len:=by simp;omega
 keep id B hid hB:=by
  have e1:(h.take k)[id]? = h[id]? := by rw [zm,if_pos (by omega)]
  have e2:(ρ.take k)[id]? = ρ[id]? := by rw [zm,if_pos (by omega)]
  cases B with
  | cells e rows=>exact ⟨rows,e1.trans hB,zL _,fun _=>e2⟩
  | obj o=>exact ⟨⟨o,e1.trans hB⟩,e2⟩
  | res=>trivial
theorem SimH.take {h:Heap} {ρ:Phys} {w:World} {M:Nat→Prop} (S:SimH w M ρ h) {k:Nat} (hk:k≤h.length) (hu:∀ B∈h.take k,HB.under k B):SimH w M (ρ.take k) (h.take k):=by
 have g:Evo k h ρ w (h.take k) (ρ.take k) w:=.take (zL _) hk
 have cut:∀ {id:Nat} {B:HB},(h.take k)[id]? = some B→h[id]? = some B∧(ρ.take k)[id]? = ρ[id]? := by
  intro id B hB
  rw [zm] at hB
  split at hB
  ·exact ⟨hB,by rw [zm,if_pos ‹_›]⟩
  ·cases hB
 refine ⟨by simp [S.len],fun id e rows hB=>?_,fun id o hB=>?_,fun id hB=>?_,fun i j b p q hi hj=>?_⟩
 ·have hun:=hu _ (zY hB)
  obtain ⟨hB',hρ⟩:=cut hB
  obtain ⟨q1,q2,q3,q4,q5⟩:=S.cells id e rows hB'
  refine ⟨q1,q2,q3,q4,?_⟩
  rcases q5 with ⟨h5,h6⟩ | ⟨b,q,cs,t,h5,h6,h7,h8,h9,h10⟩
  ·exact .inl ⟨hρ.trans h5,h6⟩
  ·refine .inr ⟨b,q,cs,t,hρ.trans h5,h6,h7,h8,h9,fun i r j x hi hj=>?_⟩
   obtain ⟨v,k1,k2,k3⟩:=h10 i r j x hi hj
   exact ⟨v,k1,k2,g.rep k3 (hun r (zY hi) x (zY hj))⟩
 ·obtain ⟨hB',hρ⟩:=cut hB
  obtain ⟨b,q,q1,q2,q3,q4⟩:=S.obj id o hB'
  exact ⟨b,q,hρ.trans q1,q2,q3,q4⟩
 ·obtain ⟨hB',hρ⟩:=cut hB
  rw [hρ];exact S.res id hB'
 ·rw [zm] at hi hj
  split at hi
  ·split at hj
   ·exact S.inj i j b p q hi hj
   ·cases hj
  ·cases hi
theorem TabsOk.take {w:World} {M:Nat→Prop} {ρ:Phys} {h:Heap} (T:TabsOk Γ w M ρ h) {k:Nat} (hb:Γ.b≤k) (hk:k≤h.length):TabsOk Γ w M (ρ.take k) (h.take k):=by
 have g:Evo k h ρ w (h.take k) (ρ.take k) w:=.take (zL _) hk
 refine ⟨fun u cs hu=>g.rep (T.t u cs hu) rfl,fun a v hv=>⟨(T.env a v hv).1,g.rep (T.env a v hv).2 ?_⟩⟩
 exact A.under_mono (T.env a v hv).1 hb
theorem Co.to {s:St} (l:List (Nat × A)) (k:Nat) (hl:∀ p∈l,s.slots p.1=p.2∧p.2.under k=true) (hn:n0≤k) (hk:k≤s.heap.length) (hu:∀ B∈s.heap.take k,HB.under k B):Co n0 s ⟨look l,s.heap.take k⟩ :=
 fun z M ρ a w hz S=>⟨ρ.take k,⟨S.bnd,S.sim.take hk hu,fun n=>by
  have g:Evo k s.heap ρ w (s.heap.take k) (ρ.take k) w:=.take (zL _) hk
  rcases look_mem (l:=l) (n:=n) with h | h
  ·show RepA w M _ _ (look l n) _
   rw [h];exact .any
  ·obtain ⟨h1,h2⟩:=hl _ h
   have:=g.rep (S.slots n) (by rw [h1];exact h2)
   rw [h1] at this
   exact this,S.size,S.nlt,S.tabs.take (Nat.le_trans hz.1 hn) hk,S.defers.evo (Evo.take (n0:=k) (h:=s.heap) (w:=w) (zL _) hk)⟩,.take hn hk⟩
theorem Co.keep {s:St} (l:List (Nat × A)) (hl:∀ p∈l,s.slots p.1=p.2):Co n0 s ⟨look l,s.heap⟩ :=
 fun z M ρ a w hn S=>⟨ρ,⟨S.bnd,S.sim,fun n=>by
  rcases look_mem (l:=l) (n:=n) with h | h
  ·show RepA w M _ _ (look l n) _
   rw [h];exact .any
  ·have h1:=hl _ h
   have:=S.slots n
   rw [h1] at this
   exact this,S.size,S.nlt,S.tabs,S.defers⟩,.refl _ _ _ _ hn.2⟩
def runC (F:Fns) (n0:Nat):List XOper→St→(St→Prop)→Prop
 | [],s,K=>K s
 | o::os,s,K=>∃ s1,Co n0 s s1∧stepX F s1.heap.length o s1 fun s'=>runC F n0 os s' K
theorem opsC_sound {z:Still} {F:Fns} (hF:FnsOk z.Γ P F) (hb:z.Γ.b≤n0) {ops:Array Oper} {xs:List XOper} {M:Nat→Prop} {K:St→Prop} {Q:Exit→Act→World→Prop} (H:OpsAre P z.n ops xs):∀ (l:List Nat) (s:St) (ρ:Phys) (a:Act) (w:World),
  n0≤s.heap.length→Sim z w M ρ s a→runC F n0 (l.filterMap (xs[·]?)) s K→(∀ s' ρ' a' w',K s'→Sim z w' M ρ' s' a'→Evo n0 s.heap ρ w s'.heap ρ' w'→Q .normal a' w') →
  wpOpsIn (Fw rl) 0 P ops Q l a w:=by
 intro l
 induction l with
 | nil=>intro s ρ a w hn S hK hQ;exact hQ s ρ a w hK S (.refl _ _ _ _ hn)
 | cons i l ih =>
  intro s ρ a w hn S hK hQ
  rw [wpOpsIn_cons]
  cases hx:xs[i]? with
  | none =>
   have ho:ops[i]? = none:=by
    rw [List.getElem?_eq_none_iff,H.len] at hx
    exact Array.getElem?_eq_none hx
   simp only [List.filterMap_cons,hx] at hK
   unfold wpOpIn
   rw [ho]
   exact ih s ρ a w hn S hK hQ
  | some x =>
   have hlt:i<ops.size:=by rw [← H.len];exact (List.getElem?_eq_some_iff.1 hx).1
   have ho:ops[i]? = some ops[i]:=Array.getElem?_eq_getElem hlt
   simp only [List.filterMap_cons,hx,runC] at hK
   obtain ⟨s1,hco,hK⟩:=hK
   obtain ⟨ρ1,S1,g1⟩:=hco z M ρ a w ⟨hb,hn⟩ S
   refine step_sound hF ho (H.get i _ x ho hx) (fun m hm=>H.dst i x m hx hm) S1 hK fun s' ρ' a' w' hk S' g=>?_
   have g':=g1.trans (g.mono g1.len)
   exact ih s' ρ' a' w' g'.len S' hk fun s'' ρ'' a'' w'' hk' S'' g''=>hQ s'' ρ'' a'' w'' hk' S'' (g'.trans g'')
theorem W_regC {xs:List XOper} {Q:Exit→St→Prop} {s:St} (h:runC (.all Γ P) n0 xs s (Q .normal)):W Γ P N rl n0 (.reg xs) Q s:=fun code hc z M ρ a w hz hn S=>by
 cases code<;>first | exact hc.elim | skip
 obtain ⟨rfl,hc⟩:=hc
 rw [hz] at S hn ⊢
 refine wpIn_region (opsC_sound all_ok hn.1 hc _ s ρ a w hn.2 S (by rw [← hc.len,filterMap_range];exact h) fun s' ρ' a' w' q S' g=>⟨s',ρ',q,S',g⟩)
theorem wR {xs:List XOper} {y:XC} {Q:Exit → St → Prop} {s:St} (h:runX (.all Γ P) s.heap.length xs s (thenQ (W Γ P N rl n0 y Q) Q .normal)):W Γ P N rl n0 (.seq (.reg xs) y) Q s := W_seq (W_reg h)
end Go.Proofs.YtlllnjhgjijnkaaDoor.Nx

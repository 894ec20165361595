import Derived.Test.YtlllnjhgjijnkaaDoorNxStep
set_option linter.unusedSimpArgs false
set_option linter.unusedVariables false
set_option linter.unnecessarySimpa false
open List renaming getElem?_eq_some_iff → zA, getD_eq_getElem?_getD → zC, getElem?_append_left → zF, getElem?_append_right → zG, getElem?_map → zK, mem_cons_self → zW, mem_cons_of_mem → zZ, getElem?_eq_none → zk
open Option.some renaming injEq → zH
open Nat renaming le_refl → zL
open Bool renaming and_eq_true → zf
namespace Go.Proofs.YtlllnjhgjijnkaaDoor.Nx
open Go
variable {P:Program} {w w':World} {M:Nat→Prop} {ρ ρ':Phys} {h h':Heap} {z:Still} {F:Fns}
def compOpers (P:Program) (ops:Array Oper):Option (List XOper):=ops.toList.mapM (compOper P ops)
structure OpsAre (P:Program) (n:Nat) (ops:Array Oper) (xs:List XOper):Prop where
 dst:∀ (i:Nat) (x:XOper) (m:Nat),xs[i]? = some x→x.dst=some m→m<n
 len:xs.length=ops.size
 get:∀ (i:Nat) (o:Oper) (x:XOper),ops[i]? = some o→xs[i]? = some x→compOper P ops o=some x.plain
theorem OpsAre.of {ops:Array Oper} {xs:List XOper} {n:Nat} (hc:compOpers P ops=some (xs.map XOper.plain)) (hd:xs.all (fun x=>x.dst.all (decide <| · < n))=true):OpsAre P n ops xs:=by
 obtain ⟨h1,h2⟩:=mapM_spec hc
 refine ⟨fun i x m hx hm=>?_,by simpa using h1,fun i o x ho hx=>?_⟩
 ·have:=List.all_eq_true.1 hd x (List.mem_iff_getElem?.2 ⟨i,hx⟩)
  rw [hm] at this
  simpa using this
 obtain ⟨y,hy,hf⟩:=h2 i o (by simpa using ho)
 rw [zK,hx] at hy
 cases hy
 exact hf
theorem ops_sound (hF:FnsOk z.Γ P F) {rl:Option Nat} {ops:Array Oper} {xs:List XOper} {base:Nat} {K:St→Prop} {Q:Exit→Act→World→Prop} (H:OpsAre P z.n ops xs):∀ (l:List Nat) (s:St) (ρ:Phys) (a:Act) (w:World),
  Sim z w M ρ s a→runX F base (l.filterMap (xs[·]?)) s K→(∀ s' ρ' a' w',K s'→Sim z w' M ρ' s' a'→Evo s.heap.length s.heap ρ w s'.heap ρ' w'→Q .normal a' w') →
  wpOpsIn (Fw rl) 0 P ops Q l a w:=by
 intro l
 induction l with
 | nil=>intro s ρ a w S hK hn;exact hn s ρ a w hK S (.refl _ _ _ _ (zL _))
 | cons i l ih =>
  intro s ρ a w S hK hn
  rw [wpOpsIn_cons]
  cases hx:xs[i]? with
  | none =>
   have ho:ops[i]? = none:=by
    rw [List.getElem?_eq_none_iff,H.len] at hx
    exact Array.getElem?_eq_none hx
   simp only [List.filterMap_cons,hx] at hK
   unfold wpOpIn
   rw [ho]
   exact ih s ρ a w S hK hn
  | some x =>
   have hlt:i<ops.size:=by rw [← H.len];exact (zA.1 hx).1
   have ho:ops[i]? = some ops[i]:=Array.getElem?_eq_getElem hlt
   simp only [List.filterMap_cons,hx,runX] at hK
   refine step_sound hF ho (H.get i _ x ho hx) (fun m hm=>H.dst i x m hx hm) S hK fun s' ρ' a' w' hk S' g=>?_
   exact ih s' ρ' a' w' S' hk fun s'' ρ'' a'' w'' hk' S'' g'=>hn s'' ρ'' a'' w'' hk' S'' (g.trans (g'.mono g.len))
def XOper.reads (o:XOper):List Nat:=o.op.slots++(match o.guard with | some (g,_)=>[g] | none=>[])
def optMem (d:Option Nat) (l:List Nat):Bool :=
 match d with
 | some d=>l.contains d
 | none=>false
def indep (sep:Bool) (p q:XOper):Bool :=
 classOk sep p.op q.op && !optMem q.dst p.reads && !optMem p.dst q.reads && !optMem p.dst q.dst.toList&&(!p.op.pushes||p.pl.isSome)&&(!q.op.pushes||q.pl.isSome)&&(!(p.op.pushes&&q.op.pushes)||p.pl != q.pl)
structure Indep (sep:Bool) (p q:XOper):Prop where
 cls:classOk sep p.op q.op=true
 qp:∀ n,q.dst=some n→n ∉ p.reads
 pq:∀ n,p.dst=some n→n ∉ q.reads
 dd:∀ n,p.dst=some n→q.dst≠some n
 plp:p.op.pushes=true→p.pl.isSome=true
 plq:q.op.pushes=true→q.pl.isSome=true
 pls:p.op.pushes=true→q.op.pushes=true→p.pl≠q.pl
theorem optMem_false {d:Option Nat} {l:List Nat} (hh:optMem d l=false):∀ n,d=some n→n ∉ l:=by
 intro n hn hm
 subst hn
 simp [optMem,hm] at hh
theorem Indep.of {sep:Bool} {p q:XOper} (hi:indep sep p q=true):Indep sep p q:=by
 simp only [indep,zf,Bool.not_eq_true'] at hi
 obtain ⟨⟨⟨⟨⟨⟨h1,h2⟩,h3⟩,h4⟩,h5⟩,h6⟩,h7⟩:=hi
 refine ⟨h1,optMem_false h2,optMem_false h3,fun n hn he=>optMem_false h4 n hn (by simp [he]),fun hp=>?_,fun hp=>?_,fun hp hq he=>?_⟩
 ·simpa [hp] using h5
 ·simpa [hp] using h6
 ·simp [hp,hq,he] at h7
def Clear (q:XOper) (s:St):Prop:=∀ x∈q.op.hx,∀ id,(ev s.slots x).touch=some id→∃ B,s.heap[id]? = some B∧B ≠ .res
theorem live_put {o:XOper} {d:Option Nat} {r:A} {l:Nat→A} (hd:∀ n,d=some n→n ∉ o.reads):o.live (put d r l)=o.live l:=by
 unfold XOper.live
 split
 ·rfl
 ·rename_i g b hg
  have:put d r l g=l g:=by
   have:=ev_put (d:=d) (r:=r) (l:=l) (x:=.t g) (fun n hn hm=>hd n hn (by simp only [XO.slots,List.mem_singleton] at hm;subst hm;simp [XOper.reads,hg]))
   exact this
  rw [this]
theorem live_cases {o:XOper} {l:Nat→A} {op:XOp} (hl:o.live l=some op):op=o.op∨op = .mov (.k undefA):=by
 unfold XOper.live at hl
 split at hl
 ·injection hl with hl;exact .inl hl.symm
 ·split at hl
  ·split at hl
   ·injection hl with hl;exact .inl hl.symm
   ·injection hl with hl;exact .inr hl.symm
  ·injection hl with hl;exact .inr hl.symm
  ·cases hl
theorem stepX_mono {base:Nat} {o:XOper} {s:St} {K K':St→Prop} (hk:∀ s',K s'→K' s') (hK:stepX F base o s K):stepX F base o s K':=by
 unfold stepX at *
 split at hK
 ·exact exec_mono (fun _ _ hr=>hk _ hr) hK
 ·exact hK.elim
theorem ev_slots {p:XOper} {x:XO} {n:Nat} (hx:x∈p.op.hx) (hn:n∈x.slots):n∈p.reads:=by
 refine List.mem_append_left _ ?_
 generalize p.op=op at *
 cases op<;>simp [XOp.hx] at hx<;>(try subst hx)<;>first | (simp [XOp.slots,hn];done) | (exact List.mem_append_right _ (List.mem_flatMap.2 ⟨_,hx,hn⟩)) | simp [XOp.slots,hn]
 ·rcases hx with rfl | rfl<;>simp [hn]
 ·rcases hx with rfl | rfl<;>simp [hn]
theorem stepX_clear {base:Nat} {p q:XOper} {s:St} {K:St→Prop} {sep:Bool} (hi:Indep sep p q) (hc:Clear q s) (hK:stepX F base p s K):stepX F base p s fun s'=>Clear q s'∧K s':=by
 unfold stepX at *
 split at hK
 ·rename_i op hl
  obtain ⟨r,h',hk,eff,hrun⟩:=exec_eff hK
  refine exec_mono (fun a b hab=>⟨?_,by rw [hab.1,hab.2];exact hk⟩) hrun
  obtain ⟨rfl,rfl⟩:=hab
  intro x hx id hid
  dsimp only at hid ⊢
  rw [ev_put fun n hn hm=>hi.pq n hn (ev_slots hx hm)] at hid
  obtain ⟨B,hB,hBr⟩:=hc x hx id hid
  have hlt:id<s.heap.length:=(zA.1 hB).1
  rcases eff with ⟨e,_⟩ | ⟨i,X,_,hX,e,_⟩ | ⟨hp,hn,_⟩ | ⟨hcal,_⟩
  ·rw [e];exact ⟨B,hB,hBr⟩
  ·rw [e,List.getElem?_set]
   split
   ·rename_i hi;subst hi
    rw [if_pos hlt]
    exact ⟨X,rfl,hX⟩
   ·exact ⟨B,hB,hBr⟩
  ·exfalso
   rcases live_cases hl with rfl | rfl
   ·have:=hi.plp hp
    cases hpl:p.pl with
    | none=>rw [hpl] at this;cases this
    | some _=>rw [hpl] at hn;cases hn
   ·cases hp
  ·rcases live_cases hl with rfl | rfl
   ·have hcls:=hi.cls
    by_cases hr:p.op.isR=true
    ·obtain ⟨r',t,hrt,_⟩:=exec_isR hr hrun
     exact ⟨B,by rw [← hrt.2,zF hlt];exact hB,hBr⟩
    exfalso
    have hr:p.op.isR=false:=by simpa using hr
    have hst:p.op.still=false:=by simp [XOp.still,hcal]
    have:=hcls
    rw [classOk,hr,hst] at this
    simp only [classOk,hcal,XOp.heapFree,Bool.not_true,Bool.and_false,Bool.false_and,Bool.or_false,Bool.false_or,zf,List.isEmpty_iff] at this
    rw [this.1.1] at hx
    cases hx
   ·cases hcal
 ·exact hK.elim
theorem classOk_mov_left {sep:Bool} {p:XOp} {a:A}:classOk sep (.mov (.k a)) p=true:=rfl
theorem classOk_mov_right {sep:Bool} {p:XOp} {a:A}:classOk sep p (.mov (.k a))=true:=by
 simp [classOk,XOp.heapFree,XOp.hx,XOp.pushes,XOp.isCalle]
def SepAt (p q:XOp) (s:St):Prop:=(∀ x∈p.tg,∀ y∈q.hx,∀ id,(ev s.slots x).touch=some id→(ev s.slots y).touch≠some id)∧(∀ x∈p.hx,∀ y∈q.tg,∀ id,(ev s.slots x).touch=some id→(ev s.slots y).touch≠some id)
theorem swapX {base:Nat} {p q:XOper} {s:St} {K:St→Prop} {sep:Bool} (hi:Indep sep p q) (hs:sep=true→SepAt p.op q.op s) (hc:Clear q s) (hK:stepX F base p s fun s1=>stepX F base q s1 K):stepX F base q s fun s2=>stepX F base p s2 K:=by
 unfold stepX at hK
 split at hK
 ·rename_i opp hlp
  cases hlq:q.live s.slots with
  | none =>
   exfalso
   obtain ⟨r,h',hk,_⟩:=exec_wit hK
   dsimp only at hk
   rw [live_put hi.pq,hlq] at hk
   exact hk
  | some opq =>
   have hsp:∀ n,q.dst=some n→n ∉ opp.slots:=fun n hn hm=>by
    rcases live_cases hlp with rfl | rfl
    ·exact hi.qp n hn (List.mem_append_left _ hm)
    ·simp [XOp.slots,XO.slots] at hm
   have hsq:∀ n,p.dst=some n→n ∉ opq.slots:=fun n hn hm=>by
    rcases live_cases hlq with rfl | rfl
    ·exact hi.pq n hn (List.mem_append_left _ hm)
    ·simp [XOp.slots,XO.slots] at hm
   have hK':exec F (p.pl.map (base + ·)) opp (ev s.slots) s.heap fun r1 ha=>exec F (q.pl.map (base + ·)) opq (ev (put p.dst r1 s.slots)) ha fun r2 hb=>K ⟨put q.dst r2 (put p.dst r1 s.slots),hb⟩:=by
    refine exec_mono (fun r h' hk=>?_) hK
    dsimp only at hk
    rw [live_put hi.pq,hlq] at hk
    exact hk
   have:=exec_swap (sep:=sep) (p:=opp) (q:=opq) ?_ ?_ hsp hsq hi.dd ?_ ?_ ?_ ?_ hK'
   ·unfold stepX
    rw [hlq]
    refine exec_mono (fun r h' hk=>?_) this
    dsimp only
    rw [live_put hi.qp,hlp]
    exact hk
   ·rcases live_cases hlp with rfl | rfl
    ·rcases live_cases hlq with rfl | rfl
     ·exact hi.cls
     ·exact classOk_mov_right
    ·exact classOk_mov_left
   ·intro hsep
    rcases live_cases hlp with rfl | rfl
    ·rcases live_cases hlq with rfl | rfl
     ·exact hs hsep
     ·exact ⟨fun x hx y hy=>(by cases hy),fun x hx y hy=>(by cases hy)⟩
    ·exact ⟨fun x hx=>(by cases hx),fun x hx=>(by cases hx)⟩
   ·intro hp
    rcases live_cases hlp with rfl | rfl
    ·simpa using hi.plp hp
    ·cases hp
   ·intro hp
    rcases live_cases hlq with rfl | rfl
    ·simpa using hi.plq hp
    ·cases hp
   ·intro hp hq he
    rcases live_cases hlp with rfl | rfl
    ·rcases live_cases hlq with rfl | rfl
     ·refine hi.pls hp hq ?_
      have h1:=hi.plp hp
      cases hpp:p.pl with
      | none=>rw [hpp] at h1;cases h1
      | some u=>cases hqq:q.pl with
       | none=>rw [hpp,hqq] at he;cases he
       | some v =>
        rw [hpp,hqq] at he
        simp only [Option.map_some,zH] at he
        simp only [zH]
        omega
     ·cases hq
    ·cases hp
   ·intro x hx id hid
    rcases live_cases hlq with rfl | rfl
    ·exact hc x hx id hid
    ·simp [XOp.hx] at hx
 ·exact hK.elim
def rootAt (rt:List (Nat × Option Nat)) (dsts:List Nat) (n:Nat):Option (Option Nat) :=
 match rt.lookup n with
 | some k=>some k
 | none=>if dsts.contains n then none else some none
def RootIs (σ:Nat→Nat) (base:Nat) (r:Option Nat) (id:Nat):Prop :=
 match r with
 | some k=>if k<1000 then id=base+k else if k=1000 then base≤id else if k=9999 then False else id=σ k∧id<base
 | none=>id<base
def RootsOk (σ:Nat→Nat) (base:Nat) (rt:List (Nat × Option Nat)) (dsts:List Nat) (s:St):Prop :=
 ∀ n r,rootAt rt dsts n=some r→∀ id,(s.slots n).touch=some id→RootIs σ base r id
def SigOk (σ:Nat→Nat) (rt:List (Nat × Option Nat)):Prop :=
 ∀ p∈rt,∀ q∈rt,∀ k k',p.2=some k→q.2=some k'→1000<k→1000<k'→k≠k'→σ k≠σ k'
def rootOf (rt:List (Nat × Option Nat)) (dsts:List Nat) (k:Option Nat):XO→Bool
 | .t m=>rootAt rt dsts m == some k
 | _=>false
def rootNew (rt:List (Nat × Option Nat)) (dsts:List Nat):XO→Bool
 | .t m=>match rootAt rt dsts m with
  | some (some j)=>decide (j≤1000)
  | _=>false
 | _=>false
def rootPl (pl:Option Nat) (k:Option Nat):Bool :=
 match pl with
 | some j=>k == some j&&decide (j<1000)
 | none=>false
def rootOp (rt:List (Nat × Option Nat)) (dsts:List Nat) (pl:Option Nat) (k:Option Nat):XOp→Bool
 | .alloc _ _ | .box _ _ | .bslice _ _ _ _=>rootPl pl k
 | .mov x | .faddr _ x | .nilck x | .iaddr _ x _ | .slice _ x _ _ _=>rootOf rt dsts k x
 | .append _ x _=>k == some 1000&&pl.isSome&&rootNew rt dsts x
 | .loadp _ _ _=>k == some 9999
 | _=>false
def rootStep (rt:List (Nat × Option Nat)) (dsts:List Nat) (o:XOper):Bool :=
 match o.dst with
 | none=>true
 | some n=>dsts.contains n&&match rt.lookup n with
  | none=>true
  | some k=>rootOp rt dsts o.pl k o.op
def sepK (k k':Nat):Bool:=k == 9999||k' == 9999||k != k' && !(k == 1000&&decide (k'<1000)) && !(k' == 1000&&decide (k<1000))
def sepX (rt:List (Nat × Option Nat)) (dsts:List Nat):XO→XO→Bool
 | .t m,.t n=>match rootAt rt dsts m,rootAt rt dsts n with
  | some (some k),some (some k')=>sepK k k'
  | some (some k),some none=>decide (k≤1000)||k == 9999
  | some none,some (some k)=>decide (k≤1000)||k == 9999
  | _,_=>false
 | .k a,_=>a.touch.isNone
 | _,.k a=>a.touch.isNone
 | .f _,_=>true
 | _,.f _=>true
def sepOps (rt:List (Nat × Option Nat)) (dsts:List Nat) (p q:XOp):Bool:=(p.tg.all fun x=>q.hx.all fun y=>sepX rt dsts x y)&&(p.hx.all fun x=>q.tg.all fun y=>sepX rt dsts x y)
variable {rt:List (Nat × Option Nat)} {dsts:List Nat} {σ:Nat→Nat}
theorem mem_of_lookup {n:Nat} {k:Option Nat}:∀ {l:List (Nat × Option Nat)},l.lookup n=some k→(n,k)∈l
 | [],h=>by simp at h
 | (m,j)::l,h=>by
  simp only [List.lookup] at h
  split at h
  ·rename_i e
   have:n=m:=by simpa using e
   cases h;subst this;exact zW ..
  ·exact zZ _ (mem_of_lookup h)
theorem rootAt_mem {n k:Nat} (h:rootAt rt dsts n=some (some k)):(n,some k)∈rt:=by
 unfold rootAt at h
 split at h
 ·cases h;exact mem_of_lookup ‹_›
 ·split at h<;>cases h
theorem sepK_at {base k k' id:Nat} (hs:1000<k→1000<k'→k≠k'→σ k≠σ k') (h:sepK k k'=true) (h1:RootIs σ base (some k) id) (h2:RootIs σ base (some k') id):False:=by
 by_cases q1:k=9999
 ·subst q1;simp [RootIs] at h1
 by_cases q2:k'=9999
 ·subst q2;simp [RootIs] at h2
 have b1:(k == 9999)=false:=by simpa using q1
 have b2:(k' == 9999)=false:=by simpa using q2
 simp only [sepK,b1,b2,Bool.false_or,zf,bne_iff_ne,ne_eq,Bool.not_eq_true',Bool.and_eq_false_iff,beq_eq_false_iff_ne,decide_eq_false_iff_not] at h
 obtain ⟨⟨a1,a2⟩,a3⟩:=h
 simp only [RootIs,if_neg q1,if_neg q2] at h1 h2
 split at h1
 ·split at h2
  ·omega
  ·split at h2
   ·omega
   ·omega
 ·split at h1
  ·split at h2
   ·omega
   ·split at h2
    ·omega
    ·omega
  ·split at h2
   ·omega
   ·split at h2
    ·omega
    ·exact hs (by omega) (by omega) a1 (h1.1.symm.trans h2.1)
theorem sepN_at {base k id:Nat} (h:(decide (k≤1000)||k == 9999)=true) (h1:RootIs σ base (some k) id) (h2:RootIs σ base none id):False:=by
 by_cases q1:k=9999
 ·subst q1;simp [RootIs] at h1
 have b1:(k == 9999)=false:=by simpa using q1
 rw [b1,Bool.or_false] at h
 have h:=of_decide_eq_true h
 simp only [RootIs,if_neg q1] at h1 h2
 split at h1
 ·omega
 ·split at h1<;>omega
theorem sepX_at {base:Nat} {x y:XO} {s:St} (hσ:SigOk σ rt) (R:RootsOk σ base rt dsts s) (h:sepX rt dsts x y=true):∀ id,(ev s.slots x).touch=some id→(ev s.slots y).touch≠some id:=by
 intro id h1 h2
 cases x with
 | k a=>cases y<;>simp [sepX] at h<;>simp [ev,h] at h1
 | f g=>simp [ev,A.touch] at h1
 | t m=>cases y with
  | k a=>simp [sepX] at h;simp [ev,h] at h2
  | f g=>simp [ev,A.touch] at h2
  | t n =>
   simp only [sepX] at h
   simp only [ev] at h1 h2
   split at h
   ·rename_i k k' e1 e2
    exact sepK_at (fun a b c=>hσ _ (rootAt_mem e1) _ (rootAt_mem e2) _ _ rfl rfl a b c) h (R m _ e1 id h1) (R n _ e2 id h2)
   ·rename_i k e1 e2
    exact sepN_at h (R m _ e1 id h1) (R n _ e2 id h2)
   ·rename_i k e1 e2
    exact sepN_at h (R n _ e2 id h2) (R m _ e1 id h1)
   ·cases h
theorem sepOps_at {base:Nat} {p q:XOp} {s:St} (hσ:SigOk σ rt) (R:RootsOk σ base rt dsts s) (h:sepOps rt dsts p q=true):SepAt p q s:=by
 simp only [sepOps,zf,List.all_eq_true] at h
 exact ⟨fun x hx y hy=>sepX_at hσ R (h.1 x hx y hy),fun x hx y hy=>sepX_at hσ R (h.2 x hx y hy)⟩
theorem rootOf_at {base:Nat} {k:Option Nat} {x:XO} {sl:Nat→A} {h:Heap} (R:RootsOk σ base rt dsts ⟨sl,h⟩) (ho:rootOf rt dsts k x=true):∀ id,(ev sl x).touch=some id→RootIs σ base k id:=by
 cases x with
 | t m=>exact R m k (by simpa [rootOf] using ho)
 | _=>simp [rootOf] at ho
theorem rootNew_at {base:Nat} {x:XO} {sl:Nat→A} {h:Heap} (R:RootsOk σ base rt dsts ⟨sl,h⟩) (ho:rootNew rt dsts x=true):∀ id,(ev sl x).touch=some id→base≤id:=by
 cases x with
 | t m =>
  simp only [rootNew] at ho
  split at ho
  ·rename_i j hj
   intro id hid
   have:=R m _ hj id hid
   have hj:=of_decide_eq_true ho
   simp only [RootIs] at this
   split at this
   ·omega
   ·split at this
    ·omega
    ·split at this<;>omega
  ·cases ho
 | _=>simp [rootNew] at ho
theorem rootPl_at {σ:Nat→Nat} {base:Nat} {pl k:Option Nat} (h:rootPl pl k=true):∃ j,pl=some j∧∀ id,id=base+j→RootIs σ base k id:=by
 unfold rootPl at h
 split at h
 ·rename_i j
  simp only [zf,beq_iff_eq,decide_eq_true_eq] at h
  obtain ⟨rfl,hj⟩:=h
  exact ⟨j,rfl,fun id hid=>by simp only [RootIs,if_pos hj];exact hid⟩
 ·cases h
theorem exec_root {pl:Option Nat} {base:Nat} {k:Option Nat} {op:XOp} {sl:Nat→A} {h:Heap} {K:A→Heap→Prop} (R:RootsOk σ base rt dsts ⟨sl,h⟩)
  (ho:rootOp rt dsts pl k op=true) (hK:exec F (pl.map (base + ·)) op (ev sl) h K) :
  exec F (pl.map (base + ·)) op (ev sl) h fun r h'=>(∀ id,r.touch=some id→RootIs σ base k id)∧K r h':=by
 cases op<;>(try (simp [rootOp] at ho;done))
 case mov x =>
  exact ⟨rootOf_at R ho,hK⟩
 case loadp n g x =>
  have fin:∀ {l:List A} {h':Heap},loadsTo n g l (fun a=>a.touch=none∧K a h')→loadsTo n g l (fun a=>a.touch=none∧(∀ id,a.touch=some id→RootIs σ base k id)∧K a h'):=fun hl =>
   loadsTo_imp (fun a ha=>⟨ha.1,fun id hid=>(by rw [ha.1] at hid;cases hid),ha.2⟩) hl
  simp only [exec] at hK ⊢
  split at hK
  ·split at hK
   ·refine ⟨hK.1,?_⟩
    have hK:=hK.2
    split at hK
    ·exact fin hK
    ·exact hK
   ·exact hK
  ·exact fin hK
  ·exact hK
 case alloc e z =>
  obtain ⟨j,rfl,hr⟩:=rootPl_at (σ:=σ) (base:=base) ho
  simp only [exec,Option.map_some,place] at hK ⊢
  exact ⟨hK.1,fun id hid=>hr _ (by simp [A.touch] at hid;omega),hK.2⟩
 case box e x =>
  obtain ⟨j,rfl,hr⟩:=rootPl_at (σ:=σ) (base:=base) ho
  simp only [exec,Option.map_some,place] at hK ⊢
  exact ⟨hK.1,hK.2.1,hK.2.2.1,fun id hid=>hr _ (by simp [A.touch] at hid;omega),hK.2.2.2⟩
 case bslice e z n ps =>
  obtain ⟨j,rfl,hr⟩:=rootPl_at (σ:=σ) (base:=base) ho
  simp only [exec,Option.map_some,place] at hK ⊢
  exact rowsTo_imp _ _ (fun a ha=>⟨ha.1,fun id hid=>hr _ (by simp [A.touch] at hid;omega),ha.2⟩) hK
 case faddr off x =>
  have hr:=rootOf_at R ho
  simp only [exec] at hK ⊢
  generalize ev sl x=y at *
  cases y<;>try exact hK.elim
  ·exact ⟨fun id hid=>by simp [A.touch] at hid,hK⟩
  ·dsimp only at hK ⊢
   split at hK
   ·exact ⟨hK.1,fun id hid=>hr id (by simpa [A.touch] using hid),hK.2⟩
   ·exact hK.elim
 case nilck x =>
  have hr:=rootOf_at R ho
  simp only [exec] at hK ⊢
  generalize ev sl x=y at *
  cases y<;>try exact hK.elim
  ·exact ⟨fun id hid=>by simp [A.touch] at hid,hK⟩
  ·dsimp only at hK ⊢
   split at hK
   ·exact ⟨hK.1,fun id hid=>hr id (by simpa [A.touch] using hid),hK.2⟩
   ·exact hK.elim
  ·exact ⟨fun id hid=>by simp [A.touch] at hid,hK⟩
 case iaddr e x i =>
  have hr:=rootOf_at R ho
  simp only [exec] at hK ⊢
  split at hK
  ·exact ⟨hK.1,hK.2.1,hK.2.2.1,fun id hid=>by simp [A.touch] at hid,hK.2.2.2⟩
  ·exact ⟨hK.1,hK.2.1,hK.2.2.1,fun id hid=>by simp [A.touch] at hid,hK.2.2.2⟩
  ·exact ⟨hK.1,hK.2.1,hK.2.2.1,fun id hid=>by simp [A.touch] at hid,hK.2.2.2⟩
  ·rename_i heq _
   split at hK
   ·refine ⟨hK.1,hK.2.1,hK.2.2.1,hK.2.2.2.1,fun id hid=>hr id ?_,hK.2.2.2.2⟩
    rw [heq];simpa [A.touch] using hid
   ·exact hK.elim
  ·exact hK.elim
 case slice e x lo hi mx =>
  have hr:=rootOf_at R ho
  simp only [exec] at hK ⊢
  split at hK
  ·exact ⟨hK.1,hK.2.1,hK.2.2.1,fun id hid=>by simp [A.touch] at hid,hK.2.2.2⟩
  ·split at hK
   ·exact ⟨hK.1,hK.2.1,hK.2.2.1,hK.2.2.2.1,hK.2.2.2.2.1,fun id hid=>by unfold cutA at hid;split at hid<;>simp [A.touch] at hid,hK.2.2.2.2.2⟩
   ·exact hK.elim
  ·split at hK
   ·exact ⟨hK.1,hK.2.1,hK.2.2.1,hK.2.2.2.1,hK.2.2.2.2.1,fun id hid=>by unfold cutA at hid;split at hid<;>simp [A.touch] at hid,hK.2.2.2.2.2⟩
   ·exact hK.elim
  ·rename_i heq
   split at hK
   ·split at hK
    ·refine ⟨hK.1,hK.2.1,hK.2.2.1,hK.2.2.2.1,hK.2.2.2.2.1,hK.2.2.2.2.2.1,fun id hid=>hr id ?_,hK.2.2.2.2.2.2⟩
     rw [heq];simpa [A.touch] using hid
    ·exact hK.elim
   ·exact hK.elim
  ·exact hK.elim
 case append e x y =>
  simp only [rootOp,zf,beq_iff_eq] at ho
  obtain ⟨⟨rfl,hp⟩,hn⟩:=ho
  obtain ⟨j,rfl⟩:=Option.isSome_iff_exists.1 hp
  have hr:=rootNew_at R hn
  have big:∀ {id:Nat},base≤id→RootIs σ base (some 1000) id:=fun h=>by simpa [RootIs] using h
  simp only [exec,Option.map_some,place] at hK ⊢
  split at hK
  ·split at hK
   ·split at hK
    ·rw [if_pos ‹_›];exact ⟨fun id hid=>by simp [A.touch] at hid,hK⟩
    ·rw [if_neg ‹_›]
     exact ⟨hK.1,hK.2.1,hK.2.2.1,fun id hid=>big (by simp [A.touch] at hid;omega),hK.2.2.2⟩
   ·rename_i heq
    have hid:=hr _ (by rw [heq];rfl)
    split at hK
    ·obtain ⟨h1,h2,h3,h4,h5,hK⟩:=hK
     refine ⟨h1,h2,h3,h4,h5,?_⟩
     split at hK
     ·rw [if_pos ‹_›];exact ⟨fun i hi=>big (by simp [A.touch] at hi;omega),hK⟩
     ·rw [if_neg ‹_›];exact ⟨hK.1,hK.2.1,fun i hi=>big (by simp [A.touch] at hi;omega),hK.2.2⟩
    ·exact hK.elim
   ·exact ⟨hK.1,hK.2.1,hK.2.2.1,hK.2.2.2.1,hK.2.2.2.2.1,fun id hid=>big (by simp [A.touch] at hid;omega),hK.2.2.2.2.2⟩
   ·exact hK.elim
  ·exact hK.elim
theorem stepX_roots {base:Nat} {o:XOper} {s:St} {K:St→Prop} (R:RootsOk σ base rt dsts s) (ho:rootStep rt dsts o=true) (hK:stepX F base o s K):stepX F base o s fun s'=>RootsOk σ base rt dsts s'∧K s':=by
 unfold stepX at *
 split at hK
 ·rename_i op hl
  cases hd:o.dst with
  | none =>
   rw [hd] at hK
   exact exec_mono (fun r h' hr=>⟨R,hr⟩) hK
  | some d =>
   rw [hd] at hK
   simp only [rootStep,hd,zf] at ho
   obtain ⟨hc,ho⟩:=ho
   have keep:∀ (r:A) (h':Heap),(∀ k,rt.lookup d=some k→∀ id,r.touch=some id→RootIs σ base k id)→RootsOk σ base rt dsts ⟨put (some d) r s.slots,h'⟩:=by
    intro v h' hr n r hx id hid
    by_cases hn:n=d
    ·subst hn
     simp only [put,upd,if_true] at hid
     simp only [rootAt] at hx
     split at hx
     ·rename_i hk
      cases hx
      exact hr _ hk id hid
     ·rw [if_pos hc] at hx;cases hx
    ·simp only [put,upd,if_neg hn] at hid
     exact R n r hx id hid
   cases hk:rt.lookup d with
   | none=>exact exec_mono (fun r h' hr=>⟨keep r h' (fun k hk'=>by rw [hk] at hk';cases hk'),hr⟩) hK
   | some k =>
    rw [hk] at ho
    rcases live_cases hl with rfl | rfl
    ·refine exec_mono (fun r h' hr=>⟨keep r h' (fun k' hk'=>?_),hr.2⟩) (exec_root (h:=s.heap) R ho hK)
     rw [hk] at hk'
     cases hk'
     exact hr.1
    ·simp only [exec] at hK ⊢
     exact ⟨keep _ _ (fun k' _ id hid=>by simp [ev,A.touch] at hid),hK⟩
 ·exact hK.elim
theorem bubble {base:Nat} {q:XOper} {post:List XOper} {K:St→Prop}:∀ (pre:List XOper) (s:St),SigOk σ rt→(∀ p∈pre,rootStep rt dsts p=true∧Indep (sepOps rt dsts p.op q.op) p q)→RootsOk σ base rt dsts s→Clear q s→runX F base (pre++q::post) s K→stepX F base q s fun s'=>runX F base (pre++post) s' K:=by
 intro pre
 induction pre with
 | nil=>intro s _ _ _ _ hK;exact hK
 | cons p pre ih =>
  intro s hσ hi hR hc hK
  obtain ⟨hrp,hip⟩:=hi p (zW ..)
  have h1:=stepX_roots hR hrp (stepX_clear hip hc hK)
  have h2:stepX F base p s fun s1=>stepX F base q s1 fun s2=>runX F base (pre++post) s2 K :=
   stepX_mono (fun s1 hs=>ih s1 hσ (fun p hp=>hi p (zZ _ hp)) hs.1 hs.2.1 hs.2.2) h1
  exact swapX hip (fun hs=>sepOps_at hσ hR hs) hc h2
end Go.Proofs.YtlllnjhgjijnkaaDoor.Nx
namespace Go.Proofs.YtlllnjhgjijnkaaDoor.Nx
open Go
variable {P:Program} {w w':World} {M:Nat→Prop} {ρ ρ':Phys} {h h':Heap} {z:Still} {F:Fns}
def closT:List (List Nat)→List Nat→List Nat
 | [],acc=>acc
 | l::r,acc=>closT r (acc++[l.foldl (fun s k=>s ||| 2 ^ k ||| acc.getD k 0) 0])
theorem fold_bit {f:Nat→Nat} {j:Nat}:∀ (l:List Nat) (s0:Nat),(l.foldl (fun s k=>s ||| 2 ^ k ||| f k) s0).testBit j=true→s0.testBit j=true∨∃ k∈l,j=k∨(f k).testBit j=true
 | [],s0,h=>.inl h
 | k::l,s0,h=>by
  rcases fold_bit l _ h with h | ⟨k',hk,h⟩
  ·rw [Nat.testBit_or,Nat.testBit_or,Nat.testBit_two_pow] at h
   simp only [Bool.or_eq_true,decide_eq_true_eq] at h
   rcases h with (h | h) | h
   ·exact .inl h
   ·exact .inr ⟨k,zW .., .inl h.symm⟩
   ·exact .inr ⟨k,zW .., .inr h⟩
  ·exact .inr ⟨k',zZ _ hk,h⟩
theorem closT_spec:∀ (r pre:List (List Nat)) (acc:List Nat),acc.length=pre.length →
  (∀ i j,(acc.getD i 0).testBit j=true→∃ k∈pre.getD i [],j=k∨(k<i∧(acc.getD k 0).testBit j=true)) →
  ∀ i j,((closT r acc).getD i 0).testBit j=true→∃ k∈(pre++r).getD i [],j=k∨(k<i∧((closT r acc).getD k 0).testBit j=true)
 | [],pre,acc,hl,hg=>by simpa [closT] using hg
 | l::r,pre,acc,hl,hg=>by
  have:=closT_spec r (pre++[l]) (acc++[l.foldl (fun s k=>s ||| 2 ^ k ||| acc.getD k 0) 0]) (by simp [hl]) ?_
  ·simpa [closT] using this
  ·intro i j hb
   simp only [zC] at hb hg ⊢
   rcases Nat.lt_trichotomy i acc.length with hlt | heq | hgt
   ·rw [zF hlt] at hb
    obtain ⟨k,hk,h⟩:=hg i j hb
    refine ⟨k,by rw [zF (by omega)];exact hk,?_⟩
    rcases h with h | ⟨h1,h2⟩
    ·exact .inl h
    ·exact .inr ⟨h1,by rw [zF (by omega)];exact h2⟩
   ·subst heq
    rw [zG (zL _)] at hb
    simp only [Nat.sub_self,List.getElem?_cons_zero,Option.getD_some] at hb
    rcases fold_bit l 0 hb with h | ⟨k,hk,h⟩
    ·simp at h
    ·refine ⟨k,by rw [zG (by omega)];simpa [hl] using hk,?_⟩
     rcases h with h | h
     ·exact .inl h
     ·have hlt:k<acc.length:=by
       rcases Nat.lt_or_ge k acc.length with h' | h'
       ·exact h'
       ·rw [zk h'] at h;simp at h
      exact .inr ⟨hlt,by rw [zF hlt];exact h⟩
   ·rw [zk (by simp;omega)] at hb
    simp at hb
def aftOf (o:Oper):List Nat:=(o.after.toList.filter (Region.binds .any)).map (·.on)
def hxOk (x:XOper):Bool:=x.op.hx.all fun y=>match y with
 | .k a=>a.touch.isNone
 | _=>true
def pairsOk (rt:List (Nat × Option Nat)) (dsts:List Nat) (tab:List Nat) (xs:List XOper):Bool :=
 (List.range xs.length).all fun i=>(List.range i).all fun j=>(tab.getD i 0).testBit j||match xs[j]?,xs[i]? with
  | some p,some q=>indep (sepOps rt dsts p.op q.op) p q
  | _,_=>false
def dstsOf (xs:List XOper):List Nat:=xs.filterMap (·.dst)
def drawOk (rt:List (Nat × Option Nat)) (ops:Array Oper) (xs:List XOper):Bool :=
 let afts:=ops.toList.map aftOf
 pairsOk rt (dstsOf xs) (closT afts []) xs&&xs.all hxOk&&xs.all (rootStep rt (dstsOf xs))&&(List.range afts.length).all fun i=>(afts.getD i []).all fun k=>decide (k<i)
theorem anc_listed {afts:List (List Nat)} {tab:List Nat} {L:Nat→Prop} (ht:∀ i j,(tab.getD i 0).testBit j=true→∃ k∈afts.getD i [],j=k∨(k<i∧(tab.getD k 0).testBit j=true))
  (hL:∀ i,L i→∀ k∈afts.getD i [],L k):∀ (n i j:Nat),i<n→(∀ k∈afts.getD i [],L k)→(tab.getD i 0).testBit j=true→L j
 | 0,i,j,hn,_,_=>absurd hn (Nat.not_lt_zero _)
 | n+1,i,j,hn,ha,hb=>by
  obtain ⟨k,hk,h⟩:=ht i j hb
  rcases h with rfl | ⟨hlt,h⟩
  ·exact ha _ hk
  ·exact anc_listed ht hL n k j (by omega) (hL k (ha k hk)) h
theorem touch_clear {s:St} {a:Act} {q:XOper} (S:Sim z w M ρ s a) (hq:hxOk q=true):Clear q s:=by
 intro x hx id hid
 simp only [hxOk,List.all_eq_true] at hq
 have hx:=hq x hx
 cases x with
 | t n =>
  simp only [ev] at hid
  have hr:=S.slots n
  generalize s.slots n=y at hid hr
  generalize valAt a.tmps n=v at hr
  cases hr<;>simp only [A.touch,zH] at hid<;>first | (cases hid;done) | (subst hid;exact ⟨_, ‹_›, by simp⟩)
 | k b=>simp only [ev] at hid;simp [hid] at hx
 | f g=>simp [ev,A.touch] at hid
theorem getD_iff {l:Array Bool} {k:Nat} (hk:k<l.size) (b:Bool):l.getD k b=l[k]:=by simp [Array.getD,hk]
theorem drawn_any {σ:Nat→Nat} (hF:FnsOk z.Γ P F) {rl:Option Nat} {ops:Array Oper} {xs:List XOper} {base:Nat} {K:St→Prop} {Q:Exit→Act→World→Prop} (H:OpsAre P z.n ops xs) {rt:List (Nat × Option Nat)} (hσ:SigOk σ rt) (ok:drawOk rt ops xs=true) :
  ∀ (fuel:Nat) (l:List Nat) (listed:Array Bool) (s:St) (ρ:Phys) (a:Act) (w:World),listed.size=ops.size→(∀ i,i∈l↔i<ops.size∧listed.getD i true=false)→l.Pairwise (· < ·)→l.length≤fuel →
   (∀ i,i<ops.size→i ∉ l→∀ k∈(ops.toList.map aftOf).getD i [],k ∉ l) →
   Sim z w M ρ s a→RootsOk σ base rt (dstsOf xs) s→runX F base (l.filterMap (xs[·]?)) s K→(∀ s' ρ' a' w',K s'→Sim z w' M ρ' s' a'→Evo s.heap.length s.heap ρ w s'.heap ρ' w'→Q .normal a' w') →
   wpAnyIn (Fw rl) 0 P .any ops Q fuel listed a w:=by
 simp only [drawOk,zf,List.all_eq_true,List.mem_range,decide_eq_true_eq] at ok
 obtain ⟨⟨⟨okP,okH⟩,okR⟩,okB⟩:=ok
 have tabS:=closT_spec (ops.toList.map aftOf) [] [] rfl (by simp)
 simp only [List.nil_append] at tabS
 generalize closT (ops.toList.map aftOf) []=tab at *
 -- an operation that is ready
 have isReady:∀ {l:List Nat} {listed:Array Bool},listed.size=ops.size→(∀ i,i∈l↔i<ops.size∧listed.getD i true=false)→∀ i,i∈Region.ready .any ops listed↔i∈l∧∀ k∈(ops.toList.map aftOf).getD i [],k<ops.size∧k ∉ l:=by
  intro l listed hsz hl i
  simp only [Region.ready,List.mem_filter,List.mem_range,zf,Bool.not_eq_true']
  constructor
  ·rintro ⟨hi,h1,h2⟩
   refine ⟨(hl i).2 ⟨hi,h1⟩,fun k hk=>?_⟩
   rw [Array.getElem?_eq_getElem hi] at h2
   simp only [Option.map_some,Option.getD_some,Array.all_eq_true,Bool.or_eq_true,Bool.not_eq_true'] at h2
   simp only [zC,zK,Array.getElem?_toList,Array.getElem?_eq_getElem hi,Option.map_some,Option.getD_some,aftOf,List.mem_map,List.mem_filter] at hk
   obtain ⟨e,⟨he,hb⟩,rfl⟩:=hk
   obtain ⟨j,hj,rfl⟩:=Array.mem_iff_getElem.1 (Array.mem_toList_iff.1 he)
   have h2:=h2 j hj
   rcases h2 with h2 | h2
   ·rw [hb] at h2;cases h2
   ·have hk:ops[i].after[j].on<listed.size:=by
     rcases Nat.lt_or_ge ops[i].after[j].on listed.size with h' | h'
     ·exact h'
     ·simp [Array.getD,Nat.not_lt.2 h'] at h2
    refine ⟨hsz ▸ hk,fun hm=>?_⟩
    have:=((hl _).1 hm).2
    rw [getD_iff hk] at this h2
    rw [this] at h2;cases h2
  ·rintro ⟨hi,h2⟩
   obtain ⟨hi,h1⟩:=(hl i).1 hi
   refine ⟨hi,h1,?_⟩
   rw [Array.getElem?_eq_getElem hi]
   simp only [Option.map_some,Option.getD_some,Array.all_eq_true,Bool.or_eq_true,Bool.not_eq_true']
   intro j hj
   cases hb:Region.binds .any ops[i].after[j] with
   | false=>exact .inl rfl
   | true =>
    refine .inr ?_
    obtain ⟨hk,hn⟩:=h2 ops[i].after[j].on (by
     simp only [zC,zK,Array.getElem?_toList,Array.getElem?_eq_getElem hi,Option.map_some,Option.getD_some,aftOf,List.mem_map,List.mem_filter]
     exact ⟨_,⟨by simp,hb⟩,rfl⟩)
    rw [← hsz] at hk
    rw [getD_iff hk]
    cases hv:listed[ops[i].after[j].on] with
    | true=>rfl
    | false=>exact absurd ((hl _).2 ⟨hsz ▸ hk,by rw [getD_iff hk];exact hv⟩) hn
 -- where nothing is ready, nothing is left
 have isDone:∀ {l:List Nat} {listed:Array Bool},listed.size=ops.size→(∀ i,i∈l↔i<ops.size∧listed.getD i true=false)→l.Pairwise (· < ·)→Region.ready .any ops listed=[]→l=[]:=by
  intro l listed hsz hl hp hr
  cases l with
  | nil=>rfl
  | cons i l =>
   exfalso
   have hi:i<ops.size:=((hl i).1 (zW ..)).1
   have:i∈Region.ready .any ops listed:=(isReady hsz hl i).2 ⟨zW .., fun k hk=>by
    have hlt:=okB i (by simpa using hi) k hk
    refine ⟨by omega,fun hm=>?_⟩
    rcases List.mem_cons.1 hm with rfl | hm
    ·exact Nat.lt_irrefl _ hlt
    ·have:=(List.pairwise_cons.1 hp).1 k hm;omega⟩
   rw [hr] at this
   cases this
 intro fuel
 induction fuel with
 | zero =>
  intro l listed s ρ a w hsz hl hp hlen hcl S hR hK hn
  have:l=[]:=List.eq_nil_of_length_eq_zero (by omega)
  subst this
  refine ⟨?_,hn s ρ a w hK S (.refl _ _ _ _ (zL _))⟩
  rw [List.eq_nil_iff_forall_not_mem]
  intro i hi
  have:=((isReady hsz hl i).1 hi).1
  cases this
 | succ fuel ih =>
  intro l listed s ρ a w hsz hl hp hlen hcl S hR hK hn
  refine ⟨fun hr=>?_,fun i hi=>?_⟩
  ·have:=isDone hsz hl hp hr
   subst this
   exact hn s ρ a w hK S (.refl _ _ _ _ (zL _))
  ·obtain ⟨hil,hik⟩:=(isReady hsz hl i).1 hi
   obtain ⟨pre,post,rfl⟩:=List.append_of_mem hil
   have hilt:i<ops.size:=((hl i).1 hil).1
   have ho:ops[i]? = some ops[i]:=Array.getElem?_eq_getElem hilt
   obtain ⟨q,hq⟩:∃ q,xs[i]? = some q:=⟨_,List.getElem?_eq_getElem (by rw [H.len];exact hilt)⟩
   simp only [List.filterMap_append,List.filterMap_cons,hq] at hK
   have hpre:∀ j∈pre,j<i:=fun j hj=>(List.pairwise_append.1 hp).2.2 j hj i (zW ..)
   have hpost:∀ j∈post,i<j:=fun j hj=>(List.pairwise_cons.1 (List.pairwise_append.1 hp).2.1).1 j hj
   have hind:∀ p∈pre.filterMap (xs[·]?),rootStep rt (dstsOf xs) p=true∧Indep (sepOps rt (dstsOf xs) p.op q.op) p q:=by
    intro p hp'
    obtain ⟨j,hj,hjp⟩:=List.mem_filterMap.1 hp'
    refine ⟨okR p (List.mem_iff_getElem?.2 ⟨j,hjp⟩),?_⟩
    have hlt:=hpre j hj
    have:=okP
    simp only [pairsOk,List.all_eq_true,List.mem_range] at this
    have:=this i (by rw [H.len];exact hilt) j hlt
    rw [hjp,hq] at this
    simp only [Bool.or_eq_true] at this
    rcases this with hb | hb
    ·exfalso
     refine anc_listed (L:=fun k=>k<ops.size∧k ∉ pre++i::post) tabS (fun i' hi' k hk=>?_) (i+1) i j (Nat.lt_succ_self _) (fun k hk=>hik k hk) hb |>.2 (List.mem_append_left _ hj)
     have:=okB i' (by simpa using hi'.1) k hk
     exact ⟨by omega,hcl i' hi'.1 hi'.2 k hk⟩
    ·exact .of hb
   have hcq:Clear q s:=touch_clear S (okH q (List.mem_iff_getElem?.2 ⟨i,hq⟩))
   have hstep:=stepX_roots hR (okR q (List.mem_iff_getElem?.2 ⟨i,hq⟩)) (bubble _ s hσ hind hR hcq hK)
   refine step_sound hF ho (H.get i _ q ho hq) (fun m hm=>H.dst i q m hq hm) S hstep fun s' ρ' a' w' ⟨hR',hk⟩ S' g=>?_
   have hmem:∀ j,j∈pre++post↔j∈pre++i::post∧j≠i:=by
    intro j
    simp only [List.mem_append,List.mem_cons]
    constructor
    ·rintro (hj | hj)
     ·exact ⟨.inl hj,by have:=hpre j hj;omega⟩
     ·exact ⟨.inr (.inr hj),by have:=hpost j hj;omega⟩
    ·rintro ⟨hj | rfl | hj,hne⟩
     ·exact .inl hj
     ·exact absurd rfl hne
     ·exact .inr hj
   refine ih (pre++post) _ s' ρ' a' w' (by simp [hsz]) (fun j=>?_) ?_ ?_ (fun j hj hjn k hk hkm=>?_) S' hR' (by simpa [List.filterMap_append] using hk) fun s'' ρ'' a'' w'' hk' S'' g'=>hn s'' ρ'' a'' w'' hk' S'' (g.trans (g'.mono g.len))
   ·rw [hmem,hl j]
    simp only [Array.getD_eq_getD_getElem?,Array.getElem?_setIfInBounds]
    constructor
    ·rintro ⟨⟨h1,h2⟩,h3⟩
     exact ⟨h1,by rw [if_neg (fun e=>h3 e.symm)];exact h2⟩
    ·rintro ⟨h1,h2⟩
     split at h2
     ·rw [if_pos (by omega)] at h2;simp at h2
     ·exact ⟨⟨h1,h2⟩,fun e=>by omega⟩
   ·rw [List.pairwise_append] at hp ⊢
    refine ⟨hp.1,(List.pairwise_cons.1 hp.2.1).2,fun x hx y hy=>hp.2.2 x hx y (zZ _ hy)⟩
   ·simp only [List.length_append,List.length_cons] at hlen ⊢; omega
   ·have hkm':=(hmem k).1 hkm
    by_cases hji:j=i
    ·subst hji;exact (hik k hk).2 hkm'.1
    ·exact hcl j hj (fun hm=>hjn ((hmem j).2 ⟨hm,hji⟩)) k hk hkm'.1
theorem filterMap_range {α:Type}:∀ (l:List α),(List.range l.length).filterMap (l[·]?)=l
 | []=>rfl
 | x::l=>by
  rw [List.length_cons,List.range_succ_eq_map,List.filterMap_cons]
  simp only [List.getElem?_cons_zero,List.filterMap_map]
  congr 1
  have:((fun x_1=>(x::l)[x_1]?) ∘ Nat.succ)=(l[·]?):=by funext i;simp
  rw [this,filterMap_range l]
theorem region_sound (hF:FnsOk z.Γ P F) {rl:Option Nat} {id:Nat} {ops:Array Oper} {xs:List XOper} {s:St} {a:Act} {K:St→Prop} {Q:Exit→Act→World→Prop} (H:OpsAre P z.n ops xs) (S:Sim z w M ρ s a) (hK:runX F s.heap.length xs s K)
  (hn:∀ s' ρ' a' w',K s'→Sim z w' M ρ' s' a'→Evo s.heap.length s.heap ρ w s'.heap ρ' w'→Q .normal a' w'):(Code.region id ops false).wpIn (Fw rl) 0 P Q a w :=
 wpIn_region (ops_sound hF H _ s ρ a w S (by rw [← H.len,filterMap_range];exact hK) hn)
theorem drawn_sound {σ:Nat→Nat} (hF:FnsOk z.Γ P F) (hm:P.follows .mixedOrders=true) {rl:Option Nat} {id n:Nat} {ops:Array Oper} {xs:List XOper} {s:St} {a:Act} {K:St→Prop} {Q:Exit→Act→World→Prop} (H:OpsAre P z.n ops xs) {rt:List (Nat × Option Nat)} (hσ:SigOk σ rt) (ok:drawOk rt ops xs=true) (hrt:∀ p∈rt,∀ id,(s.slots p.1).touch=some id→RootIs σ s.heap.length p.2 id) (S:Sim z w M ρ s a)
  (hK:runX F s.heap.length xs { s with heap:=s.heap++List.replicate n .res } K)
  (hn:∀ s' ρ' a' w',K s'→Sim z w' M ρ' s' a'→Evo s.heap.length s.heap ρ w s'.heap ρ' w'→Q .normal a' w'):(Code.region id ops true).wpIn (Fw rl) 0 P Q a w:=by
 have g1:Evo s.heap.length s.heap ρ w s.heap ρ w.drew:=.drew _ (zL _)
 have g2:Evo s.heap.length s.heap ρ w.drew (s.heap++List.replicate n .res) (ρ++List.replicate n none) w.drew:=.reserve n S.sim.len
 have g:=g1.trans g2
 have S':Sim z w.drew M (ρ++List.replicate n none) { s with heap:=s.heap++List.replicate n .res } a:=⟨S.bnd,S.sim.drew.reserve n,S.slots.evo g,S.size,S.nlt,S.tabs.evo g,S.defers.evo g⟩
 refine wpIn_region_any hm (drawn_any (σ:=σ) hF H hσ ok ops.size (List.range ops.size) _ _ _ a _ (by simp) (fun i=>?_) List.pairwise_lt_range (by simp) (fun i hi hni=>absurd (List.mem_range.2 hi) hni) S' (fun n r hr id hid=>?_) (by rw [← H.len,filterMap_range];exact hK) fun s' ρ' a' w' hk S'' g'=>hn s' ρ' a' w' hk S'' (g.trans (g'.mono (by simp))))
 ·simp only [List.mem_range]
  constructor
  ·intro hi;exact ⟨hi,by simp [Array.getD,hi]⟩
  ·intro hi;exact hi.1
 ·dsimp only at hid
  simp only [rootAt] at hr
  split at hr
  ·rename_i k hk
   cases hr
   exact hrt _ (mem_of_lookup hk) id hid
  ·split at hr
   ·cases hr
   ·cases hr
    have hu:=(S.slots n).under
    generalize s.slots n=x at hid hu
    cases x<;>simp [A.touch] at hid<;>subst hid<;>simpa [A.under,RootIs] using hu
end Go.Proofs.YtlllnjhgjijnkaaDoor.Nx

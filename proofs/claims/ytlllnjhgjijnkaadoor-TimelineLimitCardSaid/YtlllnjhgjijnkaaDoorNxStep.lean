import Derived.Test.YtlllnjhgjijnkaaDoorNxDraw
import Derived.RangeFuncRecord
set_option linter.unusedSimpArgs false
set_option linter.unusedVariables false
set_option linter.unnecessarySimpa false
open List renaming getElem?_eq_some_iff → zA, getElem?_append_left → zF
open Option renaming bind_eq_some_iff → zD, bind_eq_bind → zJ
open Option.some renaming injEq → zH
open Array renaming getD_eq_getD_getElem? → zR
open Bool renaming and_eq_true → zf
namespace Go.Proofs.YtlllnjhgjijnkaaDoor.Nx
open Go
structure XOper where
 dst:Option Nat
 op:XOp
 guard:Option (Nat × Bool):=none
 pl:Option Nat:=none
structure St where
 slots:Nat→A
 heap:Heap
abbrev undefA:A:=.tup []
def upd (s:Nat→A) (d:Nat) (r:A) (n:Nat):A:=if n=d then r else s n
def put (d:Option Nat) (r:A) (s:Nat→A):Nat→A :=
 match d with
 | some d=>upd s d r
 | none=>s
def XOper.live (o:XOper) (sl:Nat→A):Option XOp :=
 match o.guard with
 | none=>some o.op
 | some (g,b)=>match sl g with
  | .d (.sc (.bool c))=>if c=b then some o.op else some (.mov (.k undefA))
  | .tup []=>some (.mov (.k undefA))
  | _=>none
def stepX (F:Fns) (base:Nat) (o:XOper) (s:St) (K:St→Prop):Prop :=
 match o.live s.slots with
 | some op=>exec F (o.pl.map (base + ·)) op (ev s.slots) s.heap fun r h=>K ⟨put o.dst r s.slots,h⟩
 | none=>False
def runX (F:Fns) (base:Nat):List XOper→St→(St→Prop)→Prop
 | [],s,K=>K s
 | o::os,s,K=>stepX F base o s fun s'=>runX F base os s' K
def XOp.heapFree (op:XOp):Bool:=op.hx.isEmpty && !op.pushes && !op.isCalle
def XOp.isR:XOp→Bool
 | .callr _ _=>true
 | _=>false
def XOp.still (op:XOp):Bool := !op.writes && !op.pushes && !op.isCalle
def classOk (sep:Bool) (p q:XOp):Bool :=
 p.heapFree||q.heapFree||(p.isR&&q.still)||(p.still&&q.isR)||(!p.isCalle && !q.isCalle&&(!p.writes||q.hx.isEmpty||(sep && !q.pushes))&&(!q.writes||p.hx.isEmpty||(sep && !p.pushes)))
theorem hx_writes {op:XOp} (h:op.hx=[]):op.writes=false:=by
 cases op<;>first | rfl | simp [XOp.hx] at h
theorem exec_eff {F:Fns} {pl:Option Nat} {op:XOp} {ev:XO→A} {h:Heap} {K:A→Heap→Prop} (hK:exec F pl op ev h K):∃ r h',K r h'∧OneSet op pl ev h h h' h'∧exec F pl op ev h (fun a b=>a=r∧b=h'):=by
 have:=exec_agree (h1:=h) (K':=fun a b=>K a b∧OneSet op pl ev h h b b) (fun _=>rfl) (fun _ _ _ _=>rfl) (fun _=>⟨fun _ _=>rfl,fun _=>rfl⟩) (fun r h' h1' o hr=>by have e:=o.same;subst e;exact ⟨hr,o⟩) hK
 obtain ⟨r,h',a,b⟩:=exec_wit this
 exact ⟨r,h',a.1,a.2,b⟩
theorem exec_free {F:Fns} {pl:Option Nat} {op:XOp} {ev:XO→A} {h h1:Heap} {K K':A→Heap→Prop} (hf:op.heapFree=true) (hk:∀ r,K r h→K' r h1) (hK:exec F pl op ev h K):exec F pl op ev h1 K':=by
 simp only [XOp.heapFree,zf,List.isEmpty_iff,Bool.not_eq_true'] at hf
 obtain ⟨⟨h1,h2⟩,h3⟩:=hf
 refine exec_agree (fun hc=>by rw [h3] at hc;cases hc) (fun x hx=>by rw [h1] at hx;cases hx) (fun hp=>by rw [h2] at hp;cases hp) (fun r h' h1' o hr=>?_) hK
 rcases o with ⟨rfl,rfl⟩ | ⟨id,X,hid,_⟩ | ⟨hp,_⟩ | ⟨hc,_⟩
 ·exact hk _ hr
 ·rcases hid with ⟨hw,_⟩ | ⟨hp,_⟩
  ·rw [hx_writes h1] at hw;cases hw
  ·rw [h2] at hp;cases hp
 ·rw [h2] at hp;cases hp
 ·rw [h3] at hc;cases hc
theorem exec_still {F:Fns} {pl:Option Nat} {op:XOp} {ev:XO→A} {h h1:Heap} {K K':A→Heap→Prop} (hf:op.still=true) (hx:∀ x∈op.hx,∀ id,(ev x).touch=some id→h1[id]? = h[id]?) (hk:∀ r,K r h→K' r h1) (hK:exec F pl op ev h K):exec F pl op ev h1 K':=by
 simp only [XOp.still,zf,Bool.not_eq_true'] at hf
 obtain ⟨⟨h0,h2⟩,h3⟩:=hf
 refine exec_agree (fun hc=>by rw [h3] at hc;cases hc) hx (fun hp=>by rw [h2] at hp;cases hp) (fun r h' h1' o hr=>?_) hK
 rcases o with ⟨rfl,rfl⟩ | ⟨id,X,hid,_⟩ | ⟨hp,_⟩ | ⟨hc,_⟩
 ·exact hk _ hr
 ·rcases hid with ⟨hw,_⟩ | ⟨hp,_⟩
  ·rw [h0] at hw;cases hw
  ·rw [h2] at hp;cases hp
 ·rw [h2] at hp;cases hp
 ·rw [h3] at hc;cases hc
theorem exec_isR {F:Fns} {pl:Option Nat} {op:XOp} {ev:XO→A} {h:Heap} {K:A→Heap→Prop} (hf:op.isR=true) (hK:exec F pl op ev h K):∃ r t,K r (h++t)∧exec F pl op ev h fun a b=>a=r∧b=h++t:=by
 cases op<;>first | (cases hf;done) | skip
 simp only [exec] at hK ⊢
 split at hK
 ·obtain ⟨r,t,hr,hk⟩:=hK
  exact ⟨r,t,hk,r,t,hr,rfl,rfl⟩
 ·exact hK.elim
theorem exec_pl {F:Fns} {b:Nat} {op:XOp} {ev:XO→A} {h:Heap} {K:A→Heap→Prop} (hp:op.pushes=true) (hx:op.hx=[]) (hK:exec F (some b) op ev h K):h[b]? = some .res:=by
 have place1:∀ {B:HB} {K:Nat→Heap→Prop},place (some b) h B K→h[b]? = some .res:=fun hk=>hk.1
 have rows1:∀ {n:Nat} (l:List (Nat × A)) (rows:List (List A)) {K:List (List A)→Prop},rowsTo n rows l K→∃ rows',K rows':=fun l rows K hk=>let ⟨r,a,_⟩:=rowsTo_wit l rows hk;⟨r,a⟩
 cases op<;>first | (cases hp;done) | skip
 ·simp only [exec] at hK;exact place1 hK
 ·simp only [exec] at hK;exact place1 hK.2.2
 ·simp only [exec] at hK;obtain ⟨_,hK⟩:=rows1 _ _ hK;exact place1 hK
 ·simp [XOp.hx] at hx
 ·simp only [exec] at hK
  split at hK
  ·exact place1 hK.2.2.2.2
  ·exact hK.elim
 ·simp only [exec] at hK
  split at hK
  ·exact place1 hK
  ·exact hK.elim
theorem ev_put {d:Option Nat} {r:A} {l:Nat→A} {x:XO} (h:∀ n,d=some n→n ∉ x.slots):ev (put d r l) x=ev l x:=by
 cases d with
 | none=>rfl
 | some d =>
  cases x with
  | t n =>
   have:d≠n:=fun e=>h d rfl (by simp [XO.slots,e])
   simp [ev,put,upd,Ne.symm this]
  | k _=>rfl
  | f _=>rfl
theorem exec_put {F:Fns} {pl:Option Nat} {op:XOp} {d:Option Nat} {r:A} {l:Nat→A} {h:Heap} {K:A→Heap→Prop} (hd:∀ n,d=some n→n ∉ op.slots):exec F pl op (ev (put d r l)) h K=exec F pl op (ev l) h K :=
 exec_ev fun x hx=>ev_put fun n hn hc=>hd n hn (hx n hc)
theorem put_comm {d e:Option Nat} {r t:A} {l:Nat→A} (h:∀ n,d=some n→e≠some n):put d r (put e t l)=put e t (put d r l):=by
 cases d with
 | none=>rfl
 | some d=>cases e with
  | none=>rfl
  | some e =>
   have:d≠e:=fun hh=>h d rfl (by rw [hh])
   funext n
   simp only [put,upd]
   by_cases h1:n=d
   ·subst h1;simp [this]
   ·simp [h1]
theorem exec_swap {F:Fns} {plp plq:Option Nat} {p q:XOp} {sl:Nat→A} {h:Heap} {dp dq:Option Nat} {K:St→Prop} {sep:Bool} (hc:classOk sep p q=true) (hs:sep=true→(∀ x∈p.tg,∀ y∈q.hx,∀ id,(ev sl x).touch=some id→(ev sl y).touch≠some id)∧(∀ x∈p.hx,∀ y∈q.tg,∀ id,(ev sl x).touch=some id→(ev sl y).touch≠some id))
  (h1:∀ n,dq=some n→n ∉ p.slots) (h2:∀ n,dp=some n→n ∉ q.slots) (h3:∀ n,dp=some n→dq≠some n)
  (hpp:p.pushes=true→plp.isSome=true) (hpq:q.pushes=true→plq.isSome=true) (hne:p.pushes=true→q.pushes=true→plp≠plq)
  (T:∀ x∈q.hx,∀ id,(ev sl x).touch=some id→∃ B,h[id]? = some B∧B ≠ .res)
  (H:exec F plp p (ev sl) h fun r1 ha=>exec F plq q (ev (put dp r1 sl)) ha fun r2 hb=>K ⟨put dq r2 (put dp r1 sl),hb⟩) :
  exec F plq q (ev sl) h fun r2 hb=>exec F plp p (ev (put dq r2 sl)) hb fun r1 hc=>K ⟨put dp r1 (put dq r2 sl),hc⟩:=by
 obtain ⟨r1,ha,H1,op,Hp⟩:=exec_eff H
 rw [exec_put h2] at H1
 obtain ⟨r2,hb,HK,oq,Hq⟩:=exec_eff H1
 rw [← put_comm h3] at HK
 have hcase:p.heapFree=true∨q.heapFree=true∨(p.isR=true∧q.still=true)∨(p.still=true∧q.isR=true)∨(p.isCalle=false∧q.isCalle=false∧(p.writes=true→q.hx=[]∨(sep=true∧q.pushes=false))∧(q.writes=true→p.hx=[]∨(sep=true∧p.pushes=false))):=by
  simp only [classOk,Bool.or_eq_true,zf,Bool.not_eq_true',List.isEmpty_iff] at hc
  rcases hc with (((hc | hc) | hc) | hc) | ⟨⟨⟨a,b⟩,c⟩,d⟩
  ·exact .inl hc
  ·exact .inr (.inl hc)
  ·exact .inr (.inr (.inl hc))
  ·exact .inr (.inr (.inr (.inl hc)))
  ·refine .inr (.inr (.inr (.inr ⟨a,b,fun hw=>?_,fun hw=>?_⟩)))
   ·rcases c with (c | c) | c
    ·rw [hw] at c;cases c
    ·exact .inl c
    ·exact .inr c
   ·rcases d with (c | c) | c
    ·rw [hw] at c;cases c
    ·exact .inl c
    ·exact .inr c
 rcases hcase with hf | hf | ⟨hf,hg⟩ | ⟨hf,hg⟩ | ⟨cp,cq,wp,wq⟩
 ·have hh:ha=h:=by
   have:=exec_free (K':=fun _ b=>h=b) (h1:=h) hf (fun r hr=>rfl) Hp
   obtain ⟨_,b,e,_,Hx⟩:=exec_eff Hp
   have:=exec_free (K':=fun _ _=>ha=h) (h1:=h) hf (fun r hr=>hr.2.symm) Hp
   obtain ⟨_,_,e,_⟩:=exec_eff this
   exact e
  subst hh
  refine exec_mono (fun a b hab=>?_) Hq
  obtain ⟨rfl,rfl⟩:=hab
  rw [exec_put h1]
  exact exec_free hf (fun r hr=>by obtain ⟨rfl,_⟩:=hr;exact HK) Hp
 ·have hh:hb=ha:=by
   have:=exec_free (K':=fun _ _=>hb=ha) (h1:=h) hf (fun r hr=>hr.2.symm) Hq
   obtain ⟨_,_,e,_⟩:=exec_eff this
   exact e
  subst hh
  refine exec_free hf (fun r hr=>?_) Hq
  obtain ⟨rfl,_⟩:=hr
  rw [exec_put h1]
  exact exec_mono (fun a b hab=>by obtain ⟨rfl,rfl⟩:=hab;exact HK) Hp
 ·-- p is a call that leaves all blocks
  obtain ⟨r1',t,⟨rfl,rfl⟩,Hp'⟩:=exec_isR hf Hp
  have hh:hb=h++t:=by
   have:=exec_still (K':=fun _ _=>hb=h++t) (h1:=h++t) hg (fun _ _ _ _=>rfl) (fun r hr=>hr.2.symm) Hq
   obtain ⟨_,_,e,_⟩:=exec_eff this
   exact e
  subst hh
  refine exec_still hg (fun x hx id hid=>?_) (fun r hr=>?_) Hq
  ·obtain ⟨B,hB,_⟩:=T x hx id hid
   rw [zF (zA.1 hB).1]
  ·obtain ⟨rfl,_⟩:=hr
   rw [exec_put h1]
   exact exec_mono (fun a b hab=>by obtain ⟨rfl,rfl⟩:=hab;exact HK) Hp
 ·-- q is
  have hh:ha=h:=by
   have:=exec_still (K':=fun _ _=>ha=h) (h1:=h) hf (fun _ _ _ _=>rfl) (fun r hr=>hr.2.symm) Hp
   obtain ⟨_,_,e,_⟩:=exec_eff this
   exact e
  subst hh
  obtain ⟨r2',t,⟨rfl,rfl⟩,Hq'⟩:=exec_isR hg Hq
  refine exec_mono (fun a b hab=>?_) Hq
  obtain ⟨rfl,rfl⟩:=hab
  rw [exec_put h1]
  refine exec_still hf (fun x hx id hid=>?_) (fun r hr=>?_) Hp
  ·obtain ⟨e0,rows,hcell⟩:=exec_hx Hp x hx id hid
   rw [zF (zA.1 hcell).1]
  ·obtain ⟨rfl,_⟩:=hr
   exact HK
 ·-- what p changed
  have effp:∀ {ha':Heap},OneSet p plp (ev sl) h h ha' ha'→ha'=h∨∃ id X,Hit p plp (ev sl) h id∧X≠HB.res∧ha'=h.set id X:=by
   intro ha' o
   rcases o with ⟨a,_⟩ | ⟨id,X,a,b,c,_⟩ | ⟨a,b,_⟩ | ⟨a,_⟩
   ·exact .inl a
   ·exact .inr ⟨id,X,a,b,c⟩
   ·have:=hpp a;rw [b] at this;cases this
   ·rw [cp] at a;cases a
  -- a block that p changed is none that q looks into, nor q's place
  have sepHx:∀ idp,Hit p plp (ev sl) h idp→∀ x∈q.hx,∀ id,(ev sl x).touch=some id→idp≠id:=by
   intro idp hit x hx id hid e
   subst e
   rcases hit with ⟨hw,x',hx',hid'⟩ | ⟨_,_,hr⟩
   ·rcases wp hw with e | ⟨e,_⟩
    ·rw [e] at hx;cases hx
    ·exact (hs e).1 x' hx' x hx _ hid' hid
   ·obtain ⟨B,hB,hn⟩:=T x hx _ hid
    rw [hr] at hB;cases hB;exact hn rfl
  have sepPl:∀ idp,Hit p plp (ev sl) h idp→q.pushes=true→plq≠some idp:=by
   intro idp hit hq e
   rcases hit with ⟨hw,x,hx,hid⟩ | ⟨hp,hpl,_⟩
   ·have hnil:q.hx=[]:=by
     rcases wp hw with e' | ⟨_,e'⟩
     ·exact e'
     ·rw [hq] at e';cases e'
    have hr:ha[idp]? = some .res:=exec_pl hq hnil (by rw [e] at Hq;exact Hq)
    obtain ⟨e0,rows,hcell⟩:=exec_hx Hp x (tg_hx hx) idp hid
    rcases effp op with rfl | ⟨id,X,_,hX,rfl⟩
    ·rw [hr] at hcell;cases hcell
    ·rw [List.getElem?_set] at hr
     split at hr
     ·split at hr
      ·exact hX (by injection hr)
      ·cases hr
     ·rw [hr] at hcell;cases hcell
   ·exact hne hp hq (by rw [hpl,e])
  have agq:∀ id,(∀ idp,Hit p plp (ev sl) h idp→idp≠id)→h[id]? = ha[id]? := by
   intro id hs
   rcases effp op with rfl | ⟨idp,X,hit,_,rfl⟩
   ·rfl
   ·rw [List.getElem?_set,if_neg (hs idp hit)]
  refine exec_agree (h:=ha) (fun hc=>by rw [cq] at hc;cases hc) (fun x hx id hid=>agq id fun idp hit=>sepHx idp hit x hx id hid)
   (fun hq=>⟨fun b hb=>agq b fun idp hit e=>sepPl idp hit hq (by rw [hb,e]),fun hn=>by have:=hpq hq;rw [hn] at this;cases this⟩) (fun a hb' h2' o hr=>?_) Hq
  obtain ⟨rfl,rfl⟩:=hr
  rw [exec_put h1]
  -- what q changed
  have effq:hb'=ha∧h2'=h∨∃ id X,Hit q plq (ev sl) ha id∧X≠HB.res∧hb'=ha.set id X∧h2'=h.set id X:=by
   rcases o with ⟨a,b⟩ | ⟨id,X,a,b,c,d⟩ | ⟨a,b,_⟩ | ⟨a,_⟩
   ·exact .inl ⟨a,b⟩
   ·exact .inr ⟨id,X,a,b,c,d⟩
   ·have:=hpq a;rw [b] at this;cases this
   ·rw [cq] at a;cases a
  have sepHx':∀ idq,Hit q plq (ev sl) ha idq→∀ x∈p.hx,∀ id,(ev sl x).touch=some id→idq≠id:=by
   intro idq hit x hx id hid e
   subst e
   rcases hit with ⟨hw,x',hx',hid'⟩ | ⟨_,_,hr⟩
   ·rcases wq hw with e | ⟨e,_⟩
    ·rw [e] at hx;cases hx
    ·exact (hs e).2 x hx x' hx' _ hid hid'
   ·obtain ⟨e0,rows,hcell⟩:=exec_hx Hp x hx _ hid
    rcases effp op with rfl | ⟨id,X,_,hX,rfl⟩
    ·rw [hr] at hcell;cases hcell
    ·rw [List.getElem?_set] at hr
     split at hr
     ·split at hr
      ·exact hX (by injection hr)
      ·cases hr
     ·rw [hr] at hcell;cases hcell
  have sepPl':∀ idq,Hit q plq (ev sl) ha idq→p.pushes=true→plp≠some idq:=by
   intro idq hit hp e
   rcases hit with ⟨hw,x,hx,hid⟩ | ⟨hq,hpl,_⟩
   ·have hnil:p.hx=[]:=by
     rcases wq hw with e' | ⟨_,e'⟩
     ·exact e'
     ·rw [hp] at e';cases e'
    obtain ⟨B,hB,hn⟩:=T x (tg_hx hx) _ hid
    rw [exec_pl hp hnil (by rw [e] at Hp;exact Hp)] at hB;cases hB;exact hn rfl
   ·exact hne hp hq (by rw [e,hpl])
  have agp:∀ id,(∀ idq,Hit q plq (ev sl) ha idq→idq≠id)→h2'[id]? = h[id]? := by
   intro id hs
   rcases effq with ⟨_,rfl⟩ | ⟨idq,X,hit,_,_,rfl⟩
   ·rfl
   ·rw [List.getElem?_set,if_neg (hs idq hit)]
  refine exec_agree (h:=h) (fun hc=>by rw [cp] at hc;cases hc) (fun x hx id hid=>agp id fun idq hit=>sepHx' idq hit x hx id hid)
   (fun hp=>⟨fun b hb=>agp b fun idq hit e=>sepPl' idq hit hp (by rw [hb,e]),fun hn=>by have:=hpp hp;rw [hn] at this;cases this⟩) (fun a ha' h3 o' hr=>?_) Hp
  obtain ⟨rfl,rfl⟩:=hr
  have effp':ha'=h∧h3=h2'∨∃ id X,Hit p plp (ev sl) h id∧X≠HB.res∧ha'=h.set id X∧h3=h2'.set id X:=by
   rcases o' with ⟨a,b⟩ | ⟨id,X,a,b,c,d⟩ | ⟨a,b,_⟩ | ⟨a,_⟩
   ·exact .inl ⟨a,b⟩
   ·exact .inr ⟨id,X,a,b,c,d⟩
   ·have:=hpp a;rw [b] at this;cases this
   ·rw [cp] at a;cases a
  have:h3=hb':=by
   rcases effq with ⟨e1,e2⟩ | ⟨idq,Y,hitq,hY,e1,e2⟩
   ·rcases effp' with ⟨e3,e4⟩ | ⟨idp,X,hitp,hX,e3,e4⟩
    ·rw [e4,e2,e1,e3]
    ·rw [e4,e2,e1,e3]
   ·rcases effp' with ⟨e3,e4⟩ | ⟨idp,X,hitp,hX,e3,e4⟩
    ·rw [e4,e2,e1,e3]
    ·have hsep:idp≠idq:=by
      intro e
      subst e
      rcases hitq with ⟨hw,x,hx,hid⟩ | ⟨hq,hpl,_⟩
      ·exact sepHx _ hitp x (tg_hx hx) _ hid rfl
      ·exact sepPl _ hitp hq hpl
     rw [e4,e2,e1,e3,List.set_comm _ _ hsep]
  rw [this]
  exact HK
end Go.Proofs.YtlllnjhgjijnkaaDoor.Nx
namespace Go.Proofs.YtlllnjhgjijnkaaDoor.Nx
open Go
structure Still where
 lo:Nat
 n:Nat
 Γ:Ctx
inductive MarksOk (w:World) (ρ:Phys) (lo:Nat):List Deferred→Prop
 | nil (h:lo≤w.heap.size):MarksOk w ρ lo []
 | cons {D:Nat} {l:List Deferred} (hD:lo≤D) (hh:w.heap[D]? = some (.deferred (some []))) (hρ:∀ id p:Nat,ρ[id]? ≠ some (some (D,p))) (hn:∀ d∈l,d.target ≠ .collected D) (hl:MarksOk w ρ lo l) :
   MarksOk w ρ lo ({ target:=.collected D,args := #[] }::l)
theorem MarksOk.evo {w w':World} {ρ ρ':Phys} {h h':Heap} {n0 lo:Nat} {l:List Deferred} (m:MarksOk w ρ lo l) (g:Evo n0 h ρ w h' ρ' w'):MarksOk w' ρ' lo l:=by
 induction m with
 | nil h=>exact .nil (Nat.le_trans h g.size)
 | @cons D l hD hh hρ hn _ ih =>
  have hlt:D<w.heap.size:=(Array.getElem?_eq_some_iff.1 hh).1
  refine .cons hD (by rw [g.old D hlt hρ];exact hh) (fun id p hp=>?_) hn ih
  rcases g.fresh id D p hp with hf | ⟨i,q,hq⟩
  ·omega
  ·exact hρ i q hq
theorem MarksOk.lo {w:World} {ρ:Phys} {lo:Nat} {l:List Deferred} (m:MarksOk w ρ lo l):lo≤w.heap.size:=by
 induction m with
 | nil h=>exact h
 | cons _ _ _ _ _ ih=>exact ih
theorem MarksOk.lt {w:World} {ρ:Phys} {lo:Nat} {l:List Deferred} (m:MarksOk w ρ lo l):∀ d∈l,∀ D,d.target = .collected D→D<w.heap.size:=by
 induction m with
 | nil h=>intro d hd;cases hd
 | @cons D l _ hh _ _ _ ih =>
  intro d hd D' he
  rcases List.mem_cons.1 hd with rfl | hd
  ·cases he;exact (Array.getElem?_eq_some_iff.1 hh).1
  ·exact ih d hd D' he
variable {P:Program} {w w':World} {M:Nat→Prop} {ρ ρ':Phys} {h h':Heap} {z:Still} {F:Fns}
def RepS (w:World) (M:Nat→Prop) (ρ:Phys) (h:Heap) (sl:Nat→A) (vs:Array Value):Prop:=∀ n,RepA w M ρ h (sl n) (valAt vs n)
structure Sim (z:Still) (w:World) (M:Nat→Prop) (ρ:Phys) (s:St) (a:Act):Prop where
 bnd:∀ b,M b→b<w.heap.size
 sim:SimH w M ρ s.heap
 slots:RepS w M ρ s.heap s.slots a.tmps
 size:a.tmps.size=z.n
 nlt:z.n≤tabBase
 tabs:TabsOk z.Γ w M ρ s.heap
 defers:MarksOk w ρ z.lo a.defers
theorem Sim.env {s:St} {a:Act} (S:Sim z w M ρ s a):Env w M ρ s.heap (ev s.slots) a.eval:=fun _ _ hc=>cO_rep hc S.slots
theorem RepS.put {l:Nat→A} {d:Option Nat} {r:A} {v:Value} {a:Act} (hs:RepS w M ρ h l a.tmps) (hr:RepA w M ρ h r v) (hd:∀ n,d=some n→n<a.tmps.size) (hb:∀ n,d=some n→n<tabBase):RepS w M ρ h (put d r l) (a.put d v).tmps:=by
 cases d with
 | none=>exact hs
 | some d =>
  intro n
  have hlt:=hd d rfl
  have hd':=hb d rfl
  by_cases he:n=d
  ·subst he
   simp only [Act.put,Nx.put,upd,if_pos,valAt,hd',zR,Array.getElem?_setIfInBounds,hlt,Option.getD_some]
   exact hr
  ·have:=hs n
   have e1:Nx.put (some d) r l n=l n:=by simp [Nx.put,upd,he]
   have e2:valAt (a.put (some d) v).tmps n=valAt a.tmps n:=by
    unfold valAt
    split
    ·simp [Act.put,zR,Array.getElem?_setIfInBounds,Ne.symm he]
    ·rfl
   rw [e1,e2]
   exact this
theorem RepS.evo {l:Nat→A} {vs:Array Value} (hs:RepS w M ρ h l vs) (g:Evo h.length h ρ w h' ρ' w'):RepS w' M ρ' h' l vs :=
 fun n=>g.rep' (hs n)
theorem Sim.step {s:St} {a:Act} {d:Option Nat} {r:A} {v:Value} (S:Sim z w M ρ s a) (hd:∀ n,d=some n→n<z.n) (hr:RepA w' M ρ' h' r v) (hS:SimH w' M ρ' h') (g:Evo s.heap.length s.heap ρ w h' ρ' w') :
  Sim z w' M ρ' ⟨put d r s.slots,h'⟩ (a.put d v) where
 bnd b hb:=Nat.lt_of_lt_of_le (S.bnd b hb) g.size
 sim:=hS
 slots:=(S.slots.evo g).put hr (fun n hn=>by rw [S.size];exact hd n hn) (fun n hn=>Nat.lt_of_lt_of_le (hd n hn) S.nlt)
 size:=by cases d<;>simp [Act.put,S.size]
 nlt:=S.nlt
 tabs:=S.tabs.evo g
 defers:=by cases d<;>exact S.defers.evo g
theorem compOp_call {op:Op} {f:XO} {xs:List XO} (hc:compOp P op=some (.call f xs)):∃ (g:Operand) (args:List Operand) (ts:Array TypeId),op = .call { callee:=.value g,args:=args.toArray,argTypes:=ts }∧cO g=some f∧args.mapM cO=some xs:=by
 cases op with
 | call c =>
  simp only [compOp] at hc
  obtain ⟨callee,args,ts⟩:=c
  simp only at hc
  cases callee with
  | value g =>
   simp only [compCall,zJ,zD,Option.pure_def,zH,XOp.call.injEq] at hc
   obtain ⟨f',hf,xs',hx,rfl,rfl⟩:=hc
   exact ⟨g,args.toList,ts,by simp,hf,hx⟩
  | _ =>
   exfalso
   unfold compCall at hc
   split at hc
   ·rename_i heq;cases heq
   all_goals (repeat' split at hc)<;>simp [zD] at hc
 | makeFunc fn first caps =>
  exfalso
  simp only [compOp] at hc
  unfold compFn at hc
  split at hc<;>simp at hc
 | _ =>
  exfalso
  simp only [compOp] at hc
  first
   | (simp [zD] at hc;done)
   | ((repeat' split at hc)<;>simp [zD] at hc;done)
   | (simp only [zJ,zD] at hc;obtain ⟨_,_,hc⟩:=hc;(repeat' split at hc)<;>simp [zD] at hc;done)
   | skip
def XOper.plain (o:XOper):XOper:={ o with op:=o.op.plain,pl:=none }
def compGuard (ops:Array Oper):Option (Nat × Bool)→Option (Option (Nat × Bool))
 | none=>some none
 | some (j,b)=>match (ops[j]?).bind (·.dst) with
  | some d=>some (some (d,b))
  | none=>none
def compOper (P:Program) (ops:Array Oper) (o:Oper):Option XOper :=
 match compOp P o.op,compGuard ops o.guard with
 | some x,some g=>some { dst:=o.dst,op:=x,guard:=g }
 | _,_=>none
theorem plain_eq {x:XOp} (h:∀ f args,x.plain ≠ .call f args):x.plain=x∨∃ n g y,x = .loadp n g y:=by
 cases x<;>first | exact .inl rfl | exact absurd rfl (h _ _) | exact .inr ⟨_,_,_,rfl⟩
theorem exec_loadp {F:Fns} {pl:Option Nat} {n:Nat} {g:Bool} {y:XO} {ev:XO→A} {h:Heap} {K:A→Heap→Prop} (hK:exec F pl (.loadp n g y) ev h K):exec F pl (.load n g y) ev h K:=by
 simp only [exec] at hK ⊢
 split at hK
 ·split at hK
  ·refine ⟨hK.1,?_⟩
   have hK:=hK.2
   split at hK
   ·exact loadsTo_imp (fun a ha=>ha.2) hK
   ·exact hK
  ·exact hK
 ·exact loadsTo_imp (fun a ha=>ha.2) hK
 ·exact hK
theorem exec_wp (hF:FnsOk z.Γ P F) {rl:Option Nat} {pl:Option Nat} {o:Oper} {x:XOp} {s:St} {a:Act} {K:A→Heap→Prop} {next:Act→World→Prop} {Q:Exit→Act→World→Prop} (hc:compOp P o.op=some x.plain) (S:Sim z w M ρ s a)
  (hK:exec F pl x (ev s.slots) s.heap K) (hn:∀ r h' v w' ρ',K r h'→RepA w' M ρ' h' r v→SimH w' M ρ' h'→Evo s.heap.length s.heap ρ w h' ρ' w'→next (a.put o.dst v) w'):o.wpIn (Fw rl) 0 P a w next Q:=by
 have callCase:∀ f args,compOp P o.op=some (.call f args)→(match (generalizing:=false) ev s.slots f with
   | .fn g caps=>∃ r h',FnD z.Γ P g (args.map (ev s.slots)++caps) s.heap r h'∧K r h'
   | .yld id=>∃ r h',RoundD z.Γ P id (args.map (ev s.slots)) s.heap r h'∧K r h'
   | _=>False)→o.wpIn (Fw rl) 0 P a w next Q:=by
  intro f args hc hK
  obtain ⟨g,as,ts,ho,hf,hxs⟩:=compOp_call hc
  exact wp_call ho hf hxs S.bnd S.sim S.tabs S.env hK hn
 by_cases hx:∃ f args,x.plain = .call f args
 ·obtain ⟨f,args,hx⟩:=hx
  rw [hx] at hc
  refine callCase f args hc ?_
  cases x with
  | call f' args' =>
   cases hx
   simp only [exec] at hK
   split at hK
   ·obtain ⟨h0,r,hr,hk⟩:=hK
    rename_i heq
    rw [heq]
    exact ⟨r,_,(hF.pure _ _ _ hr).join h0,hk⟩
   ·exact hK.elim
  | calle f' args' =>
   cases hx
   simp only [exec] at hK
   split at hK
   ·obtain ⟨r,h',hr,hk⟩:=hK
    rename_i heq
    rw [heq]
    exact ⟨r,h',hF.call _ _ _ _ _ hr,hk⟩
   ·obtain ⟨r,h',hr,hk⟩:=hK
    rename_i heq
    rw [heq]
    exact ⟨r,h',hF.round _ _ _ _ _ hr,hk⟩
   ·exact hK.elim
  | calln f' args' =>
   cases hx
   simp only [exec] at hK
   split at hK
   ·obtain ⟨h0,r,hr,hk⟩:=hK
    rename_i heq
    rw [heq]
    exact ⟨r,_,hF.call _ _ _ _ _ (hr s.heap fun _ _ _ _=>rfl),hk⟩
   ·exact hK.elim
  | callr f' args' =>
   cases hx
   simp only [exec] at hK
   split at hK
   ·obtain ⟨r,t,hr,hk⟩:=hK
    rename_i heq
    rw [heq]
    exact ⟨r,_,hF.call _ _ _ _ _ hr,hk⟩
   ·exact hK.elim
  | _=>cases hx
 ·have hx':∀ f args,x.plain ≠ .call f args:=fun f args he=>hx ⟨f,args,he⟩
  have hK:exec F pl x.plain (ev s.slots) s.heap K:=by
   rcases plain_eq hx' with e | ⟨n,g,y,rfl⟩
   ·rw [e];exact hK
   ·exact exec_loadp hK
  obtain ⟨r,h',hk,hd⟩:=exec_does (o:=o) hc hx' S.bnd S.sim S.env (fun _=>rfl) hK
  refine wp_does (fun c he=>?_) hd fun v w' ρ' q1 q2 q3=>hn r h' v w' ρ' hk q1 q2 q3
  rw [he] at hc
  simp [compOp] at hc
theorem compOper_spec {ops:Array Oper} {o:Oper} {x:XOper} (hc:compOper P ops o=some x.plain):o.dst=x.dst∧compOp P o.op=some x.op.plain∧compGuard ops o.guard=some x.guard:=by
 unfold compOper at hc
 split at hc
 ·rename_i h1 h2
  injection hc with hc
  have e1:=congrArg XOper.dst hc
  have e2:=congrArg XOper.op hc
  have e3:=congrArg XOper.guard hc
  simp only [XOper.plain] at e1 e2 e3
  subst e2 e3
  exact ⟨e1,h1,h2⟩
 ·cases hc
theorem live_wanted {ops:Array Oper} {o:Oper} {x:XOper} {s:St} {a:Act} (S:Sim z w M ρ s a) (hg:compGuard ops o.guard=some x.guard) {op:XOp} (hl:x.live s.slots=some op) :
  (Region.wanted o (yielded ops a.tmps)=true∧op=x.op)∨(Region.wanted o (yielded ops a.tmps)=false∧op = .mov (.k undefA)):=by
 cases hgo:o.guard with
 | none =>
  rw [hgo] at hg
  simp only [compGuard,zH] at hg
  simp only [XOper.live,← hg,zH] at hl
  exact .inl ⟨by simp [Region.wanted,hgo],hl.symm⟩
 | some jb =>
  obtain ⟨j,b⟩:=jb
  rw [hgo] at hg
  simp only [compGuard] at hg
  split at hg
  ·rename_i d hd
   simp only [zH] at hg
   simp only [XOper.live,← hg] at hl
   have hw:Region.wanted o (yielded ops a.tmps)=(yielded ops a.tmps j == some b):=by simp [Region.wanted,hgo]
   rw [hw]
   have hy:yielded ops a.tmps j=match a.tmps[d]? with
     | some (.bool b)=>some b
     | _=>none:=by
    simp only [yielded,hd,Option.bind_some]
    cases a.tmps[d]? with
    | none=>rfl
    | some v=>cases v<;>rfl
   rw [hy]
   have get:∀ {y:A},s.slots d=y→(∀ p,¬ RepA w M ρ s.heap y (.pointer p))→RepA w M ρ s.heap y ((a.tmps[d]?).getD undef):=by
    intro y hy hp
    subst hy
    have:=S.slots d
    unfold valAt at this
    split at this
    ·rwa [zR] at this
    ·exact absurd this (hp _)
   split at hl
   ·rename_i c heq
    have hr:=get heq (fun p hp=>by cases hp with | d hx=>cases hx)
    cases hv:a.tmps[d]? with
    | none=>rw [hv] at hr;cases hr with
     | d hx=>cases hx
    | some v =>
     rw [hv] at hr
     cases hr with
     | d hx=>cases hx with
      | sc _ =>
      split at hl
      ·rename_i hcb;subst hcb;injection hl with hl;exact .inl ⟨by simp,hl.symm⟩
      ·rename_i hcb;injection hl with hl;exact .inr ⟨by simpa using hcb,hl.symm⟩
   ·rename_i heq
    have hr:=get heq (fun p hp=>by cases hp)
    injection hl with hl
    cases hv:a.tmps[d]? with
    | none=>exact .inr ⟨by simp,hl.symm⟩
    | some v =>
     rw [hv] at hr
     cases hr with
     | tup=>exact .inr ⟨by simp,hl.symm⟩
   ·cases hl
  ·cases hg
theorem step_sound (hF:FnsOk z.Γ P F) {rl:Option Nat} {ops:Array Oper} {i base:Nat} {o:Oper} {x:XOper} {s:St} {a:Act} {K:St→Prop} {next:Act→World→Prop} {Q:Exit→Act→World→Prop}
  (ho:ops[i]? = some o) (hc:compOper P ops o=some x.plain) (hd:∀ n,x.dst=some n→n<z.n) (S:Sim z w M ρ s a) (hK:stepX F base x s K)
  (hn:∀ s' ρ' a' w',K s'→Sim z w' M ρ' s' a'→Evo s.heap.length s.heap ρ w s'.heap ρ' w'→next a' w'):wpOpIn (Fw rl) 0 P ops Q i next a w:=by
 obtain ⟨h1,h2,h3⟩:=compOper_spec hc
 unfold stepX at hK
 split at hK
 ·rename_i op hl
  unfold wpOpIn
  simp only [ho]
  rcases live_wanted S h3 hl with ⟨hw,rfl⟩ | ⟨hw,rfl⟩
  ·rw [if_pos hw]
   refine exec_wp hF h2 S hK fun r h' v w' ρ' hk q1 q2 q3=>hn _ ρ' _ w' hk ?_ q3
   rw [h1]
   exact S.step hd q1 q2 q3
  ·rw [if_neg (by rw [hw];simp)]
   refine ⟨fun _ _=>trivial,hn _ ρ _ w hK ?_ (.refl _ _ _ _ (Nat.le_refl _))⟩
   rw [h1]
   exact S.step hd (w':=w) (.tup rfl fun j x hj=>by simp at hj) S.sim (.refl _ _ _ _ (Nat.le_refl _))
 ·exact hK.elim
end Go.Proofs.YtlllnjhgjijnkaaDoor.Nx

import Derived.Test.YtlllnjhgjijnkaaGreatDoorNxComp
import Derived.RangeFuncRecord
set_option linter.all false
open List renaming getElem?_eq_some_iff → zA, getD_eq_getElem?_getD → zC, getElem?_append_left → zF, getElem?_append_right → zG, getElem?_map → zK, mem_cons_self → zW, mem_of_getElem? → zY, mem_cons_of_mem → zZ, getElem?_eq_none → zk, getElem?_take → zm, mem_cons → zp
open Option renaming bind_eq_some_iff → zD, bind_eq_bind → zJ
open Option.some renaming injEq → zH
open Nat renaming le_refl → zL
open Array renaming getD_eq_getD_getElem? → zR
open Bool renaming and_eq_true → zf
open Bool renaming not_eq_true' → aA, or_eq_true → aG
open Option renaming map_some → aB, getD_some → aI
open List renaming mem_flatMap → aC, filterMap_cons → aD, all_eq_true → aE, replicate → aF, map_congr_left → aH, mem_iff_getElem? → aJ, getElem?_set → aK, mem_append_left → aL, mem_range → aM, pairwise_append → aN, mem_append → aO, pairwise_cons → aP, getElem?_eq_none_iff → aQ, isEmpty_iff → aR, getElem?_cons_zero → aS, range → aT, mem_filter → aU, filterMap_append → aV, length_cons → aX
open Nat renaming lt_of_lt_of_le → aW
namespace Go.Proofs.YtlllnjhgjijnkaaGreatDoor.Nx
open Go
section
def XO.slots:XO→List Nat
 | .t n=>[n]
 | _=>[]
def mW:Option XO→List Nat
 | some x=>x.slots
 | none=>[]
def XOp.slots:XOp→List Nat
 | .mov x | .box _ x | .load _ _ x | .loadp _ _ x | .faddr _ x | .field _ _ _ x | .nilck x | .eqnil _ x | .un _ x | .conv _ x | .len _ x | .extract _ x | .cap x | .s2r _ x | .b2s x | .i2s x | .iter x | .next x=>x.slots
 | .pick c a b=>c.slots++a.slots++b.slots
 | .alloc _ _=>[]
 | .build _ ps=>ps.flatMap fun p=>p.2.2.slots
 | .bslice _ _ _ ps=>ps.flatMap fun p=>p.2.slots
 | .store _ x y | .iaddr _ x y | .aaddr _ _ x y | .aidx _ _ _ x y | .sidx x y | .bin _ x y | .eqb _ x y | .eqs _ _ _ x y | .append _ x y | .copy _ x y | .make _ _ x y=>x.slots++y.slots
 | .slice _ x lo hi mx=>x.slots++mW lo++mW hi++mW mx
 | .sslice x lo hi=>x.slots++mW lo++mW hi
 | .mkfn _ cs=>cs.flatMap XO.slots
 | .call f as | .calle f as | .callr f as | .calln f as=>f.slots++as.flatMap XO.slots
 | .minmax _ as=>as.flatMap XO.slots
def XOp.hx:XOp→List XO
 | .load _ _ x | .loadp _ _ x | .faddr _ x | .nilck x | .eqnil _ x | .len _ x | .slice _ x _ _ _ | .store _ x _ | .iaddr _ x _ | .aaddr _ _ x _ | .b2s x=>[x]
 | .append _ x y | .copy _ x y=>[x,y]
 | .calln _ as=>as
 | _=>[]
def XOp.tg:XOp→List XO
 | .store _ x _ | .append _ x _ | .copy _ x _=>[x]
 | _=>[]
theorem aHP{op:XOp}{x:XO}(h:x∈op.tg):x∈op.hx:=by
 cases op<;>simp[XOp.tg] at h<;>simp[XOp.hx,h]
def XOp.pushes:XOp→Bool
 | .alloc _ _ | .box _ _ | .bslice _ _ _ _ | .make _ _ _ _ | .append _ _ _ | .iter _=>true
 | _=>false
def XOp.writes:XOp→Bool
 | .store _ _ _ | .append _ _ _ | .copy _ _ _=>true
 | _=>false
def XOp.isCalle:XOp→Bool
 | .calle _ _ | .callr _ _ | .next _=>true
 | _=>false
def Hit(op:XOp)(pl:Option Nat)(ev:XO→A)(h:cM)(id:Nat):Prop :=
 (op.writes=true∧∃ x∈op.tg,(ev x).touch=some id)∨(op.pushes=true∧pl=some id∧h[id]? = some .res)
def Gf(op:XOp)(pl:Option Nat)(ev:XO→A)(h h1 h' Gb:cM):Prop :=
 (h'=h∧Gb=h1)∨(∃ id X,Hit op pl ev h id∧X≠HB.res∧h'=h.set id X∧Gb=h1.set id X)∨(op.pushes=true∧pl=none∧∃ X,h'=h++[X]∧Gb=h1++[X])∨(op.isCalle=true∧h'=Gb)
theorem Gf.same{op:XOp}{pl:Option Nat}{ev:XO→A}{h h' Gb:cM}(o:Gf op pl ev h h h' Gb):h'=Gb:=by
 rcases o with⟨a,b⟩ | ⟨id,X,_,_,a,b⟩ | ⟨_,_,X,a,b⟩ | ⟨_,a⟩<;>simp[*]
theorem gW{n:Nat}{g:Bool}{l:List A}{K K':A→Prop}(hk:∀ a,K a→K' a)(h:dI n g l K):dI n g l K':=Zn hk h
theorem Gg:∀ (l:List (Nat × Nat × A)) (cs:List A) {K K':List A→Prop},(∀ a,K a→K' a)→yQ cs l K→yQ cs l K'
 | [],cs,K,K',hk,h=>hk _ h
 | (_,_,_)::l,cs,K,K',hk,h=>⟨h.1,h.2.1,h.2.2.1,Gg l _ hk h.2.2.2⟩
theorem yS{n:Nat}:∀ (l:List (Nat × A)) (rows:List (List A)) {K K':List (List A)→Prop},(∀ a,K a→K' a)→wA n rows l K→wA n rows l K'
 | [],rows,K,K',hk,h=>hk _ h
 | (_,_)::l,rows,K,K',hk,h=>⟨h.1,h.2.1,h.2.2.1,yS l _ hk h.2.2.2⟩
theorem wI{e:Elt}{h h1:cM}{x:A}(hx:∀ id,x.touch=some id→h1[id]? = h[id]?):eX e h1 x=eX e h x:=by
 cases x with
 | ref id N off len full=>simp only[eX];rw[hx _ rfl]
 | d x=>cases x with
  | sc v=>cases v<;>rfl
  | sl e' rows=>rfl
 | _=>rfl
theorem Ot{e:Elt}{h h1:cM}{x:A}(hx:∀ id,x.touch=some id→h1[id]? = h[id]?):gV e h1 x=gV e h x:=by
 unfold gV;split
 ·rfl
 ·exact wI hx
theorem lS{op:XOp}{ev:XO→A}{pl:Option Nat}{h h1:cM}{B:HB}{K K':Nat→cM→Prop}(hp:op.pushes=true)(hB:B ≠ .res)(La:op.pushes=true→(∀ b,pl=some b→h1[b]? = h[b]?)∧(pl=none→h1.length=h.length))
  (hk:∀ b h' Gb,Gf op pl ev h h1 h' Gb→K b h'→K' b Gb) (h0:gP pl h B K):gP pl h1 B K':=by
 cases pl with
 | none =>
  simp only[gP] at h0 ⊢;rw[(La hp).2 rfl];exact hk _ _ _ (.inr (.inr (.inl ⟨hp,rfl,_,rfl,rfl⟩))) h0
 | some b=>exact⟨by rw[(La hp).1 b rfl];exact h0.1,hk b _ _ (.inr (.inl ⟨b,B,.inr ⟨hp,rfl,h0.1⟩,hB,rfl,rfl⟩)) h0.2⟩
theorem qQ{F:Fns}{pl:Option Nat}{op:XOp}{ev:XO→A}{h h1:cM}{K K':A→cM→Prop}(hcal:op.isCalle=true→h1=h)
  (ht:∀ x∈op.hx,∀ id,(ev x).touch=some id→h1[id]? = h[id]?) (La:op.pushes=true→(∀ b,pl=some b→h1[b]? = h[b]?)∧(pl=none→h1.length=h.length))
  (hk:∀ r h' Gb,Gf op pl ev h h1 h' Gb→K r h'→K' r Gb) (hK:dC F pl op ev h K) :
  dC F pl op ev h1 K':=by
 have same:∀ r,K r h→K' r h1:=fun r hr=>hk r h h1 (.inl ⟨rfl,rfl⟩) hr;cases op with
 | mov x=>exact same _ hK
 | pick c a b =>
  simp only[dC] at hK ⊢;split at hK
  ·split at hK
   ·rw[if_pos ‹_›];exact same _ hK
   ·rw[if_neg ‹_›];exact same _ hK
  ·exact hK
 | alloc e z =>
  simp only[dC] at hK ⊢;exact lS rfl (by simp) La (fun b h' Gb o hK=>hk _ _ _ o hK) hK
 | box e x =>
  simp only[dC] at hK ⊢;exact⟨hK.1,hK.2.1,lS rfl (by simp) La (fun b h' Gb o hK=>hk _ _ _ o hK) hK.2.2⟩
 | build z ps=>exact Gg _ _ (fun a ha=>same _ ha) hK
 | bslice e z n ps =>
  simp only[dC] at hK ⊢;exact yS _ _ (fun a ha=>lS rfl (by simp) La (fun b h' Gb o hK=>hk _ _ _ o hK) ha) hK
 | load n g x =>
  have Ip:=ht x (by simp[XOp.hx]);simp only[dC] at hK ⊢;generalize ev x=X at *;cases X<;>try exact hK
  ·exact gW (fun a ha=>same _ ha) hK
  ·rename_i id N i off;dsimp only at hK ⊢;rw[Ip id rfl];split at hK
   ·refine⟨hK.1,?_⟩;have hK:=hK.2;split at hK
    ·exact gW (fun a ha=>same _ ha) hK
    ·exact hK
   ·exact hK
 | loadp n g x =>
  have Ip:=ht x (by simp[XOp.hx]);simp only[dC] at hK ⊢;generalize ev x=X at *;cases X<;>try exact hK
  ·exact gW (fun a ha=>⟨ha.1,same _ ha.2⟩) hK
  ·rename_i id N i off;dsimp only at hK ⊢;rw[Ip id rfl];split at hK
   ·refine⟨hK.1,?_⟩;have hK:=hK.2;split at hK
    ·exact gW (fun a ha=>⟨ha.1,same _ ha.2⟩) hK
    ·exact hK
   ·exact hK
 | store n x y =>
  have Ip:=ht x (by simp[XOp.hx]);have aJ3:∀ id,(ev x).touch=some id→Hit (XOp.store n x y) pl ev h id:=fun id hid=>.inl ⟨rfl,x,by simp[XOp.tg],hid⟩;simp only[dC] at hK ⊢;generalize ev x=X at *;cases X<;>try exact hK
  rename_i id N i off;dsimp only at hK ⊢;rw[Ip id rfl];split at hK
  ·refine⟨hK.1,hK.2.1,hK.2.2.1,?_⟩;have hK:=hK.2.2.2;split at hK
   ·exact⟨hK.1,hk _ _ _ (.inr (.inl ⟨id,_,aJ3 id rfl,by simp,rfl,rfl⟩)) hK.2⟩
   ·exact hK
  ·exact hK
 | faddr off x =>
  have Ip:=ht x (by simp[XOp.hx]);simp only[dC] at hK ⊢;generalize ev x=X at *;cases X<;>try exact hK
  ·exact same _ hK
  ·rename_i id N i o;dsimp only at hK ⊢;rw[Ip id rfl];split at hK
   ·exact⟨hK.1,same _ hK.2⟩
   ·exact hK
 | field off n g x =>
  simp only[dC] at hK ⊢;split at hK
  ·exact gW (fun a ha=>same _ ha) hK
  ·exact hK
 | iaddr e x i =>
  have Ip:=ht x (by simp[XOp.hx]);simp only[dC] at hK ⊢;split at hK
  ·exact⟨hK.1,hK.2.1,hK.2.2.1,same _ hK.2.2.2⟩
  ·exact⟨hK.1,hK.2.1,hK.2.2.1,same _ hK.2.2.2⟩
  ·exact⟨hK.1,hK.2.1,hK.2.2.1,same _ hK.2.2.2⟩
  ·rename_i heq _;rw[Ip _ (by rw[heq];rfl)];split at hK
   ·exact⟨hK.1,hK.2.1,hK.2.2.1,hK.2.2.2.1,same _ hK.2.2.2.2⟩
   ·exact hK
  ·exact hK
 | aaddr e n x i =>
  have Ip:=ht x (by simp[XOp.hx]);simp only[dC] at hK ⊢;split at hK
  ·rename_i heq _;rw[Ip _ (by rw[heq];rfl)];split at hK
   ·exact⟨hK.1,hK.2.1,hK.2.2.1,same _ hK.2.2.2⟩
   ·exact hK
  ·exact⟨hK.1,hK.2.1,same _ hK.2.2⟩
  ·exact hK
 | aidx len n g x i =>
  simp only[dC] at hK ⊢;split at hK
  ·exact⟨hK.1,hK.2.1,gW (fun a ha=>same _ ha) hK.2.2⟩
  ·exact hK
 | sidx x i =>
  simp only[dC] at hK ⊢;split at hK
  ·exact⟨hK.1,hK.2.1,same _ hK.2.2⟩
  ·exact hK
 | nilck x =>
  have Ip:=ht x (by simp[XOp.hx]);simp only[dC] at hK ⊢;split at hK
  ·rename_i heq;rw[Ip _ (by rw[heq];rfl)];split at hK
   ·exact⟨hK.1,same _ hK.2⟩
   ·exact hK
  ·exact same _ hK
  ·exact same _ hK
  ·exact hK
 | bin op x y =>
  simp only[dC] at hK ⊢;split at hK
  ·split at hK
   ·exact same _ hK
   ·exact hK
  ·exact hK
 | eqb neg x y =>
  simp only[dC] at hK ⊢;split at hK
  ·exact same _ hK
  ·exact hK
 | eqs neg n ks x y =>
  simp only[dC] at hK ⊢;split at hK
  ·refine⟨hK.1,hK.2.1,?_⟩;have hK:=hK.2.2;split at hK
   ·exact same _ hK
   ·exact hK
  ·exact hK
 | eqnil neg x =>
  have Ip:=ht x (by simp[XOp.hx]);simp only[dC] at hK ⊢;generalize ev x=X at *;rcases X with _ | _ | (v | ⟨e,rows⟩) | ⟨e,rows⟩ | _ | _ | _ | _ | ⟨id,N,off,len,full⟩ | _ | _ | _
  ·exact hK
  ·exact same _ hK
  ·exact hK
  ·exact⟨hK.1,same _ hK.2⟩
  ·exact same _ hK
  ·exact hK
  ·exact hK
  ·exact hK
  ·exact hK
  ·dsimp only at hK ⊢;rw[Ip id rfl];split at hK
   ·exact⟨hK.1,hK.2.1,same _ hK.2.2⟩
   ·exact hK
  ·exact hK
  ·exact hK
  ·exact hK
 | un op x =>
  simp only[dC] at hK ⊢;split at hK
  ·split at hK
   ·exact same _ hK
   ·exact hK
  ·exact hK
 | conv k x =>
  simp only[dC] at hK ⊢;split at hK
  ·exact same _ hK
  ·exact hK
 | len str x =>
  have Ip:=ht x (by simp[XOp.hx]);simp only[dC] at hK ⊢;split at hK
  ·exact⟨hK.1,same _ hK.2⟩
  ·exact⟨hK.1,same _ hK.2⟩
  ·exact⟨hK.1,same _ hK.2⟩
  ·exact⟨hK.1,same _ hK.2⟩
  ·rename_i heq;rw[Ip _ (by rw[heq];rfl)];split at hK
   ·exact⟨hK.1,hK.2.1,same _ hK.2.2⟩
   ·exact hK
  ·exact⟨hK.1,same _ hK.2⟩
  ·exact hK
 | slice e x lo hi mx =>
  have Ip:=ht x (by simp[XOp.hx]);simp only[dC] at hK ⊢;split at hK
  ·exact⟨hK.1,hK.2.1,hK.2.2.1,same _ hK.2.2.2⟩
  ·split at hK
   ·exact⟨hK.1,hK.2.1,hK.2.2.1,hK.2.2.2.1,hK.2.2.2.2.1,same _ hK.2.2.2.2.2⟩
   ·exact hK
  ·split at hK
   ·exact⟨hK.1,hK.2.1,hK.2.2.1,hK.2.2.2.1,hK.2.2.2.2.1,same _ hK.2.2.2.2.2⟩
   ·exact hK
  ·rename_i heq;rw[Ip _ (by rw[heq];rfl)];split at hK
   ·split at hK
    ·exact⟨hK.1,hK.2.1,hK.2.2.1,hK.2.2.2.1,hK.2.2.2.2.1,hK.2.2.2.2.2.1,same _ hK.2.2.2.2.2.2⟩
    ·exact hK
   ·exact hK
  ·exact hK
 | sslice x lo hi =>
  simp only[dC] at hK ⊢;split at hK
  ·split at hK
   ·exact⟨hK.1,hK.2.1,hK.2.2.1,same _ hK.2.2.2⟩
   ·exact hK
  ·exact hK
 | append e x y =>
  have Ip:=ht x (by simp[XOp.hx]);have hty:=ht y (by simp[XOp.hx]);have aJ3:∀ id,(ev x).touch=some id→Hit (XOp.append e x y) pl ev h id:=fun id hid=>.inl ⟨rfl,x,by simp[XOp.tg],hid⟩;simp only[dC] at hK ⊢;rw[wI hty];split at hK
  ·split at hK
   ·split at hK
    ·rw[if_pos ‹_›];exact same _ hK
    ·rw[if_neg ‹_›];exact⟨hK.1,hK.2.1,lS rfl (by simp) La (fun b h' Gb o hK=>hk _ _ _ o hK) hK.2.2⟩
   ·rename_i heq;have hid:=aJ3 _ (by rw[heq];rfl);rw[Ip _ (by rw[heq];rfl)];split at hK
    ·refine⟨hK.1,hK.2.1,hK.2.2.1,hK.2.2.2.1,hK.2.2.2.2.1,?_⟩;have hK:=hK.2.2.2.2.2;split at hK
     ·rw[if_pos ‹_›];exact hk _ _ _ (.inr (.inl ⟨_,_,hid,by simp,rfl,rfl⟩)) hK
     ·rw[if_neg ‹_›];exact⟨hK.1,hK.2.1,hk _ _ _ (.inr (.inl ⟨_,_,hid,by simp,rfl,rfl⟩)) hK.2.2⟩
    ·exact hK
   ·exact⟨hK.1,hK.2.1,hK.2.2.1,hK.2.2.2.1,lS rfl (by simp) La (fun b h' Gb o hK=>hk _ _ _ o hK) hK.2.2.2.2⟩
   ·exact hK
  ·exact hK
 | copy e x y =>
  have Ip:=ht x (by simp[XOp.hx]);have hty:=ht y (by simp[XOp.hx]);have aJ3:∀ id,(ev x).touch=some id→Hit (XOp.copy e x y) pl ev h id:=fun id hid=>.inl ⟨rfl,x,by simp[XOp.tg],hid⟩;simp only[dC] at hK ⊢;rw[wI hty];split at hK
  ·split at hK
   ·rename_i heq;have hid:=aJ3 _ (by rw[heq];rfl);rw[Ip _ (by rw[heq];rfl)];split at hK
    ·exact⟨hK.1,hK.2.1,hk _ _ _ (.inr (.inl ⟨_,_,hid,by simp,rfl,rfl⟩)) hK.2.2⟩
    ·exact hK
   ·exact hK
  ·exact hK
 | make e z n c =>
  simp only[dC] at hK ⊢;split at hK
  ·exact⟨hK.1,hK.2.1,hK.2.2.1,hK.2.2.2.1,lS rfl (by simp) La (fun b h' Gb o hK=>hk _ _ _ o hK) hK.2.2.2.2⟩
  ·exact hK
 | extract i x =>
  simp only[dC] at hK ⊢;split at hK
  ·split at hK
   ·exact same _ hK
   ·exact hK
  ·exact hK
 | mkfn f cs=>exact same _ hK
 | call f as =>
  simp only[dC] at hK ⊢;split at hK
  ·obtain⟨h0,r,hr,hk⟩:=hK;exact⟨h0,r,hr,same _ hk⟩
  ·exact hK
 | calle f as =>
  have hh:=hcal rfl;subst hh;have same':∀ r h',K r h'→K' r h':=fun r h' hr=>hk r h' h' (.inr (.inr (.inr ⟨rfl,rfl⟩))) hr;simp only[dC] at hK ⊢;split at hK
  ·obtain⟨r,h',hr,hk⟩:=hK;exact⟨r,h',hr,same' _ _ hk⟩
  ·obtain⟨r,h',hr,hk⟩:=hK;exact⟨r,h',hr,same' _ _ hk⟩
  ·exact hK
 | callr f as =>
  have hh:=hcal rfl;subst hh;have same':∀ r h',K r h'→K' r h':=fun r h' hr=>hk r h' h' (.inr (.inr (.inr ⟨rfl,rfl⟩))) hr;simp only[dC] at hK ⊢;split at hK
  ·obtain⟨r,h',hr,hk⟩:=hK;exact⟨r,h',hr,same' _ _ hk⟩
  ·exact hK
 | calln f as =>
  simp only[dC] at hK ⊢;split at hK
  ·obtain⟨q1,r,q2,hk⟩:=hK;have Ip:∀ x∈as,∀ id,(ev x).touch=some id→h1[id]? = h[id]? := fun x hx=>ht x hx;exact⟨fun x hx id hid=>by rw[Ip x hx id hid];exact q1 x hx id hid,r,fun h' hh=>q2 h' fun x hx id hid=>(hh x hx id hid).trans (Ip x hx id hid),same _ hk⟩
  ·exact hK
 | minmax g as =>
  simp only[dC] at hK ⊢;split at hK
  ·split at hK
   ·exact⟨hK.1,same _ hK.2⟩
   ·exact hK
  ·split at hK
   ·exact⟨hK.1,hK.2.1,same _ hK.2.2⟩
   ·exact hK
  ·exact hK
 | cap x =>
  simp only[dC] at hK ⊢;split at hK
  ·exact same _ hK
  ·exact hK
 | s2r e x =>
  simp only[dC] at hK ⊢;split at hK
  ·exact⟨hK.1,same _ hK.2⟩
  ·exact hK
 | b2s x =>
  have Ip:=ht x (by simp[XOp.hx]);simp only[dC] at hK ⊢;rw[Ot Ip];split at hK
  ·split at hK
   ·exact⟨hK.1,same _ hK.2⟩
   ·exact hK
  ·exact hK
 | i2s x =>
  simp only[dC] at hK ⊢;split at hK
  ·exact same _ hK
  ·exact hK
 | iter x =>
  simp only[dC] at hK ⊢;split at hK
  ·exact lS rfl (by simp) La (fun b h' Gb o hK=>hk _ _ _ o hK) hK
  ·exact hK
 | next x =>
  have hh:=hcal rfl;subst hh;have same':∀ r h',K r h'→K' r h':=fun r h' hr=>hk r h' h' (.inr (.inr (.inr ⟨rfl,rfl⟩))) hr;simp only[dC] at hK ⊢;split at hK
  ·split at hK
   ·refine⟨hK.1,?_⟩;have hK:=hK.2;unfold Ir at hK ⊢;split at hK
    ·rw[if_pos ‹_›];exact same' _ _ hK
    ·rw[if_neg ‹_›];exact same' _ _ hK
   ·exact hK
  ·exact hK
end
section
theorem jD{F:Fns}{pl:Option Nat}{op:XOp}{ev:XO→A}{h:cM}{K K':A→cM→Prop}(hk:∀ r h',K r h'→K' r h')(hK:dC F pl op ev h K):dC F pl op ev h K' :=
 qQ (fun _=>rfl) (fun _ _ _ _=>rfl) (fun _=>⟨fun _ _=>rfl,fun _=>rfl⟩) (fun r h' Gb o hr=>by have:=o.same;subst this;exact hk _ _ hr) hK
theorem Mw{n:Nat}{g:Bool}{l:List A}{K:A→Prop}(h:dI n g l K):∃ r,K r∧dI n g l (· = r):=by
 unfold dI at *;cases g with
 | true=>exact⟨_,h.2,h.1,rfl⟩
 | false=>cases l with
  | nil=>exact h.elim
  | cons c l=>exact⟨c,h,rfl⟩
theorem Qv:∀ (l:List (Nat × Nat × A)) (cs:List A) {K:List A→Prop},yQ cs l K→∃ r,K r∧yQ cs l (· = r)
 | [],cs,K,h=>⟨cs,h,rfl⟩
 | (_,_,_)::l,cs,K,h=>let⟨r,a,b⟩:=Qv l _ h.2.2.2;⟨r,a,h.1,h.2.1,h.2.2.1,b⟩
theorem Gh{n:Nat}:∀ (l:List (Nat × A)) (rows:List (List A)) {K:List (List A)→Prop},wA n rows l K→∃ r,K r∧wA n rows l (· = r)
 | [],rows,K,h=>⟨rows,h,rfl⟩
 | (_,_)::l,rows,K,h=>let⟨r,a,b⟩:=Gh l _ h.2.2.2;⟨r,a,h.1,h.2.1,h.2.2.1,b⟩
theorem aFR{pl:Option Nat}{h:cM}{B:HB}{K:Nat→cM→Prop}(h0:gP pl h B K):∃ b h',K b h'∧gP pl h B (fun x y=>x=b∧y=h'):=by
 cases pl with
 | none=>exact⟨_,_,h0,rfl,rfl⟩
 | some b=>exact⟨_,_,h0.2,h0.1,rfl,rfl⟩
theorem aFS{pl:Option Nat}{h:cM}{B:HB}{K K':Nat→cM→Prop}(hk:∀ a b,K a b→K' a b)(h0:gP pl h B K):gP pl h B K':=by
 cases pl with
 | none=>exact hk _ _ h0
 | some b=>exact⟨h0.1,hk _ _ h0.2⟩
theorem aBm{F:Fns}{pl:Option Nat}{op:XOp}{ev:XO→A}{h:cM}{K:A→cM→Prop}(hK:dC F pl op ev h K) :
  ∃ r h',K r h'∧dC F pl op ev h (fun a b=>a=r∧b=h'):=by
 have load1:∀ {n g l},dI n g l (fun a=>K a h)→∃ r h',K r h'∧dI n g l (fun a=>a=r∧h=h'):=fun hl =>
  let⟨r,a,b⟩:=Mw hl;⟨r,h,a,gW (fun _ hx=>⟨hx,rfl⟩) b⟩
 have loadq:∀ {n g l},dI n g l (fun a=>a.touch=none∧K a h)→∃ r h',K r h'∧dI n g l (fun a=>a.touch=none∧a=r∧h=h'):=fun hl =>
  let⟨r,a,b⟩:=Mw hl;⟨r,h,a.2,gW (fun x hx=>⟨by rw[hx];exact a.1,hx,rfl⟩) b⟩
 have place1:∀ {B} {g:Nat→A},gP pl h B (fun id h1=>K (g id) h1)→∃ r h',K r h'∧gP pl h B (fun id h1=>g id=r∧h1=h'):=fun {B g} hl =>
  let⟨r,h',a,b⟩:=aFR hl;⟨g r,h',a,aFS (fun _ _ hx=>⟨by rw[hx.1],hx.2⟩) b⟩
 cases op with
 | mov x=>exact⟨_,_,hK,rfl,rfl⟩
 | pick c a b =>
  simp only[dC] at hK ⊢;split at hK
  ·split at hK
   ·refine⟨_,_,hK,?_⟩;rw[if_pos ‹_›];exact⟨rfl,rfl⟩
   ·refine⟨_,_,hK,?_⟩;rw[if_neg ‹_›];exact⟨rfl,rfl⟩
  ·exact hK.elim
 | alloc e z =>
  simp only[dC] at hK ⊢;exact place1 (g:=fun id=>.ptr id 1 0 0) hK
 | box e x=>obtain⟨r,h',a,b⟩:=place1 hK.2.2;exact⟨r,h',a,hK.1,hK.2.1,b⟩
 | build z ps =>
  obtain⟨r,a,b⟩:=Qv _ _ hK;exact⟨_,_,a,Gg _ _ (fun _ hx=>⟨by rw[hx],rfl⟩) b⟩
 | bslice e z n ps =>
  obtain⟨rows,a,b⟩:=Gh _ _ hK;obtain⟨r,h',a,c⟩:=place1 a;exact⟨r,h',a,yS _ _ (fun _ hx=>by subst hx;exact c) b⟩
 | load n g x =>
  simp only[dC] at hK ⊢;split at hK
  ·split at hK
   ·obtain⟨h1,hK⟩:=hK;split at hK
    ·obtain⟨r,h',a,b⟩:=load1 hK;exact⟨r,h',a,h1,b⟩
    ·exact hK.elim
   ·exact hK.elim
  ·exact load1 hK
  ·exact hK.elim
 | loadp n g x =>
  simp only[dC] at hK ⊢;split at hK
  ·split at hK
   ·obtain⟨h1,hK⟩:=hK;split at hK
    ·obtain⟨r,h',a,b⟩:=loadq hK;exact⟨r,h',a,h1,b⟩
    ·exact hK.elim
   ·exact hK.elim
  ·exact loadq hK
  ·exact hK.elim
 | store n x y =>
  simp only[dC] at hK ⊢;split at hK
  ·split at hK
   ·obtain⟨h1,h2,h3,hK⟩:=hK;split at hK
    ·exact⟨_,_,hK.2,h1,h2,h3,hK.1,rfl,rfl⟩
    ·exact hK.elim
   ·exact hK.elim
  ·exact hK.elim
 | faddr off x =>
  simp only[dC] at hK ⊢;split at hK
  ·split at hK
   ·exact⟨_,_,hK.2,hK.1,rfl,rfl⟩
   ·exact hK.elim
  ·exact⟨_,_,hK,rfl,rfl⟩
  ·exact hK.elim
 | field off n g x =>
  simp only[dC] at hK ⊢;split at hK
  ·exact load1 hK
  ·exact hK.elim
 | iaddr e x i =>
  simp only[dC] at hK ⊢;split at hK
  ·exact⟨_,_,hK.2.2.2,hK.1,hK.2.1,hK.2.2.1,rfl,rfl⟩
  ·exact⟨_,_,hK.2.2.2,hK.1,hK.2.1,hK.2.2.1,rfl,rfl⟩
  ·exact⟨_,_,hK.2.2.2,hK.1,hK.2.1,hK.2.2.1,rfl,rfl⟩
  ·split at hK
   ·exact⟨_,_,hK.2.2.2.2,hK.1,hK.2.1,hK.2.2.1,hK.2.2.2.1,rfl,rfl⟩
   ·exact hK.elim
  ·exact hK.elim
 | aaddr e n x i =>
  simp only[dC] at hK ⊢;split at hK
  ·split at hK
   ·exact⟨_,_,hK.2.2.2,hK.1,hK.2.1,hK.2.2.1,rfl,rfl⟩
   ·exact hK.elim
  ·exact⟨_,_,hK.2.2,hK.1,hK.2.1,rfl,rfl⟩
  ·exact hK.elim
 | aidx len n g x i =>
  simp only[dC] at hK ⊢;split at hK
  ·obtain⟨r,h',a,b⟩:=load1 hK.2.2;exact⟨r,h',a,hK.1,hK.2.1,b⟩
  ·exact hK.elim
 | sidx x i =>
  simp only[dC] at hK ⊢;split at hK
  ·exact⟨_,_,hK.2.2,hK.1,hK.2.1,rfl,rfl⟩
  ·exact hK.elim
 | nilck x =>
  simp only[dC] at hK ⊢;split at hK
  ·split at hK
   ·exact⟨_,_,hK.2,hK.1,rfl,rfl⟩
   ·exact hK.elim
  ·exact⟨_,_,hK,rfl,rfl⟩
  ·exact⟨_,_,hK,rfl,rfl⟩
  ·exact hK.elim
 | bin op x y =>
  simp only[dC] at hK ⊢;split at hK
  ·split at hK
   ·exact⟨_,_,hK,rfl,rfl⟩
   ·exact hK.elim
  ·exact hK.elim
 | eqb neg x y =>
  simp only[dC] at hK ⊢;split at hK
  ·exact⟨_,_,hK,rfl,rfl⟩
  ·exact hK.elim
 | eqs neg n ks x y =>
  simp only[dC] at hK ⊢;split at hK
  ·obtain⟨h1,h2,hK⟩:=hK;split at hK
   ·exact⟨_,_,hK,h1,h2,rfl,rfl⟩
   ·exact hK.elim
  ·exact hK.elim
 | eqnil neg x =>
  simp only[dC] at hK ⊢;split at hK
  ·exact⟨_,_,hK,rfl,rfl⟩
  ·exact⟨_,_,hK,rfl,rfl⟩
  ·exact⟨_,_,hK.2,hK.1,rfl,rfl⟩
  ·split at hK
   ·exact⟨_,_,hK.2.2,hK.1,hK.2.1,rfl,rfl⟩
   ·exact hK.elim
  ·exact hK.elim
 | un op x =>
  simp only[dC] at hK ⊢;split at hK
  ·split at hK
   ·exact⟨_,_,hK,rfl,rfl⟩
   ·exact hK.elim
  ·exact hK.elim
 | conv k x =>
  simp only[dC] at hK ⊢;split at hK
  ·exact⟨_,_,hK,rfl,rfl⟩
  ·exact hK.elim
 | len str x =>
  simp only[dC] at hK ⊢;split at hK
  ·exact⟨_,_,hK.2,hK.1,rfl,rfl⟩
  ·exact⟨_,_,hK.2,hK.1,rfl,rfl⟩
  ·exact⟨_,_,hK.2,hK.1,rfl,rfl⟩
  ·exact⟨_,_,hK.2,hK.1,rfl,rfl⟩
  ·split at hK
   ·exact⟨_,_,hK.2.2,hK.1,hK.2.1,rfl,rfl⟩
   ·exact hK.elim
  ·exact⟨_,_,hK.2,hK.1,rfl,rfl⟩
  ·exact hK.elim
 | slice e x lo hi mx =>
  simp only[dC] at hK ⊢;split at hK
  ·exact⟨_,_,hK.2.2.2,hK.1,hK.2.1,hK.2.2.1,rfl,rfl⟩
  ·split at hK
   ·exact⟨_,_,hK.2.2.2.2.2,hK.1,hK.2.1,hK.2.2.1,hK.2.2.2.1,hK.2.2.2.2.1,rfl,rfl⟩
   ·exact hK.elim
  ·split at hK
   ·exact⟨_,_,hK.2.2.2.2.2,hK.1,hK.2.1,hK.2.2.1,hK.2.2.2.1,hK.2.2.2.2.1,rfl,rfl⟩
   ·exact hK.elim
  ·split at hK
   ·split at hK
    ·exact⟨_,_,hK.2.2.2.2.2.2,hK.1,hK.2.1,hK.2.2.1,hK.2.2.2.1,hK.2.2.2.2.1,hK.2.2.2.2.2.1,rfl,rfl⟩
    ·exact hK.elim
   ·exact hK.elim
  ·exact hK.elim
 | sslice x lo hi =>
  simp only[dC] at hK ⊢;split at hK
  ·split at hK
   ·exact⟨_,_,hK.2.2.2,hK.1,hK.2.1,hK.2.2.1,rfl,rfl⟩
   ·exact hK.elim
  ·exact hK.elim
 | append e x y =>
  simp only[dC] at hK ⊢;split at hK
  ·split at hK
   ·split at hK
    ·refine⟨_,_,hK,?_⟩;rw[if_pos ‹_›];exact⟨rfl,rfl⟩
    ·obtain⟨r,h',a,b⟩:=place1 hK.2.2;refine⟨r,h',a,?_⟩;rw[if_neg ‹_›];exact⟨hK.1,hK.2.1,b⟩
   ·split at hK
    ·obtain⟨h1,h2,h3,h4,h5,hK⟩:=hK;split at hK
     ·refine⟨_,_,hK,h1,h2,h3,h4,h5,?_⟩;rw[if_pos ‹_›];exact⟨rfl,rfl⟩
     ·refine⟨_,_,hK.2.2,h1,h2,h3,h4,h5,?_⟩;rw[if_neg ‹_›];exact⟨hK.1,hK.2.1,rfl,rfl⟩
    ·exact hK.elim
   ·obtain⟨r,h',a,b⟩:=place1 hK.2.2.2.2;exact⟨r,h',a,hK.1,hK.2.1,hK.2.2.1,hK.2.2.2.1,b⟩
   ·exact hK.elim
  ·exact hK.elim
 | copy e x y =>
  simp only[dC] at hK ⊢;split at hK
  ·split at hK
   ·split at hK
    ·exact⟨_,_,hK.2.2,hK.1,hK.2.1,rfl,rfl⟩
    ·exact hK.elim
   ·exact hK.elim
  ·exact hK.elim
 | make e z n c =>
  simp only[dC] at hK ⊢;split at hK
  ·obtain⟨r,h',a,b⟩:=place1 hK.2.2.2.2;exact⟨r,h',a,hK.1,hK.2.1,hK.2.2.1,hK.2.2.2.1,b⟩
  ·exact hK.elim
 | extract i x =>
  simp only[dC] at hK ⊢;split at hK
  ·split at hK
   ·exact⟨_,_,hK,rfl,rfl⟩
   ·exact hK.elim
  ·exact hK.elim
 | mkfn f cs=>exact⟨_,_,hK,rfl,rfl⟩
 | call f as =>
  simp only[dC] at hK ⊢;split at hK
  ·obtain⟨h0,r,hr,hk⟩:=hK;exact⟨_,_,hk,h0,r,hr,rfl,rfl⟩
  ·exact hK.elim
 | calle f as =>
  simp only[dC] at hK ⊢;split at hK
  ·obtain⟨r,h',hr,hk⟩:=hK;exact⟨_,_,hk,r,h',hr,rfl,rfl⟩
  ·obtain⟨r,h',hr,hk⟩:=hK;exact⟨_,_,hk,r,h',hr,rfl,rfl⟩
  ·exact hK.elim
 | callr f as =>
  simp only[dC] at hK ⊢;split at hK
  ·obtain⟨r,h',hr,hk⟩:=hK;exact⟨_,_,hk,r,h',hr,rfl,rfl⟩
  ·exact hK.elim
 | calln f as =>
  simp only[dC] at hK ⊢;split at hK
  ·obtain⟨q1,r,q2,hk⟩:=hK;exact⟨_,_,hk,q1,r,q2,rfl,rfl⟩
  ·exact hK.elim
 | minmax g as =>
  simp only[dC] at hK ⊢;split at hK
  ·split at hK
   ·exact⟨_,_,hK.2,hK.1,rfl,rfl⟩
   ·exact hK.elim
  ·split at hK
   ·exact⟨_,_,hK.2.2,hK.1,hK.2.1,rfl,rfl⟩
   ·exact hK.elim
  ·exact hK.elim
 | cap x =>
  simp only[dC] at hK ⊢;split at hK
  ·exact⟨_,_,hK,rfl,rfl⟩
  ·exact hK.elim
 | s2r e x =>
  simp only[dC] at hK ⊢;split at hK
  ·exact⟨_,_,hK.2,hK.1,rfl,rfl⟩
  ·exact hK.elim
 | b2s x =>
  simp only[dC] at hK ⊢;split at hK
  ·split at hK
   ·exact⟨_,_,hK.2,hK.1,rfl,rfl⟩
   ·exact hK.elim
  ·exact hK.elim
 | i2s x =>
  simp only[dC] at hK ⊢;split at hK
  ·exact⟨_,_,hK,rfl,rfl⟩
  ·exact hK.elim
 | iter x =>
  simp only[dC] at hK ⊢;split at hK
  ·exact place1 (g:=fun id=>.ptr id 0 0 0) hK
  ·exact hK.elim
 | next x =>
  simp only[dC] at hK ⊢;split at hK
  ·split at hK
   ·have hs:=hK.1;have hK:=hK.2;unfold Ir at hK ⊢;split at hK
    ·refine⟨_,_,hK,hs,?_⟩;rw[if_pos ‹_›];exact⟨rfl,rfl⟩
    ·refine⟨_,_,hK,hs,?_⟩;rw[if_neg ‹_›];exact⟨rfl,rfl⟩
   ·exact hK.elim
  ·exact hK.elim
theorem pJ{ev ev':XO→A}{x:Option XO}(d:Nat)(he:∀ y,x=some y→ev' y=ev y):dS ev' x d=dS ev x d:=by
 cases x with
 | none=>rfl
 | some y=>simp only[dS,he y rfl]
theorem aKj{F:Fns}{pl:Option Nat}{op:XOp}{ev ev':XO→A}{h:cM}{K:A→cM→Prop}(he:∀ x:XO,(∀ n∈x.slots,n∈op.slots)→ev' x=ev x):dC F pl op ev' h K=dC F pl op ev h K:=by
 cases op with
 | mov x | box _ x | load _ _ x | loadp _ _ x | faddr _ x | field _ _ _ x | nilck x | eqnil _ x | un _ x | conv _ x | len _ x | extract _ x | cap x | s2r _ x | b2s x | i2s x | iter x | next x=>simp only[dC,he x (by simp[XOp.slots])]
 | pick c a b=>simp only[dC,he c (by simp[XOp.slots];grind),he a (by simp[XOp.slots];grind),he b (by simp[XOp.slots];grind)]
 | alloc _ _=>rfl
 | build z ps =>
  have:(ps.map fun(o,n,x)=>(o,n,ev' x))=ps.map fun(o,n,x)=>(o,n,ev x):=aH fun p hp=>by
   obtain⟨o,n,x⟩:=p;simp only[he x (fun m hm=>by simp only[XOp.slots,aC];exact⟨_,hp,hm⟩)]
  simp only[dC,this]
 | bslice e z n ps =>
  have:(ps.map fun(i,x)=>(i,ev' x))=ps.map fun(i,x)=>(i,ev x):=aH fun p hp=>by
   obtain⟨i,x⟩:=p;simp only[he x (fun m hm=>by simp only[XOp.slots,aC];exact⟨_,hp,hm⟩)]
  simp only[dC,this]
 | store _ x y | iaddr _ x y | aaddr _ _ x y | aidx _ _ _ x y | sidx x y | bin _ x y | eqb _ x y | eqs _ _ _ x y | append _ x y | copy _ x y | make _ _ x y =>
  simp only[dC,he x (by simp[XOp.slots];grind),he y (by simp[XOp.slots];grind)]
 | slice e x lo hi mx =>
  simp only[dC,he x (by simp[XOp.slots];grind)];have h1:∀ d,dS ev' lo d=dS ev lo d:=fun d=>pJ d fun y hy=>he y (by subst hy;simp[XOp.slots,mW];grind);have h2:∀ d,dS ev' hi d=dS ev hi d:=fun d=>pJ d fun y hy=>he y (by subst hy;simp[XOp.slots,mW];grind);have h3:∀ d,dS ev' mx d=dS ev mx d:=fun d=>pJ d fun y hy=>he y (by subst hy;simp[XOp.slots,mW];grind);simp only[h1,h2,h3]
 | sslice x lo hi =>
  simp only[dC,he x (by simp[XOp.slots];grind)];have h1:∀ d,dS ev' lo d=dS ev lo d:=fun d=>pJ d fun y hy=>he y (by subst hy;simp[XOp.slots,mW];grind);have h2:∀ d,dS ev' hi d=dS ev hi d:=fun d=>pJ d fun y hy=>he y (by subst hy;simp[XOp.slots,mW];grind);simp only[h1,h2]
 | mkfn f cs =>
  have:cs.map ev'=cs.map ev:=aH fun x hx=>he x (fun m hm=>by simp only[XOp.slots,aC];exact⟨_,hx,hm⟩);simp only[dC,this]
 | call f as | calle f as | callr f as =>
  have:as.map ev'=as.map ev:=aH fun x hx=>he x (fun m hm=>by simp only[XOp.slots,aO,aC];exact .inr ⟨_,hx,hm⟩);simp only[dC,this,he f (by simp[XOp.slots];grind)]
 | calln f as =>
  have h1:as.map ev'=as.map ev:=aH fun x hx=>he x (fun m hm=>by simp only[XOp.slots,aO,aC];exact .inr ⟨_,hx,hm⟩);have h2:∀ x∈as,ev' x=ev x:=fun x hx=>he x (fun m hm=>by simp only[XOp.slots,aO,aC];exact .inr ⟨_,hx,hm⟩);have h3:∀ h':cM,(∀ x∈as,∀ id,(ev' x).touch=some id→h'[id]? = h[id]?)=(∀ x∈as,∀ id,(ev x).touch=some id→h'[id]? = h[id]?):=fun h'=>propext ⟨fun hh x hx=>by rw[← h2 x hx];exact hh x hx,fun hh x hx=>by rw[h2 x hx];exact hh x hx⟩;have h4:(∀ x∈as,∀ id,(ev' x).touch=some id→∃ e rows,h[id]? = some (.cells e rows))=(∀ x∈as,∀ id,(ev x).touch=some id→∃ e rows,h[id]? = some (.cells e rows)):=propext ⟨fun hh x hx=>by rw[← h2 x hx];exact hh x hx,fun hh x hx=>by rw[h2 x hx];exact hh x hx⟩;simp only[dC,h1,h3,h4,he f (by simp[XOp.slots];grind)]
 | minmax g as =>
  have:∀ x∈as,ev' x=ev x:=fun x hx=>he x (fun m hm=>by simp only[XOp.slots,aC];exact⟨_,hx,hm⟩);simp only[dC];split
  ·simp only[this _ (zW ..),this _ (zZ _ (zW ..))]
  ·simp only[this _ (zW ..),this _ (zZ _ (zW ..)),this _ (zZ _ (zZ _ (zW ..)))]
  ·rfl
theorem wJ{e:Elt}{h:cM}{x:A}{new:List (List A)}(hs:eX e h x=some new){id:Nat}(hid:x.touch=some id):∃ e rows,h[id]? = some (.cells e rows):=by
 cases x<;>simp[A.touch] at hid<;>subst hid
 ·simp[eX] at hs
 ·simp only[eX] at hs;split at hs
  ·exact⟨_,_, ‹_›⟩
  ·cases hs
theorem Qw{e:Elt}{h:cM}{x:A}{rows:List (List A)}(hs:gV e h x=some rows):eX e h x=some rows:=by
 unfold gV at hs;split at hs
 ·cases hs
 ·exact hs
theorem Zt{F:Fns}{pl:Option Nat}{op:XOp}{ev:XO→A}{h:cM}{K:A→cM→Prop}(hK:dC F pl op ev h K):∀ x∈op.hx,∀ id,(ev x).touch=some id→∃ e rows,h[id]? = some (.cells e rows):=by
 cases op<;>simp only[XOp.hx,zp,List.not_mem_nil,or_false,forall_eq,false_implies,implies_true,forall_eq_or_imp]<;>skip
 case load n g x =>
  simp only[dC] at hK;generalize ev x=X at *;intro id hid;cases X<;>simp[A.touch] at hid<;>subst hid
  ·simp only at hK;split at hK
   ·exact⟨_,_, ‹_›⟩
   ·exact hK.elim
  ·exact hK.elim
 case loadp n g x =>
  simp only[dC] at hK;generalize ev x=X at *;intro id hid;cases X<;>simp[A.touch] at hid<;>subst hid
  ·simp only at hK;split at hK
   ·exact⟨_,_, ‹_›⟩
   ·exact hK.elim
  ·exact hK.elim
 case store n x y =>
  simp only[dC] at hK;generalize ev x=X at *;intro id hid;cases X<;>simp[A.touch] at hid<;>subst hid
  ·simp only at hK;split at hK
   ·exact⟨_,_, ‹_›⟩
   ·exact hK.elim
  ·exact hK.elim
 case faddr n x =>
  simp only[dC] at hK;generalize ev x=X at *;intro id hid;cases X<;>simp[A.touch] at hid<;>subst hid
  ·simp only at hK;split at hK
   ·exact⟨_,_, ‹_›⟩
   ·exact hK.elim
  ·exact hK.elim
 case eqnil neg x =>
  simp only[dC] at hK;generalize ev x=X at *;intro id hid;cases X<;>simp[A.touch] at hid<;>subst hid
  ·exact hK.elim
  ·simp only at hK;split at hK
   ·exact⟨_,_, ‹_›⟩
   ·exact hK.elim
 case nilck x =>
  simp only[dC] at hK;generalize ev x=X at *;intro id hid;cases X<;>simp[A.touch] at hid<;>subst hid
  ·simp only at hK;split at hK
   ·exact⟨_,_, ‹_›⟩
   ·exact hK.elim
  ·exact hK.elim
 case len str x =>
  simp only[dC] at hK;generalize ev x=X at *;intro id hid;cases X<;>simp[A.touch] at hid<;>subst hid
  ·exact hK.elim
  ·simp only at hK;split at hK
   ·exact⟨_,_, ‹_›⟩
   ·exact hK.elim
 case slice e x lo hi mx =>
  simp only[dC] at hK;generalize ev x=X at *;intro id hid;cases X<;>simp[A.touch] at hid<;>subst hid
  ·exact hK.elim
  ·simp only at hK;split at hK
   ·exact⟨_,_, ‹_›⟩
   ·exact hK.elim
 case iaddr e x i =>
  simp only[dC] at hK;intro id hid;split at hK<;>(try exact hK.elim)<;>rename_i hX _<;>rw[hX] at hid<;>simp[A.touch] at hid
  ·subst hid;split at hK
   ·exact⟨_,_, ‹_›⟩
   ·exact hK.elim
 case aaddr e n x i =>
  simp only[dC] at hK;intro id hid;split at hK<;>(try exact hK.elim)<;>rename_i hX _<;>rw[hX] at hid<;>simp[A.touch] at hid
  ·subst hid;split at hK
   ·exact⟨_,_, ‹_›⟩
   ·exact hK.elim
 case b2s x =>
  simp only[dC] at hK;intro id hid;split at hK
  ·exact wJ (Qw ‹_›) hid
  ·exact hK.elim
 case calln f as =>
  simp only[dC] at hK;split at hK
  ·exact hK.1
  ·exact hK.elim
 case append e x y =>
  simp only[dC] at hK;split at hK
  ·refine⟨fun id hid=>?_,fun id hid=>wJ ‹_› hid⟩;split at hK<;>(try exact hK.elim)<;>rename_i hX<;>rw[hX] at hid<;>simp[A.touch] at hid
   ·subst hid;split at hK
    ·exact⟨_,_, ‹_›⟩
    ·exact hK.elim
  ·exact hK.elim
 case copy e x y =>
  simp only[dC] at hK;split at hK
  ·refine⟨fun id hid=>?_,fun id hid=>wJ ‹_› hid⟩;split at hK<;>(try exact hK.elim)<;>rename_i hX<;>rw[hX] at hid<;>simp[A.touch] at hid
   ·subst hid;split at hK
    ·exact⟨_,_, ‹_›⟩
    ·exact hK.elim
  ·exact hK.elim
end
section
structure XOper where
 dst:Option Nat
 op:XOp
 guard:Option (Nat × Bool):=none
 pl:Option Nat:=none
structure St where
 slots:Nat→A
 heap:cM
abbrev cV:A:=.tup []
def upd(s:Nat→A)(d:Nat)(r:A)(n:Nat):A:=if n=d then r else s n
def put(d:Option Nat)(r:A)(s:Nat→A):Nat→A :=
 match d with
 | some d=>upd s d r
 | none=>s
def XOper.live(o:XOper)(sl:Nat→A):Option XOp :=
 match o.guard with
 | none=>some o.op
 | some (g,b)=>match sl g with
  | .d (.sc (.bool c))=>if c=b then some o.op else some (.mov (.k cV))
  | .tup []=>some (.mov (.k cV))
  | _=>none
def jA(F:Fns)(base:Nat)(o:XOper)(s:St)(K:St→Prop):Prop :=
 match o.live s.slots with
 | some op=>dC F (o.pl.map (base + ·)) op (ev s.slots) s.heap fun r h=>K ⟨put o.dst r s.slots,h⟩
 | none=>False
def kH(F:Fns)(base:Nat):List XOper→St→(St→Prop)→Prop
 | [],s,K=>K s
 | o::os,s,K=>jA F base o s fun s'=>kH F base os s' K
def XOp.heapFree(op:XOp):Bool:=op.hx.isEmpty && !op.pushes && !op.isCalle
def XOp.isR:XOp→Bool
 | .callr _ _=>true
 | _=>false
def XOp.still(op:XOp):Bool := !op.writes && !op.pushes && !op.isCalle
def tJ(sep:Bool)(p q:XOp):Bool :=
 p.heapFree||q.heapFree||(p.isR&&q.still)||(p.still&&q.isR)||(!p.isCalle && !q.isCalle&&(!p.writes||q.hx.isEmpty||(sep && !q.pushes))&&(!q.writes||p.hx.isEmpty||(sep && !p.pushes)))
theorem aFT{op:XOp}(h:op.hx=[]):op.writes=false:=by
 cases op<;>first | rfl | simp[XOp.hx] at h
theorem rV{F:Fns}{pl:Option Nat}{op:XOp}{ev:XO→A}{h:cM}{K:A→cM→Prop}(hK:dC F pl op ev h K):∃ r h',K r h'∧Gf op pl ev h h h' h'∧dC F pl op ev h (fun a b=>a=r∧b=h'):=by
 have:=qQ (h1:=h) (K':=fun a b=>K a b∧Gf op pl ev h h b b) (fun _=>rfl) (fun _ _ _ _=>rfl) (fun _=>⟨fun _ _=>rfl,fun _=>rfl⟩) (fun r h' Gb o hr=>by have e:=o.same;subst e;exact⟨hr,o⟩) hK;obtain⟨r,h',a,b⟩:=aBm this;exact⟨r,h',a.1,a.2,b⟩
theorem xK{F:Fns}{pl:Option Nat}{op:XOp}{ev:XO→A}{h h1:cM}{K K':A→cM→Prop}(hf:op.heapFree=true)(hk:∀ r,K r h→K' r h1)(hK:dC F pl op ev h K):dC F pl op ev h1 K':=by
 simp only[XOp.heapFree,zf,aR,aA] at hf;obtain⟨⟨h1,h2⟩,h3⟩:=hf;refine qQ (fun hc=>by rw[h3] at hc;cases hc) (fun x hx=>by rw[h1] at hx;cases hx) (fun hp=>by rw[h2] at hp;cases hp) (fun r h' Gb o hr=>?_) hK;rcases o with⟨rfl,rfl⟩ | ⟨id,X,hid,_⟩ | ⟨hp,_⟩ | ⟨hc,_⟩
 ·exact hk _ hr
 ·rcases hid with⟨hw,_⟩ | ⟨hp,_⟩
  ·rw[aFT h1] at hw;cases hw
  ·rw[h2] at hp;cases hp
 ·rw[h2] at hp;cases hp
 ·rw[h3] at hc;cases hc
theorem yT{F:Fns}{pl:Option Nat}{op:XOp}{ev:XO→A}{h h1:cM}{K K':A→cM→Prop}(hf:op.still=true)(hx:∀ x∈op.hx,∀ id,(ev x).touch=some id→h1[id]? = h[id]?)(hk:∀ r,K r h→K' r h1)(hK:dC F pl op ev h K):dC F pl op ev h1 K':=by
 simp only[XOp.still,zf,aA] at hf;obtain⟨⟨h0,h2⟩,h3⟩:=hf;refine qQ (fun hc=>by rw[h3] at hc;cases hc) hx (fun hp=>by rw[h2] at hp;cases hp) (fun r h' Gb o hr=>?_) hK;rcases o with⟨rfl,rfl⟩ | ⟨id,X,hid,_⟩ | ⟨hp,_⟩ | ⟨hc,_⟩
 ·exact hk _ hr
 ·rcases hid with⟨hw,_⟩ | ⟨hp,_⟩
  ·rw[h0] at hw;cases hw
  ·rw[h2] at hp;cases hp
 ·rw[h2] at hp;cases hp
 ·rw[h3] at hc;cases hc
theorem Qx{F:Fns}{pl:Option Nat}{op:XOp}{ev:XO→A}{h:cM}{K:A→cM→Prop}(hf:op.isR=true)(hK:dC F pl op ev h K):∃ r t,K r (h++t)∧dC F pl op ev h fun a b=>a=r∧b=h++t:=by
 cases op<;>first | (cases hf;done) | skip
 simp only[dC] at hK ⊢;split at hK
 ·obtain⟨r,t,hr,hk⟩:=hK;exact⟨r,t,hk,r,t,hr,rfl,rfl⟩
 ·exact hK.elim
theorem aEQ{F:Fns}{b:Nat}{op:XOp}{ev:XO→A}{h:cM}{K:A→cM→Prop}(hp:op.pushes=true)(hx:op.hx=[])(hK:dC F (some b) op ev h K):h[b]? = some .res:=by
 have place1:∀ {B:HB} {K:Nat→cM→Prop},gP (some b) h B K→h[b]? = some .res:=fun hk=>hk.1;have rows1:∀ {n:Nat} (l:List (Nat × A)) (rows:List (List A)) {K:List (List A)→Prop},wA n rows l K→∃ rows',K rows':=fun l rows K hk=>let⟨r,a,_⟩:=Gh l rows hk;⟨r,a⟩;cases op<;>first | (cases hp;done) | skip
 ·simp only[dC] at hK;exact place1 hK
 ·simp only[dC] at hK;exact place1 hK.2.2
 ·simp only[dC] at hK;obtain⟨_,hK⟩:=rows1 _ _ hK;exact place1 hK
 ·simp[XOp.hx] at hx
 ·simp only[dC] at hK;split at hK
  ·exact place1 hK.2.2.2.2
  ·exact hK.elim
 ·simp only[dC] at hK;split at hK
  ·exact place1 hK
  ·exact hK.elim
theorem aDh{d:Option Nat}{r:A}{l:Nat→A}{x:XO}(h:∀ n,d=some n→n ∉ x.slots):ev (put d r l) x=ev l x:=by
 cases d with
 | none=>rfl
 | some d =>
  cases x with
  | t n =>
   have:d≠n:=fun e=>h d rfl (by simp[XO.slots,e]);simp[ev,put,upd,Ne.symm this]
  | k _=>rfl
  | f _=>rfl
theorem xL{F:Fns}{pl:Option Nat}{op:XOp}{d:Option Nat}{r:A}{l:Nat→A}{h:cM}{K:A→cM→Prop}(hd:∀ n,d=some n→n ∉ op.slots):dC F pl op (ev (put d r l)) h K=dC F pl op (ev l) h K :=
 aKj fun x hx=>aDh fun n hn hc=>hd n hn (hx n hc)
theorem aHQ{d e:Option Nat}{r t:A}{l:Nat→A}(h:∀ n,d=some n→e≠some n):put d r (put e t l)=put e t (put d r l):=by
 cases d with
 | none=>rfl
 | some d=>cases e with
  | none=>rfl
  | some e =>
   have:d≠e:=fun hh=>h d rfl (by rw[hh])
   funext n
   simp only[put,upd]
   by_cases h1:n=d
   ·subst h1;simp[this]
   ·simp[h1]
theorem aFU{F:Fns}{plp plq:Option Nat}{p q:XOp}{sl:Nat→A}{h:cM}{dp dq:Option Nat}{K:St→Prop}{sep:Bool}(hc:tJ sep p q=true)(hs:sep=true→(∀ x∈p.tg,∀ y∈q.hx,∀ id,(ev sl x).touch=some id→(ev sl y).touch≠some id)∧(∀ x∈p.hx,∀ y∈q.tg,∀ id,(ev sl x).touch=some id→(ev sl y).touch≠some id))
  (h1:∀ n,dq=some n→n ∉ p.slots) (h2:∀ n,dp=some n→n ∉ q.slots) (h3:∀ n,dp=some n→dq≠some n)
  (hpp:p.pushes=true→plp.isSome=true) (hpq:q.pushes=true→plq.isSome=true) (fM:p.pushes=true→q.pushes=true→plp≠plq)
  (T:∀ x∈q.hx,∀ id,(ev sl x).touch=some id→∃ B,h[id]? = some B∧B ≠ .res)
  (H:dC F plp p (ev sl) h fun r1 ha=>dC F plq q (ev (put dp r1 sl)) ha fun r2 hb=>K ⟨put dq r2 (put dp r1 sl),hb⟩) :
  dC F plq q (ev sl) h fun r2 hb=>dC F plp p (ev (put dq r2 sl)) hb fun r1 hc=>K ⟨put dp r1 (put dq r2 sl),hc⟩:=by
 obtain⟨r1,ha,H1,op,Hp⟩:=rV H;rw[xL h2] at H1;obtain⟨r2,hb,HK,oq,Hq⟩:=rV H1;rw[← aHQ h3] at HK;have Bt:p.heapFree=true∨q.heapFree=true∨(p.isR=true∧q.still=true)∨(p.still=true∧q.isR=true)∨(p.isCalle=false∧q.isCalle=false∧(p.writes=true→q.hx=[]∨(sep=true∧q.pushes=false))∧(q.writes=true→p.hx=[]∨(sep=true∧p.pushes=false))):=by
  simp only[tJ,aG,zf,aA,aR] at hc;rcases hc with(((hc | hc) | hc) | hc) | ⟨⟨⟨a,b⟩,c⟩,d⟩
  ·exact .inl hc
  ·exact .inr (.inl hc)
  ·exact .inr (.inr (.inl hc))
  ·exact .inr (.inr (.inr (.inl hc)))
  ·refine .inr (.inr (.inr (.inr ⟨a,b,fun hw=>?_,fun hw=>?_⟩)))
   ·rcases c with(c | c) | c
    ·rw[hw] at c;cases c
    ·exact .inl c
    ·exact .inr c
   ·rcases d with(c | c) | c
    ·rw[hw] at c;cases c
    ·exact .inl c
    ·exact .inr c
 rcases Bt with hf | hf | ⟨hf,hg⟩ | ⟨hf,hg⟩ | ⟨cp,cq,wp,wq⟩
 ·have hh:ha=h:=by
   have:=xK (K':=fun _ b=>h=b) (h1:=h) hf (fun r hr=>rfl) Hp;obtain⟨_,b,e,_,Hx⟩:=rV Hp;have:=xK (K':=fun _ _=>ha=h) (h1:=h) hf (fun r hr=>hr.2.symm) Hp;obtain⟨_,_,e,_⟩:=rV this;exact e
  subst hh;refine jD (fun a b Xf=>?_) Hq;obtain⟨rfl,rfl⟩:=Xf;rw[xL h1];exact xK hf (fun r hr=>by obtain⟨rfl,_⟩:=hr;exact HK) Hp
 ·have hh:hb=ha:=by
   have:=xK (K':=fun _ _=>hb=ha) (h1:=h) hf (fun r hr=>hr.2.symm) Hq;obtain⟨_,_,e,_⟩:=rV this;exact e
  subst hh;refine xK hf (fun r hr=>?_) Hq;obtain⟨rfl,_⟩:=hr;rw[xL h1];exact jD (fun a b Xf=>by obtain⟨rfl,rfl⟩:=Xf;exact HK) Hp
 ·-- p is a call that leaves all blocks
  obtain⟨r1',t,⟨rfl,rfl⟩,Hp'⟩:=Qx hf Hp;have hh:hb=h++t:=by
   have:=yT (K':=fun _ _=>hb=h++t) (h1:=h++t) hg (fun _ _ _ _=>rfl) (fun r hr=>hr.2.symm) Hq;obtain⟨_,_,e,_⟩:=rV this;exact e
  subst hh;refine yT hg (fun x hx id hid=>?_) (fun r hr=>?_) Hq
  ·obtain⟨B,hB,_⟩:=T x hx id hid;rw[zF (zA.1 hB).1]
  ·obtain⟨rfl,_⟩:=hr;rw[xL h1];exact jD (fun a b Xf=>by obtain⟨rfl,rfl⟩:=Xf;exact HK) Hp
 ·-- q is
  have hh:ha=h:=by
   have:=yT (K':=fun _ _=>ha=h) (h1:=h) hf (fun _ _ _ _=>rfl) (fun r hr=>hr.2.symm) Hp;obtain⟨_,_,e,_⟩:=rV this;exact e
  subst hh;obtain⟨r2',t,⟨rfl,rfl⟩,Hq'⟩:=Qx hg Hq;refine jD (fun a b Xf=>?_) Hq;obtain⟨rfl,rfl⟩:=Xf;rw[xL h1];refine yT hf (fun x hx id hid=>?_) (fun r hr=>?_) Hp
  ·obtain⟨e0,rows,nC⟩:=Zt Hp x hx id hid;rw[zF (zA.1 nC).1]
  ·obtain⟨rfl,_⟩:=hr;exact HK
 ·-- what p changed
  have effp:∀ {Kz:cM},Gf p plp (ev sl) h h Kz Kz→Kz=h∨∃ id X,Hit p plp (ev sl) h id∧X≠HB.res∧Kz=h.set id X:=by
   intro Kz o;rcases o with⟨a,_⟩ | ⟨id,X,a,b,c,_⟩ | ⟨a,b,_⟩ | ⟨a,_⟩
   ·exact .inl a
   ·exact .inr ⟨id,X,a,b,c⟩
   ·have:=hpp a;rw[b] at this;cases this
   ·rw[cp] at a;cases a
  -- a block that p changed is none that q looks into, nor q's gP
  have sepHx:∀ idp,Hit p plp (ev sl) h idp→∀ x∈q.hx,∀ id,(ev sl x).touch=some id→idp≠id:=by
   intro idp Fg x hx id hid e;subst e;rcases Fg with⟨hw,x',Qf,Kv⟩ | ⟨_,_,hr⟩
   ·rcases wp hw with e | ⟨e,_⟩
    ·rw[e] at hx;cases hx
    ·exact(hs e).1 x' Qf x hx _ Kv hid
   ·obtain⟨B,hB,hn⟩:=T x hx _ hid;rw[hr] at hB;cases hB;exact hn rfl
  have sepPl:∀ idp,Hit p plp (ev sl) h idp→q.pushes=true→plq≠some idp:=by
   intro idp Fg hq e;rcases Fg with⟨hw,x,hx,hid⟩ | ⟨hp,La,_⟩
   ·have kG:q.hx=[]:=by
     rcases wp hw with e' | ⟨_,e'⟩
     ·exact e'
     ·rw[hq] at e';cases e'
    have hr:ha[idp]? = some .res:=aEQ hq kG (by rw[e] at Hq;exact Hq);obtain⟨e0,rows,nC⟩:=Zt Hp x (aHP hx) idp hid;rcases effp op with rfl | ⟨id,X,_,hX,rfl⟩
    ·rw[hr] at nC;cases nC
    ·rw[aK] at hr;split at hr
     ·split at hr
      ·exact hX (by injection hr)
      ·cases hr
     ·rw[hr] at nC;cases nC
   ·exact fM hp hq (by rw[La,e])
  have agq:∀ id,(∀ idp,Hit p plp (ev sl) h idp→idp≠id)→h[id]? = ha[id]? := by
   intro id hs;rcases effp op with rfl | ⟨idp,X,Fg,_,rfl⟩
   ·rfl
   ·rw[aK,if_neg (hs idp Fg)]
  refine qQ (h:=ha) (fun hc=>by rw[cq] at hc;cases hc) (fun x hx id hid=>agq id fun idp Fg=>sepHx idp Fg x hx id hid)
   (fun hq=>⟨fun b hb=>agq b fun idp Fg e=>sepPl idp Fg hq (by rw[hb,e]),fun hn=>by have:=hpq hq;rw[hn] at this;cases this⟩) (fun a Zf Xe o hr=>?_) Hq
  obtain⟨rfl,rfl⟩:=hr;rw[xL h1]
  -- what q changed
  have effq:Zf=ha∧Xe=h∨∃ id X,Hit q plq (ev sl) ha id∧X≠HB.res∧Zf=ha.set id X∧Xe=h.set id X:=by
   rcases o with⟨a,b⟩ | ⟨id,X,a,b,c,d⟩ | ⟨a,b,_⟩ | ⟨a,_⟩
   ·exact .inl ⟨a,b⟩
   ·exact .inr ⟨id,X,a,b,c,d⟩
   ·have:=hpq a;rw[b] at this;cases this
   ·rw[cq] at a;cases a
  have sepHx':∀ idq,Hit q plq (ev sl) ha idq→∀ x∈p.hx,∀ id,(ev sl x).touch=some id→idq≠id:=by
   intro idq Fg x hx id hid e;subst e;rcases Fg with⟨hw,x',Qf,Kv⟩ | ⟨_,_,hr⟩
   ·rcases wq hw with e | ⟨e,_⟩
    ·rw[e] at hx;cases hx
    ·exact(hs e).2 x hx x' Qf _ hid Kv
   ·obtain⟨e0,rows,nC⟩:=Zt Hp x hx _ hid;rcases effp op with rfl | ⟨id,X,_,hX,rfl⟩
    ·rw[hr] at nC;cases nC
    ·rw[aK] at hr;split at hr
     ·split at hr
      ·exact hX (by injection hr)
      ·cases hr
     ·rw[hr] at nC;cases nC
  have sepPl':∀ idq,Hit q plq (ev sl) ha idq→p.pushes=true→plp≠some idq:=by
   intro idq Fg hp e;rcases Fg with⟨hw,x,hx,hid⟩ | ⟨hq,La,_⟩
   ·have kG:p.hx=[]:=by
     rcases wq hw with e' | ⟨_,e'⟩
     ·exact e'
     ·rw[hp] at e';cases e'
    obtain⟨B,hB,hn⟩:=T x (aHP hx) _ hid;rw[aEQ hp kG (by rw[e] at Hp;exact Hp)] at hB;cases hB;exact hn rfl
   ·exact fM hp hq (by rw[e,La])
  have agp:∀ id,(∀ idq,Hit q plq (ev sl) ha idq→idq≠id)→Xe[id]? = h[id]? := by
   intro id hs;rcases effq with⟨_,rfl⟩ | ⟨idq,X,Fg,_,_,rfl⟩
   ·rfl
   ·rw[aK,if_neg (hs idq Fg)]
  refine qQ (h:=h) (fun hc=>by rw[cp] at hc;cases hc) (fun x hx id hid=>agp id fun idq Fg=>sepHx' idq Fg x hx id hid)
   (fun hp=>⟨fun b hb=>agp b fun idq Fg e=>sepPl' idq Fg hp (by rw[hb,e]),fun hn=>by have:=hpp hp;rw[hn] at this;cases this⟩) (fun a Kz h3 o' hr=>?_) Hp
  obtain⟨rfl,rfl⟩:=hr;have effp':Kz=h∧h3=Xe∨∃ id X,Hit p plp (ev sl) h id∧X≠HB.res∧Kz=h.set id X∧h3=Xe.set id X:=by
   rcases o' with⟨a,b⟩ | ⟨id,X,a,b,c,d⟩ | ⟨a,b,_⟩ | ⟨a,_⟩
   ·exact .inl ⟨a,b⟩
   ·exact .inr ⟨id,X,a,b,c,d⟩
   ·have:=hpp a;rw[b] at this;cases this
   ·rw[cp] at a;cases a
  have:h3=Zf:=by
   rcases effq with⟨e1,e2⟩ | ⟨idq,Y,hitq,hY,e1,e2⟩
   ·rcases effp' with⟨e3,e4⟩ | ⟨idp,X,hitp,hX,e3,e4⟩
    ·rw[e4,e2,e1,e3]
    ·rw[e4,e2,e1,e3]
   ·rcases effp' with⟨e3,e4⟩ | ⟨idp,X,hitp,hX,e3,e4⟩
    ·rw[e4,e2,e1,e3]
    ·have aOe:idp≠idq:=by
      intro e;subst e;rcases hitq with⟨hw,x,hx,hid⟩ | ⟨hq,La,_⟩
      ·exact sepHx _ hitp x (aHP hx) _ hid rfl
      ·exact sepPl _ hitp hq La
     rw[e4,e2,e1,e3,List.set_comm _ _ aOe]
  rw[this];exact HK
end
section
structure Still where
 lo:Nat
 n:Nat
 Γ:Ctx
inductive MarksOk (w:World) (ρ:fJ) (lo:Nat):List Deferred→Prop
 | nil (h:lo≤w.heap.size):MarksOk w ρ lo []
 | cons {D:Nat} {l:List Deferred} (hD:lo≤D) (hh:w.heap[D]? = some (.deferred (some []))) (hρ:∀ id p:Nat,ρ[id]? ≠ some (some (D,p))) (hn:∀ d∈l,d.target ≠ .collected D) (hl:MarksOk w ρ lo l) :
   MarksOk w ρ lo ({ target:=.collected D,args := #[] }::l)
theorem MarksOk.evo{w w':World}{ρ ρ':fJ}{h h':cM}{n0 lo:Nat}{l:List Deferred}(m:MarksOk w ρ lo l)(g:Evo n0 h ρ w h' ρ' w'):MarksOk w' ρ' lo l:=by
 induction m with
 | nil h=>exact .nil (Nat.le_trans h g.size)
 | @cons D l hD hh hρ hn _ ih =>
  have cY:D<w.heap.size:=(Array.getElem?_eq_some_iff.1 hh).1;refine .cons hD (by rw[g.old D cY hρ];exact hh) (fun id p hp=>?_) hn ih;rcases g.fresh id D p hp with hf | ⟨i,q,hq⟩
  ·omega
  ·exact hρ i q hq
theorem MarksOk.lo{w:World}{ρ:fJ}{lo:Nat}{l:List Deferred}(m:MarksOk w ρ lo l):lo≤w.heap.size:=by
 induction m with
 | nil h=>exact h
 | cons _ _ _ _ _ ih=>exact ih
theorem MarksOk.lt{w:World}{ρ:fJ}{lo:Nat}{l:List Deferred}(m:MarksOk w ρ lo l):∀ d∈l,∀ D,d.target = .collected D→D<w.heap.size:=by
 induction m with
 | nil h=>intro d hd;cases hd
 | @cons D l _ hh _ _ _ ih =>
  intro d hd D' he;rcases zp.1 hd with rfl | hd
  ·cases he;exact(Array.getElem?_eq_some_iff.1 hh).1
  ·exact ih d hd D' he
variable {P:Program}{w w':World}{M:Nat→Prop}{ρ ρ':fJ}{h h':cM}{z:Still}{F:Fns}
def Vu(w:World)(M:Nat→Prop)(ρ:fJ)(h:cM)(sl:Nat→A)(vs:Array Value):Prop:=∀ n,RepA w M ρ h (sl n) (nY vs n)
structure Sim(z:Still)(w:World)(M:Nat→Prop)(ρ:fJ)(s:St)(a:Act):Prop where
 bnd:∀ b,M b→b<w.heap.size
 sim:SimH w M ρ s.heap
 slots:Vu w M ρ s.heap s.slots a.tmps
 size:a.tmps.size=z.n
 nlt:z.n≤iY
 tabs:TabsOk z.Γ w M ρ s.heap
 defers:MarksOk w ρ z.lo a.defers
theorem Sim.env{s:St}{a:Act}(S:Sim z w M ρ s a):Env w M ρ s.heap (ev s.slots) a.eval:=fun _ _ hc=>aMr hc S.slots
theorem Vu.put{l:Nat→A}{d:Option Nat}{r:A}{v:Value}{a:Act}(hs:Vu w M ρ h l a.tmps)(hr:RepA w M ρ h r v)(hd:∀ n,d=some n→n<a.tmps.size)(hb:∀ n,d=some n→n<iY):Vu w M ρ h (put d r l) (a.put d v).tmps:=by
 cases d with
 | none=>exact hs
 | some d =>
  intro n;have cY:=hd d rfl;have hd':=hb d rfl
  by_cases he:n=d
  ·subst he;simp only[Act.put,Nx.put,upd,if_pos,nY,hd',zR,Array.getElem?_setIfInBounds,cY,aI];exact hr
  ·have:=hs n;have e1:Nx.put (some d) r l n=l n:=by simp[Nx.put,upd,he]
   have e2:nY (a.put (some d) v).tmps n=nY a.tmps n:=by
    unfold nY;split
    ·simp[Act.put,zR,Array.getElem?_setIfInBounds,Ne.symm he]
    ·rfl
   rw[e1,e2];exact this
theorem Vu.evo{l:Nat→A}{vs:Array Value}(hs:Vu w M ρ h l vs)(g:Evo h.length h ρ w h' ρ' w'):Vu w' M ρ' h' l vs :=
 fun n=>g.rep' (hs n)
theorem Sim.step{s:St}{a:Act}{d:Option Nat}{r:A}{v:Value}(S:Sim z w M ρ s a)(hd:∀ n,d=some n→n<z.n)(hr:RepA w' M ρ' h' r v)(hS:SimH w' M ρ' h')(g:Evo s.heap.length s.heap ρ w h' ρ' w') :
  Sim z w' M ρ' ⟨put d r s.slots,h'⟩ (a.put d v) where
 bnd b hb:=aW (S.bnd b hb) g.size
 sim:=hS
 slots:=(S.slots.evo g).put hr (fun n hn=>by rw[S.size];exact hd n hn) (fun n hn=>aW (hd n hn) S.nlt)
 size:=by cases d<;>simp[Act.put,S.size]
 nlt:=S.nlt
 tabs:=S.tabs.evo g
 defers:=by cases d<;>exact S.defers.evo g
theorem aBn{op:Op}{f:XO}{xs:List XO}(hc:gA P op=some (.call f xs)):∃ (g:Operand) (args:List Operand) (ts:Array TypeId),op = .call { callee:=.value g,args:=args.toArray,argTypes:=ts }∧cO g=some f∧args.mapM cO=some xs:=by
 cases op with
 | call c =>
  simp only[gA] at hc;obtain⟨callee,args,ts⟩:=c;simp only at hc;cases callee with
  | value g =>
   simp only[Iy,zJ,zD,Option.pure_def,zH,XOp.call.injEq] at hc;obtain⟨f',hf,xs',hx,rfl,rfl⟩:=hc;exact⟨g,args.toList,ts,by simp,hf,hx⟩
  | _ =>
   exfalso;unfold Iy at hc;split at hc
   ·rename_i heq;cases heq
   all_goals (repeat' split at hc)<;>simp[zD] at hc
 | makeFunc fn first caps =>
  exfalso;simp only[gA] at hc;unfold Qu at hc;split at hc<;>simp at hc
 | _ =>
  exfalso;simp only[gA] at hc
  first
   | (simp[zD] at hc;done)
   | ((repeat' split at hc)<;>simp[zD] at hc;done)
   | (simp only[zJ,zD] at hc;obtain⟨_,_,hc⟩:=hc;(repeat' split at hc)<;>simp[zD] at hc;done)
   | skip
def XOper.plain(o:XOper):XOper:={ o with op:=o.op.plain,pl:=none }
def xM(ops:Array Oper):Option (Nat × Bool)→Option (Option (Nat × Bool))
 | none=>some none
 | some (j,b)=>match (ops[j]?).bind (·.dst) with
  | some d=>some (some (d,b))
  | none=>none
def Ck(P:Program)(ops:Array Oper)(o:Oper):Option XOper :=
 match gA P o.op,xM ops o.guard with
 | some x,some g=>some {dst:=o.dst,op:=x,guard:=g }
 | _,_=>none
theorem aHR{x:XOp}(h:∀ f args,x.plain ≠ .call f args):x.plain=x∨∃ n g y,x = .loadp n g y:=by
 cases x<;>first | exact .inl rfl | exact absurd rfl (h _ _) | exact .inr ⟨_,_,_,rfl⟩
theorem aDi{F:Fns}{pl:Option Nat}{n:Nat}{g:Bool}{y:XO}{ev:XO→A}{h:cM}{K:A→cM→Prop}(hK:dC F pl (.loadp n g y) ev h K):dC F pl (.load n g y) ev h K:=by
 simp only[dC] at hK ⊢;split at hK
 ·split at hK
  ·refine⟨hK.1,?_⟩;have hK:=hK.2;split at hK
   ·exact gW (fun a ha=>ha.2) hK
   ·exact hK
  ·exact hK
 ·exact gW (fun a ha=>ha.2) hK
 ·exact hK
theorem aKk(hF:FnsOk z.Γ P F){rl:Option Nat}{pl:Option Nat}{o:Oper}{x:XOp}{s:St}{a:Act}{K:A→cM→Prop}{next:Act→World→Prop}{Q:Exit→Act→World→Prop}(hc:gA P o.op=some x.plain)(S:Sim z w M ρ s a)
  (hK:dC F pl x (ev s.slots) s.heap K) (hn:∀ r h' v w' ρ',K r h'→RepA w' M ρ' h' r v→SimH w' M ρ' h'→Evo s.heap.length s.heap ρ w h' ρ' w'→next (a.put o.dst v) w'):o.wpIn (Fw rl) 0 P a w next Q:=by
 have callCase:∀ f args,gA P o.op=some (.call f args)→(match (generalizing:=false) ev s.slots f with
   | .fn g caps=>∃ r h',FnD z.Γ P g (args.map (ev s.slots)++caps) s.heap r h'∧K r h'
   | .yld id=>∃ r h',Cj z.Γ P id (args.map (ev s.slots)) s.heap r h'∧K r h'
   | _=>False)→o.wpIn (Fw rl) 0 P a w next Q:=by
  intro f args hc hK;obtain⟨g,as,ts,ho,hf,hxs⟩:=aBn hc;exact aKi ho hf hxs S.bnd S.sim S.tabs S.env hK hn
 by_cases hx:∃ f args,x.plain = .call f args
 ·obtain⟨f,args,hx⟩:=hx;rw[hx] at hc;refine callCase f args hc ?_;cases x with
  | call f' args' =>
   cases hx;simp only[dC] at hK;split at hK
   ·obtain⟨h0,r,hr,hk⟩:=hK;rename_i heq;rw[heq];exact⟨r,_,(hF.pure _ _ _ hr).join h0,hk⟩
   ·exact hK.elim
  | calle f' args' =>
   cases hx;simp only[dC] at hK;split at hK
   ·obtain⟨r,h',hr,hk⟩:=hK;rename_i heq;rw[heq];exact⟨r,h',hF.call _ _ _ _ _ hr,hk⟩
   ·obtain⟨r,h',hr,hk⟩:=hK;rename_i heq;rw[heq];exact⟨r,h',hF.round _ _ _ _ _ hr,hk⟩
   ·exact hK.elim
  | calln f' args' =>
   cases hx;simp only[dC] at hK;split at hK
   ·obtain⟨h0,r,hr,hk⟩:=hK;rename_i heq;rw[heq];exact⟨r,_,hF.call _ _ _ _ _ (hr s.heap fun _ _ _ _=>rfl),hk⟩
   ·exact hK.elim
  | callr f' args' =>
   cases hx;simp only[dC] at hK;split at hK
   ·obtain⟨r,t,hr,hk⟩:=hK;rename_i heq;rw[heq];exact⟨r,_,hF.call _ _ _ _ _ hr,hk⟩
   ·exact hK.elim
  | _=>cases hx
 ·have Qf:∀ f args,x.plain ≠ .call f args:=fun f args he=>hx ⟨f,args,he⟩;have hK:dC F pl x.plain (ev s.slots) s.heap K:=by
   rcases aHR Qf with e | ⟨n,g,y,rfl⟩
   ·rw[e];exact hK
   ·exact aDi hK
  obtain⟨r,h',hk,hd⟩:=aFQ (o:=o) hc Qf S.bnd S.sim S.env (fun _=>rfl) hK;refine aKg (fun c he=>?_) hd fun v w' ρ' q1 q2 q3=>hn r h' v w' ρ' hk q1 q2 q3;rw[he] at hc;simp[gA] at hc
theorem Vv{ops:Array Oper}{o:Oper}{x:XOper}(hc:Ck P ops o=some x.plain):o.dst=x.dst∧gA P o.op=some x.op.plain∧xM ops o.guard=some x.guard:=by
 unfold Ck at hc;split at hc
 ·rename_i h1 h2;injection hc with hc;have e1:=congrArg XOper.dst hc;have e2:=congrArg XOper.op hc;have e3:=congrArg XOper.guard hc;simp only[XOper.plain] at e1 e2 e3;subst e2 e3;exact⟨e1,h1,h2⟩
 ·cases hc
theorem aBo{ops:Array Oper}{o:Oper}{x:XOper}{s:St}{a:Act}(S:Sim z w M ρ s a)(hg:xM ops o.guard=some x.guard){op:XOp}(hl:x.live s.slots=some op) :
  (Region.wanted o (yielded ops a.tmps)=true∧op=x.op)∨(Region.wanted o (yielded ops a.tmps)=false∧op = .mov (.k cV)):=by
 cases hgo:o.guard with
 | none =>
  rw[hgo] at hg;simp only[xM,zH] at hg;simp only[XOper.live,← hg,zH] at hl;exact .inl ⟨by simp[Region.wanted,hgo],hl.symm⟩
 | some jb =>
  obtain⟨j,b⟩:=jb;rw[hgo] at hg;simp only[xM] at hg;split at hg
  ·rename_i d hd;simp only[zH] at hg;simp only[XOper.live,← hg] at hl;have hw:Region.wanted o (yielded ops a.tmps)=(yielded ops a.tmps j == some b):=by simp[Region.wanted,hgo]
   rw[hw];have hy:yielded ops a.tmps j=match a.tmps[d]? with
     | some (.bool b)=>some b
     | _=>none:=by
    simp only[yielded,hd,Option.bind_some];cases a.tmps[d]? with
    | none=>rfl
    | some v=>cases v<;>rfl
   rw[hy];have get:∀ {y:A},s.slots d=y→(∀ p,¬ RepA w M ρ s.heap y (.pointer p))→RepA w M ρ s.heap y ((a.tmps[d]?).getD undef):=by
    intro y hy hp;subst hy;have:=S.slots d;unfold nY at this;split at this
    ·rwa [zR] at this
    ·exact absurd this (hp _)
   split at hl
   ·rename_i c heq;have hr:=get heq (fun p hp=>by cases hp with | d hx=>cases hx);cases hv:a.tmps[d]? with
    | none=>rw[hv] at hr;cases hr with
     | d hx=>cases hx
    | some v =>
     rw[hv] at hr;cases hr with
     | d hx=>cases hx with
      | sc _ =>
      split at hl
      ·rename_i hcb;subst hcb;injection hl with hl;exact .inl ⟨by simp,hl.symm⟩
      ·rename_i hcb;injection hl with hl;exact .inr ⟨by simpa using hcb,hl.symm⟩
   ·rename_i heq;have hr:=get heq (fun p hp=>by cases hp);injection hl with hl;cases hv:a.tmps[d]? with
    | none=>exact .inr ⟨by simp,hl.symm⟩
    | some v =>
     rw[hv] at hr;cases hr with
     | tup=>exact .inr ⟨by simp,hl.symm⟩
   ·cases hl
  ·cases hg
theorem Gi(hF:FnsOk z.Γ P F){rl:Option Nat}{ops:Array Oper}{i base:Nat}{o:Oper}{x:XOper}{s:St}{a:Act}{K:St→Prop}{next:Act→World→Prop}{Q:Exit→Act→World→Prop}
  (ho:ops[i]? = some o) (hc:Ck P ops o=some x.plain) (hd:∀ n,x.dst=some n→n<z.n) (S:Sim z w M ρ s a) (hK:jA F base x s K)
  (hn:∀ s' ρ' a' w',K s'→Sim z w' M ρ' s' a'→Evo s.heap.length s.heap ρ w s'.heap ρ' w'→next a' w'):wpOpIn (Fw rl) 0 P ops Q i next a w:=by
 obtain⟨h1,h2,h3⟩:=Vv hc;unfold jA at hK;split at hK
 ·rename_i op hl;unfold wpOpIn;simp only[ho];rcases aBo S h3 hl with⟨hw,rfl⟩ | ⟨hw,rfl⟩
  ·rw[if_pos hw];refine aKk hF h2 S hK fun r h' v w' ρ' hk q1 q2 q3=>hn _ ρ' _ w' hk ?_ q3;rw[h1];exact S.step hd q1 q2 q3
  ·rw[if_neg (by rw[hw];simp)];refine⟨fun _ _=>trivial,hn _ ρ _ w hK ?_ (.refl _ _ _ _ (zL _))⟩;rw[h1];exact S.step hd (w':=w) (.tup rfl fun j x hj=>by simp at hj) S.sim (.refl _ _ _ _ (zL _))
 ·exact hK.elim
end
section
variable {P:Program}{w w':World}{M:Nat→Prop}{ρ ρ':fJ}{h h':cM}{z:Still}{F:Fns}
def Ld(P:Program)(ops:Array Oper):Option (List XOper):=ops.toList.mapM (Ck P ops)
structure OpsAre(P:Program)(n:Nat)(ops:Array Oper)(xs:List XOper):Prop where
 dst:∀ (i:Nat) (x:XOper) (m:Nat),xs[i]? = some x→x.dst=some m→m<n
 len:xs.length=ops.size
 get:∀ (i:Nat) (o:Oper) (x:XOper),ops[i]? = some o→xs[i]? = some x→Ck P ops o=some x.plain
theorem OpsAre.of{ops:Array Oper}{xs:List XOper}{n:Nat}(hc:Ld P ops=some (xs.map XOper.plain))(hd:xs.all (fun x=>x.dst.all (decide <| · < n))=true):OpsAre P n ops xs:=by
 obtain⟨h1,h2⟩:=oO hc;refine⟨fun i x m hx hm=>?_,by simpa using h1,fun i o x ho hx=>?_⟩
 ·have:=aE.1 hd x (aJ.2 ⟨i,hx⟩);rw[hm] at this;simpa using this
 obtain⟨y,hy,hf⟩:=h2 i o (by simpa using ho);rw[zK,hx] at hy;cases hy;exact hf
theorem aFV(hF:FnsOk z.Γ P F){rl:Option Nat}{ops:Array Oper}{xs:List XOper}{base:Nat}{K:St→Prop}{Q:Exit→Act→World→Prop}(H:OpsAre P z.n ops xs):∀ (l:List Nat) (s:St) (ρ:fJ) (a:Act) (w:World),
  Sim z w M ρ s a→kH F base (l.filterMap (xs[·]?)) s K→(∀ s' ρ' a' w',K s'→Sim z w' M ρ' s' a'→Evo s.heap.length s.heap ρ w s'.heap ρ' w'→Q .normal a' w') →
  wpOpsIn (Fw rl) 0 P ops Q l a w:=by
 intro l
 induction l with
 | nil=>intro s ρ a w S hK hn;exact hn s ρ a w hK S (.refl _ _ _ _ (zL _))
 | cons i l ih =>
  intro s ρ a w S hK hn;rw[wpOpsIn_cons];cases hx:xs[i]? with
  | none =>
   have ho:ops[i]? = none:=by
    rw[aQ,H.len] at hx;exact Array.getElem?_eq_none hx
   simp only[aD,hx] at hK;unfold wpOpIn;rw[ho];exact ih s ρ a w S hK hn
  | some x =>
   have cY:i<ops.size:=by rw[← H.len];exact(zA.1 hx).1
   have ho:ops[i]? = some ops[i]:=Array.getElem?_eq_getElem cY;simp only[aD,hx,kH] at hK;refine Gi hF ho (H.get i _ x ho hx) (fun m hm=>H.dst i x m hx hm) S hK fun s' ρ' a' w' hk S' g=>?_;exact ih s' ρ' a' w' S' hk fun s'' ρ'' a'' w'' Io S'' g'=>hn s'' ρ'' a'' w'' Io S'' (g.trans (g'.mono g.len))
def XOper.reads(o:XOper):List Nat:=o.op.slots++(match o.guard with | some (g,_)=>[g] | none=>[])
def optMem(d:Option Nat)(l:List Nat):Bool :=
 match d with
 | some d=>l.contains d
 | none=>false
def aHS(sep:Bool)(p q:XOper):Bool :=
 tJ sep p.op q.op && !optMem q.dst p.reads && !optMem p.dst q.reads && !optMem p.dst q.dst.toList&&(!p.op.pushes||p.pl.isSome)&&(!q.op.pushes||q.pl.isSome)&&(!(p.op.pushes&&q.op.pushes)||p.pl != q.pl)
structure Indep(sep:Bool)(p q:XOper):Prop where
 cls:tJ sep p.op q.op=true
 qp:∀ n,q.dst=some n→n ∉ p.reads
 pq:∀ n,p.dst=some n→n ∉ q.reads
 dd:∀ n,p.dst=some n→q.dst≠some n
 plp:p.op.pushes=true→p.pl.isSome=true
 plq:q.op.pushes=true→q.pl.isSome=true
 pls:p.op.pushes=true→q.op.pushes=true→p.pl≠q.pl
theorem yU{d:Option Nat}{l:List Nat}(hh:optMem d l=false):∀ n,d=some n→n ∉ l:=by
 intro n hn hm;subst hn;simp[optMem,hm] at hh
theorem Indep.of{sep:Bool}{p q:XOper}(hi:aHS sep p q=true):Indep sep p q:=by
 simp only[aHS,zf,aA] at hi;obtain⟨⟨⟨⟨⟨⟨h1,h2⟩,h3⟩,h4⟩,h5⟩,h6⟩,h7⟩:=hi;refine⟨h1,yU h2,yU h3,fun n hn he=>yU h4 n hn (by simp[he]),fun hp=>?_,fun hp=>?_,fun hp hq he=>?_⟩
 ·simpa[hp] using h5
 ·simpa[hp] using h6
 ·simp[hp,hq,he] at h7
def Xv(q:XOper)(s:St):Prop:=∀ x∈q.op.hx,∀ id,(ev s.slots x).touch=some id→∃ B,s.heap[id]? = some B∧B ≠ .res
theorem Qy{o:XOper}{d:Option Nat}{r:A}{l:Nat→A}(hd:∀ n,d=some n→n ∉ o.reads):o.live (put d r l)=o.live l:=by
 unfold XOper.live;split
 ·rfl
 ·rename_i g b hg;have:put d r l g=l g:=by
   have:=aDh (d:=d) (r:=r) (l:=l) (x:=.t g) (fun n hn hm=>hd n hn (by simp only[XO.slots,List.mem_singleton] at hm;subst hm;simp[XOper.reads,hg]));exact this
  rw[this]
theorem gR{o:XOper}{l:Nat→A}{op:XOp}(hl:o.live l=some op):op=o.op∨op = .mov (.k cV):=by
 unfold XOper.live at hl;split at hl
 ·injection hl with hl;exact .inl hl.symm
 ·split at hl
  ·split at hl
   ·injection hl with hl;exact .inl hl.symm
   ·injection hl with hl;exact .inr hl.symm
  ·injection hl with hl;exact .inr hl.symm
  ·cases hl
theorem yV{base:Nat}{o:XOper}{s:St}{K K':St→Prop}(hk:∀ s',K s'→K' s')(hK:jA F base o s K):jA F base o s K':=by
 unfold jA at *;split at hK
 ·exact jD (fun _ _ hr=>hk _ hr) hK
 ·exact hK.elim
theorem aHT{p:XOper}{x:XO}{n:Nat}(hx:x∈p.op.hx)(hn:n∈x.slots):n∈p.reads:=by
 refine aL _ ?_;generalize p.op=op at *;cases op<;>simp[XOp.hx] at hx<;>(try subst hx)<;>first | (simp[XOp.slots,hn];done) | (exact List.mem_append_right _ (aC.2 ⟨_,hx,hn⟩)) | simp[XOp.slots,hn]
 ·rcases hx with rfl | rfl<;>simp[hn]
 ·rcases hx with rfl | rfl<;>simp[hn]
theorem aBp{base:Nat}{p q:XOper}{s:St}{K:St→Prop}{sep:Bool}(hi:Indep sep p q)(hc:Xv q s)(hK:jA F base p s K):jA F base p s fun s'=>Xv q s'∧K s':=by
 unfold jA at *;split at hK
 ·rename_i op hl;obtain⟨r,h',hk,eff,fE⟩:=rV hK;refine jD (fun a b Xf=>⟨?_,by rw[Xf.1,Xf.2];exact hk⟩) fE;obtain⟨rfl,rfl⟩:=Xf;intro x hx id hid;dsimp only at hid ⊢;rw[aDh fun n hn hm=>hi.pq n hn (aHT hx hm)] at hid;obtain⟨B,hB,hBr⟩:=hc x hx id hid;have cY:id<s.heap.length:=(zA.1 hB).1;rcases eff with⟨e,_⟩ | ⟨i,X,_,hX,e,_⟩ | ⟨hp,hn,_⟩ | ⟨hcal,_⟩
  ·rw[e];exact⟨B,hB,hBr⟩
  ·rw[e,aK];split
   ·rename_i hi;subst hi;rw[if_pos cY];exact⟨X,rfl,hX⟩
   ·exact⟨B,hB,hBr⟩
  ·exfalso;rcases gR hl with rfl | rfl
   ·have:=hi.plp hp;cases La:p.pl with
    | none=>rw[La] at this;cases this
    | some _=>rw[La] at hn;cases hn
   ·cases hp
  ·rcases gR hl with rfl | rfl
   ·have aQK:=hi.cls
    by_cases hr:p.op.isR=true
    ·obtain⟨r',t,hrt,_⟩:=Qx hr fE;exact⟨B,by rw[← hrt.2,zF cY];exact hB,hBr⟩
    exfalso;have hr:p.op.isR=false:=by simpa using hr
    have mO:p.op.still=false:=by simp[XOp.still,hcal]
    have:=aQK;rw[tJ,hr,mO] at this;simp only[tJ,hcal,XOp.heapFree,Bool.not_true,Bool.and_false,Bool.false_and,Bool.or_false,Bool.false_or,zf,aR] at this;rw[this.1.1] at hx;cases hx
   ·cases hcal
 ·exact hK.elim
theorem Le{sep:Bool}{p:XOp}{a:A}:tJ sep (.mov (.k a)) p=true:=rfl
theorem Ja{sep:Bool}{p:XOp}{a:A}:tJ sep p (.mov (.k a))=true:=by
 simp[tJ,XOp.heapFree,XOp.hx,XOp.pushes,XOp.isCalle]
def aLZ(p q:XOp)(s:St):Prop:=(∀ x∈p.tg,∀ y∈q.hx,∀ id,(ev s.slots x).touch=some id→(ev s.slots y).touch≠some id)∧(∀ x∈p.hx,∀ y∈q.tg,∀ id,(ev s.slots x).touch=some id→(ev s.slots y).touch≠some id)
theorem aOk{base:Nat}{p q:XOper}{s:St}{K:St→Prop}{sep:Bool}(hi:Indep sep p q)(hs:sep=true→aLZ p.op q.op s)(hc:Xv q s)(hK:jA F base p s fun s1=>jA F base q s1 K):jA F base q s fun s2=>jA F base p s2 K:=by
 unfold jA at hK;split at hK
 ·rename_i opp hlp;cases hlq:q.live s.slots with
  | none =>
   exfalso;obtain⟨r,h',hk,_⟩:=aBm hK;dsimp only at hk;rw[Qy hi.pq,hlq] at hk;exact hk
  | some opq =>
   have hsp:∀ n,q.dst=some n→n ∉ opp.slots:=fun n hn hm=>by
    rcases gR hlp with rfl | rfl
    ·exact hi.qp n hn (aL _ hm)
    ·simp[XOp.slots,XO.slots] at hm
   have hsq:∀ n,p.dst=some n→n ∉ opq.slots:=fun n hn hm=>by
    rcases gR hlq with rfl | rfl
    ·exact hi.pq n hn (aL _ hm)
    ·simp[XOp.slots,XO.slots] at hm
   have hK':dC F (p.pl.map (base + ·)) opp (ev s.slots) s.heap fun r1 ha=>dC F (q.pl.map (base + ·)) opq (ev (put p.dst r1 s.slots)) ha fun r2 hb=>K ⟨put q.dst r2 (put p.dst r1 s.slots),hb⟩:=by
    refine jD (fun r h' hk=>?_) hK;dsimp only at hk;rw[Qy hi.pq,hlq] at hk;exact hk
   have:=aFU (sep:=sep) (p:=opp) (q:=opq) ?_ ?_ hsp hsq hi.dd ?_ ?_ ?_ ?_ hK'
   ·unfold jA;rw[hlq];refine jD (fun r h' hk=>?_) this;dsimp only;rw[Qy hi.qp,hlp];exact hk
   ·rcases gR hlp with rfl | rfl
    ·rcases gR hlq with rfl | rfl
     ·exact hi.cls
     ·exact Ja
    ·exact Le
   ·intro aOe;rcases gR hlp with rfl | rfl
    ·rcases gR hlq with rfl | rfl
     ·exact hs aOe
     ·exact⟨fun x hx y hy=>(by cases hy),fun x hx y hy=>(by cases hy)⟩
    ·exact⟨fun x hx=>(by cases hx),fun x hx=>(by cases hx)⟩
   ·intro hp;rcases gR hlp with rfl | rfl
    ·simpa using hi.plp hp
    ·cases hp
   ·intro hp;rcases gR hlq with rfl | rfl
    ·simpa using hi.plq hp
    ·cases hp
   ·intro hp hq he;rcases gR hlp with rfl | rfl
    ·rcases gR hlq with rfl | rfl
     ·refine hi.pls hp hq ?_;have h1:=hi.plp hp;cases hpp:p.pl with
      | none=>rw[hpp] at h1;cases h1
      | some u=>cases hqq:q.pl with
       | none=>rw[hpp,hqq] at he;cases he
       | some v =>
        rw[hpp,hqq] at he;simp only[aB,zH] at he;simp only[zH];omega
     ·cases hq
    ·cases hp
   ·intro x hx id hid;rcases gR hlq with rfl | rfl
    ·exact hc x hx id hid
    ·simp[XOp.hx] at hx
 ·exact hK.elim
def yW(rt:List (Nat × Option Nat))(dsts:List Nat)(n:Nat):Option (Option Nat) :=
 match rt.lookup n with
 | some k=>some k
 | none=>if dsts.contains n then none else some none
def jB(σ:Nat→Nat)(base:Nat)(r:Option Nat)(id:Nat):Prop :=
 match r with
 | some k=>if k<1000 then id=base+k else if k=1000 then base≤id else if k=9999 then False else id=σ k∧id<base
 | none=>id<base
def rM(σ:Nat→Nat)(base:Nat)(rt:List (Nat × Option Nat))(dsts:List Nat)(s:St):Prop :=
 ∀ n r,yW rt dsts n=some r→∀ id,(s.slots n).touch=some id→jB σ base r id
def Xw(σ:Nat→Nat)(rt:List (Nat × Option Nat)):Prop :=
 ∀ p∈rt,∀ q∈rt,∀ k k',p.2=some k→q.2=some k'→1000<k→1000<k'→k≠k'→σ k≠σ k'
def Zu(rt:List (Nat × Option Nat))(dsts:List Nat)(k:Option Nat):XO→Bool
 | .t m=>yW rt dsts m == some k
 | _=>false
def Pq(rt:List (Nat × Option Nat))(dsts:List Nat):XO→Bool
 | .t m=>match yW rt dsts m with
  | some (some j)=>decide (j≤1000)
  | _=>false
 | _=>false
def aDj(pl:Option Nat)(k:Option Nat):Bool :=
 match pl with
 | some j=>k == some j&&decide (j<1000)
 | none=>false
def Zv(rt:List (Nat × Option Nat))(dsts:List Nat)(pl:Option Nat)(k:Option Nat):XOp→Bool
 | .alloc _ _ | .box _ _ | .bslice _ _ _ _=>aDj pl k
 | .mov x | .faddr _ x | .nilck x | .iaddr _ x _ | .slice _ x _ _ _=>Zu rt dsts k x
 | .append _ x _=>k == some 1000&&pl.isSome&&Pq rt dsts x
 | .loadp _ _ _=>k == some 9999
 | _=>false
def Cl(rt:List (Nat × Option Nat))(dsts:List Nat)(o:XOper):Bool :=
 match o.dst with
 | none=>true
 | some n=>dsts.contains n&&match rt.lookup n with
  | none=>true
  | some k=>Zv rt dsts o.pl k o.op
def aMt(k k':Nat):Bool:=k == 9999||k' == 9999||k != k' && !(k == 1000&&decide (k'<1000)) && !(k' == 1000&&decide (k<1000))
def aFW(rt:List (Nat × Option Nat))(dsts:List Nat):XO→XO→Bool
 | .t m,.t n=>match yW rt dsts m,yW rt dsts n with
  | some (some k),some (some k')=>aMt k k'
  | some (some k),some none=>decide (k≤1000)||k == 9999
  | some none,some (some k)=>decide (k≤1000)||k == 9999
  | _,_=>false
 | .k a,_=>a.touch.isNone
 | _,.k a=>a.touch.isNone
 | .f _,_=>true
 | _,.f _=>true
def Qz(rt:List (Nat × Option Nat))(dsts:List Nat)(p q:XOp):Bool:=(p.tg.all fun x=>q.hx.all fun y=>aFW rt dsts x y)&&(p.hx.all fun x=>q.tg.all fun y=>aFW rt dsts x y)
variable {rt:List (Nat × Option Nat)}{dsts:List Nat}{σ:Nat→Nat}
theorem wK{n:Nat}{k:Option Nat}:∀ {l:List (Nat × Option Nat)},l.lookup n=some k→(n,k)∈l
 | [],h=>by simp at h
 | (m,j)::l,h=>by
  simp only[List.lookup] at h;split at h
  ·rename_i e;have:n=m:=by simpa using e
   cases h;subst this;exact zW ..
  ·exact zZ _ (wK h)
theorem Ra{n k:Nat}(h:yW rt dsts n=some (some k)):(n,some k)∈rt:=by
 unfold yW at h;split at h
 ·cases h;exact wK ‹_›
 ·split at h<;>cases h
theorem aKl{base k k' id:Nat}(hs:1000<k→1000<k'→k≠k'→σ k≠σ k')(h:aMt k k'=true)(h1:jB σ base (some k) id)(h2:jB σ base (some k') id):False:=by
 by_cases q1:k=9999
 ·subst q1;simp[jB] at h1
 by_cases q2:k'=9999
 ·subst q2;simp[jB] at h2
 have b1:(k == 9999)=false:=by simpa using q1
 have b2:(k' == 9999)=false:=by simpa using q2
 simp only[aMt,b1,b2,Bool.false_or,zf,bne_iff_ne,ne_eq,aA,Bool.and_eq_false_iff,beq_eq_false_iff_ne,decide_eq_false_iff_not] at h;obtain⟨⟨a1,a2⟩,a3⟩:=h;simp only[jB,if_neg q1,if_neg q2] at h1 h2;split at h1
 ·split at h2
  ·omega
  ·split at h2
   ·omega
   ·omega
 ·split at h1
  ·split at h2
   ·omega
   ·split at h2
    ·omega
    ·omega
  ·split at h2
   ·omega
   ·split at h2
    ·omega
    ·exact hs (by omega) (by omega) a1 (h1.1.symm.trans h2.1)
theorem aER{base k id:Nat}(h:(decide (k≤1000)||k == 9999)=true)(h1:jB σ base (some k) id)(h2:jB σ base none id):False:=by
 by_cases q1:k=9999
 ·subst q1;simp[jB] at h1
 have b1:(k == 9999)=false:=by simpa using q1
 rw[b1,Bool.or_false] at h;have h:=of_decide_eq_true h;simp only[jB,if_neg q1] at h1 h2;split at h1
 ·omega
 ·split at h1<;>omega
theorem aES{base:Nat}{x y:XO}{s:St}(hσ:Xw σ rt)(R:rM σ base rt dsts s)(h:aFW rt dsts x y=true):∀ id,(ev s.slots x).touch=some id→(ev s.slots y).touch≠some id:=by
 intro id h1 h2;cases x with
 | k a=>cases y<;>simp[aFW] at h<;>simp[ev,h] at h1
 | f g=>simp[ev,A.touch] at h1
 | t m=>cases y with
  | k a=>simp[aFW] at h;simp[ev,h] at h2
  | f g=>simp[ev,A.touch] at h2
  | t n =>
   simp only[aFW] at h;simp only[ev] at h1 h2;split at h
   ·rename_i k k' e1 e2;exact aKl (fun a b c=>hσ _ (Ra e1) _ (Ra e2) _ _ rfl rfl a b c) h (R m _ e1 id h1) (R n _ e2 id h2)
   ·rename_i k e1 e2;exact aER h (R m _ e1 id h1) (R n _ e2 id h2)
   ·rename_i k e1 e2;exact aER h (R n _ e2 id h2) (R m _ e1 id h1)
   ·cases h
theorem aFX{base:Nat}{p q:XOp}{s:St}(hσ:Xw σ rt)(R:rM σ base rt dsts s)(h:Qz rt dsts p q=true):aLZ p q s:=by
 simp only[Qz,zf,aE] at h;exact⟨fun x hx y hy=>aES hσ R (h.1 x hx y hy),fun x hx y hy=>aES hσ R (h.2 x hx y hy)⟩
theorem xN{base:Nat}{k:Option Nat}{x:XO}{sl:Nat→A}{h:cM}(R:rM σ base rt dsts ⟨sl,h⟩)(ho:Zu rt dsts k x=true):∀ id,(ev sl x).touch=some id→jB σ base k id:=by
 cases x with
 | t m=>exact R m k (by simpa[Zu] using ho)
 | _=>simp[Zu] at ho
theorem aDk{base:Nat}{x:XO}{sl:Nat→A}{h:cM}(R:rM σ base rt dsts ⟨sl,h⟩)(ho:Pq rt dsts x=true):∀ id,(ev sl x).touch=some id→base≤id:=by
 cases x with
 | t m =>
  simp only[Pq] at ho;split at ho
  ·rename_i j hj;intro id hid;have:=R m _ hj id hid;have hj:=of_decide_eq_true ho;simp only[jB] at this;split at this
   ·omega
   ·split at this
    ·omega
    ·split at this<;>omega
  ·cases ho
 | _=>simp[Pq] at ho
theorem Lf{σ:Nat→Nat}{base:Nat}{pl k:Option Nat}(h:aDj pl k=true):∃ j,pl=some j∧∀ id,id=base+j→jB σ base k id:=by
 unfold aDj at h;split at h
 ·rename_i j;simp only[zf,beq_iff_eq,decide_eq_true_eq] at h;obtain⟨rfl,hj⟩:=h;exact⟨j,rfl,fun id hid=>by simp only[jB,if_pos hj];exact hid⟩
 ·cases h
theorem aFY{pl:Option Nat}{base:Nat}{k:Option Nat}{op:XOp}{sl:Nat→A}{h:cM}{K:A→cM→Prop}(R:rM σ base rt dsts ⟨sl,h⟩)
  (ho:Zv rt dsts pl k op=true) (hK:dC F (pl.map (base + ·)) op (ev sl) h K) :
  dC F (pl.map (base + ·)) op (ev sl) h fun r h'=>(∀ id,r.touch=some id→jB σ base k id)∧K r h':=by
 cases op<;>(try (simp[Zv] at ho;done))
 case mov x =>
  exact⟨xN R ho,hK⟩
 case loadp n g x =>
  have fin:∀ {l:List A} {h':cM},dI n g l (fun a=>a.touch=none∧K a h')→dI n g l (fun a=>a.touch=none∧(∀ id,a.touch=some id→jB σ base k id)∧K a h'):=fun hl =>
   gW (fun a ha=>⟨ha.1,fun id hid=>(by rw[ha.1] at hid;cases hid),ha.2⟩) hl
  simp only[dC] at hK ⊢;split at hK
  ·split at hK
   ·refine⟨hK.1,?_⟩;have hK:=hK.2;split at hK
    ·exact fin hK
    ·exact hK
   ·exact hK
  ·exact fin hK
  ·exact hK
 case alloc e z =>
  obtain⟨j,rfl,hr⟩:=Lf (σ:=σ) (base:=base) ho;simp only[dC,aB,gP] at hK ⊢;exact⟨hK.1,fun id hid=>hr _ (by simp[A.touch] at hid;omega),hK.2⟩
 case box e x =>
  obtain⟨j,rfl,hr⟩:=Lf (σ:=σ) (base:=base) ho;simp only[dC,aB,gP] at hK ⊢;exact⟨hK.1,hK.2.1,hK.2.2.1,fun id hid=>hr _ (by simp[A.touch] at hid;omega),hK.2.2.2⟩
 case bslice e z n ps =>
  obtain⟨j,rfl,hr⟩:=Lf (σ:=σ) (base:=base) ho;simp only[dC,aB,gP] at hK ⊢;exact yS _ _ (fun a ha=>⟨ha.1,fun id hid=>hr _ (by simp[A.touch] at hid;omega),ha.2⟩) hK
 case faddr off x =>
  have hr:=xN R ho;simp only[dC] at hK ⊢;generalize ev sl x=y at *;cases y<;>try exact hK.elim
  ·exact⟨fun id hid=>by simp[A.touch] at hid,hK⟩
  ·dsimp only at hK ⊢;split at hK
   ·exact⟨hK.1,fun id hid=>hr id (by simpa[A.touch] using hid),hK.2⟩
   ·exact hK.elim
 case nilck x =>
  have hr:=xN R ho;simp only[dC] at hK ⊢;generalize ev sl x=y at *;cases y<;>try exact hK.elim
  ·exact⟨fun id hid=>by simp[A.touch] at hid,hK⟩
  ·dsimp only at hK ⊢;split at hK
   ·exact⟨hK.1,fun id hid=>hr id (by simpa[A.touch] using hid),hK.2⟩
   ·exact hK.elim
  ·exact⟨fun id hid=>by simp[A.touch] at hid,hK⟩
 case iaddr e x i =>
  have hr:=xN R ho;simp only[dC] at hK ⊢;split at hK
  ·exact⟨hK.1,hK.2.1,hK.2.2.1,fun id hid=>by simp[A.touch] at hid,hK.2.2.2⟩
  ·exact⟨hK.1,hK.2.1,hK.2.2.1,fun id hid=>by simp[A.touch] at hid,hK.2.2.2⟩
  ·exact⟨hK.1,hK.2.1,hK.2.2.1,fun id hid=>by simp[A.touch] at hid,hK.2.2.2⟩
  ·rename_i heq _;split at hK
   ·refine⟨hK.1,hK.2.1,hK.2.2.1,hK.2.2.2.1,fun id hid=>hr id ?_,hK.2.2.2.2⟩;rw[heq];simpa[A.touch] using hid
   ·exact hK.elim
  ·exact hK.elim
 case slice e x lo hi mx =>
  have hr:=xN R ho;simp only[dC] at hK ⊢;split at hK
  ·exact⟨hK.1,hK.2.1,hK.2.2.1,fun id hid=>by simp[A.touch] at hid,hK.2.2.2⟩
  ·split at hK
   ·exact⟨hK.1,hK.2.1,hK.2.2.1,hK.2.2.2.1,hK.2.2.2.2.1,fun id hid=>by unfold aA6 at hid;split at hid<;>simp[A.touch] at hid,hK.2.2.2.2.2⟩
   ·exact hK.elim
  ·split at hK
   ·exact⟨hK.1,hK.2.1,hK.2.2.1,hK.2.2.2.1,hK.2.2.2.2.1,fun id hid=>by unfold aA6 at hid;split at hid<;>simp[A.touch] at hid,hK.2.2.2.2.2⟩
   ·exact hK.elim
  ·rename_i heq;split at hK
   ·split at hK
    ·refine⟨hK.1,hK.2.1,hK.2.2.1,hK.2.2.2.1,hK.2.2.2.2.1,hK.2.2.2.2.2.1,fun id hid=>hr id ?_,hK.2.2.2.2.2.2⟩;rw[heq];simpa[A.touch] using hid
    ·exact hK.elim
   ·exact hK.elim
  ·exact hK.elim
 case append e x y =>
  simp only[Zv,zf,beq_iff_eq] at ho;obtain⟨⟨rfl,hp⟩,hn⟩:=ho;obtain⟨j,rfl⟩:=Option.isSome_iff_exists.1 hp;have hr:=aDk R hn;have big:∀ {id:Nat},base≤id→jB σ base (some 1000) id:=fun h=>by simpa[jB] using h
  simp only[dC,aB,gP] at hK ⊢;split at hK
  ·split at hK
   ·split at hK
    ·rw[if_pos ‹_›];exact⟨fun id hid=>by simp[A.touch] at hid,hK⟩
    ·rw[if_neg ‹_›];exact⟨hK.1,hK.2.1,hK.2.2.1,fun id hid=>big (by simp[A.touch] at hid;omega),hK.2.2.2⟩
   ·rename_i heq;have hid:=hr _ (by rw[heq];rfl);split at hK
    ·obtain⟨h1,h2,h3,h4,h5,hK⟩:=hK;refine⟨h1,h2,h3,h4,h5,?_⟩;split at hK
     ·rw[if_pos ‹_›];exact⟨fun i hi=>big (by simp[A.touch] at hi;omega),hK⟩
     ·rw[if_neg ‹_›];exact⟨hK.1,hK.2.1,fun i hi=>big (by simp[A.touch] at hi;omega),hK.2.2⟩
    ·exact hK.elim
   ·exact⟨hK.1,hK.2.1,hK.2.2.1,hK.2.2.2.1,hK.2.2.2.2.1,fun id hid=>big (by simp[A.touch] at hid;omega),hK.2.2.2.2.2⟩
   ·exact hK.elim
  ·exact hK.elim
theorem Mx{base:Nat}{o:XOper}{s:St}{K:St→Prop}(R:rM σ base rt dsts s)(ho:Cl rt dsts o=true)(hK:jA F base o s K):jA F base o s fun s'=>rM σ base rt dsts s'∧K s':=by
 unfold jA at *;split at hK
 ·rename_i op hl;cases hd:o.dst with
  | none =>
   rw[hd] at hK;exact jD (fun r h' hr=>⟨R,hr⟩) hK
  | some d =>
   rw[hd] at hK;simp only[Cl,hd,zf] at ho;obtain⟨hc,ho⟩:=ho;have keep:∀ (r:A) (h':cM),(∀ k,rt.lookup d=some k→∀ id,r.touch=some id→jB σ base k id)→rM σ base rt dsts ⟨put (some d) r s.slots,h'⟩:=by
    intro v h' hr n r hx id hid
    by_cases hn:n=d
    ·subst hn;simp only[put,upd,if_true] at hid;simp only[yW] at hx;split at hx
     ·rename_i hk;cases hx;exact hr _ hk id hid
     ·rw[if_pos hc] at hx;cases hx
    ·simp only[put,upd,if_neg hn] at hid;exact R n r hx id hid
   cases hk:rt.lookup d with
   | none=>exact jD (fun r h' hr=>⟨keep r h' (fun k Io=>by rw[hk] at Io;cases Io),hr⟩) hK
   | some k =>
    rw[hk] at ho;rcases gR hl with rfl | rfl
    ·refine jD (fun r h' hr=>⟨keep r h' (fun k' Io=>?_),hr.2⟩) (aFY (h:=s.heap) R ho hK);rw[hk] at Io;cases Io;exact hr.1
    ·simp only[dC] at hK ⊢;exact⟨keep _ _ (fun k' _ id hid=>by simp[ev,A.touch] at hid),hK⟩
 ·exact hK.elim
theorem aMu{base:Nat}{q:XOper}{post:List XOper}{K:St→Prop}:∀ (pre:List XOper) (s:St),Xw σ rt→(∀ p∈pre,Cl rt dsts p=true∧Indep (Qz rt dsts p.op q.op) p q)→rM σ base rt dsts s→Xv q s→kH F base (pre++q::post) s K→jA F base q s fun s'=>kH F base (pre++post) s' K:=by
 intro pre
 induction pre with
 | nil=>intro s _ _ _ _ hK;exact hK
 | cons p pre ih =>
  intro s hσ hi hR hc hK;obtain⟨hrp,hip⟩:=hi p (zW ..);have h1:=Mx hR hrp (aBp hip hc hK);have h2:jA F base p s fun s1=>jA F base q s1 fun s2=>kH F base (pre++post) s2 K :=
   yV (fun s1 hs=>ih s1 hσ (fun p hp=>hi p (zZ _ hp)) hs.1 hs.2.1 hs.2.2) h1
  exact aOk hip (fun hs=>aFX hσ hR hs) hc h2
end
section
variable {P:Program}{w w':World}{M:Nat→Prop}{ρ ρ':fJ}{h h':cM}{z:Still}{F:Fns}
def Rb:List (List Nat)→List Nat→List Nat
 | [],acc=>acc
 | l::r,acc=>Rb r (acc++[l.foldl (fun s k=>s ||| 2 ^ k ||| acc.getD k 0) 0])
theorem aBq{f:Nat→Nat}{j:Nat}:∀ (l:List Nat) (s0:Nat),(l.foldl (fun s k=>s ||| 2 ^ k ||| f k) s0).testBit j=true→s0.testBit j=true∨∃ k∈l,j=k∨(f k).testBit j=true
 | [],s0,h=>.inl h
 | k::l,s0,h=>by
  rcases aBq l _ h with h | ⟨k',hk,h⟩
  ·rw[Nat.testBit_or,Nat.testBit_or,Nat.testBit_two_pow] at h;simp only[aG,decide_eq_true_eq] at h;rcases h with(h | h) | h
   ·exact .inl h
   ·exact .inr ⟨k,zW .., .inl h.symm⟩
   ·exact .inr ⟨k,zW .., .inr h⟩
  ·exact .inr ⟨k',zZ _ hk,h⟩
theorem Rc:∀ (r pre:List (List Nat)) (acc:List Nat),acc.length=pre.length →
  (∀ i j,(acc.getD i 0).testBit j=true→∃ k∈pre.getD i [],j=k∨(k<i∧(acc.getD k 0).testBit j=true)) →
  ∀ i j,((Rb r acc).getD i 0).testBit j=true→∃ k∈(pre++r).getD i [],j=k∨(k<i∧((Rb r acc).getD k 0).testBit j=true)
 | [],pre,acc,hl,hg=>by simpa[Rb] using hg
 | l::r,pre,acc,hl,hg=>by
  have:=Rc r (pre++[l]) (acc++[l.foldl (fun s k=>s ||| 2 ^ k ||| acc.getD k 0) 0]) (by simp[hl]) ?_
  ·simpa[Rb] using this
  ·intro i j hb;simp only[zC] at hb hg ⊢;rcases Nat.lt_trichotomy i acc.length with cY | heq | hgt
   ·rw[zF cY] at hb;obtain⟨k,hk,h⟩:=hg i j hb;refine⟨k,by rw[zF (by omega)];exact hk,?_⟩;rcases h with h | ⟨h1,h2⟩
    ·exact .inl h
    ·exact .inr ⟨h1,by rw[zF (by omega)];exact h2⟩
   ·subst heq;rw[zG (zL _)] at hb;simp only[Nat.sub_self,aS,aI] at hb;rcases aBq l 0 hb with h | ⟨k,hk,h⟩
    ·simp at h
    ·refine⟨k,by rw[zG (by omega)];simpa[hl] using hk,?_⟩;rcases h with h | h
     ·exact .inl h
     ·have cY:k<acc.length:=by
       rcases Nat.lt_or_ge k acc.length with h' | h'
       ·exact h'
       ·rw[zk h'] at h;simp at h
      exact .inr ⟨cY,by rw[zF cY];exact h⟩
   ·rw[zk (by simp;omega)] at hb;simp at hb
def Rd(o:Oper):List Nat:=(o.after.toList.filter (Region.binds .any)).map (·.on)
def aMv(x:XOper):Bool:=x.op.hx.all fun y=>match y with
 | .k a=>a.touch.isNone
 | _=>true
def aET(rt:List (Nat × Option Nat))(dsts:List Nat)(tab:List Nat)(xs:List XOper):Bool :=
 (aT xs.length).all fun i=>(aT i).all fun j=>(tab.getD i 0).testBit j||match xs[j]?,xs[i]? with
  | some p,some q=>aHS (Qz rt dsts p.op q.op) p q
  | _,_=>false
def Re(xs:List XOper):List Nat:=xs.filterMap (·.dst)
def Rf(rt:List (Nat × Option Nat))(ops:Array Oper)(xs:List XOper):Bool :=
 let afts:=ops.toList.map Rd
 aET rt (Re xs) (Rb afts []) xs&&xs.all aMv&&xs.all (Cl rt (Re xs))&&(aT afts.length).all fun i=>(afts.getD i []).all fun k=>decide (k<i)
theorem Rg{afts:List (List Nat)}{tab:List Nat}{L:Nat→Prop}(ht:∀ i j,(tab.getD i 0).testBit j=true→∃ k∈afts.getD i [],j=k∨(k<i∧(tab.getD k 0).testBit j=true))
  (hL:∀ i,L i→∀ k∈afts.getD i [],L k):∀ (n i j:Nat),i<n→(∀ k∈afts.getD i [],L k)→(tab.getD i 0).testBit j=true→L j
 | 0,i,j,hn,_,_=>absurd hn (Nat.not_lt_zero _)
 | n+1,i,j,hn,ha,hb=>by
  obtain⟨k,hk,h⟩:=ht i j hb;rcases h with rfl | ⟨cY,h⟩
  ·exact ha _ hk
  ·exact Rg ht hL n k j (by omega) (hL k (ha k hk)) h
theorem aBr{s:St}{a:Act}{q:XOper}(S:Sim z w M ρ s a)(hq:aMv q=true):Xv q s:=by
 intro x hx id hid;simp only[aMv,aE] at hq;have hx:=hq x hx;cases x with
 | t n =>
  simp only[ev] at hid;have hr:=S.slots n;generalize s.slots n=y at hid hr;generalize nY a.tmps n=v at hr;cases hr<;>simp only[A.touch,zH] at hid<;>first | (cases hid;done) | (subst hid;exact⟨_, ‹_›, by simp⟩)
 | k b=>simp only[ev] at hid;simp[hid] at hx
 | f g=>simp[ev,A.touch] at hid
theorem Rh{l:Array Bool}{k:Nat}(hk:k<l.size)(b:Bool):l.getD k b=l[k]:=by simp[Array.getD,hk]
theorem aFZ{σ:Nat→Nat}(hF:FnsOk z.Γ P F){rl:Option Nat}{ops:Array Oper}{xs:List XOper}{base:Nat}{K:St→Prop}{Q:Exit→Act→World→Prop}(H:OpsAre P z.n ops xs){rt:List (Nat × Option Nat)}(hσ:Xw σ rt)(ok:Rf rt ops xs=true) :
  ∀ (fuel:Nat) (l:List Nat) (listed:Array Bool) (s:St) (ρ:fJ) (a:Act) (w:World),listed.size=ops.size→(∀ i,i∈l↔i<ops.size∧listed.getD i true=false)→l.Pairwise (· < ·)→l.length≤fuel →
   (∀ i,i<ops.size→i ∉ l→∀ k∈(ops.toList.map Rd).getD i [],k ∉ l) →
   Sim z w M ρ s a→rM σ base rt (Re xs) s→kH F base (l.filterMap (xs[·]?)) s K→(∀ s' ρ' a' w',K s'→Sim z w' M ρ' s' a'→Evo s.heap.length s.heap ρ w s'.heap ρ' w'→Q .normal a' w') →
   wpAnyIn (Fw rl) 0 P .any ops Q fuel listed a w:=by
 simp only[Rf,zf,aE,aM,decide_eq_true_eq] at ok;obtain⟨⟨⟨okP,okH⟩,okR⟩,okB⟩:=ok;have Jb:=Rc (ops.toList.map Rd) [] [] rfl (by simp);simp only[List.nil_append] at Jb;generalize Rb (ops.toList.map Rd) []=tab at *
 -- an operation that is ready
 have isReady:∀ {l:List Nat} {listed:Array Bool},listed.size=ops.size→(∀ i,i∈l↔i<ops.size∧listed.getD i true=false)→∀ i,i∈Region.ready .any ops listed↔i∈l∧∀ k∈(ops.toList.map Rd).getD i [],k<ops.size∧k ∉ l:=by
  intro l listed mB hl i;simp only[Region.ready,aU,aM,zf,aA];constructor
  ·rintro⟨hi,h1,h2⟩;refine⟨(hl i).2 ⟨hi,h1⟩,fun k hk=>?_⟩;rw[Array.getElem?_eq_getElem hi] at h2;simp only[aB,aI,Array.all_eq_true,aG,aA] at h2;simp only[zC,zK,Array.getElem?_toList,Array.getElem?_eq_getElem hi,aB,aI,Rd,List.mem_map,aU] at hk;obtain⟨e,⟨he,hb⟩,rfl⟩:=hk;obtain⟨j,hj,rfl⟩:=Array.mem_iff_getElem.1 (Array.mem_toList_iff.1 he);have h2:=h2 j hj;rcases h2 with h2 | h2
   ·rw[hb] at h2;cases h2
   ·have hk:ops[i].after[j].on<listed.size:=by
     rcases Nat.lt_or_ge ops[i].after[j].on listed.size with h' | h'
     ·exact h'
     ·simp[Array.getD,Nat.not_lt.2 h'] at h2
    refine⟨mB ▸ hk,fun hm=>?_⟩;have:=((hl _).1 hm).2;rw[Rh hk] at this h2;rw[this] at h2;cases h2
  ·rintro⟨hi,h2⟩;obtain⟨hi,h1⟩:=(hl i).1 hi;refine⟨hi,h1,?_⟩;rw[Array.getElem?_eq_getElem hi];simp only[aB,aI,Array.all_eq_true,aG,aA];intro j hj;cases hb:Region.binds .any ops[i].after[j] with
   | false=>exact .inl rfl
   | true =>
    refine .inr ?_;obtain⟨hk,hn⟩:=h2 ops[i].after[j].on (by
     simp only[zC,zK,Array.getElem?_toList,Array.getElem?_eq_getElem hi,aB,aI,Rd,List.mem_map,aU];exact⟨_,⟨by simp,hb⟩,rfl⟩)
    rw[← mB] at hk;rw[Rh hk];cases hv:listed[ops[i].after[j].on] with
    | true=>rfl
    | false=>exact absurd ((hl _).2 ⟨mB ▸ hk,by rw[Rh hk];exact hv⟩) hn
 -- where nothing is ready, nothing is left
 have isDone:∀ {l:List Nat} {listed:Array Bool},listed.size=ops.size→(∀ i,i∈l↔i<ops.size∧listed.getD i true=false)→l.Pairwise (· < ·)→Region.ready .any ops listed=[]→l=[]:=by
  intro l listed mB hl hp hr;cases l with
  | nil=>rfl
  | cons i l =>
   exfalso;have hi:i<ops.size:=((hl i).1 (zW ..)).1;have:i∈Region.ready .any ops listed:=(isReady mB hl i).2 ⟨zW .., fun k hk=>by
    have cY:=okB i (by simpa using hi) k hk;refine⟨by omega,fun hm=>?_⟩;rcases zp.1 hm with rfl | hm
    ·exact Nat.lt_irrefl _ cY
    ·have:=(aP.1 hp).1 k hm;omega⟩
   rw[hr] at this;cases this
 intro fuel
 induction fuel with
 | zero =>
  intro l listed s ρ a w mB hl hp eG Zg S hR hK hn;have:l=[]:=List.eq_nil_of_length_eq_zero (by omega);subst this;refine⟨?_,hn s ρ a w hK S (.refl _ _ _ _ (zL _))⟩;rw[List.eq_nil_iff_forall_not_mem];intro i hi;have:=((isReady mB hl i).1 hi).1;cases this
 | succ fuel ih =>
  intro l listed s ρ a w mB hl hp eG Zg S hR hK hn;refine⟨fun hr=>?_,fun i hi=>?_⟩
  ·have:=isDone mB hl hp hr;subst this;exact hn s ρ a w hK S (.refl _ _ _ _ (zL _))
  ·obtain⟨Vg,hik⟩:=(isReady mB hl i).1 hi;obtain⟨pre,post,rfl⟩:=List.append_of_mem Vg;have aA1:i<ops.size:=((hl i).1 Vg).1;have ho:ops[i]? = some ops[i]:=Array.getElem?_eq_getElem aA1;obtain⟨q,hq⟩:∃ q,xs[i]? = some q:=⟨_,List.getElem?_eq_getElem (by rw[H.len];exact aA1)⟩;simp only[aV,aD,hq] at hK;have dZ:∀ j∈pre,j<i:=fun j hj=>(aN.1 hp).2.2 j hj i (zW ..);have aPT:∀ j∈post,i<j:=fun j hj=>(aP.1 (aN.1 hp).2.1).1 j hj;have aQQ:∀ p∈pre.filterMap (xs[·]?),Cl rt (Re xs) p=true∧Indep (Qz rt (Re xs) p.op q.op) p q:=by
    intro p Xk;obtain⟨j,hj,hjp⟩:=List.mem_filterMap.1 Xk;refine⟨okR p (aJ.2 ⟨j,hjp⟩),?_⟩;have cY:=dZ j hj;have:=okP;simp only[aET,aE,aM] at this;have:=this i (by rw[H.len];exact aA1) j cY;rw[hjp,hq] at this;simp only[aG] at this;rcases this with hb | hb
    ·exfalso;refine Rg (L:=fun k=>k<ops.size∧k ∉ pre++i::post) Jb (fun i' nX k hk=>?_) (i+1) i j (Nat.lt_succ_self _) (fun k hk=>hik k hk) hb |>.2 (aL _ hj);have:=okB i' (by simpa using nX.1) k hk;exact⟨by omega,Zg i' nX.1 nX.2 k hk⟩
    ·exact .of hb
   have hcq:Xv q s:=aBr S (okH q (aJ.2 ⟨i,hq⟩));have iH:=Mx hR (okR q (aJ.2 ⟨i,hq⟩)) (aMu _ s hσ aQQ hR hcq hK);refine Gi hF ho (H.get i _ q ho hq) (fun m hm=>H.dst i q m hq hm) S iH fun s' ρ' a' w' ⟨hR',hk⟩ S' g=>?_;have aJ6:∀ j,j∈pre++post↔j∈pre++i::post∧j≠i:=by
    intro j;simp only[aO,zp];constructor
    ·rintro(hj | hj)
     ·exact⟨.inl hj,by have:=dZ j hj;omega⟩
     ·exact⟨.inr (.inr hj),by have:=aPT j hj;omega⟩
    ·rintro⟨hj | rfl | hj,fM⟩
     ·exact .inl hj
     ·exact absurd rfl fM
     ·exact .inr hj
   refine ih (pre++post) _ s' ρ' a' w' (by simp[mB]) (fun j=>?_) ?_ ?_ (fun j hj hjn k hk hkm=>?_) S' hR' (by simpa[aV] using hk) fun s'' ρ'' a'' w'' Io S'' g'=>hn s'' ρ'' a'' w'' Io S'' (g.trans (g'.mono g.len))
   ·rw[aJ6,hl j];simp only[zR,Array.getElem?_setIfInBounds];constructor
    ·rintro⟨⟨h1,h2⟩,h3⟩;exact⟨h1,by rw[if_neg (fun e=>h3 e.symm)];exact h2⟩
    ·rintro⟨h1,h2⟩;split at h2
     ·rw[if_pos (by omega)] at h2;simp at h2
     ·exact⟨⟨h1,h2⟩,fun e=>by omega⟩
   ·rw[aN] at hp ⊢;refine⟨hp.1,(aP.1 hp.2.1).2,fun x hx y hy=>hp.2.2 x hx y (zZ _ hy)⟩
   ·simp only[List.length_append,aX] at eG ⊢; omega
   ·have aPL:=(aJ6 k).1 hkm
    by_cases hji:j=i
    ·subst hji;exact(hik k hk).2 aPL.1
    ·exact Zg j hj (fun hm=>hjn ((aJ6 j).2 ⟨hm,hji⟩)) k hk aPL.1
theorem nF{α:Type}:∀ (l:List α),(aT l.length).filterMap (l[·]?)=l
 | []=>rfl
 | x::l=>by
  rw[aX,List.range_succ_eq_map,aD];simp only[aS,List.filterMap_map];congr 1;have:((fun x_1=>(x::l)[x_1]?) ∘ Nat.succ)=(l[·]?):=by funext i;simp
  rw[this,nF l]
theorem Zw(hF:FnsOk z.Γ P F){rl:Option Nat}{id:Nat}{ops:Array Oper}{xs:List XOper}{s:St}{a:Act}{K:St→Prop}{Q:Exit→Act→World→Prop}(H:OpsAre P z.n ops xs)(S:Sim z w M ρ s a)(hK:kH F s.heap.length xs s K)
  (hn:∀ s' ρ' a' w',K s'→Sim z w' M ρ' s' a'→Evo s.heap.length s.heap ρ w s'.heap ρ' w'→Q .normal a' w'):(Code.region id ops false).wpIn (Fw rl) 0 P Q a w :=
 wpIn_region (aFV hF H _ s ρ a w S (by rw[← H.len,nF];exact hK) hn)
theorem aBs{σ:Nat→Nat}(hF:FnsOk z.Γ P F)(hm:P.follows .mixedOrders=true){rl:Option Nat}{id n:Nat}{ops:Array Oper}{xs:List XOper}{s:St}{a:Act}{K:St→Prop}{Q:Exit→Act→World→Prop}(H:OpsAre P z.n ops xs){rt:List (Nat × Option Nat)}(hσ:Xw σ rt)(ok:Rf rt ops xs=true)(hrt:∀ p∈rt,∀ id,(s.slots p.1).touch=some id→jB σ s.heap.length p.2 id)(S:Sim z w M ρ s a)
  (hK:kH F s.heap.length xs { s with heap:=s.heap++aF n .res } K)
  (hn:∀ s' ρ' a' w',K s'→Sim z w' M ρ' s' a'→Evo s.heap.length s.heap ρ w s'.heap ρ' w'→Q .normal a' w'):(Code.region id ops true).wpIn (Fw rl) 0 P Q a w:=by
 have g1:Evo s.heap.length s.heap ρ w s.heap ρ w.drew:=.drew _ (zL _);have g2:Evo s.heap.length s.heap ρ w.drew (s.heap++aF n .res) (ρ++aF n none) w.drew:=.reserve n S.sim.len;have g:=g1.trans g2;have S':Sim z w.drew M (ρ++aF n none) { s with heap:=s.heap++aF n .res } a:=⟨S.bnd,S.sim.drew.reserve n,S.slots.evo g,S.size,S.nlt,S.tabs.evo g,S.defers.evo g⟩;refine wpIn_region_any hm (aFZ (σ:=σ) hF H hσ ok ops.size (aT ops.size) _ _ _ a _ (by simp) (fun i=>?_) List.pairwise_lt_range (by simp) (fun i hi hni=>absurd (aM.2 hi) hni) S' (fun n r hr id hid=>?_) (by rw[← H.len,nF];exact hK) fun s' ρ' a' w' hk S'' g'=>hn s' ρ' a' w' hk S'' (g.trans (g'.mono (by simp))))
 ·simp only[aM];constructor
  ·intro hi;exact⟨hi,by simp[Array.getD,hi]⟩
  ·intro hi;exact hi.1
 ·dsimp only at hid;simp only[yW] at hr;split at hr
  ·rename_i k hk;cases hr;exact hrt _ (wK hk) id hid
  ·split at hr
   ·cases hr
   ·cases hr;have hu:=(S.slots n).under;generalize s.slots n=x at hid hu;cases x<;>simp[A.touch] at hid<;>subst hid<;>simpa[A.under,jB] using hu
end
section
variable {Γ:Ctx}{P:Program}{N:Nat}{rl:Option Nat}{n0:Nat}
inductive XC where
 | skip
 | ret
 | reg (xs:List XOper)
 | drw (n:Nat) (xs:List XOper) (rt:List (Nat × Option Nat):=[])
 | seq (x y:XC)
 | cond (c:XO) (x y:XC)
 | block (id:Nat) (x:XC)
 | loop (x:XC)
 | exit (id:Nat)
 | never
 | range (g:XO) (ps:List Nat) (x y:XC)
def qR(P:Program)(N:Nat):Code→XC→Prop
 | _,.never=>True
 | .skip,.skip=>True
 | .ret,.ret=>True
 | .exit i,.exit j=>i=j
 | .region _ ops dr,.reg xs=>dr=false∧OpsAre P N ops xs
 | .region _ ops dr,.drw _ xs rt=>dr=true∧OpsAre P N ops xs∧Rf rt ops xs=true∧P.follows .mixedOrders=true
 | .seq a b,.seq x y=>qR P N a x∧qR P N b y
 | .cond c a b,.cond d x y=>cO c=some d∧qR P N a x∧qR P N b y
 | .block i a,.block j x=>i=j∧qR P N a x
 | .loop a,.loop x=>qR P N a x
 | .rangeFunc g ps a b,.range g' ps' x y=>cO g=some g'∧ps.toList=ps'∧(∀ p∈ps',p<N)∧qR P N a x∧qR P N b y
 | _,_=>False
def Fns.all(Γ:Ctx)(P:Program):Fns:={ pure:=FnP Γ.t P,call:=FnD Γ P,round:=Cj Γ P }
theorem aDl:FnsOk Γ P (.all Γ P):=⟨fun _ _ _ h=>h,fun _ _ _ _ _ h=>h,fun _ _ _ _ _ h=>h⟩
def aKm(z:Still)(n0:Nat)(M:Nat→Prop)(Q:Exit→St→Prop)(s:St)(ρ:fJ)(w:World):Exit→Act→World→Prop :=
 fun e a' w'=>∃ s' ρ',Q e s'∧Sim z w' M ρ' s' a'∧Evo n0 s.heap ρ w s'.heap ρ' w'
def W(Γ:Ctx)(P:Program)(N:Nat)(rl:Option Nat)(n0:Nat)(c:XC)(Q:Exit→St→Prop)(s:St):Prop :=
 ∀ (code:Code),qR P N code c→∀ (z:Still) (M:Nat→Prop) (ρ:fJ) (a:Act) (w:World),z=⟨z.lo,N,Γ⟩→(z.Γ.b≤n0∧n0≤s.heap.length)→Sim z w M ρ s a→code.wpIn (Fw rl) 0 P (aKm z n0 M Q s ρ w) a w
def My(K:St→Prop)(Q:Exit→St→Prop):Exit→St→Prop
 | .normal,s=>K s
 | e,s=>Q e s
def yX(id:Nat)(Q:Exit→St→Prop):Exit→St→Prop
 | .exit i,s=>if i=id then Q .normal s else Q (.exit i) s
 | e,s=>Q e s
def Co(n0:Nat)(s s':St):Prop :=
 ∀ (z:Still) (M:Nat→Prop) (ρ:fJ) (a:Act) (w:World),(z.Γ.b≤n0∧n0≤s.heap.length)→Sim z w M ρ s a→∃ ρ',Sim z w M ρ' s' a∧Evo n0 s.heap ρ w s'.heap ρ' w
theorem Co.refl(s:St):Co n0 s s:=fun _ _ ρ _ _ hn S=>⟨ρ,S,.refl _ _ _ _ hn.2⟩
theorem Co.trans{s s1 s2:St}(h1:Co n0 s s1)(h2:Co n0 s1 s2):Co n0 s s2:=fun z M ρ a w hn S=>by
 obtain⟨ρ1,S1,g1⟩:=h1 z M ρ a w hn S;obtain⟨ρ2,S2,g2⟩:=h2 z M ρ1 a w ⟨hn.1,g1.len⟩ S1;exact⟨ρ2,S2,g1.trans g2⟩
theorem aKm.from{z:Still}{M:Nat→Prop}{Q:Exit→St→Prop}{s s1:St}{ρ ρ1:fJ}{w w1:World}(g:Evo n0 s.heap ρ w s1.heap ρ1 w1){e:Exit}{a':Act}{w':World}(h:aKm z n0 M Q s1 ρ1 w1 e a' w'):aKm z n0 M Q s ρ w e a' w' :=
 let⟨s',ρ',q,S,g'⟩:=h
 ⟨s',ρ',q,S,g.trans g'⟩
theorem yY{c:XC}{Q Q':Exit→St→Prop}{s:St}(hq:∀ e s,Q e s→Q' e s)(h:W Γ P N rl n0 c Q s):W Γ P N rl n0 c Q' s :=
 fun code hc z M ρ a w hz hn S=>wpIn_mono (h code hc z M ρ a w hz hn S) fun e _ _ ⟨s',ρ',q,S',g⟩=>⟨s',ρ',hq e s' q,S',g⟩
theorem dX{c:XC}{Q:Exit→St→Prop}{s s':St}(hc:Co n0 s s')(h:W Γ P N rl n0 c Q s'):W Γ P N rl n0 c Q s:=fun code hi z M ρ a w hz hn S=>by
 obtain⟨ρ',S',g⟩:=hc z M ρ a w hn S;exact wpIn_mono (h code hi z M ρ' a w hz ⟨hn.1,g.len⟩ S') fun e a' w' hp=>hp.from g
theorem aHU{c:XC}{Q Q':Exit→St→Prop}{s:St}(hq:∀ e s,Q e s→∃ s',Co n0 s s'∧Q' e s')(h:W Γ P N rl n0 c Q s):W Γ P N rl n0 c Q' s :=
 fun code hc z M ρ a w hz hn S=>wpIn_mono (h code hc z M ρ a w hz hn S) fun e a' w' ⟨s',ρ',q,S',g⟩=>by
  obtain⟨s'',hco,q'⟩:=hq e s' q;obtain⟨ρ'',S'',g'⟩:=hco z M ρ' a' w' ⟨hn.1,g.len⟩ S';exact⟨s'',ρ'',q',S'',g.trans g'⟩
theorem cQ{Q:Exit→St→Prop}{s:St}(h:Q .normal s):W Γ P N rl n0 .skip Q s:=fun code hc z M ρ a w hz hn S=>by
 cases code<;>first | exact hc.elim | skip
 exact wpIn_skip ⟨s,ρ,h,S,.refl _ _ _ _ hn.2⟩
theorem cT{Q:Exit→St→Prop}{s:St}(h:Q .ret s):W Γ P N rl n0 .ret Q s:=fun code hc z M ρ a w hz hn S=>by
 cases code<;>first | exact hc.elim | skip
 exact wpIn_ret ⟨s,ρ,h,S,.refl _ _ _ _ hn.2⟩
theorem dJ{id:Nat}{Q:Exit→St→Prop}{s:St}(h:Q (.exit id) s):W Γ P N rl n0 (.exit id) Q s:=fun code hc z M ρ a w hz hn S=>by
 cases code<;>first | exact hc.elim | skip
 cases (show _=id from hc);exact wpIn_exit ⟨s,ρ,h,S,.refl _ _ _ _ hn.2⟩
theorem cU{xs:List XOper}{Q:Exit→St→Prop}{s:St}(h:kH (.all Γ P) s.heap.length xs s (Q .normal)):W Γ P N rl n0 (.reg xs) Q s:=fun code hc z M ρ a w hz hn S=>by
 cases code<;>first | exact hc.elim | skip
 obtain⟨rfl,hc⟩:=hc;rw[hz] at S ⊢;exact Zw aDl hc S h fun s' ρ' a' w' q S' g=>⟨s',ρ',q,S',g.mono hn.2⟩
theorem aHV{σ:Nat→Nat}{n:Nat}{xs:List XOper}{rt:List (Nat × Option Nat)}{Q:Exit→St→Prop}{s:St}(hσ:Xw σ rt)(hr:∀ p∈rt,∀ id,(s.slots p.1).touch=some id→jB σ s.heap.length p.2 id)
  (h:kH (.all Γ P) s.heap.length xs { s with heap:=s.heap++aF n .res } (Q .normal)):W Γ P N rl n0 (.drw n xs rt) Q s:=fun code hc z M ρ a w hz hn S=>by
 cases code<;>first | exact hc.elim | skip
 obtain⟨rfl,hc,hd,hm⟩:=hc;rw[hz] at S ⊢;exact aBs (σ:=σ) aDl hm hc hσ hd hr S h fun s' ρ' a' w' q S' g=>⟨s',ρ',q,S',g.mono hn.2⟩
theorem eD{n:Nat}{xs:List XOper}{rt:List (Nat × Option Nat)}{Q:Exit→St→Prop}{s:St}(hr:∀ p∈rt,(s.slots p.1).touch=none)(h:kH (.all Γ P) s.heap.length xs { s with heap:=s.heap++aF n .res } (Q .normal)):W Γ P N rl n0 (.drw n xs rt) Q s :=
 aHV (σ:=id) (fun _ _ _ _ _ _ _ _ _ _ h=>h) (fun p hp i hi=>by rw[hr p hp] at hi;cases hi) h
theorem Lg{n:Nat}{xs:List XOper}{rt:List (Nat × Option Nat)}{Q:Exit→St→Prop}{s:St}(a b:Nat)(Xf:a≠b)(ha:a<s.heap.length)(hb:b<s.heap.length)(hk:rt.all (fun p=>match p.2 with | some k=>decide (k≤1002)||k == 9999 | none=>true)=true)
  (hr:∀ p∈rt,(s.slots p.1).touch=none∨(p.2=some 1001∧(s.slots p.1).touch=some a)∨(p.2=some 1002∧(s.slots p.1).touch=some b))
  (h:kH (.all Γ P) s.heap.length xs { s with heap:=s.heap++aF n .res } (Q .normal)):W Γ P N rl n0 (.drw n xs rt) Q s:=by
 refine aHV (σ:=fun k=>if k=1001 then a else if k=1002 then b else a+b+1) (fun p hp q hq k k' e1 e2 h1 h2 fM=>?_) (fun p hp i hi=>?_) h
 ·have a1:=aE.1 hk p hp;have a2:=aE.1 hk q hq;simp only[e1,aG,decide_eq_true_eq,beq_iff_eq] at a1;simp only[e2,aG,decide_eq_true_eq,beq_iff_eq] at a2;have c1:k=1001∨k=1002∨k=9999:=by omega
  have c2:k'=1001∨k'=1002∨k'=9999:=by omega
  rcases c1 with rfl | rfl | rfl<;>rcases c2 with rfl | rfl | rfl<;>simp at fM ⊢ <;> omega
 ·rcases hr p hp with h1 | ⟨h1,h2⟩ | ⟨h1,h2⟩
  ·rw[h1] at hi;cases hi
  ·rw[h2] at hi;cases hi;rw[h1];exact⟨rfl,ha⟩
  ·rw[h2] at hi;cases hi;rw[h1];exact⟨rfl,hb⟩
theorem cN{x y:XC}{Q:Exit→St→Prop}{s:St}(h:W Γ P N rl n0 x (My (W Γ P N rl n0 y Q) Q) s):W Γ P N rl n0 (.seq x y) Q s:=fun code hc z M ρ a w hz hn S=>by
 cases code<;>first | exact hc.elim | skip
 obtain⟨h1,h2⟩:=hc;refine wpIn_seq (wpIn_mono (h _ h1 z M ρ a w hz hn S) fun e a' w' hp=>?_);obtain⟨s',ρ',q,S',g⟩:=hp;cases e with
 | normal=>exact wpIn_mono (q _ h2 z M ρ' a' w' hz ⟨hn.1,g.len⟩ S') fun e a'' w'' hp=>hp.from g
 | _=>exact⟨s',ρ',q,S',g⟩
theorem cL{c:XO}{x y:XC}{Q:Exit→St→Prop}{s:St}{t:Bool}(hc:ev s.slots c = .bool t)(ht:t=true→W Γ P N rl n0 x Q s)(hf:t=false→W Γ P N rl n0 y Q s):W Γ P N rl n0 (.cond c x y) Q s:=fun code hi z M ρ a w hz hn S=>by
 cases code<;>first | exact hi.elim | skip
 rename_i c' x' y';obtain⟨h0,h1,h2⟩:=hi;have he:=S.env _ _ h0;rw[hc] at he;have:a.eval c' = .bool t:=by
  generalize a.eval c'=v at he;cases he with
  | d hx=>cases hx with
   | sc _=>rfl
 exact wpIn_cond_split this (fun h=>ht h _ h1 z M ρ a w hz hn S) (fun h=>hf h _ h2 z M ρ a w hz hn S)
theorem cS{id:Nat}{x:XC}{Q:Exit→St→Prop}{s:St}(h:W Γ P N rl n0 x (yX id Q) s):W Γ P N rl n0 (.block id x) Q s:=fun code hc z M ρ a w hz hn S=>by
 cases code<;>first | exact hc.elim | skip
 obtain⟨rfl,hc⟩:=hc;refine wpIn_block (wpIn_mono (h _ hc z M ρ a w hz hn S) fun e a' w' hp=>?_);obtain⟨s',ρ',q,S',g⟩:=hp;cases e with
 | exit i =>
  simp only[yX] at q;simp only[Exit.inBlock];split
  ·rw[if_pos ‹_›] at q;exact⟨s',ρ',q,S',g⟩
  ·rw[if_neg ‹_›] at q;exact⟨s',ρ',q,S',g⟩
 | _=>exact⟨s',ρ',q,S',g⟩
theorem aOl{p:Nat→Prop}:∀ m,p m→∃ k,p k∧∀ j,p j→k≤j:=by
 intro m
 induction m using Nat.strongRecOn with
 | _ m ih =>
  intro hm
  by_cases h:∃ j,j<m∧p j
  ·obtain⟨j,hj,hp⟩:=h;exact ih j hj hp
  ·exact⟨m,hm,fun j hp=>Nat.le_of_not_lt fun cY=>h ⟨j,cY,hp⟩⟩
theorem dN{x:XC}{Q:Exit→St→Prop}{s:St}(I:Nat→St→Prop){m:Nat}(h0:I m s)(hb:∀ m s,I m s→W Γ P N rl n0 x (My (fun s'=>∃ m' s'',m'<m∧Co n0 s' s''∧I m' s'') Q) s):W Γ P N rl n0 (.loop x) Q s:=fun code hc z M ρ a w hz hn S=>by
 cases code<;>first | exact hc.elim | skip
 let J:Act→World→Nat→Prop:=fun a' w' m=>∃ s' ρ',I m s'∧Sim z w' M ρ' s' a'∧Evo n0 s.heap ρ w s'.heap ρ' w';have hJ:∀ a' w' m,J a' w' m→∃ k,J a' w' k∧∀ j,J a' w' j→k≤j:=fun a' w' m h=>aOl m h;let μ:Act→World→Nat:=fun a' w'=>open Classical in if h:∃ k,J a' w' k∧∀ j,J a' w' j→k≤j then h.choose else 0;have hμ:∀ a' w' m,J a' w' m→J a' w' (μ a' w')∧μ a' w'≤m:=by
  intro a' w' m h;have hx:=hJ a' w' m h;have e:μ a' w'=hx.choose:=by simp only[μ];rw[dif_pos hx]
  rw[e];exact⟨hx.choose_spec.1,hx.choose_spec.2 m h⟩
 refine wpIn_loop (fun a' w'=>∃ m,J a' w' m) μ ⟨m,s,ρ,h0,S,.refl _ _ _ _ hn.2⟩ fun a' w' hI=>?_;obtain⟨m1,Vr⟩:=hI;obtain⟨⟨s1,ρ1,hi,S1,g1⟩,_⟩:=hμ a' w' m1 Vr;refine wpIn_mono (hb _ s1 hi _ hc z M ρ1 a' w' hz ⟨hn.1,g1.len⟩ S1) fun e a2 w2 hp=>?_;obtain⟨s2,ρ2,q,S2,g2⟩:=hp;cases e with
 | normal =>
  obtain⟨m',s3,cY,hco,nX⟩:=q;obtain⟨ρ3,S3,g3⟩:=hco z M ρ2 a2 w2 ⟨hn.1,g2.len⟩ S2;have hj:J a2 w2 m':=⟨s3,ρ3,nX,S3,g1.trans (g2.trans g3)⟩;exact⟨⟨m',hj⟩,Nat.lt_of_le_of_lt (hμ a2 w2 m' hj).2 cY⟩
 | _=>exact⟨s2,ρ2,q,S2,g1.trans g2⟩
def dB:List (Nat × A)→Nat→A
 | [],_=>.any
 | (k,x)::l,n=>if n=k then x else dB l n
def HB.under(k:Nat):HB→Prop
 | .cells _ rows=>∀ r∈rows,∀ x∈r,x.under k=true
 | _=>True
theorem xO{l:List (Nat × A)}{n:Nat}:dB l n = .any∨(n,dB l n)∈l:=by
 induction l with
 | nil=>exact .inl rfl
 | cons p l ih =>
  obtain⟨k,x⟩:=p;simp only[dB]
  by_cases h:n=k
  ·subst h;simp
  ·rw[if_neg h];rcases ih with ih | ih
   ·exact .inl ih
   ·exact .inr (zZ _ ih)
theorem Evo.take{h:cM}{ρ:fJ}{w:World}{k:Nat}(hn:n0≤k)(hk:k≤h.length):Evo n0 h ρ w (h.take k) (ρ.take k) w where
 os:=rfl
 tape:=rfl
 output:=rfl
 size:=zL _
 old _ _ _:=rfl
 fresh id b p hp:=by
  rw[zm] at hp;split at hp
  ·exact .inr ⟨id,p,hp⟩
  ·cases hp
 len:=by simp;omega
 keep id B hid hB:=by
  have e1:(h.take k)[id]? = h[id]? := by rw[zm,if_pos (by omega)]
  have e2:(ρ.take k)[id]? = ρ[id]? := by rw[zm,if_pos (by omega)]
  cases B with
  | cells e rows=>exact⟨rows,e1.trans hB,zL _,fun _=>e2⟩
  | obj o=>exact⟨⟨o,e1.trans hB⟩,e2⟩
  | res=>trivial
theorem SimH.take{h:cM}{ρ:fJ}{w:World}{M:Nat→Prop}(S:SimH w M ρ h){k:Nat}(hk:k≤h.length)(hu:∀ B∈h.take k,HB.under k B):SimH w M (ρ.take k) (h.take k):=by
 have g:Evo k h ρ w (h.take k) (ρ.take k) w:=.take (zL _) hk;have cut:∀ {id:Nat} {B:HB},(h.take k)[id]? = some B→h[id]? = some B∧(ρ.take k)[id]? = ρ[id]? := by
  intro id B hB;rw[zm] at hB;split at hB
  ·exact⟨hB,by rw[zm,if_pos ‹_›]⟩
  ·cases hB
 refine⟨by simp[S.len],fun id e rows hB=>?_,fun id o hB=>?_,fun id hB=>?_,fun i j b p q hi hj=>?_⟩
 ·have hun:=hu _ (zY hB);obtain⟨hB',hρ⟩:=cut hB;obtain⟨q1,q2,q3,q4,q5⟩:=S.cells id e rows hB';refine⟨q1,q2,q3,q4,?_⟩;rcases q5 with⟨h5,h6⟩ | ⟨b,q,cs,t,h5,h6,h7,h8,h9,Ve⟩
  ·exact .inl ⟨hρ.trans h5,h6⟩
  ·refine .inr ⟨b,q,cs,t,hρ.trans h5,h6,h7,h8,h9,fun i r j x hi hj=>?_⟩;obtain⟨v,k1,k2,k3⟩:=Ve i r j x hi hj;exact⟨v,k1,k2,g.rep k3 (hun r (zY hi) x (zY hj))⟩
 ·obtain⟨hB',hρ⟩:=cut hB;obtain⟨b,q,q1,q2,q3,q4⟩:=S.obj id o hB';exact⟨b,q,hρ.trans q1,q2,q3,q4⟩
 ·obtain⟨hB',hρ⟩:=cut hB;rw[hρ];exact S.res id hB'
 ·rw[zm] at hi hj;split at hi
  ·split at hj
   ·exact S.inj i j b p q hi hj
   ·cases hj
  ·cases hi
theorem TabsOk.take{w:World}{M:Nat→Prop}{ρ:fJ}{h:cM}(T:TabsOk Γ w M ρ h){k:Nat}(hb:Γ.b≤k)(hk:k≤h.length):TabsOk Γ w M (ρ.take k) (h.take k):=by
 have g:Evo k h ρ w (h.take k) (ρ.take k) w:=.take (zL _) hk;refine⟨fun u cs hu=>g.rep (T.t u cs hu) rfl,fun a v hv=>⟨(T.env a v hv).1,g.rep (T.env a v hv).2 ?_⟩⟩;exact A.under_mono (T.env a v hv).1 hb
theorem Co.to{s:St}(l:List (Nat × A))(k:Nat)(hl:∀ p∈l,s.slots p.1=p.2∧p.2.under k=true)(hn:n0≤k)(hk:k≤s.heap.length)(hu:∀ B∈s.heap.take k,HB.under k B):Co n0 s ⟨dB l,s.heap.take k⟩ :=
 fun z M ρ a w hz S=>⟨ρ.take k,⟨S.bnd,S.sim.take hk hu,fun n=>by
  have g:Evo k s.heap ρ w (s.heap.take k) (ρ.take k) w:=.take (zL _) hk;rcases xO (l:=l) (n:=n) with h | h
  ·show RepA w M _ _ (dB l n) _;rw[h];exact .any
  ·obtain⟨h1,h2⟩:=hl _ h;have:=g.rep (S.slots n) (by rw[h1];exact h2);rw[h1] at this;exact this,S.size,S.nlt,S.tabs.take (Nat.le_trans hz.1 hn) hk,S.defers.evo (Evo.take (n0:=k) (h:=s.heap) (w:=w) (zL _) hk)⟩,.take hn hk⟩
theorem Co.keep{s:St}(l:List (Nat × A))(hl:∀ p∈l,s.slots p.1=p.2):Co n0 s ⟨dB l,s.heap⟩ :=
 fun z M ρ a w hn S=>⟨ρ,⟨S.bnd,S.sim,fun n=>by
  rcases xO (l:=l) (n:=n) with h | h
  ·show RepA w M _ _ (dB l n) _;rw[h];exact .any
  ·have h1:=hl _ h;have:=S.slots n;rw[h1] at this;exact this,S.size,S.nlt,S.tabs,S.defers⟩,.refl _ _ _ _ hn.2⟩
def Bv(F:Fns)(n0:Nat):List XOper→St→(St→Prop)→Prop
 | [],s,K=>K s
 | o::os,s,K=>∃ s1,Co n0 s s1∧jA F s1.heap.length o s1 fun s'=>Bv F n0 os s' K
theorem aDm{z:Still}{F:Fns}(hF:FnsOk z.Γ P F)(hb:z.Γ.b≤n0){ops:Array Oper}{xs:List XOper}{M:Nat→Prop}{K:St→Prop}{Q:Exit→Act→World→Prop}(H:OpsAre P z.n ops xs):∀ (l:List Nat) (s:St) (ρ:fJ) (a:Act) (w:World),
  n0≤s.heap.length→Sim z w M ρ s a→Bv F n0 (l.filterMap (xs[·]?)) s K→(∀ s' ρ' a' w',K s'→Sim z w' M ρ' s' a'→Evo n0 s.heap ρ w s'.heap ρ' w'→Q .normal a' w') →
  wpOpsIn (Fw rl) 0 P ops Q l a w:=by
 intro l
 induction l with
 | nil=>intro s ρ a w hn S hK hQ;exact hQ s ρ a w hK S (.refl _ _ _ _ hn)
 | cons i l ih =>
  intro s ρ a w hn S hK hQ;rw[wpOpsIn_cons];cases hx:xs[i]? with
  | none =>
   have ho:ops[i]? = none:=by
    rw[aQ,H.len] at hx;exact Array.getElem?_eq_none hx
   simp only[aD,hx] at hK;unfold wpOpIn;rw[ho];exact ih s ρ a w hn S hK hQ
  | some x =>
   have cY:i<ops.size:=by rw[← H.len];exact(zA.1 hx).1
   have ho:ops[i]? = some ops[i]:=Array.getElem?_eq_getElem cY;simp only[aD,hx,Bv] at hK;obtain⟨s1,hco,hK⟩:=hK;obtain⟨ρ1,S1,g1⟩:=hco z M ρ a w ⟨hb,hn⟩ S;refine Gi hF ho (H.get i _ x ho hx) (fun m hm=>H.dst i x m hx hm) S1 hK fun s' ρ' a' w' hk S' g=>?_;have g':=g1.trans (g.mono g1.len);exact ih s' ρ' a' w' g'.len S' hk fun s'' ρ'' a'' w'' Io S'' g''=>hQ s'' ρ'' a'' w'' Io S'' (g'.trans g'')
theorem aDn{xs:List XOper}{Q:Exit→St→Prop}{s:St}(h:Bv (.all Γ P) n0 xs s (Q .normal)):W Γ P N rl n0 (.reg xs) Q s:=fun code hc z M ρ a w hz hn S=>by
 cases code<;>first | exact hc.elim | skip
 obtain⟨rfl,hc⟩:=hc;rw[hz] at S hn ⊢;refine wpIn_region (aDm aDl hn.1 hc _ s ρ a w hn.2 S (by rw[← hc.len,nF];exact h) fun s' ρ' a' w' q S' g=>⟨s',ρ',q,S',g⟩)
theorem wR{xs:List XOper}{y:XC}{Q:Exit → St → Prop}{s:St}(h:kH (.all Γ P) s.heap.length xs s (My (W Γ P N rl n0 y Q) Q .normal)):W Γ P N rl n0 (.seq (.reg xs) y) Q s := cN (cU h)
end
end Go.Proofs.YtlllnjhgjijnkaaGreatDoor.Nx

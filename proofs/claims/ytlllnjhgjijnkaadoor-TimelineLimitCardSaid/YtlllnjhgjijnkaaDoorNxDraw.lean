import Derived.Test.YtlllnjhgjijnkaaDoorNxExec
set_option linter.unusedSimpArgs false
set_option linter.unusedVariables false
set_option linter.unnecessarySimpa false
open List renaming mem_cons_self → zW, mem_cons_of_mem → zZ
namespace Go.Proofs.YtlllnjhgjijnkaaDoor.Nx
open Go
def XO.slots:XO→List Nat
 | .t n=>[n]
 | _=>[]
def optSlots:Option XO→List Nat
 | some x=>x.slots
 | none=>[]
def XOp.slots:XOp→List Nat
 | .mov x | .box _ x | .load _ _ x | .loadp _ _ x | .faddr _ x | .field _ _ _ x | .nilck x | .eqnil _ x | .un _ x | .conv _ x | .len _ x | .extract _ x | .cap x | .s2r _ x | .b2s x | .i2s x | .iter x | .next x=>x.slots
 | .pick c a b=>c.slots++a.slots++b.slots
 | .alloc _ _=>[]
 | .build _ ps=>ps.flatMap fun p=>p.2.2.slots
 | .bslice _ _ _ ps=>ps.flatMap fun p=>p.2.slots
 | .store _ x y | .iaddr _ x y | .aaddr _ _ x y | .aidx _ _ _ x y | .sidx x y | .bin _ x y | .eqb _ x y | .eqs _ _ _ x y | .append _ x y | .copy _ x y | .make _ _ x y=>x.slots++y.slots
 | .slice _ x lo hi mx=>x.slots++optSlots lo++optSlots hi++optSlots mx
 | .sslice x lo hi=>x.slots++optSlots lo++optSlots hi
 | .mkfn _ cs=>cs.flatMap XO.slots
 | .call f as | .calle f as | .callr f as | .calln f as=>f.slots++as.flatMap XO.slots
 | .minmax _ as=>as.flatMap XO.slots
def XOp.hx:XOp→List XO
 | .load _ _ x | .loadp _ _ x | .faddr _ x | .nilck x | .eqnil _ x | .len _ x | .slice _ x _ _ _ | .store _ x _ | .iaddr _ x _ | .aaddr _ _ x _ | .b2s x=>[x]
 | .append _ x y | .copy _ x y=>[x,y]
 | .calln _ as=>as
 | _=>[]
def XOp.tg:XOp→List XO
 | .store _ x _ | .append _ x _ | .copy _ x _=>[x]
 | _=>[]
theorem tg_hx {op:XOp} {x:XO} (h:x∈op.tg):x∈op.hx:=by
 cases op<;>simp [XOp.tg] at h<;>simp [XOp.hx,h]
def XOp.pushes:XOp→Bool
 | .alloc _ _ | .box _ _ | .bslice _ _ _ _ | .make _ _ _ _ | .append _ _ _ | .iter _=>true
 | _=>false
def XOp.writes:XOp→Bool
 | .store _ _ _ | .append _ _ _ | .copy _ _ _=>true
 | _=>false
def XOp.isCalle:XOp→Bool
 | .calle _ _ | .callr _ _ | .next _=>true
 | _=>false
def Hit (op:XOp) (pl:Option Nat) (ev:XO→A) (h:Heap) (id:Nat):Prop :=
 (op.writes=true∧∃ x∈op.tg,(ev x).touch=some id)∨(op.pushes=true∧pl=some id∧h[id]? = some .res)
def OneSet (op:XOp) (pl:Option Nat) (ev:XO→A) (h h1 h' h1':Heap):Prop :=
 (h'=h∧h1'=h1)∨(∃ id X,Hit op pl ev h id∧X≠HB.res∧h'=h.set id X∧h1'=h1.set id X)∨(op.pushes=true∧pl=none∧∃ X,h'=h++[X]∧h1'=h1++[X])∨(op.isCalle=true∧h'=h1')
theorem OneSet.same {op:XOp} {pl:Option Nat} {ev:XO→A} {h h' h1':Heap} (o:OneSet op pl ev h h h' h1'):h'=h1':=by
 rcases o with ⟨a,b⟩ | ⟨id,X,_,_,a,b⟩ | ⟨_,_,X,a,b⟩ | ⟨_,a⟩<;>simp [*]
theorem loadsTo_imp {n:Nat} {g:Bool} {l:List A} {K K':A→Prop} (hk:∀ a,K a→K' a) (h:loadsTo n g l K):loadsTo n g l K':=loadsTo_mono hk h
theorem fillTo_imp:∀ (l:List (Nat × Nat × A)) (cs:List A) {K K':List A→Prop},(∀ a,K a→K' a)→fillTo cs l K→fillTo cs l K'
 | [],cs,K,K',hk,h=>hk _ h
 | (_,_,_)::l,cs,K,K',hk,h=>⟨h.1,h.2.1,h.2.2.1,fillTo_imp l _ hk h.2.2.2⟩
theorem rowsTo_imp {n:Nat}:∀ (l:List (Nat × A)) (rows:List (List A)) {K K':List (List A)→Prop},(∀ a,K a→K' a)→rowsTo n rows l K→rowsTo n rows l K'
 | [],rows,K,K',hk,h=>hk _ h
 | (_,_)::l,rows,K,K',hk,h=>⟨h.1,h.2.1,h.2.2.1,rowsTo_imp l _ hk h.2.2.2⟩
theorem srcRows_agree {e:Elt} {h h1:Heap} {x:A} (hx:∀ id,x.touch=some id→h1[id]? = h[id]?):srcRows e h1 x=srcRows e h x:=by
 cases x with
 | ref id N off len full=>simp only [srcRows];rw [hx _ rfl]
 | d x=>cases x with
  | sc v=>cases v<;>rfl
  | sl e' rows=>rfl
 | _=>rfl
theorem sliceRows_agree {e:Elt} {h h1:Heap} {x:A} (hx:∀ id,x.touch=some id→h1[id]? = h[id]?):sliceRows e h1 x=sliceRows e h x:=by
 unfold sliceRows
 split
 ·rfl
 ·exact srcRows_agree hx
theorem place_agree {op:XOp} {ev:XO→A} {pl:Option Nat} {h h1:Heap} {B:HB} {K K':Nat→Heap→Prop} (hp:op.pushes=true) (hB:B ≠ .res) (hpl:op.pushes=true→(∀ b,pl=some b→h1[b]? = h[b]?)∧(pl=none→h1.length=h.length))
  (hk:∀ b h' h1',OneSet op pl ev h h1 h' h1'→K b h'→K' b h1') (h0:place pl h B K):place pl h1 B K':=by
 cases pl with
 | none =>
  simp only [place] at h0 ⊢
  rw [(hpl hp).2 rfl]
  exact hk _ _ _ (.inr (.inr (.inl ⟨hp,rfl,_,rfl,rfl⟩))) h0
 | some b=>exact ⟨by rw [(hpl hp).1 b rfl];exact h0.1,hk b _ _ (.inr (.inl ⟨b,B,.inr ⟨hp,rfl,h0.1⟩,hB,rfl,rfl⟩)) h0.2⟩
theorem exec_agree {F:Fns} {pl:Option Nat} {op:XOp} {ev:XO→A} {h h1:Heap} {K K':A→Heap→Prop} (hcal:op.isCalle=true→h1=h)
  (ht:∀ x∈op.hx,∀ id,(ev x).touch=some id→h1[id]? = h[id]?) (hpl:op.pushes=true→(∀ b,pl=some b→h1[b]? = h[b]?)∧(pl=none→h1.length=h.length))
  (hk:∀ r h' h1',OneSet op pl ev h h1 h' h1'→K r h'→K' r h1') (hK:exec F pl op ev h K) :
  exec F pl op ev h1 K':=by
 have same:∀ r,K r h→K' r h1:=fun r hr=>hk r h h1 (.inl ⟨rfl,rfl⟩) hr
 cases op with
 | mov x=>exact same _ hK
 | pick c a b =>
  simp only [exec] at hK ⊢
  split at hK
  ·split at hK
   ·rw [if_pos ‹_›];exact same _ hK
   ·rw [if_neg ‹_›];exact same _ hK
  ·exact hK
 | alloc e z =>
  simp only [exec] at hK ⊢
  exact place_agree rfl (by simp) hpl (fun b h' h1' o hK=>hk _ _ _ o hK) hK
 | box e x =>
  simp only [exec] at hK ⊢
  exact ⟨hK.1,hK.2.1,place_agree rfl (by simp) hpl (fun b h' h1' o hK=>hk _ _ _ o hK) hK.2.2⟩
 | build z ps=>exact fillTo_imp _ _ (fun a ha=>same _ ha) hK
 | bslice e z n ps =>
  simp only [exec] at hK ⊢
  exact rowsTo_imp _ _ (fun a ha=>place_agree rfl (by simp) hpl (fun b h' h1' o hK=>hk _ _ _ o hK) ha) hK
 | load n g x =>
  have htx:=ht x (by simp [XOp.hx])
  simp only [exec] at hK ⊢
  generalize ev x=X at *
  cases X<;>try exact hK
  ·exact loadsTo_imp (fun a ha=>same _ ha) hK
  ·rename_i id N i off
   dsimp only at hK ⊢
   rw [htx id rfl]
   split at hK
   ·refine ⟨hK.1,?_⟩
    have hK:=hK.2
    split at hK
    ·exact loadsTo_imp (fun a ha=>same _ ha) hK
    ·exact hK
   ·exact hK
 | loadp n g x =>
  have htx:=ht x (by simp [XOp.hx])
  simp only [exec] at hK ⊢
  generalize ev x=X at *
  cases X<;>try exact hK
  ·exact loadsTo_imp (fun a ha=>⟨ha.1,same _ ha.2⟩) hK
  ·rename_i id N i off
   dsimp only at hK ⊢
   rw [htx id rfl]
   split at hK
   ·refine ⟨hK.1,?_⟩
    have hK:=hK.2
    split at hK
    ·exact loadsTo_imp (fun a ha=>⟨ha.1,same _ ha.2⟩) hK
    ·exact hK
   ·exact hK
 | store n x y =>
  have htx:=ht x (by simp [XOp.hx])
  have hids:∀ id,(ev x).touch=some id→Hit (XOp.store n x y) pl ev h id:=fun id hid=>.inl ⟨rfl,x,by simp [XOp.tg],hid⟩
  simp only [exec] at hK ⊢
  generalize ev x=X at *
  cases X<;>try exact hK
  rename_i id N i off
  dsimp only at hK ⊢
  rw [htx id rfl]
  split at hK
  ·refine ⟨hK.1,hK.2.1,hK.2.2.1,?_⟩
   have hK:=hK.2.2.2
   split at hK
   ·exact ⟨hK.1,hk _ _ _ (.inr (.inl ⟨id,_,hids id rfl,by simp,rfl,rfl⟩)) hK.2⟩
   ·exact hK
  ·exact hK
 | faddr off x =>
  have htx:=ht x (by simp [XOp.hx])
  simp only [exec] at hK ⊢
  generalize ev x=X at *
  cases X<;>try exact hK
  ·exact same _ hK
  ·rename_i id N i o
   dsimp only at hK ⊢
   rw [htx id rfl]
   split at hK
   ·exact ⟨hK.1,same _ hK.2⟩
   ·exact hK
 | field off n g x =>
  simp only [exec] at hK ⊢
  split at hK
  ·exact loadsTo_imp (fun a ha=>same _ ha) hK
  ·exact hK
 | iaddr e x i =>
  have htx:=ht x (by simp [XOp.hx])
  simp only [exec] at hK ⊢
  split at hK
  ·exact ⟨hK.1,hK.2.1,hK.2.2.1,same _ hK.2.2.2⟩
  ·exact ⟨hK.1,hK.2.1,hK.2.2.1,same _ hK.2.2.2⟩
  ·exact ⟨hK.1,hK.2.1,hK.2.2.1,same _ hK.2.2.2⟩
  ·rename_i heq _
   rw [htx _ (by rw [heq];rfl)]
   split at hK
   ·exact ⟨hK.1,hK.2.1,hK.2.2.1,hK.2.2.2.1,same _ hK.2.2.2.2⟩
   ·exact hK
  ·exact hK
 | aaddr e n x i =>
  have htx:=ht x (by simp [XOp.hx])
  simp only [exec] at hK ⊢
  split at hK
  ·rename_i heq _
   rw [htx _ (by rw [heq];rfl)]
   split at hK
   ·exact ⟨hK.1,hK.2.1,hK.2.2.1,same _ hK.2.2.2⟩
   ·exact hK
  ·exact ⟨hK.1,hK.2.1,same _ hK.2.2⟩
  ·exact hK
 | aidx len n g x i =>
  simp only [exec] at hK ⊢
  split at hK
  ·exact ⟨hK.1,hK.2.1,loadsTo_imp (fun a ha=>same _ ha) hK.2.2⟩
  ·exact hK
 | sidx x i =>
  simp only [exec] at hK ⊢
  split at hK
  ·exact ⟨hK.1,hK.2.1,same _ hK.2.2⟩
  ·exact hK
 | nilck x =>
  have htx:=ht x (by simp [XOp.hx])
  simp only [exec] at hK ⊢
  split at hK
  ·rename_i heq
   rw [htx _ (by rw [heq];rfl)]
   split at hK
   ·exact ⟨hK.1,same _ hK.2⟩
   ·exact hK
  ·exact same _ hK
  ·exact same _ hK
  ·exact hK
 | bin op x y =>
  simp only [exec] at hK ⊢
  split at hK
  ·split at hK
   ·exact same _ hK
   ·exact hK
  ·exact hK
 | eqb neg x y =>
  simp only [exec] at hK ⊢
  split at hK
  ·exact same _ hK
  ·exact hK
 | eqs neg n ks x y =>
  simp only [exec] at hK ⊢
  split at hK
  ·refine ⟨hK.1,hK.2.1,?_⟩
   have hK:=hK.2.2
   split at hK
   ·exact same _ hK
   ·exact hK
  ·exact hK
 | eqnil neg x =>
  have htx:=ht x (by simp [XOp.hx])
  simp only [exec] at hK ⊢
  generalize ev x=X at *
  rcases X with _ | _ | (v | ⟨e,rows⟩) | ⟨e,rows⟩ | _ | _ | _ | _ | ⟨id,N,off,len,full⟩ | _ | _ | _
  ·exact hK
  ·exact same _ hK
  ·exact hK
  ·exact ⟨hK.1,same _ hK.2⟩
  ·exact same _ hK
  ·exact hK
  ·exact hK
  ·exact hK
  ·exact hK
  ·dsimp only at hK ⊢
   rw [htx id rfl]
   split at hK
   ·exact ⟨hK.1,hK.2.1,same _ hK.2.2⟩
   ·exact hK
  ·exact hK
  ·exact hK
  ·exact hK
 | un op x =>
  simp only [exec] at hK ⊢
  split at hK
  ·split at hK
   ·exact same _ hK
   ·exact hK
  ·exact hK
 | conv k x =>
  simp only [exec] at hK ⊢
  split at hK
  ·exact same _ hK
  ·exact hK
 | len str x =>
  have htx:=ht x (by simp [XOp.hx])
  simp only [exec] at hK ⊢
  split at hK
  ·exact ⟨hK.1,same _ hK.2⟩
  ·exact ⟨hK.1,same _ hK.2⟩
  ·exact ⟨hK.1,same _ hK.2⟩
  ·exact ⟨hK.1,same _ hK.2⟩
  ·rename_i heq
   rw [htx _ (by rw [heq];rfl)]
   split at hK
   ·exact ⟨hK.1,hK.2.1,same _ hK.2.2⟩
   ·exact hK
  ·exact ⟨hK.1,same _ hK.2⟩
  ·exact hK
 | slice e x lo hi mx =>
  have htx:=ht x (by simp [XOp.hx])
  simp only [exec] at hK ⊢
  split at hK
  ·exact ⟨hK.1,hK.2.1,hK.2.2.1,same _ hK.2.2.2⟩
  ·split at hK
   ·exact ⟨hK.1,hK.2.1,hK.2.2.1,hK.2.2.2.1,hK.2.2.2.2.1,same _ hK.2.2.2.2.2⟩
   ·exact hK
  ·split at hK
   ·exact ⟨hK.1,hK.2.1,hK.2.2.1,hK.2.2.2.1,hK.2.2.2.2.1,same _ hK.2.2.2.2.2⟩
   ·exact hK
  ·rename_i heq
   rw [htx _ (by rw [heq];rfl)]
   split at hK
   ·split at hK
    ·exact ⟨hK.1,hK.2.1,hK.2.2.1,hK.2.2.2.1,hK.2.2.2.2.1,hK.2.2.2.2.2.1,same _ hK.2.2.2.2.2.2⟩
    ·exact hK
   ·exact hK
  ·exact hK
 | sslice x lo hi =>
  simp only [exec] at hK ⊢
  split at hK
  ·split at hK
   ·exact ⟨hK.1,hK.2.1,hK.2.2.1,same _ hK.2.2.2⟩
   ·exact hK
  ·exact hK
 | append e x y =>
  have htx:=ht x (by simp [XOp.hx])
  have hty:=ht y (by simp [XOp.hx])
  have hids:∀ id,(ev x).touch=some id→Hit (XOp.append e x y) pl ev h id:=fun id hid=>.inl ⟨rfl,x,by simp [XOp.tg],hid⟩
  simp only [exec] at hK ⊢
  rw [srcRows_agree hty]
  split at hK
  ·split at hK
   ·split at hK
    ·rw [if_pos ‹_›];exact same _ hK
    ·rw [if_neg ‹_›]
     exact ⟨hK.1,hK.2.1,place_agree rfl (by simp) hpl (fun b h' h1' o hK=>hk _ _ _ o hK) hK.2.2⟩
   ·rename_i heq
    have hid:=hids _ (by rw [heq];rfl)
    rw [htx _ (by rw [heq];rfl)]
    split at hK
    ·refine ⟨hK.1,hK.2.1,hK.2.2.1,hK.2.2.2.1,hK.2.2.2.2.1,?_⟩
     have hK:=hK.2.2.2.2.2
     split at hK
     ·rw [if_pos ‹_›];exact hk _ _ _ (.inr (.inl ⟨_,_,hid,by simp,rfl,rfl⟩)) hK
     ·rw [if_neg ‹_›];exact ⟨hK.1,hK.2.1,hk _ _ _ (.inr (.inl ⟨_,_,hid,by simp,rfl,rfl⟩)) hK.2.2⟩
    ·exact hK
   ·exact ⟨hK.1,hK.2.1,hK.2.2.1,hK.2.2.2.1,place_agree rfl (by simp) hpl (fun b h' h1' o hK=>hk _ _ _ o hK) hK.2.2.2.2⟩
   ·exact hK
  ·exact hK
 | copy e x y =>
  have htx:=ht x (by simp [XOp.hx])
  have hty:=ht y (by simp [XOp.hx])
  have hids:∀ id,(ev x).touch=some id→Hit (XOp.copy e x y) pl ev h id:=fun id hid=>.inl ⟨rfl,x,by simp [XOp.tg],hid⟩
  simp only [exec] at hK ⊢
  rw [srcRows_agree hty]
  split at hK
  ·split at hK
   ·rename_i heq
    have hid:=hids _ (by rw [heq];rfl)
    rw [htx _ (by rw [heq];rfl)]
    split at hK
    ·exact ⟨hK.1,hK.2.1,hk _ _ _ (.inr (.inl ⟨_,_,hid,by simp,rfl,rfl⟩)) hK.2.2⟩
    ·exact hK
   ·exact hK
  ·exact hK
 | make e z n c =>
  simp only [exec] at hK ⊢
  split at hK
  ·exact ⟨hK.1,hK.2.1,hK.2.2.1,hK.2.2.2.1,place_agree rfl (by simp) hpl (fun b h' h1' o hK=>hk _ _ _ o hK) hK.2.2.2.2⟩
  ·exact hK
 | extract i x =>
  simp only [exec] at hK ⊢
  split at hK
  ·split at hK
   ·exact same _ hK
   ·exact hK
  ·exact hK
 | mkfn f cs=>exact same _ hK
 | call f as =>
  simp only [exec] at hK ⊢
  split at hK
  ·obtain ⟨h0,r,hr,hk⟩:=hK
   exact ⟨h0,r,hr,same _ hk⟩
  ·exact hK
 | calle f as =>
  have hh:=hcal rfl
  subst hh
  have same':∀ r h',K r h'→K' r h':=fun r h' hr=>hk r h' h' (.inr (.inr (.inr ⟨rfl,rfl⟩))) hr
  simp only [exec] at hK ⊢
  split at hK
  ·obtain ⟨r,h',hr,hk⟩:=hK
   exact ⟨r,h',hr,same' _ _ hk⟩
  ·obtain ⟨r,h',hr,hk⟩:=hK
   exact ⟨r,h',hr,same' _ _ hk⟩
  ·exact hK
 | callr f as =>
  have hh:=hcal rfl
  subst hh
  have same':∀ r h',K r h'→K' r h':=fun r h' hr=>hk r h' h' (.inr (.inr (.inr ⟨rfl,rfl⟩))) hr
  simp only [exec] at hK ⊢
  split at hK
  ·obtain ⟨r,h',hr,hk⟩:=hK
   exact ⟨r,h',hr,same' _ _ hk⟩
  ·exact hK
 | calln f as =>
  simp only [exec] at hK ⊢
  split at hK
  ·obtain ⟨q1,r,q2,hk⟩:=hK
   have htx:∀ x∈as,∀ id,(ev x).touch=some id→h1[id]? = h[id]? := fun x hx=>ht x hx
   exact ⟨fun x hx id hid=>by rw [htx x hx id hid];exact q1 x hx id hid,r,fun h' hh=>q2 h' fun x hx id hid=>(hh x hx id hid).trans (htx x hx id hid),same _ hk⟩
  ·exact hK
 | minmax g as =>
  simp only [exec] at hK ⊢
  split at hK
  ·split at hK
   ·exact ⟨hK.1,same _ hK.2⟩
   ·exact hK
  ·split at hK
   ·exact ⟨hK.1,hK.2.1,same _ hK.2.2⟩
   ·exact hK
  ·exact hK
 | cap x =>
  simp only [exec] at hK ⊢
  split at hK
  ·exact same _ hK
  ·exact hK
 | s2r e x =>
  simp only [exec] at hK ⊢
  split at hK
  ·exact ⟨hK.1,same _ hK.2⟩
  ·exact hK
 | b2s x =>
  have htx:=ht x (by simp [XOp.hx])
  simp only [exec] at hK ⊢
  rw [sliceRows_agree htx]
  split at hK
  ·split at hK
   ·exact ⟨hK.1,same _ hK.2⟩
   ·exact hK
  ·exact hK
 | i2s x =>
  simp only [exec] at hK ⊢
  split at hK
  ·exact same _ hK
  ·exact hK
 | iter x =>
  simp only [exec] at hK ⊢
  split at hK
  ·exact place_agree rfl (by simp) hpl (fun b h' h1' o hK=>hk _ _ _ o hK) hK
  ·exact hK
 | next x =>
  have hh:=hcal rfl
  subst hh
  have same':∀ r h',K r h'→K' r h':=fun r h' hr=>hk r h' h' (.inr (.inr (.inr ⟨rfl,rfl⟩))) hr
  simp only [exec] at hK ⊢
  split at hK
  ·split at hK
   ·refine ⟨hK.1,?_⟩
    have hK:=hK.2
    unfold nextStr at hK ⊢
    split at hK
    ·rw [if_pos ‹_›];exact same' _ _ hK
    ·rw [if_neg ‹_›];exact same' _ _ hK
   ·exact hK
  ·exact hK
end Go.Proofs.YtlllnjhgjijnkaaDoor.Nx
namespace Go.Proofs.YtlllnjhgjijnkaaDoor.Nx
open Go
theorem exec_mono {F:Fns} {pl:Option Nat} {op:XOp} {ev:XO→A} {h:Heap} {K K':A→Heap→Prop} (hk:∀ r h',K r h'→K' r h') (hK:exec F pl op ev h K):exec F pl op ev h K' :=
 exec_agree (fun _=>rfl) (fun _ _ _ _=>rfl) (fun _=>⟨fun _ _=>rfl,fun _=>rfl⟩) (fun r h' h1' o hr=>by have:=o.same;subst this;exact hk _ _ hr) hK
theorem loadsTo_wit {n:Nat} {g:Bool} {l:List A} {K:A→Prop} (h:loadsTo n g l K):∃ r,K r∧loadsTo n g l (· = r):=by
 unfold loadsTo at *
 cases g with
 | true=>exact ⟨_,h.2,h.1,rfl⟩
 | false=>cases l with
  | nil=>exact h.elim
  | cons c l=>exact ⟨c,h,rfl⟩
theorem fillTo_wit:∀ (l:List (Nat × Nat × A)) (cs:List A) {K:List A→Prop},fillTo cs l K→∃ r,K r∧fillTo cs l (· = r)
 | [],cs,K,h=>⟨cs,h,rfl⟩
 | (_,_,_)::l,cs,K,h=>let ⟨r,a,b⟩:=fillTo_wit l _ h.2.2.2;⟨r,a,h.1,h.2.1,h.2.2.1,b⟩
theorem rowsTo_wit {n:Nat}:∀ (l:List (Nat × A)) (rows:List (List A)) {K:List (List A)→Prop},rowsTo n rows l K→∃ r,K r∧rowsTo n rows l (· = r)
 | [],rows,K,h=>⟨rows,h,rfl⟩
 | (_,_)::l,rows,K,h=>let ⟨r,a,b⟩:=rowsTo_wit l _ h.2.2.2;⟨r,a,h.1,h.2.1,h.2.2.1,b⟩
theorem place_wit {pl:Option Nat} {h:Heap} {B:HB} {K:Nat→Heap→Prop} (h0:place pl h B K):∃ b h',K b h'∧place pl h B (fun x y=>x=b∧y=h'):=by
 cases pl with
 | none=>exact ⟨_,_,h0,rfl,rfl⟩
 | some b=>exact ⟨_,_,h0.2,h0.1,rfl,rfl⟩
theorem place_imp {pl:Option Nat} {h:Heap} {B:HB} {K K':Nat→Heap→Prop} (hk:∀ a b,K a b→K' a b) (h0:place pl h B K):place pl h B K':=by
 cases pl with
 | none=>exact hk _ _ h0
 | some b=>exact ⟨h0.1,hk _ _ h0.2⟩
theorem exec_wit {F:Fns} {pl:Option Nat} {op:XOp} {ev:XO→A} {h:Heap} {K:A→Heap→Prop} (hK:exec F pl op ev h K) :
  ∃ r h',K r h'∧exec F pl op ev h (fun a b=>a=r∧b=h'):=by
 have load1:∀ {n g l},loadsTo n g l (fun a=>K a h)→∃ r h',K r h'∧loadsTo n g l (fun a=>a=r∧h=h'):=fun hl =>
  let ⟨r,a,b⟩:=loadsTo_wit hl;⟨r,h,a,loadsTo_imp (fun _ hx=>⟨hx,rfl⟩) b⟩
 have loadq:∀ {n g l},loadsTo n g l (fun a=>a.touch=none∧K a h)→∃ r h',K r h'∧loadsTo n g l (fun a=>a.touch=none∧a=r∧h=h'):=fun hl =>
  let ⟨r,a,b⟩:=loadsTo_wit hl;⟨r,h,a.2,loadsTo_imp (fun x hx=>⟨by rw [hx];exact a.1,hx,rfl⟩) b⟩
 have place1:∀ {B} {g:Nat→A},place pl h B (fun id h1=>K (g id) h1)→∃ r h',K r h'∧place pl h B (fun id h1=>g id=r∧h1=h'):=fun {B g} hl =>
  let ⟨r,h',a,b⟩:=place_wit hl;⟨g r,h',a,place_imp (fun _ _ hx=>⟨by rw [hx.1],hx.2⟩) b⟩
 cases op with
 | mov x=>exact ⟨_,_,hK,rfl,rfl⟩
 | pick c a b =>
  simp only [exec] at hK ⊢
  split at hK
  ·split at hK
   ·refine ⟨_,_,hK,?_⟩;rw [if_pos ‹_›];exact ⟨rfl,rfl⟩
   ·refine ⟨_,_,hK,?_⟩;rw [if_neg ‹_›];exact ⟨rfl,rfl⟩
  ·exact hK.elim
 | alloc e z =>
  simp only [exec] at hK ⊢
  exact place1 (g:=fun id=>.ptr id 1 0 0) hK
 | box e x=>obtain ⟨r,h',a,b⟩:=place1 hK.2.2;exact ⟨r,h',a,hK.1,hK.2.1,b⟩
 | build z ps =>
  obtain ⟨r,a,b⟩:=fillTo_wit _ _ hK
  exact ⟨_,_,a,fillTo_imp _ _ (fun _ hx=>⟨by rw [hx],rfl⟩) b⟩
 | bslice e z n ps =>
  obtain ⟨rows,a,b⟩:=rowsTo_wit _ _ hK
  obtain ⟨r,h',a,c⟩:=place1 a
  exact ⟨r,h',a,rowsTo_imp _ _ (fun _ hx=>by subst hx;exact c) b⟩
 | load n g x =>
  simp only [exec] at hK ⊢
  split at hK
  ·split at hK
   ·obtain ⟨h1,hK⟩:=hK
    split at hK
    ·obtain ⟨r,h',a,b⟩:=load1 hK;exact ⟨r,h',a,h1,b⟩
    ·exact hK.elim
   ·exact hK.elim
  ·exact load1 hK
  ·exact hK.elim
 | loadp n g x =>
  simp only [exec] at hK ⊢
  split at hK
  ·split at hK
   ·obtain ⟨h1,hK⟩:=hK
    split at hK
    ·obtain ⟨r,h',a,b⟩:=loadq hK;exact ⟨r,h',a,h1,b⟩
    ·exact hK.elim
   ·exact hK.elim
  ·exact loadq hK
  ·exact hK.elim
 | store n x y =>
  simp only [exec] at hK ⊢
  split at hK
  ·split at hK
   ·obtain ⟨h1,h2,h3,hK⟩:=hK
    split at hK
    ·exact ⟨_,_,hK.2,h1,h2,h3,hK.1,rfl,rfl⟩
    ·exact hK.elim
   ·exact hK.elim
  ·exact hK.elim
 | faddr off x =>
  simp only [exec] at hK ⊢
  split at hK
  ·split at hK
   ·exact ⟨_,_,hK.2,hK.1,rfl,rfl⟩
   ·exact hK.elim
  ·exact ⟨_,_,hK,rfl,rfl⟩
  ·exact hK.elim
 | field off n g x =>
  simp only [exec] at hK ⊢
  split at hK
  ·exact load1 hK
  ·exact hK.elim
 | iaddr e x i =>
  simp only [exec] at hK ⊢
  split at hK
  ·exact ⟨_,_,hK.2.2.2,hK.1,hK.2.1,hK.2.2.1,rfl,rfl⟩
  ·exact ⟨_,_,hK.2.2.2,hK.1,hK.2.1,hK.2.2.1,rfl,rfl⟩
  ·exact ⟨_,_,hK.2.2.2,hK.1,hK.2.1,hK.2.2.1,rfl,rfl⟩
  ·split at hK
   ·exact ⟨_,_,hK.2.2.2.2,hK.1,hK.2.1,hK.2.2.1,hK.2.2.2.1,rfl,rfl⟩
   ·exact hK.elim
  ·exact hK.elim
 | aaddr e n x i =>
  simp only [exec] at hK ⊢
  split at hK
  ·split at hK
   ·exact ⟨_,_,hK.2.2.2,hK.1,hK.2.1,hK.2.2.1,rfl,rfl⟩
   ·exact hK.elim
  ·exact ⟨_,_,hK.2.2,hK.1,hK.2.1,rfl,rfl⟩
  ·exact hK.elim
 | aidx len n g x i =>
  simp only [exec] at hK ⊢
  split at hK
  ·obtain ⟨r,h',a,b⟩:=load1 hK.2.2;exact ⟨r,h',a,hK.1,hK.2.1,b⟩
  ·exact hK.elim
 | sidx x i =>
  simp only [exec] at hK ⊢
  split at hK
  ·exact ⟨_,_,hK.2.2,hK.1,hK.2.1,rfl,rfl⟩
  ·exact hK.elim
 | nilck x =>
  simp only [exec] at hK ⊢
  split at hK
  ·split at hK
   ·exact ⟨_,_,hK.2,hK.1,rfl,rfl⟩
   ·exact hK.elim
  ·exact ⟨_,_,hK,rfl,rfl⟩
  ·exact ⟨_,_,hK,rfl,rfl⟩
  ·exact hK.elim
 | bin op x y =>
  simp only [exec] at hK ⊢
  split at hK
  ·split at hK
   ·exact ⟨_,_,hK,rfl,rfl⟩
   ·exact hK.elim
  ·exact hK.elim
 | eqb neg x y =>
  simp only [exec] at hK ⊢
  split at hK
  ·exact ⟨_,_,hK,rfl,rfl⟩
  ·exact hK.elim
 | eqs neg n ks x y =>
  simp only [exec] at hK ⊢
  split at hK
  ·obtain ⟨h1,h2,hK⟩:=hK
   split at hK
   ·exact ⟨_,_,hK,h1,h2,rfl,rfl⟩
   ·exact hK.elim
  ·exact hK.elim
 | eqnil neg x =>
  simp only [exec] at hK ⊢
  split at hK
  ·exact ⟨_,_,hK,rfl,rfl⟩
  ·exact ⟨_,_,hK,rfl,rfl⟩
  ·exact ⟨_,_,hK.2,hK.1,rfl,rfl⟩
  ·split at hK
   ·exact ⟨_,_,hK.2.2,hK.1,hK.2.1,rfl,rfl⟩
   ·exact hK.elim
  ·exact hK.elim
 | un op x =>
  simp only [exec] at hK ⊢
  split at hK
  ·split at hK
   ·exact ⟨_,_,hK,rfl,rfl⟩
   ·exact hK.elim
  ·exact hK.elim
 | conv k x =>
  simp only [exec] at hK ⊢
  split at hK
  ·exact ⟨_,_,hK,rfl,rfl⟩
  ·exact hK.elim
 | len str x =>
  simp only [exec] at hK ⊢
  split at hK
  ·exact ⟨_,_,hK.2,hK.1,rfl,rfl⟩
  ·exact ⟨_,_,hK.2,hK.1,rfl,rfl⟩
  ·exact ⟨_,_,hK.2,hK.1,rfl,rfl⟩
  ·exact ⟨_,_,hK.2,hK.1,rfl,rfl⟩
  ·split at hK
   ·exact ⟨_,_,hK.2.2,hK.1,hK.2.1,rfl,rfl⟩
   ·exact hK.elim
  ·exact ⟨_,_,hK.2,hK.1,rfl,rfl⟩
  ·exact hK.elim
 | slice e x lo hi mx =>
  simp only [exec] at hK ⊢
  split at hK
  ·exact ⟨_,_,hK.2.2.2,hK.1,hK.2.1,hK.2.2.1,rfl,rfl⟩
  ·split at hK
   ·exact ⟨_,_,hK.2.2.2.2.2,hK.1,hK.2.1,hK.2.2.1,hK.2.2.2.1,hK.2.2.2.2.1,rfl,rfl⟩
   ·exact hK.elim
  ·split at hK
   ·exact ⟨_,_,hK.2.2.2.2.2,hK.1,hK.2.1,hK.2.2.1,hK.2.2.2.1,hK.2.2.2.2.1,rfl,rfl⟩
   ·exact hK.elim
  ·split at hK
   ·split at hK
    ·exact ⟨_,_,hK.2.2.2.2.2.2,hK.1,hK.2.1,hK.2.2.1,hK.2.2.2.1,hK.2.2.2.2.1,hK.2.2.2.2.2.1,rfl,rfl⟩
    ·exact hK.elim
   ·exact hK.elim
  ·exact hK.elim
 | sslice x lo hi =>
  simp only [exec] at hK ⊢
  split at hK
  ·split at hK
   ·exact ⟨_,_,hK.2.2.2,hK.1,hK.2.1,hK.2.2.1,rfl,rfl⟩
   ·exact hK.elim
  ·exact hK.elim
 | append e x y =>
  simp only [exec] at hK ⊢
  split at hK
  ·split at hK
   ·split at hK
    ·refine ⟨_,_,hK,?_⟩;rw [if_pos ‹_›];exact ⟨rfl,rfl⟩
    ·obtain ⟨r,h',a,b⟩:=place1 hK.2.2
     refine ⟨r,h',a,?_⟩;rw [if_neg ‹_›];exact ⟨hK.1,hK.2.1,b⟩
   ·split at hK
    ·obtain ⟨h1,h2,h3,h4,h5,hK⟩:=hK
     split at hK
     ·refine ⟨_,_,hK,h1,h2,h3,h4,h5,?_⟩;rw [if_pos ‹_›];exact ⟨rfl,rfl⟩
     ·refine ⟨_,_,hK.2.2,h1,h2,h3,h4,h5,?_⟩;rw [if_neg ‹_›];exact ⟨hK.1,hK.2.1,rfl,rfl⟩
    ·exact hK.elim
   ·obtain ⟨r,h',a,b⟩:=place1 hK.2.2.2.2
    exact ⟨r,h',a,hK.1,hK.2.1,hK.2.2.1,hK.2.2.2.1,b⟩
   ·exact hK.elim
  ·exact hK.elim
 | copy e x y =>
  simp only [exec] at hK ⊢
  split at hK
  ·split at hK
   ·split at hK
    ·exact ⟨_,_,hK.2.2,hK.1,hK.2.1,rfl,rfl⟩
    ·exact hK.elim
   ·exact hK.elim
  ·exact hK.elim
 | make e z n c =>
  simp only [exec] at hK ⊢
  split at hK
  ·obtain ⟨r,h',a,b⟩:=place1 hK.2.2.2.2
   exact ⟨r,h',a,hK.1,hK.2.1,hK.2.2.1,hK.2.2.2.1,b⟩
  ·exact hK.elim
 | extract i x =>
  simp only [exec] at hK ⊢
  split at hK
  ·split at hK
   ·exact ⟨_,_,hK,rfl,rfl⟩
   ·exact hK.elim
  ·exact hK.elim
 | mkfn f cs=>exact ⟨_,_,hK,rfl,rfl⟩
 | call f as =>
  simp only [exec] at hK ⊢
  split at hK
  ·obtain ⟨h0,r,hr,hk⟩:=hK
   exact ⟨_,_,hk,h0,r,hr,rfl,rfl⟩
  ·exact hK.elim
 | calle f as =>
  simp only [exec] at hK ⊢
  split at hK
  ·obtain ⟨r,h',hr,hk⟩:=hK
   exact ⟨_,_,hk,r,h',hr,rfl,rfl⟩
  ·obtain ⟨r,h',hr,hk⟩:=hK
   exact ⟨_,_,hk,r,h',hr,rfl,rfl⟩
  ·exact hK.elim
 | callr f as =>
  simp only [exec] at hK ⊢
  split at hK
  ·obtain ⟨r,h',hr,hk⟩:=hK
   exact ⟨_,_,hk,r,h',hr,rfl,rfl⟩
  ·exact hK.elim
 | calln f as =>
  simp only [exec] at hK ⊢
  split at hK
  ·obtain ⟨q1,r,q2,hk⟩:=hK
   exact ⟨_,_,hk,q1,r,q2,rfl,rfl⟩
  ·exact hK.elim
 | minmax g as =>
  simp only [exec] at hK ⊢
  split at hK
  ·split at hK
   ·exact ⟨_,_,hK.2,hK.1,rfl,rfl⟩
   ·exact hK.elim
  ·split at hK
   ·exact ⟨_,_,hK.2.2,hK.1,hK.2.1,rfl,rfl⟩
   ·exact hK.elim
  ·exact hK.elim
 | cap x =>
  simp only [exec] at hK ⊢
  split at hK
  ·exact ⟨_,_,hK,rfl,rfl⟩
  ·exact hK.elim
 | s2r e x =>
  simp only [exec] at hK ⊢
  split at hK
  ·exact ⟨_,_,hK.2,hK.1,rfl,rfl⟩
  ·exact hK.elim
 | b2s x =>
  simp only [exec] at hK ⊢
  split at hK
  ·split at hK
   ·exact ⟨_,_,hK.2,hK.1,rfl,rfl⟩
   ·exact hK.elim
  ·exact hK.elim
 | i2s x =>
  simp only [exec] at hK ⊢
  split at hK
  ·exact ⟨_,_,hK,rfl,rfl⟩
  ·exact hK.elim
 | iter x =>
  simp only [exec] at hK ⊢
  split at hK
  ·exact place1 (g:=fun id=>.ptr id 0 0 0) hK
  ·exact hK.elim
 | next x =>
  simp only [exec] at hK ⊢
  split at hK
  ·split at hK
   ·have hs:=hK.1
    have hK:=hK.2
    unfold nextStr at hK ⊢
    split at hK
    ·refine ⟨_,_,hK,hs,?_⟩;rw [if_pos ‹_›];exact ⟨rfl,rfl⟩
    ·refine ⟨_,_,hK,hs,?_⟩;rw [if_neg ‹_›];exact ⟨rfl,rfl⟩
   ·exact hK.elim
  ·exact hK.elim
theorem optInt_congr {ev ev':XO→A} {x:Option XO} (d:Nat) (he:∀ y,x=some y→ev' y=ev y):optInt ev' x d=optInt ev x d:=by
 cases x with
 | none=>rfl
 | some y=>simp only [optInt,he y rfl]
theorem exec_ev {F:Fns} {pl:Option Nat} {op:XOp} {ev ev':XO→A} {h:Heap} {K:A→Heap→Prop} (he:∀ x:XO,(∀ n∈x.slots,n∈op.slots)→ev' x=ev x):exec F pl op ev' h K=exec F pl op ev h K:=by
 cases op with
 | mov x | box _ x | load _ _ x | loadp _ _ x | faddr _ x | field _ _ _ x | nilck x | eqnil _ x | un _ x | conv _ x | len _ x | extract _ x | cap x | s2r _ x | b2s x | i2s x | iter x | next x=>simp only [exec,he x (by simp [XOp.slots])]
 | pick c a b=>simp only [exec,he c (by simp [XOp.slots];grind),he a (by simp [XOp.slots];grind),he b (by simp [XOp.slots];grind)]
 | alloc _ _=>rfl
 | build z ps =>
  have:(ps.map fun (o,n,x)=>(o,n,ev' x))=ps.map fun (o,n,x)=>(o,n,ev x):=List.map_congr_left fun p hp=>by
   obtain ⟨o,n,x⟩:=p
   simp only [he x (fun m hm=>by simp only [XOp.slots,List.mem_flatMap];exact ⟨_,hp,hm⟩)]
  simp only [exec,this]
 | bslice e z n ps =>
  have:(ps.map fun (i,x)=>(i,ev' x))=ps.map fun (i,x)=>(i,ev x):=List.map_congr_left fun p hp=>by
   obtain ⟨i,x⟩:=p
   simp only [he x (fun m hm=>by simp only [XOp.slots,List.mem_flatMap];exact ⟨_,hp,hm⟩)]
  simp only [exec,this]
 | store _ x y | iaddr _ x y | aaddr _ _ x y | aidx _ _ _ x y | sidx x y | bin _ x y | eqb _ x y | eqs _ _ _ x y | append _ x y | copy _ x y | make _ _ x y =>
  simp only [exec,he x (by simp [XOp.slots];grind),he y (by simp [XOp.slots];grind)]
 | slice e x lo hi mx =>
  simp only [exec,he x (by simp [XOp.slots];grind)]
  have h1:∀ d,optInt ev' lo d=optInt ev lo d:=fun d=>optInt_congr d fun y hy=>he y (by subst hy;simp [XOp.slots,optSlots];grind)
  have h2:∀ d,optInt ev' hi d=optInt ev hi d:=fun d=>optInt_congr d fun y hy=>he y (by subst hy;simp [XOp.slots,optSlots];grind)
  have h3:∀ d,optInt ev' mx d=optInt ev mx d:=fun d=>optInt_congr d fun y hy=>he y (by subst hy;simp [XOp.slots,optSlots];grind)
  simp only [h1,h2,h3]
 | sslice x lo hi =>
  simp only [exec,he x (by simp [XOp.slots];grind)]
  have h1:∀ d,optInt ev' lo d=optInt ev lo d:=fun d=>optInt_congr d fun y hy=>he y (by subst hy;simp [XOp.slots,optSlots];grind)
  have h2:∀ d,optInt ev' hi d=optInt ev hi d:=fun d=>optInt_congr d fun y hy=>he y (by subst hy;simp [XOp.slots,optSlots];grind)
  simp only [h1,h2]
 | mkfn f cs =>
  have:cs.map ev'=cs.map ev:=List.map_congr_left fun x hx=>he x (fun m hm=>by simp only [XOp.slots,List.mem_flatMap];exact ⟨_,hx,hm⟩)
  simp only [exec,this]
 | call f as | calle f as | callr f as =>
  have:as.map ev'=as.map ev:=List.map_congr_left fun x hx=>he x (fun m hm=>by simp only [XOp.slots,List.mem_append,List.mem_flatMap];exact .inr ⟨_,hx,hm⟩)
  simp only [exec,this,he f (by simp [XOp.slots];grind)]
 | calln f as =>
  have h1:as.map ev'=as.map ev:=List.map_congr_left fun x hx=>he x (fun m hm=>by simp only [XOp.slots,List.mem_append,List.mem_flatMap];exact .inr ⟨_,hx,hm⟩)
  have h2:∀ x∈as,ev' x=ev x:=fun x hx=>he x (fun m hm=>by simp only [XOp.slots,List.mem_append,List.mem_flatMap];exact .inr ⟨_,hx,hm⟩)
  have h3:∀ h':Heap,(∀ x∈as,∀ id,(ev' x).touch=some id→h'[id]? = h[id]?)=(∀ x∈as,∀ id,(ev x).touch=some id→h'[id]? = h[id]?):=fun h'=>propext ⟨fun hh x hx=>by rw [← h2 x hx];exact hh x hx,fun hh x hx=>by rw [h2 x hx];exact hh x hx⟩
  have h4:(∀ x∈as,∀ id,(ev' x).touch=some id→∃ e rows,h[id]? = some (.cells e rows))=(∀ x∈as,∀ id,(ev x).touch=some id→∃ e rows,h[id]? = some (.cells e rows)):=propext ⟨fun hh x hx=>by rw [← h2 x hx];exact hh x hx,fun hh x hx=>by rw [h2 x hx];exact hh x hx⟩
  simp only [exec,h1,h3,h4,he f (by simp [XOp.slots];grind)]
 | minmax g as =>
  have:∀ x∈as,ev' x=ev x:=fun x hx=>he x (fun m hm=>by simp only [XOp.slots,List.mem_flatMap];exact ⟨_,hx,hm⟩)
  simp only [exec]
  split
  ·simp only [this _ (zW ..),this _ (zZ _ (zW ..))]
  ·simp only [this _ (zW ..),this _ (zZ _ (zW ..)),this _ (zZ _ (zZ _ (zW ..)))]
  ·rfl
theorem srcRows_touch {e:Elt} {h:Heap} {x:A} {new:List (List A)} (hs:srcRows e h x=some new) {id:Nat} (hid:x.touch=some id):∃ e rows,h[id]? = some (.cells e rows):=by
 cases x<;>simp [A.touch] at hid<;>subst hid
 ·simp [srcRows] at hs
 ·simp only [srcRows] at hs
  split at hs
  ·exact ⟨_,_, ‹_›⟩
  ·cases hs
theorem sliceRows_src' {e:Elt} {h:Heap} {x:A} {rows:List (List A)} (hs:sliceRows e h x=some rows):srcRows e h x=some rows:=by
 unfold sliceRows at hs
 split at hs
 ·cases hs
 ·exact hs
theorem exec_hx {F:Fns} {pl:Option Nat} {op:XOp} {ev:XO→A} {h:Heap} {K:A→Heap→Prop} (hK:exec F pl op ev h K):∀ x∈op.hx,∀ id,(ev x).touch=some id→∃ e rows,h[id]? = some (.cells e rows):=by
 cases op<;>simp only [XOp.hx,List.mem_cons,List.not_mem_nil,or_false,forall_eq,false_implies,implies_true,forall_eq_or_imp]<;>skip
 case load n g x =>
  simp only [exec] at hK
  generalize ev x=X at *
  intro id hid
  cases X<;>simp [A.touch] at hid<;>subst hid
  ·simp only at hK;split at hK
   ·exact ⟨_,_, ‹_›⟩
   ·exact hK.elim
  ·exact hK.elim
 case loadp n g x =>
  simp only [exec] at hK
  generalize ev x=X at *
  intro id hid
  cases X<;>simp [A.touch] at hid<;>subst hid
  ·simp only at hK;split at hK
   ·exact ⟨_,_, ‹_›⟩
   ·exact hK.elim
  ·exact hK.elim
 case store n x y =>
  simp only [exec] at hK
  generalize ev x=X at *
  intro id hid
  cases X<;>simp [A.touch] at hid<;>subst hid
  ·simp only at hK;split at hK
   ·exact ⟨_,_, ‹_›⟩
   ·exact hK.elim
  ·exact hK.elim
 case faddr n x =>
  simp only [exec] at hK
  generalize ev x=X at *
  intro id hid
  cases X<;>simp [A.touch] at hid<;>subst hid
  ·simp only at hK;split at hK
   ·exact ⟨_,_, ‹_›⟩
   ·exact hK.elim
  ·exact hK.elim
 case eqnil neg x =>
  simp only [exec] at hK
  generalize ev x=X at *
  intro id hid
  cases X<;>simp [A.touch] at hid<;>subst hid
  ·exact hK.elim
  ·simp only at hK;split at hK
   ·exact ⟨_,_, ‹_›⟩
   ·exact hK.elim
 case nilck x =>
  simp only [exec] at hK
  generalize ev x=X at *
  intro id hid
  cases X<;>simp [A.touch] at hid<;>subst hid
  ·simp only at hK;split at hK
   ·exact ⟨_,_, ‹_›⟩
   ·exact hK.elim
  ·exact hK.elim
 case len str x =>
  simp only [exec] at hK
  generalize ev x=X at *
  intro id hid
  cases X<;>simp [A.touch] at hid<;>subst hid
  ·exact hK.elim
  ·simp only at hK;split at hK
   ·exact ⟨_,_, ‹_›⟩
   ·exact hK.elim
 case slice e x lo hi mx =>
  simp only [exec] at hK
  generalize ev x=X at *
  intro id hid
  cases X<;>simp [A.touch] at hid<;>subst hid
  ·exact hK.elim
  ·simp only at hK;split at hK
   ·exact ⟨_,_, ‹_›⟩
   ·exact hK.elim
 case iaddr e x i =>
  simp only [exec] at hK
  intro id hid
  split at hK<;>(try exact hK.elim)<;>rename_i hX _<;>rw [hX] at hid<;>simp [A.touch] at hid
  ·subst hid;split at hK
   ·exact ⟨_,_, ‹_›⟩
   ·exact hK.elim
 case aaddr e n x i =>
  simp only [exec] at hK
  intro id hid
  split at hK<;>(try exact hK.elim)<;>rename_i hX _<;>rw [hX] at hid<;>simp [A.touch] at hid
  ·subst hid;split at hK
   ·exact ⟨_,_, ‹_›⟩
   ·exact hK.elim
 case b2s x =>
  simp only [exec] at hK
  intro id hid
  split at hK
  ·exact srcRows_touch (sliceRows_src' ‹_›) hid
  ·exact hK.elim
 case calln f as =>
  simp only [exec] at hK
  split at hK
  ·exact hK.1
  ·exact hK.elim
 case append e x y =>
  simp only [exec] at hK
  split at hK
  ·refine ⟨fun id hid=>?_,fun id hid=>srcRows_touch ‹_› hid⟩
   split at hK<;>(try exact hK.elim)<;>rename_i hX<;>rw [hX] at hid<;>simp [A.touch] at hid
   ·subst hid;split at hK
    ·exact ⟨_,_, ‹_›⟩
    ·exact hK.elim
  ·exact hK.elim
 case copy e x y =>
  simp only [exec] at hK
  split at hK
  ·refine ⟨fun id hid=>?_,fun id hid=>srcRows_touch ‹_› hid⟩
   split at hK<;>(try exact hK.elim)<;>rename_i hX<;>rw [hX] at hid<;>simp [A.touch] at hid
   ·subst hid;split at hK
    ·exact ⟨_,_, ‹_›⟩
    ·exact hK.elim
  ·exact hK.elim
end Go.Proofs.YtlllnjhgjijnkaaDoor.Nx

import Derived.Test.YtlllnjhgjijnkaaGreatDoorNxWalk
set_option linter.all false
open List renaming getElem?_eq_some_iff → zA, getElem?_drop → zl
open Option renaming map_eq_some_iff → zT
namespace Go.Proofs.YtlllnjhgjijnkaaGreatDoor.Nx
open Go
deriving instance DecidableEq for Elt
section
end
def aF8(k:Nat)(dflt:Elt)(h:cM):Nat→A→Option D
 | 0,_=>none
 | n+1,x=>match x with
  | .d x=>some x
  | .nil=>some (.sl dflt [])
  | .nn e rows=>some (.sl e rows)
  | .ref id N off len _=>match h[id]? with
   | some (.cells e rows)=>if k≤id∧N=rows.length∧off+len≤rows.length then
     (((rows.drop off).take len).mapM fun(r:List A)=>r.mapM (aF8 k dflt h n)).map (.sl e) else none
   | _=>none
  | _=>none
theorem aE0{k:Nat}{dflt:Elt}{h:cM}:∀ {n:Nat} {x:A} {d:D},aF8 k dflt h n x=some d→FrzD k h x d:=by
 intro n
 induction n with
 | zero=>intro x d he;cases he
 | succ n ih =>
  intro x d he;cases x with
  | d x=>cases he;exact .d _
  | nil=>cases he;exact .nil _
  | nn e rows=>cases he;exact .nn _ _
  | ref id N off len full =>
   simp only[aF8] at he;split at he
   ·rename_i e rows hh;split at he
    ·rename_i hc;obtain⟨aHA,rfl,hc⟩:=hc;simp only[zT] at he;obtain⟨rowsD,hm,rfl⟩:=he;obtain⟨m1,m2⟩:=oO hm;have hl:rowsD.length=len:=by rw[m1];simp;omega
     have key:∀ i r,rowsD[i]? = some r→(rows.getD (off+i) []).mapM (aF8 k dflt h n)=some r:=by
      intro i r hi;have cY:i<len:=by rw[← hl];exact(zA.1 hi).1
      have hx:((rows.drop off).take len)[i]? = some (rows.getD (off+i) []):=by
       rw[List.getElem?_take_of_lt cY,zl];exact kP _ (by omega)
      obtain⟨y,h1,h2⟩:=m2 i _ hx;rw[hi] at h1;cases h1;exact h2
     refine .ref aHA hh hl (fun i r hi=>?_) (fun i r j d hi hj=>?_)
     ·obtain⟨k1,_⟩:=oO (key i r hi);exact k1.symm
     ·obtain⟨k1,k2⟩:=oO (key i r hi);have qO:j<(rows.getD (off+i) []).length:=by rw[← k1];exact(zA.1 hj).1
      obtain⟨y,h1,h2⟩:=k2 j _ (kP .any qO);rw[hj] at h1;cases h1;exact ih h2
    ·cases he
   ·cases he
  | _=>cases he
mutual
def aKP(k:Nat)(dflt:Elt)(h:cM):Nat→A→Option A
 | 0,_=>none
 | n+1,x=>if x.under k then some x else match x with
  | .agg l=>(aBE k dflt h n l).map .agg
  | .tup l=>(aBE k dflt h n l).map .tup
  | .fn f l=>(aBE k dflt h n l).map (.fn f)
  | .ptr id N i off=>match h[id]? with
   | some (.cells _ rows)=>if k≤id∧N=rows.length then match rows[i]? with
    | some r=>((r.drop off).mapM (aF8 k dflt h n)).map .iptr
    | none=>none
    else none
   | _=>none
  | x=>(aF8 k dflt h n x).map .d
def aBE(k:Nat)(dflt:Elt)(h:cM):Nat→List A→Option (List A)
 | 0,_=>none
 | _+1,[]=>some []
 | n+1,x::l=>match aKP k dflt h n x,aBE k dflt h n l with
  | some y,some l'=>some (y::l')
  | _,_=>none
end
theorem aIm{k:Nat}{dflt:Elt}{h:cM}:∀ n:Nat,(∀ x y,aKP k dflt h n x=some y→FrzA k h x y)∧(∀ l l',aBE k dflt h n l=some l'→l'.length=l.length∧∀ j y,l'[j]? = some y→FrzA k h (l.getD j .any) y):=by
 intro n
 induction n with
 | zero=>exact⟨fun x y he=>by simp[aKP] at he,fun l l' he=>by simp[aBE] at he⟩
 | succ n ih =>
  refine⟨fun x y he=>?_,fun l l' he=>?_⟩
  ·simp only[aKP] at he;split at he
   ·rename_i hu;cases he;exact .same hu
   ·split at he
    ·simp only[zT] at he;obtain⟨l',h1,rfl⟩:=he;exact .agg (ih.2 _ _ h1).1 (ih.2 _ _ h1).2
    ·simp only[zT] at he;obtain⟨l',h1,rfl⟩:=he;exact .tup (ih.2 _ _ h1).1 (ih.2 _ _ h1).2
    ·simp only[zT] at he;obtain⟨l',h1,rfl⟩:=he;exact .fn (ih.2 _ _ h1).1 (ih.2 _ _ h1).2
    ·rename_i id N i off _;split at he
     ·rename_i e rows hh;split at he
      ·rename_i hN;obtain⟨aHA,hN⟩:=hN;subst hN;split at he
       ·rename_i r hi;simp only[zT] at he;obtain⟨cs,h1,rfl⟩:=he;obtain⟨k1,k2⟩:=oO h1;refine .iptr aHA hh hi (fun j d hj=>?_);have qO:j<(r.drop off).length:=by rw[← k1];exact(zA.1 hj).1
        have cY:off+j<r.length:=by simp at qO;omega
        have hx:(r.drop off)[j]? = some (r.getD (off+j) .any):=by rw[zl];exact kP _ cY
        obtain⟨y,h2,h3⟩:=k2 j _ hx;rw[hj] at h2;cases h2;exact⟨cY,aE0 h3⟩
       ·cases he
      ·cases he
     ·cases he
    ·simp only[zT] at he;obtain⟨d,h1,rfl⟩:=he;exact .d (aE0 h1)
  ·cases l with
   | nil=>simp[aBE] at he;subst he;simp
   | cons x l =>
    simp only[aBE] at he;split at he
    ·rename_i y l' h1 h2;cases he;obtain⟨k1,k2⟩:=ih.2 _ _ h2;refine⟨by simp[k1],fun j y hj=>?_⟩;cases j with
     | zero=>simp at hj;subst hj;exact ih.1 _ _ h1
     | succ j=>simp at hj;simpa using k2 j y hj
    ·cases he
end Go.Proofs.YtlllnjhgjijnkaaGreatDoor.Nx

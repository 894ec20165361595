import Derived.Test.YtlllnjhgjijnkaaGreatDoorNxP15n
set_option linter.all false
open List renaming getElem?_eq_getElem → zB, getD_eq_getElem?_getD → zC, append_nil → zP, append_assoc → zS, length_cons → za, length_append → zb, drop_eq_getElem_cons → zd, getElem?_drop → zl, length_take → zs, length_drop → zt, eq_nil_of_length_eq_zero → zx
open Nat renaming zero_le → zI
open Bool renaming and_eq_true → zf
open List renaming mem_of_mem_take → aA, any_eq_false → aB, drop_eq_nil_of_le → aC, mem_or_eq_of_mem_set → aD, take_add_one → aE, take_of_length_le → aF, mem_append → aG, mem_of_mem_drop → aH, drop_eq_nil_iff → aI, getElem?_set → aJ, take_length → aK, getElem_mem → aL, nil_append → aN, range → aO
open Int renaming le_refl → aM
namespace Go.Proofs.YtlllnjhgjijnkaaGreatDoor.Nx
open Go
section
structure Cg where
 kind:Int
 row:Int
 col:Int
 count:Int
 upto:Int
 gl:List Gl
 deriving DecidableEq
def btw(n a b:Int):Bool:=decide (a≤n)&&decide (n≤b)
theorem fP{n a b:Int}:btw n a b=true↔a≤n∧n≤b:=by simp[btw]
def blankG(c:Cg):Bool :=
 if c.kind=1 then(decide (c.count=0)&&decide (c.upto=0))&&decide (c.gl=[])
 else if c.kind=2 then decide (c.col=0)&&decide (c.gl=[])
 else if c.kind=3 then decide (c.upto=0)
 else decide (c.upto=0)&&decide (c.gl=[])
def iD(rows:List (List Gl))(n:Int):List Gl:=rows.getD n.toNat []
def eM(v:Vw)(c:Cg):Bool :=
 if c.kind=1 then btw c.row 1 60&&btw c.col 1 132
 else if c.kind=2 then((((decide (0≤c.row)&&decide (c.row<c.upto))&&decide (c.upto≤v.height)) && !decide (c.count=0))&&decide (c.count<c.upto-c.row))&&decide (c.row-c.upto<c.count)
 else if c.kind=3 then(btw c.row 0 (v.height-1)&&btw c.col 0 264)&&btw c.count 0 (max 0 (((iD v.rows c.row).length:Int)-c.col))
 else(btw c.row 0 (v.height-1)&&btw c.col 0 (v.width-1))&&btw c.count 0 1
def iM(v:Vw)(c:Cg):Int:=if btw c.kind 1 4 then(if blankG c then(if eM v c then Fo eR c.gl else 2) else 1) else 9
def mR(w:Int):List Gl→List Gl
 | []=>[]
 | g::l=>if w<(gw g:Nat) then [] else g::mR (w-(gw g:Nat)) l
def lR(w:Int)(l:List Gl):List Gl:=dE (mR w l)
def qK(v:Vw)(h w:Int):Vw:=⟨w,h,(aO h.toNat).map fun i=>lR w (v.rows.getD i []),min v.row (h-1),min v.col (w-1),v.vis⟩
def gY(rows:List (List Gl))(top bottom b:Int)(i:Nat):List Gl :=
 if top≤(i:Int)∧(i:Int)<bottom then(if top≤(i:Int)+b∧(i:Int)+b<bottom then iD rows ((i:Int)+b) else []) else rows.getD i []
def gI(rows:List (List Gl))(top bottom b:Int):List (List Gl):=(aO rows.length).map (gY rows top bottom b)
def jC(l:List Gl)(n:Nat):List Gl:=l++List.replicate (n-l.length) eL
def iN(l:List Gl)(col count:Nat)(g:List Gl):List Gl:=dE ((jC l col).take col++g++(jC l col).drop (col+count))
def dV(v:Vw)(c:Cg):Vw :=
 if c.kind=1 then qK v c.row c.col
 else if c.kind=2 then { v with rows:=gI v.rows c.row c.upto c.count }
 else if c.kind=3 then { v with rows:=v.rows.set c.row.toNat (iN (iD v.rows c.row) c.col.toNat c.count.toNat c.gl) }
 else { v with row:=c.row,col:=c.col,vis:=decide (c.count=1) }
def tC(v:Vw):Bool:=v.rows.any fun r=>decide (v.width<(dG r:Int))
def jO:Vw→Int→List Cg→Vw × Int × Int
 | v,i,[]=>if tC v then(lA,i,12) else(v,0,0)
 | v,i,c::l=>if iM v c=0 then jO (dV v c) (i+1) l else(lA,i,iM v c)
def dU(v:Vw)(l:List Cg):Vw × Int × Int:=if dO v=0 then jO v 0 l else(lA,0,1)
theorem Ax{α:Type}{F:α→Int}:∀ {l:List α},Fo F l=0↔∀ a∈l,F a=0
 | []=>by simp[Fo]
 | a::l=>by
  rw[Fo];split
  ·rename_i h;rw[Ax (l:=l)];simp[h]
  ·rename_i h;simp[h]
theorem mG{l:List Gl}(h:eN l=false):dE l=l:=by
 unfold dE;rcases hl:l.length with _ | n
 ·have:l=[]:=zx hl;subst this;rfl
 ·rw[tR hl] at h;have hg:l[n]? = some l[n]:=zB (by omega);rw[kC,hg,if_neg (by simpa using h),← hl,aK]
theorem Cz{l:List Gl}{g:Gl}(h:g∈dE l):g∈l:=aA h
theorem iG(l:List Gl):(dE l).length≤l.length:=by rw[uS];exact xW _ _
theorem aDG(l:List Gl):dG (dE l)≤dG l:=aBP l _
structure Ed(v:Vw):Prop where
 sz:xV v.width v.height=true
 len:(v.rows.length:Int)=v.height
 out:aBM v=false
 gl:∀ r∈v.rows,∀ g∈r,eR g=0
 tr:∀ r∈v.rows,eN r=false
theorem gF{w h:Int}:xV w h=true↔(1≤w∧w≤132)∧1≤h∧h≤60:=by
 simp[xV];omega
theorem Da{v:Vw}:aBM v=false↔(0≤v.row∧v.row<v.height)∧0≤v.col∧v.col<v.width:=by
 simp[aBM];omega
theorem fH{v:Vw}:dO v=0↔Ed v∧tC v=false:=by
 unfold dO;constructor
 ·intro h;split at h
  ·rename_i h1;split at h
   ·rename_i h2;split at h
    ·cases h
    ·rename_i h3;rw[Ax] at h;have hr:∀ r∈v.rows,Fo eR r=0∧¬ v.width<(dG r:Int)∧eN r=false:=by
      intro r hr;have:=h r hr;unfold Cy at this;split at this
      ·rename_i h4;split at this
       ·cases this
       ·split at this
        ·cases this
        ·rename_i h5 h6;exact⟨h4,h5,by simpa using h6⟩
      ·rename_i h4;exact absurd this h4
     refine⟨⟨h1,h2,by simpa using h3,fun r h'=>Ax.1 (hr r h').1,fun r h'=>(hr r h').2.2⟩,?_⟩;rw[tC,aB];intro r h';simpa using(hr r h').2.1
   ·cases h
  ·cases h
 ·rintro⟨e,hw⟩;rw[if_pos e.sz,if_pos e.len,if_neg (by rw[e.out];simp),Ax];intro r hr;have h1:=aB.1 hw r hr;unfold Cy;rw[if_pos (Ax.2 (e.gl r hr)),if_neg (by simpa using h1),if_neg (by rw[e.tr r hr];simp)]
theorem qZ{v:Vw}{c:Cg}(h:iM v c=0):(1≤c.kind∧c.kind≤4)∧blankG c=true∧eM v c=true∧∀ g∈c.gl,eR g=0:=by
 unfold iM at h;split at h
 ·rename_i h1;split at h
  ·rename_i h2;split at h
   ·rename_i h3;exact⟨fP.1 h1,h2,h3,Ax.1 h⟩
   ·cases h
  ·cases h
 ·cases h
theorem Sb(w:Int):∀ l:List Gl,∃ n,mR w l=l.take n:=by
 intro l
 induction l generalizing w with
 | nil=>exact⟨0,rfl⟩
 | cons g l ih =>
  rw[mR];split
  ·exact⟨0,rfl⟩
  ·obtain⟨n,hn⟩:=ih (w-(gw g:Nat));exact⟨n+1,by rw[hn];rfl⟩
theorem aIz{w:Int}{l:List Gl}{g:Gl}(h:g∈mR w l):g∈l:=by
 obtain⟨n,hn⟩:=Sb w l;rw[hn] at h;exact aA h
theorem Sc:∀ (l:List Gl) (w:Int),0≤w→(dG (mR w l):Int)≤w
 | [],w,h=>by simpa[mR,dG] using h
 | g::l,w,h=>by
  rw[mR];split
  ·simpa[dG] using h
  ·rename_i hg;have:=Sc l (w-(gw g:Nat)) (by omega);rw[dG];omega
theorem aDH(w:Int)(l:List Gl):eN (lR w l)=false:=Yc _
theorem Yd{w:Int}{l:List Gl}{g:Gl}(h:g∈lR w l):g∈l:=aIz (Cz h)
theorem aBQ{w:Int}(hw:0≤w)(l:List Gl):(dG (lR w l):Int)≤w:=by
 have:=Sc l w hw;have:=aDG (mR w l);unfold lR;omega
theorem aBR{l:List Gl}{n:Nat}{g:Gl}(h:g∈jC l n):g∈l∨g=eL:=by
 rcases aG.1 h with h | h
 ·exact .inl h
 ·exact .inr (List.eq_of_mem_replicate h)
theorem aIA:eR eL=0:=by decide +kernel
theorem aBS{l g:List Gl}{a b:Nat}{x:Gl}(h:x∈iN l a b g):x∈l∨x∈g∨x=eL:=by
 have h:=Cz h;rcases aG.1 h with h | h
 ·rcases aG.1 h with h | h
  ·rcases aBR (aA h) with h | h
   ·exact .inl h
   ·exact .inr (.inr h)
  ·exact .inr (.inl h)
 ·rcases aBR (aH h) with h | h
  ·exact .inl h
  ·exact .inr (.inr h)
theorem pV{rows:List (List Gl)}{n:Nat}:rows.getD n []=[]∨rows.getD n []∈rows:=by
 rw[zC];cases h:rows[n]? with
 | none=>exact .inl rfl
 | some r=>exact .inr (List.mem_of_getElem? h)
theorem lV{rows:List (List Gl)}{t b k:Int}{r:List Gl}(h:r∈gI rows t b k):r=[]∨r∈rows:=by
 obtain⟨i,_,rfl⟩:=List.mem_map.1 h;unfold gY iD;split
 ·split
  ·exact pV
  ·exact .inl rfl
 ·exact pV
theorem rY{rows:List (List Gl)}{t b k:Int}:(gI rows t b k).length=rows.length:=by simp[gI]
theorem uT{v:Vw}{h w:Int}{r:List Gl}(hr:r∈(qK v h w).rows):∃ l,(l=[]∨l∈v.rows)∧r=lR w l:=by
 obtain⟨i,_,rfl⟩:=List.mem_map.1 hr;exact⟨_,pV,rfl⟩
theorem Ed.step{v:Vw}(e:Ed v){c:Cg}(h:iM v c=0):Ed (dV v c):=by
 obtain⟨h1,h2,h3,h4⟩:=qZ h;have hs:=gF.1 e.sz;have ho:=Da.1 e.out;unfold eM at h3;unfold dV;split
 ·rename_i hk;rw[if_pos hk,zf,fP,fP] at h3;refine⟨gF.2 ⟨h3.2,h3.1⟩,?_,Da.2 ?_,fun r hr g hg=>?_,fun r hr=>?_⟩
  ·simp only[qK,List.length_map,List.length_range];omega
  ·simp only[qK];omega
  ·obtain⟨l,hl,rfl⟩:=uT hr;have:=Yd hg;rcases hl with rfl | hl
   ·cases this
   ·exact e.gl l hl g this
  ·obtain⟨l,hl,rfl⟩:=uT hr;exact aDH _ _
 ·rename_i hk;rw[if_neg hk] at h3;split
  ·rename_i hk;refine⟨e.sz,?_,e.out,fun r hr g hg=>?_,fun r hr=>?_⟩
   ·simp only[rY];exact e.len
   ·rcases lV hr with rfl | hr
    ·cases hg
    ·exact e.gl r hr g hg
   ·rcases lV hr with rfl | hr
    ·rfl
    ·exact e.tr r hr
  ·rename_i hk;rw[if_neg hk] at h3;split
   ·refine⟨e.sz,?_,e.out,fun r hr g hg=>?_,fun r hr=>?_⟩
    ·simp only[List.length_set];exact e.len
    ·rcases aD hr with hr | rfl
     ·exact e.gl r hr g hg
     ·rcases aBS hg with hg | hg | rfl
      ·unfold iD at hg;rcases pV (rows:=v.rows) (n:=c.row.toNat) with h | h
       ·rw[h] at hg;cases hg
       ·exact e.gl _ h g hg
      ·exact h4 g hg
      ·exact aIA
    ·rcases aD hr with hr | rfl
     ·exact e.tr r hr
     ·exact Yc _
   ·rename_i hk;rw[if_neg hk] at h3;simp only[zf,fP] at h3;exact⟨e.sz,e.len,Da.2 (by simp only;omega),e.gl,e.tr⟩
theorem Ye:∀ (l:List Cg) (v:Vw) (i:Int),Ed v→((jO v i l).2.2=0→(jO v i l).2.1=0∧dO (jO v i l).1=0)∧((jO v i l).2.2≠0→(jO v i l).1=lA∧i≤(jO v i l).2.1∧(jO v i l).2.1≤i+l.length)
 | [],v,i,e=>by
  rw[jO];split
  ·exact⟨fun h=>(by cases h),fun _=>⟨rfl,aM _,by simp⟩⟩
  ·rename_i h;exact⟨fun _=>⟨rfl,fH.2 ⟨e,by simpa using h⟩⟩,fun h=>absurd rfl h⟩
 | c::l,v,i,e=>by
  rw[jO];split
  ·rename_i h;obtain⟨h1,h2⟩:=Ye l (dV v c) (i+1) (e.step h);refine⟨h1,fun hn=>?_⟩;obtain⟨k1,k2,k3⟩:=h2 hn;rw[za];exact⟨k1,by omega,by omega⟩
  ·rename_i h;exact⟨fun h'=>absurd h' h,fun _=>⟨rfl,aM _,by rw[za];simp only;omega⟩⟩
theorem Db(v:Vw)(l:List Cg):((dU v l).2.2=0→dO v=0∧(dU v l).2.1=0∧dO (dU v l).1=0)∧((dU v l).2.2≠0→(dU v l).1=lA∧0≤(dU v l).2.1∧(dU v l).2.1≤l.length):=by
 unfold dU;split
 ·rename_i h;obtain⟨h1,h2⟩:=Ye l v 0 (fH.1 h).1;refine⟨fun hn=>⟨h,h1 hn⟩,fun hn=>?_⟩;have:=h2 hn;simpa using this
 ·exact⟨fun h=>(by simp at h),fun _=>⟨rfl,aM _,by simp⟩⟩
theorem tX{v:Vw}{c:Cg}(hv:dO v=0)(hc:iM v c=0):dU v [c]=if tC (dV v c) then(lA,1,12) else(dV v c,0,0):=by
 rw[dU,if_pos hv,jO,if_pos hc,jO];rfl
theorem rA{v:Vw}{c:Cg}(hv:dO v=0)(hc:iM v c=0)(hk:c.kind≠3):tC (dV v c)=false:=by
 obtain⟨e,hw⟩:=fH.1 hv;obtain⟨h1,h2,h3,h4⟩:=qZ hc;unfold eM at h3;unfold tC at hw ⊢;rw[aB] at hw ⊢;have hs:=gF.1 e.sz;unfold dV;rw[if_neg hk];split
 ·rename_i hk;rw[if_pos hk,zf,fP,fP] at h3;intro r hr;obtain⟨l,hl,rfl⟩:=uT hr;have:=aBQ (w:=c.col) (by omega) l;rw[decide_eq_true_eq];show ¬ c.col<(dG (lR c.col l):Int);omega
 ·split
  ·intro r hr;rcases lV hr with rfl | hr
   ·rw[decide_eq_true_eq];show ¬ v.width<((0:Nat):Int);omega
   ·exact hw r hr
  ·exact hw
end
section
def aKX(x:Gl)(f:List Gl→Nat):List Gl→Nat
 | []=>0
 | y::b=>if x=y then 1+f b else max (f (y::b)) (aKX x f b)
def Ay:List Gl→List Gl→Nat
 | [],_=>0
 | x::a,b=>aKX x (Ay a) b
def aGe(x:Gl)(a:List Gl)(f:List Gl→Nat→List (Nat × Nat)):List Gl→Nat→List (Nat × Nat)
 | [],i=>(1,i)::f [] (i+1)
 | y::b,i=>if x=y then(0,i)::f b (i+1) else if Ay (x::a) b≤Ay a (y::b) then(1,i)::f (y::b) (i+1) else(2,i)::aGe x a f b i
def nL:List Gl→List Gl→Nat→List (Nat × Nat)
 | [],b,i=>b.map fun _=>(2,i)
 | x::a,b,i=>aGe x a (nL a) b i
structure Edt where
 at':Nat
 del:Nat
 ins:List Gl
 deriving DecidableEq
def Yf(i:Nat):Option Edt→Edt
 | none=>⟨i,1,[]⟩
 | some e=>{ e with del:=e.del+1 }
def Yg(i:Nat)(g:List Gl):Option Edt→Edt
 | none=>⟨i,0,g⟩
 | some e=>{ e with ins:=e.ins++g }
def Pu:List (Nat × Nat)→List Gl→Option Edt→List Edt
 | [],_,cur=>cur.toList
 | (s,i)::r,b,cur=>if s=0 then cur.toList++Pu r (b.drop 1) none else if s=1 then Pu r b (some (Yf i cur)) else Pu r (b.drop 1) (some (Yg i (b.take 1) cur))
def mH(a b:List Gl):List Edt:=Pu (nL a b 0) b none
def Jp(A B:List Gl):Nat→Nat→List Edt→Prop
 | i,j,[]=>B.take j++A.drop i=B
 | i,j,e::es=>∃ j1,B.take j++A.drop i=B.take j1++A.drop e.at'∧(j1:Int)-e.at'=j-i∧j1≤B.length∧e.at'+e.del≤A.length∧e.ins=(B.drop j1).take e.ins.length∧j1+e.ins.length≤B.length ∧
   (es=[]∨e.at'+e.del<A.length)∧Jp A B (e.at'+e.del) (j1+e.ins.length) es
theorem aGf{A B:List Gl}{i j:Nat}{L:List Edt}(h:Jp A B (i+1) (j+1) L)(he:B.take (j+1)++A.drop (i+1)=B.take j++A.drop i):Jp A B i j L:=by
 cases L with
 | nil=>rw[Jp] at h ⊢; rw[← he];exact h
 | cons e es =>
  rw[Jp] at h ⊢;obtain⟨j1,h1,h2,h3⟩:=h;exact⟨j1,by rw[← he];exact h1,by omega,h3⟩
def Lj(i j:Nat)(A B:List Gl):Option Edt→Prop
 | none=>True
 | some e=>e.at'+e.del=i∧e.ins.length≤j∧e.ins=(B.drop (j-e.ins.length)).take e.ins.length
def Ny(i:Nat):Option Edt→Nat
 | none=>i
 | some e=>e.at'
def Nz(j:Nat):Option Edt→Nat
 | none=>j
 | some e=>j-e.ins.length
theorem Sd{B:List Gl}{j n:Nat}(h:n≤j)(hj:j<B.length):(B.drop (j-n)).take n++(B.drop j).take 1=(B.drop (j+1-(n+1))).take (n+1):=by
 have e:j+1-(n+1)=j-n:=by omega
 rw[e,aE (l:=B.drop (j-n)) (i:=n),zl,show j-n+n=j by omega,zB hj,zd hj];rfl
theorem tY{A B:List Gl}:∀ (n:Nat) (a b:List Gl) (i j:Nat) (cur:Option Edt),a.length+b.length≤n→a=A.drop i→b=B.drop j→i≤A.length→j≤B.length→Lj i j A B cur →
  Jp A B (Ny i cur) (Nz j cur) (Pu (nL a b i) b cur):=by
 intro n
 -- closing the open edit
 have close:∀ {i j:Nat} {cur:Option Edt} {L:List Edt},i≤A.length→j≤B.length→Lj i j A B cur→(L=[]∨i<A.length)→Jp A B i j L→Jp A B (Ny i cur) (Nz j cur) (cur.toList++L):=by
  intro i j cur L hi hj hs hL lG;cases cur with
  | none=>exact lG
  | some e =>
   obtain⟨h1,h2,h3⟩:=hs;refine⟨j-e.ins.length,rfl,rfl,by omega,by omega,h3,by omega,?_,?_⟩
   ·rcases hL with rfl | h
    ·exact .inl rfl
    ·exact .inr (by omega)
   ·rw[h1,show j-e.ins.length+e.ins.length=j by omega];exact lG
 -- a step that removes
 have rem:∀ {i j:Nat} {cur:Option Edt} {s:List (Nat × Nat)} {b:List Gl},Lj i j A B cur→(∀ cur',Lj (i+1) j A B cur'→Jp A B (Ny (i+1) cur') (Nz j cur') (Pu s b cur'))→Jp A B (Ny i cur) (Nz j cur) (Pu ((1,i)::s) b cur):=by
  intro i j cur s b hs ih;rw[Pu,if_neg (by decide),if_pos rfl];cases cur with
  | none=>exact ih (some ⟨i,1,[]⟩) ⟨rfl,zI _,rfl⟩
  | some e =>
   obtain⟨h1,h2,h3⟩:=hs;exact ih (some { e with del:=e.del+1 }) ⟨by simp only;omega,h2,h3⟩
 have add:∀ {i j:Nat} {cur:Option Edt} {s:List (Nat × Nat)} {b:List Gl},b=B.drop j→j<B.length→Lj i j A B cur→(∀ cur',Lj i (j+1) A B cur'→Jp A B (Ny i cur') (Nz (j+1) cur') (Pu s (b.drop 1) cur'))→Jp A B (Ny i cur) (Nz j cur) (Pu ((2,i)::s) b cur):=by
  intro i j cur s b hb hj hs ih;rw[Pu,if_neg (by decide),if_neg (by decide)];have hl1:(b.take 1).length=1:=by rw[zs,hb,zt];omega
  cases cur with
  | none =>
   have h:=ih (some ⟨i,0,b.take 1⟩) ⟨rfl,by simp only[hl1];omega,by
    simp only[hl1];rw[hb,show j+1-1=j by omega]⟩
   simp only[Ny,Nz,hl1] at h;exact h
  | some e =>
   obtain⟨h1,h2,h3⟩:=hs;have h:=ih (some { e with ins:=e.ins++b.take 1 }) ⟨h1,by simp only[zb,hl1];omega,by
    simp only[zb,hl1];rw[← Sd h2 hj,← h3,hb]⟩
   simp only[Ny,Nz,zb,hl1] at h;rw[show j+1-(e.ins.length+1)=j-e.ins.length by omega] at h;exact h
 induction n with
 | zero =>
  intro a b i j cur hn ha hb hi hj hs;have hae:a=[]:=zx (by omega);have hbe:b=[]:=zx (by omega);subst hae hbe;have:=close (L:=[]) hi hj hs (.inl rfl) (by
   rw[Jp,← ha,zP];have:B.length≤j:=aI.1 hb.symm;exact aF this)
  simpa[nL,Pu] using this
 | succ n ih =>
  intro a b i j cur hn ha hb hi hj hs;have tl:∀ {l l':List Gl} {k:Nat} {x:Gl},x::l=l'.drop k→l=l'.drop (k+1)∧k<l'.length:=by
   intro l l' k x h;have hk:k<l'.length:=by
    rcases Nat.lt_or_ge k l'.length with h' | h'
    ·exact h'
    ·rw[aC h'] at h;cases h
   rw[zd hk] at h;exact⟨(List.cons.inj h).2,hk⟩
  cases a with
  | nil =>
   cases b with
   | nil =>
    have:=close (L:=[]) hi hj hs (.inl rfl) (by
     rw[Jp,← ha,zP];exact aF (aI.1 hb.symm))
    simpa[nL,Pu] using this
   | cons y b =>
    obtain⟨Zf,qO⟩:=tl hb;have e:nL [] (y::b) i=(2,i)::nL [] b i:=rfl;rw[e];exact add hb qO hs fun cur' hs'=>ih [] b i (j+1) cur' (by simpa using hn) ha Zf hi qO hs'
  | cons x a =>
   obtain⟨Kz,Vg⟩:=tl ha;simp only[za] at hn;cases b with
   | nil =>
    have e:nL (x::a) [] i=(1,i)::nL a [] (i+1):=rfl;rw[e];exact rem hs fun cur' hs'=>ih a [] (i+1) j cur' (by simp;omega) Kz hb Vg hj hs'
   | cons y b =>
    obtain⟨Zf,qO⟩:=tl hb;simp only[za] at hn;have e:nL (x::a) (y::b) i=if x=y then(0,i)::nL a b (i+1) else if Ay (x::a) b≤Ay a (y::b) then(1,i)::nL a (y::b) (i+1) else(2,i)::nL (x::a) b i:=rfl;rw[e];split
    ·rename_i hxy;subst hxy;rw[Pu,if_pos rfl];refine close hi hj hs (.inr Vg) ?_;have h:=ih a b (i+1) (j+1) none (by omega) Kz Zf Vg qO trivial;refine aGf h ?_;rw[aE,zB qO,zS,← ha,Kz];congr 1;have h1:=ha;rw[zd Vg] at h1;have h2:=hb;rw[zd qO] at h2;have:=(List.cons.inj h2).1;rw[← this];rfl
    ·split
     ·exact rem hs fun cur' hs'=>ih a (y::b) (i+1) j cur' (by simp;omega) Kz hb Vg hj hs'
     ·exact add hb qO hs fun cur' hs'=>ih (x::a) b i (j+1) cur' (by simp;omega) ha Zf hi qO hs'
def kD(row:Int):Int→List Edt→List Cg
 | _,[]=>[]
 | m,e::es=>⟨3,row,(e.at':Int)+m,e.del,0,e.ins⟩::kD row (m+e.ins.length-e.del) es
def gD:List Cg→Int
 | []=>0
 | c::l=>2+max 0 (min c.count 1000)+c.gl.length+gD l
def lL(row:Int)(a b:List Gl):Cg:=⟨3,row,0,(dE a).length,0,dE b⟩
def eQ(row:Int)(a b:List Gl):List Cg :=
 let out:=kD row 0 (mH (dE a) (dE b))
 if out≠[]∧gD [lL row (dE a) (dE b)]<gD out then [lL row (dE a) (dE b)] else out
theorem vQ{v:Vw}{row col cnt:Nat}{ins:List Gl}(fK:row<v.rows.length)(hh:(v.rows.length:Int)=v.height)(Ff:col≤264)(eG:col+cnt≤v.rows[row].length)(hg:∀ g∈ins,eR g=0) :
  iM v ⟨3,row,col,cnt,0,ins⟩=0∧dV v ⟨3,row,col,cnt,0,ins⟩={ v with rows:=v.rows.set row (dE (v.rows[row].take col++ins++v.rows[row].drop (col+cnt))) }:=by
 have hr:iD v.rows (row:Int)=v.rows[row]:=by
  unfold iD;rw[Int.toNat_natCast,zC,zB fK];rfl
 refine⟨?_,?_⟩
 ·unfold iM;rw[if_pos (fP.2 (by simp)),if_pos (by simp[blankG]),if_pos,Ax.2 hg];simp only[eM,if_neg (show ¬ (3:Int)=1 by decide),if_neg (show ¬ (3:Int)=2 by decide),if_true,zf,fP,hr];omega
 ·have e:dV v ⟨3,row,col,cnt,0,ins⟩={ v with rows:=v.rows.set row (iN (iD v.rows row) col cnt ins) }:=by
   simp[dV]
  rw[e,hr];unfold iN jC;rw[show col-v.rows[row].length=0 by omega,List.replicate_zero,zP]
theorem Yh{A:List Gl}{n:Nat}(hA:eN A=false)(hn:n<A.length)(p:List Gl):eN (p++A.drop n)=false:=by
 unfold eN at hA ⊢;rw[List.getLast?_append,List.getLast?_drop,if_neg (by omega)];rw[decide_eq_false_iff_not] at hA ⊢;intro h;apply hA;cases hl:A.getLast? with
 | none=>rw[List.getLast?_eq_none_iff] at hl;subst hl;simp at hn
 | some x=>rw[hl] at h;simpa using h
theorem aKY{A B:List Gl}(hA:eN A=false)(hB:eN B=false)(hBl:B.length≤264)(hg:∀ g∈B,eR g=0)(row:Nat):∀ (es:List Edt) (i j:Nat) (m:Int) (v:Vw) (k:Int) (tail:List Cg),row<v.rows.length→(v.rows.length:Int)=v.height →
  v.rows[row]? = some (B.take j++A.drop i)→m=(j:Int)-i→Jp A B i j es→jO v k (kD row m es++tail)=jO { v with rows:=v.rows.set row B } (k+(kD row m es).length) tail:=by
 intro es
 induction es with
 | nil =>
  intro i j m v k tail fK hh hr hm lG;rw[Jp] at lG;rw[lG] at hr;have:v.rows.set row B=v.rows:=by
   apply List.ext_getElem?
   intro q;rw[aJ];split
   ·rename_i h;subst h;rw[hr]
   ·rfl
  rw[this];simp[kD]
 | cons e es ih =>
  intro i j m v k tail fK hh hr hm lG;rw[Jp] at lG;obtain⟨j1,h1,h2,h3,h4,h5,h6,h7,h8⟩:=lG;have hRr:v.rows[row]=B.take j1++A.drop e.at':=by
   rw[zB fK] at hr;rw[← h1];exact Option.some.inj hr
  have Ff:(e.at':Int)+m=(j1:Int):=by omega
  have vY:(B.take j1).length=j1:=by rw[zs];omega
  have hRl:v.rows[row].length=j1+(A.length-e.at'):=by rw[hRr,zb,vY,zt]
  have aN9:∀ g∈e.ins,eR g=0:=fun g hg'=>hg g (by rw[h5] at hg';exact aH (aA hg'));obtain⟨s1,s2⟩:=vQ (v:=v) (row:=row) (col:=j1) (cnt:=e.del) (ins:=e.ins) fK hh (by omega) (by omega) aN9;have vG:v.rows[row].take j1++e.ins++v.rows[row].drop (j1+e.del)=B.take (j1+e.ins.length)++A.drop (e.at'+e.del):=by
   rw[hRr,List.take_left' vY,List.drop_append,vY,aC (by rw[vY];omega),aN,show j1+e.del-j1=e.del by omega,List.drop_drop,List.take_add];rw[← h5]
  have htr:eN (B.take (j1+e.ins.length)++A.drop (e.at'+e.del))=false:=by
   rcases h7 with rfl | h7
   ·rw[Jp] at h8;rw[h8];exact hB
   ·exact Yh hA h7 _
  rw[vG,mG htr] at s2;rw[kD,Ff,List.cons_append,jO,if_pos s1,s2];have:=ih (e.at'+e.del) (j1+e.ins.length) (m+e.ins.length-e.del) { v with rows:=v.rows.set row (B.take (j1+e.ins.length)++A.drop (e.at'+e.del)) } (k+1) tail (by simpa using fK) (by simpa using hh) (by simp[aJ,fK]) (by omega) h8;rw[this];simp only[List.set_set,za];congr 1;omega
theorem aBT{v:Vw}{row:Nat}{A B:List Gl}(fK:row<v.rows.length)(hh:(v.rows.length:Int)=v.height)(hr:v.rows[row]? = some A)(hA:eN A=false)(hB:eN B=false)(hBl:B.length≤264)(hg:∀ g∈B,eR g=0)(k:Int)(tail:List Cg) :
  jO v k (eQ row A B++tail)=jO { v with rows:=v.rows.set row B } (k+(eQ row A B).length) tail:=by
 have hs:=tY (A:=A) (B:=B) _ A B 0 0 none (Nat.le_refl _) rfl rfl (zI _) (zI _) trivial;unfold eQ;rw[mG hA,mG hB];simp only;split
 ·have hRr:v.rows[row]=A:=by
   rw[zB fK] at hr;exact Option.some.inj hr
  obtain⟨s1,s2⟩:=vQ (v:=v) (row:=row) (col:=0) (cnt:=A.length) (ins:=B) fK hh (by omega) (by rw[hRr];omega) hg;rw[hRr,List.take_zero,aN,Nat.zero_add,List.drop_length,zP,mG hB] at s2;have:lL row A B=⟨3,row,(0:Nat),A.length,0,B⟩:=by unfold lL;rw[mG hA,mG hB];rfl
  rw[this,List.singleton_append,jO,if_pos s1,s2];simp
 ·refine aKY hA hB hBl hg row _ 0 0 0 v k tail fK hh (by simpa using hr) (by simp) hs
def iZ(x b:Vw):List Cg:=if x.row=b.row∧x.col=b.col∧x.vis=b.vis then [] else [⟨4,b.row,b.col,if b.vis then 1 else 0,0,[]⟩]
def dY(x b:Vw):Nat→List Cg
 | 0=>[]
 | n+1=>dY x b n++eQ n (x.rows.getD n []) (b.rows.getD n [])
def iE(x b:Vw):List Cg:=dY x b b.rows.length++iZ x b
theorem aE4{r:List Gl}:r.length≤dG r:=(Ef r).1
theorem aBU{v:Vw}(h:tC v=false){r:List Gl}(hr:r∈v.rows):(dG r:Int)≤v.width:=by
 have:=aB.1 h r hr;simp only[decide_eq_true_eq] at this;omega
theorem Wa{x b:Vw}(ex:Ed x)(hb:dO b=0)(hh:x.height=b.height):∀ (n:Nat),n≤b.rows.length→∀ (k:Int) (tail:List Cg),∃ k',jO x k (dY x b n++tail)=jO { x with rows:=b.rows.take n++x.rows.drop n } k' tail:=by
 obtain⟨eb,hw⟩:=fH.1 hb;have hlx:=ex.len;have hlb:=eb.len;have hsb:=gF.1 eb.sz;intro n
 induction n with
 | zero=>intro _ k tail;exact⟨k,by simp[dY]⟩
 | succ n ih =>
  intro hn k tail;have Xj:n<b.rows.length:=hn;have hnx:n<x.rows.length:=by omega
  rw[dY,zS];obtain⟨k1,h1⟩:=ih (by omega) k (eQ n (x.rows.getD n []) (b.rows.getD n [])++tail);rw[h1];have gx:x.rows.getD n []=x.rows[n]:=by rw[zC,zB hnx];rfl
  have gb:b.rows.getD n []=b.rows[n]:=by rw[zC,zB Xj];rfl
  rw[gx,gb];have xH:x.rows[n]∈x.rows:=aL hnx;have hmb:b.rows[n]∈b.rows:=aL Xj;have vY:(b.rows.take n).length=n:=by rw[zs];omega
  have aLX:=aBU hw hmb;have Mu:=aE4 (r:=b.rows[n]);have Bm:(b.rows.take n++x.rows.drop n)[n]? = some x.rows[n]:=by
   rw[List.getElem?_append_right (by omega),vY,Nat.sub_self,zl,Nat.add_zero,zB hnx]
  have:=aBT (v:={ x with rows:=b.rows.take n++x.rows.drop n }) (row:=n) (A:=x.rows[n]) (B:=b.rows[n])
   (by simp only[zb,vY,zt];omega) (by simp only[zb,vY,zt];omega) Bm (ex.tr _ xH) (eb.tr _ hmb) (by omega) (eb.gl _ hmb) k1 tail
  rw[this];refine⟨k1+(eQ n x.rows[n] b.rows[n]).length,?_⟩;congr 2;simp only;rw[List.set_append_right _ _ (by omega),vY,Nat.sub_self,zd hnx,List.set_cons_zero,aE,zB Xj,Option.toList_some,zS];rfl
theorem aBV{x b:Vw}(ex:Ed x)(hb:dO b=0)(hh:x.height=b.height)(hw:x.width=b.width)(k:Int):jO x k (iE x b)=(b,0,0):=by
 obtain⟨eb,hwb⟩:=fH.1 hb;have hlx:=ex.len;have hlb:=eb.len;have hob:=Da.1 eb.out;unfold iE;obtain⟨k1,h1⟩:=Wa ex hb hh b.rows.length (Nat.le_refl _) k (iZ x b);rw[h1,aK,aC (by omega),zP];unfold iZ;split
 ·rename_i h;have:({ x with rows:=b.rows }:Vw)=b:=by
   obtain⟨q1,q2,q3⟩:=h;cases x;cases b;simp_all
  rw[this,jO,hwb];rfl
 ·have hc:iM { x with rows:=b.rows } ⟨4,b.row,b.col,if b.vis then 1 else 0,0,[]⟩=0:=by
   unfold iM;rw[if_pos (fP.2 (by simp)),if_pos (by simp[blankG]),if_pos]
   ·rfl
   ·simp only[eM,if_neg (show ¬ (4:Int)=1 by decide),if_neg (show ¬ (4:Int)=2 by decide),if_neg (show ¬ (4:Int)=3 by decide),zf,fP];refine⟨⟨by omega,by omega⟩,?_⟩;cases b.vis<;>simp
  rw[jO,if_pos hc];have:dV { x with rows:=b.rows } ⟨4,b.row,b.col,if b.vis then 1 else 0,0,[]⟩=b:=by
   simp only[dV,if_neg (show ¬ (4:Int)=1 by decide),if_neg (show ¬ (4:Int)=2 by decide),if_neg (show ¬ (4:Int)=3 by decide)];obtain⟨a1,a2,a3,a4,a5,a6⟩:=b;simp only at hh hw;subst hh hw;cases a6<;>simp
  rw[this,jO,hwb];rfl
def gE(b:Vw):Cg:=⟨1,b.height,b.width,0,0,[]⟩
theorem aBW:∀ (a:List Gl) (i:Nat),nL a a i=(aO a.length).map fun k=>(0,i+k)
 | [],i=>rfl
 | x::a,i=>by
  have e:nL (x::a) (x::a) i=(0,i)::nL a a (i+1):=by
   show aGe x a (nL a) (x::a) i=_;rw[aGe,if_pos rfl]
  rw[e,aBW a,za,List.range_succ_eq_map,List.map_cons,List.map_map,Nat.add_zero];congr 1;apply List.map_congr_left;intro k _;simp only[Function.comp,Prod.mk.injEq,true_and];omega
theorem Yi:∀ (s:List (Nat × Nat)) (b:List Gl),(∀ p∈s,p.1=0)→Pu s b none=[]
 | [],_,_=>rfl
 | (k,i)::s,b,h=>by
  have hk:=h (k,i) (List.mem_cons_self ..);simp only at hk;rw[Pu,if_pos hk,Yi s _ fun p hp=>h p (List.mem_cons_of_mem _ hp)];rfl
theorem aAn(row:Int)(a:List Gl):eQ row a a=[]:=by
 unfold eQ mH;rw[aBW,Yi _ _ (by simp)];simp[kD]
end
end Go.Proofs.YtlllnjhgjijnkaaGreatDoor.Nx

import Derived.Test.YtlllnjhgjijnkaaGreatDoorNxWalk
import Derived.ProofKit
import Derived.OpenShut
import Derived.Deep.DeepHandedRow
import Derived.WideKeyArgs
set_option linter.all false
open List renaming getElem?_eq_some_iff → zA, getElem?_eq_getElem → zB, getD_eq_getElem?_getD → zC, getElem?_append_left → zF, getElem?_append_right → zG, getElem?_map → zK, mem_cons_self → zW, mem_of_getElem? → zY, mem_cons_of_mem → zZ, getElem?_range → zj, getElem?_eq_none → zk, getElem?_drop → zl, getElem?_take → zm
open Option renaming bind_eq_some_iff → zD, bind_eq_bind → zJ, map_eq_some_iff → zT
open Option.some renaming injEq → zH
open Array renaming getD_eq_getD_getElem? → zR
open Bool renaming and_eq_true → zf
open List renaming mem_append_left → aA, mem_iff_getElem? → aB, mem_append → aC, range → aD, length_range → aE, getElem?_cons_zero → aF, mem_append_right → aG, append_nil → aK
open Nat renaming add_mul → aH, one_mul → aI
open Option renaming pure_def → aJ
open Prod renaming mk → aL
namespace Go.Proofs.YtlllnjhgjijnkaaGreatDoor.Nx
open Go
inductive Ty where
 | int (k:IntKind)
 | bool
 | str
 | sl (e:Elt) (t:Ty)
 | st (ts:List Ty)
mutual
def WT:Ty→List D→Prop
 | .int k,xs=>∃ n,xs=[.sc (.int k n)]∧k.min≤n∧n≤k.max
 | .bool,xs=>∃ b,xs=[.sc (.bool b)]
 | .str,xs=>∃ s,xs=[.sc (.string s)]∧s.size≤maxLen
 | .sl e t,xs=>∃ rows,xs=[.sl e rows]∧∀ r∈rows,WT t r
 | .st ts,xs=>WTs ts xs
def WTs:List Ty→List D→Prop
 | [],xs=>xs=[]
 | t::ts,xs=>∃ a b,xs=a++b∧WT t a∧WTs ts b
end
def pL(P:Program)(rec:TypeId→Option Ty):Nat→List Go.Field→Option (List Ty × Nat)
 | off,[]=>some ([],off)
 | off,f::fs=>if f.offset=off then match rec f.type,pL P rec (off+P.cellsOf f.type) fs with
  | some t,some (ts,en)=>some (t::ts,en)
  | _,_=>none
  else none
def Rm(P:Program):Nat→TypeId→Option Ty
 | 0,_=>none
 | n+1,t=>match P.underlying t with
  | some .bool=>if P.cellsOf t=1 then some .bool else none
  | some (.int k)=>if P.cellsOf t=1 then some (.int k) else none
  | some .string=>if P.cellsOf t=1 then some .str else none
  | some (.slice e)=>if P.cellsOf t=1 then(Rm P n e).map (.sl ⟨P.cellsOf e,P.bytesOf e⟩) else none
  | some (.struct fs)=>match pL P (Rm P n) 0 fs.toList with
   | some (ts,en)=>if en=P.cellsOf t then some (.st ts) else none
   | none=>none
  | some (.array n' e)=>match Rm P n e with
   | some u=>if P.cellsOf t=n' * P.cellsOf e then some (.st (List.replicate n' u)) else none
   | none=>none
  | _=>none
variable {H:Type}{vJ:TypeId × Value→H}{P:Program}{w:World}{X:Nat→Prop}
theorem uF{e:TypeId}{d:DataW H}{k:Nat}(hk:k∈d.weights P e):∀ {l:List (DataW H)},d∈l→k∈DataW.weightsAll P e l
 | [],h=>by cases h
 | x::l,h=>by
  simp only[DataW.weightsAll,aC];rcases List.mem_cons.1 h with rfl | h
  ·exact .inl hk
  ·exact .inr (uF hk h)
def aF5(P:Program)(w:World)(X:Nat→Prop)(t:TypeId)(ty:Ty)(cs:List Value):Prop :=
 ∃ xs:List D,WT ty xs∧xs.length=P.cellsOf t∧cs.length=xs.length∧∀ j x,xs[j]? = some x→RepD w X x (cs.getD j undef)
theorem Rn{rec:TypeId→Option Ty}{cs:List Value}:∀ (fs:List Go.Field) (off:Nat) (tys:List Ty) (en:Nat),pL P rec off fs=some (tys,en)→en≤cs.length →
  (∀ f∈fs,∀ ty,rec f.type=some ty→aF5 P w X f.type ty ((cs.drop f.offset).take (P.cellsOf f.type))) →
  ∃ xs:List D,WTs tys xs∧off+xs.length=en∧∀ j x,xs[j]? = some x→RepD w X x (cs.getD (off+j) undef)
 | [],off,tys,en,h,_,_=>by
  simp only[pL,zH,aL.injEq] at h;obtain⟨rfl,rfl⟩:=h;exact⟨[],by simp[WTs],rfl,fun j x hj=>by simp at hj⟩
 | f::fs,off,tys,en,h,hen,hf=>by
  simp only[pL] at h;split at h
  ·rename_i ho;split at h
   ·rename_i t ts en' h1 h2;simp only[zH,aL.injEq] at h;obtain⟨rfl,rfl⟩:=h;obtain⟨b,hb1,hb2,hb3⟩:=Rn fs _ ts en' h2 hen fun g hg=>hf g (zZ _ hg);obtain⟨a,ha1,ha2,ha3,ha4⟩:=hf f (zW ..) t h1;refine⟨a++b,⟨a,b,rfl,ha1,hb1⟩,by simp[ha2];omega,fun j x hj=>?_⟩;rcases Nat.lt_or_ge j a.length with cY | vX
    ·rw[zF cY] at hj;have:=ha4 j x hj;simp only[zC] at this ⊢;rw[zm,if_pos (by omega),zl,ho] at this;exact this
    ·rw[zG vX] at hj;have:=hb3 (j-a.length) x hj;have e:off+P.cellsOf f.type+(j-a.length)=off+j:=by omega
     rw[e] at this;exact this
   ·cases h
  ·cases h
theorem Bo{k:Nat}:∀ {fs:List Go.Field} {xs:List (DataW H × List MemPlace)} (i:Nat) (f:Go.Field) (x:DataW H × List MemPlace),fs[i]? = some f→xs[i]? = some x→k∈x.1.weights P f.type →
  k∈DataW.weightsEach P (fs.map (·.type)) (xs.map (·.1))
 | [],xs,i,f,x,hf,_,_=>by simp at hf
 | _::_,[],i,f,x,_,hx,_=>by simp at hx
 | g::fs,y::xs,i,f,x,hf,hx,hk=>by
  simp only[List.map_cons,DataW.weightsEach,aC];cases i with
  | zero=>simp at hf hx;subst hf hx;exact .inl hk
  | succ i=>simp at hf hx;exact .inr (Bo i f x hf hx hk)
theorem aIj(a:Addr)(i j:Nat):(a.add i).add j=a.add (i+j):=by
 unfold Addr.add
 by_cases hi:i=0
 ·subst hi;simp
 ·by_cases hj:j=0
  ·subst hj;simp[hi]
  ·simp[hi,hj];have:i+j≠0:=by omega
   simp[this,Nat.add_assoc]
theorem aF6{a:Addr}{n:Nat}{l:List Value}(h:w.cells? 0 a n=some l):l.length=n∧∀ j,j<n→w.cell? (a.add j)=some (l.getD j undef):=by
 simp only[World.cells?,Nat.zero_le,if_true] at h;obtain⟨h1,h2⟩:=oO h;simp only[aE] at h1;refine⟨h1,fun j hj=>?_⟩;obtain⟨y,hy,hf⟩:=h2 j j (by rw[zj hj]);rw[hf,zC,hy];rfl
theorem Ro{base:Nat}{sp:Nat→Bool}{held:Bool}{fuel:Nat}{t e:TypeId}{k:Nat}{cs:List Value}{x:DataW H × List MemPlace}(ht:P.underlying t=some (.array k e))(h:DataW.trod vJ P w base sp held fuel t cs=some x) :
  ∃ (xs:List (DataW H × List MemPlace)) (n:Nat),fuel=n+1∧x=(.agg (xs.map (·.1)),xs.flatMap (·.2))∧cs.length=P.cellsOf t∧(aD k).mapM (fun i=>DataW.trod vJ P w base sp held n e ((cs.drop (i * P.cellsOf e)).take (P.cellsOf e)))=some xs:=by
 cases fuel with
 | zero=>simp[DataW.trod] at h
 | succ n =>
  unfold DataW.trod at h;rw[ht] at h;split at h<;>simp_all;obtain⟨hl,xs,hp,hd⟩:=h;exact⟨xs,hd.symm,hp⟩
theorem Rp{α:Type}{f:Nat→Option α}{n:Nat}{xs:List α}(h:(aD n).mapM f=some xs):xs.length=n∧∀ i x,xs[i]? = some x→f i=some x:=by
 obtain⟨h1,h2⟩:=oO h;simp only[aE] at h1;refine⟨h1,fun i x hx=>?_⟩;have cY:i<n:=by rw[← h1];exact(zA.1 hx).1
 obtain⟨y,hy,hf⟩:=h2 i i (by rw[zj cY]);rw[hx] at hy;cases hy;exact hf
theorem aF7{e:TypeId}{u:Ty}{cs:List Value}:∀ (n:Nat),n * P.cellsOf e≤cs.length→(∀ i,i<n→aF5 P w X e u ((cs.drop (i * P.cellsOf e)).take (P.cellsOf e))) →
  ∃ xs:List D,WTs (List.replicate n u) xs∧xs.length=n * P.cellsOf e∧∀ j x,xs[j]? = some x→RepD w X x (cs.getD j undef):=by
 intro n
 induction n generalizing cs with
 | zero=>intro _ _;exact⟨[],by simp[WTs],by simp,fun j x hj=>by simp at hj⟩
 | succ n ih =>
  intro hn h;obtain⟨a,ha1,ha2,ha3,ha4⟩:=h 0 (Nat.zero_lt_succ n);have hn':P.cellsOf e+n * P.cellsOf e≤cs.length:=by rw[aH,aI] at hn;omega
  obtain⟨b,hb1,hb2,hb3⟩:=ih (cs:=cs.drop (P.cellsOf e)) (by simp;omega) (fun i hi=>by
   have:=h (i+1) (by omega);rw[List.drop_drop];have e1:P.cellsOf e+i * P.cellsOf e=(i+1) * P.cellsOf e:=by rw[aH,aI];omega
   rw[e1];exact this)
  refine⟨a++b,?_,by simp[ha2,hb2,aH];omega,fun j x hj=>?_⟩
  ·rw[List.replicate_succ];exact⟨a,b,rfl,ha1,hb1⟩
  ·rcases Nat.lt_or_ge j a.length with cY | vX
   ·rw[zF cY] at hj;have:=ha4 j x hj;simp only[Nat.zero_mul,List.drop_zero,zC] at this ⊢;rw[zm,if_pos (by omega)] at this;exact this
   ·rw[zG vX] at hj;have:=hb3 (j-a.length) x hj;simp only[zC,zl] at this ⊢;have e1:P.cellsOf e+(j-a.length)=j:=by omega
    rw[e1] at this;exact this
theorem aBB(hX:∀ b,¬ X b):∀ (m:Nat) (t:TypeId) (ty:Ty),Rm P m t=some ty→∀ (n:Nat) (cs:List Value) (x:DataW H × List MemPlace),DataW.trod vJ P w 0 (fun _=>true) true n t cs=some x →
  (∀ k∈x.1.weights P t,k≤reachBytes)→aF5 P w X t ty cs∧cs.length=P.cellsOf t:=by
 have one:∀ {t:TypeId} {ty:Ty} {cs:List Value},aF5 P w X t ty cs→aF5 P w X t ty cs∧cs.length=P.cellsOf t:=fun h=>⟨h,by obtain⟨xs,_,h2,h3,_⟩:=h;omega⟩;intro m
 induction m with
 | zero=>intro t ty h;simp[Rm] at h
 | succ m ih =>
  intro t ty h n cs x hx hw;simp only[Rm] at h;split at h
  ·rename_i hu;split at h<;>cases h;rename_i sz1;obtain⟨b,rfl,rfl⟩:=DataW.trod_bool hu hx;exact one ⟨[.sc (.bool b)],⟨b,rfl⟩,by simp[sz1],rfl,fun j x hj=>by cases j<;>simp at hj;subst hj;exact .sc trivial⟩
  ·rename_i k hu;split at h<;>cases h;rename_i sz1;obtain⟨b,rfl,rfl,hb⟩:=DataW.trod_int hu hx;simp only[Lit.wf,zf,decide_eq_true_eq] at hb;exact one ⟨[.sc (.int k b)],⟨b,rfl,hb⟩,by simp[sz1],rfl,fun j x hj=>by cases j<;>simp at hj;subst hj;exact .sc hb⟩
  ·rename_i hu;split at h<;>cases h;rename_i sz1;obtain⟨b,rfl,rfl,hb⟩:=DataW.trod_string hu hx;exact one ⟨[.sc (.string b)],⟨b,rfl,hb⟩,by simp[sz1],rfl,fun j x hj=>by cases j<;>simp at hj;subst hj;exact .sc hb⟩
  ·rename_i e hu;split at h
   rotate_left
   ·cases h
   rename_i sz1;simp only[zT] at h;obtain⟨u,Xn,rfl⟩:=h;rcases DataW.trod_slice hu hx with⟨rfl,rfl⟩ | ⟨a,len,cap,elems,rest,n',rfl,rfl,rfl,_,hlc,hcm,Ku,Bm,_,_⟩
   ·exact one ⟨[.sl ⟨P.cellsOf e,P.bytesOf e⟩ []],⟨[],rfl,by simp⟩,by simp[sz1],rfl,fun j x hj=>by cases j<;>simp at hj;subst hj;exact .nil (Nat.zero_le _) (fun _=>rfl)⟩
   ·have fK:∀ i,i<len→∃ cs',w.cells? 0 (a.add (i * P.cellsOf e)) (P.cellsOf e)=some cs'∧aF5 P w X e u cs':=by
     intro i hi;have hg:=Bm i hi;obtain⟨y,hy⟩:∃ y,elems[i]? = some y:=⟨_,zB (by omega)⟩;rw[hy,zD] at hg;obtain⟨cs',h1,h2⟩:=hg;refine⟨cs',h1,(ih e u Xn n' cs' y h2 fun k hk=>hw k ?_).1⟩;simp only[DataW.weights,hu];refine zZ _ (aA _ (uF hk ?_));exact List.mem_map.2 ⟨y,zY hy,rfl⟩
    have Bu:∀ i,∃ xs:List D,i<len→WT u xs∧xs.length=P.cellsOf e∧∀ j d,xs[j]? = some d→∃ v,w.cell? (a.add (i * P.cellsOf e+j))=some v∧RepD w X d v:=by
     intro i
     by_cases hi:i<len
     ·obtain⟨cs',h1,xs,k1,k2,k3,k4⟩:=fK i hi;obtain⟨c1,c2⟩:=aF6 h1;refine⟨xs,fun _=>⟨k1,k2,fun j d hj=>?_⟩⟩;have cY:=(zA.1 hj).1;have:=c2 j (by omega);rw[aIj] at this;exact⟨_,this,k4 j d hj⟩
     ·exact⟨[],fun h=>absurd h hi⟩
    let rows:List (List D):=(aD len).map fun i=>(Bu i).choose;have tH:∀ i r,rows[i]? = some r→i<len∧r=(Bu i).choose:=by
     intro i r hr;simp only[rows,zK,zT] at hr;obtain⟨i',nX,rfl⟩:=hr;have cY:=(zA.1 nX).1;simp only[aE] at cY;rw[zj cY] at nX;cases nX;exact⟨cY,rfl⟩
    have eG:rows.length=len:=by simp[rows]
    have aN2:len * P.bytesOf e≤dL:=by
     have:=hw ((elems.length+rest.length) * P.bytesOf e) (by simp[DataW.weights,hu]);have h2:len * P.bytesOf e≤(elems.length+rest.length) * P.bytesOf e:=Nat.mul_le_mul_right _ (by omega);simp only[reachBytes] at this;simp only[dL];omega
    refine one ⟨[.sl ⟨P.cellsOf e,P.bytesOf e⟩ rows],⟨rows,rfl,fun r hr=>?_⟩,by simp[sz1],rfl,fun j x hj=>?_⟩
    ·obtain⟨i,hi⟩:=aB.1 hr;obtain⟨cY,rfl⟩:=tH i r hi;exact((Bu i).choose_spec cY).1
    ·cases j with
     | succ j=>simp at hj
     | zero =>
      simp only[aF,zH] at hj;subst hj;simp only[zC,aF,Option.getD_some];have key:∀ i r j d,rows[i]? = some r→r[j]? = some d→∃ v,w.cell? (a.add (i * P.cellsOf e+j))=some v∧RepD w X d v:=by
       intro i r j d hi hj;obtain⟨cY,rfl⟩:=tH i r hi;exact((Bu i).choose_spec cY).2.2 j d hj
      rw[← eG];refine .sl (fun i j=>(w.cell? (a.add (i * P.cellsOf e+j))).getD undef) (by omega) hcm (by rw[eG];exact aN2) (fun r hr=>?_) (fun i r j d hi hj=>?_) (fun i r j d hi hj=>?_)
      ·obtain⟨i,hi⟩:=aB.1 hr;obtain⟨cY,rfl⟩:=tH i r hi;exact((Bu i).choose_spec cY).2.1
      ·obtain⟨v,h1,h2⟩:=key i r j d hi hj;exact⟨by rw[h1];rfl,hX _⟩
      ·obtain⟨v,h1,h2⟩:=key i r j d hi hj;rw[h1];exact h2
  ·rename_i fs hu;split at h
   ·rename_i ts en hfs;split at h
    ·rename_i hen;cases h;obtain⟨xs,n',rfl,rfl,hl,hxs,Bm⟩:=DataW.trod_struct hu hx;obtain⟨ys,h1,h2,h3⟩:=Rn (w:=w) (X:=X) (cs:=cs) fs.toList 0 ts en hfs (by omega) (fun f hf ty hty=>by
      obtain⟨i,hi⟩:=aB.1 hf;have nX:fs[i]? = some f:=by simpa using hi
      have cY:i<fs.size:=(Array.getElem?_eq_some_iff.1 nX).1;have hg:=Bm i f nX;obtain⟨y,hy⟩:∃ y,xs[i]? = some y:=⟨_,zB (by omega)⟩;rw[hy] at hg;refine(ih f.type ty hty n' _ y hg fun k hk=>hw k ?_).1;simp only[DataW.weights,hu];exact Bo i f y hi hy hk)
     exact one ⟨ys,h1,by omega,by omega,fun j x hj=>by simpa using h3 j x hj⟩
    ·cases h
   ·cases h
  ·rename_i k e hu;split at h
   ·rename_i u Xn;split at h
    ·rename_i hc;cases h;obtain⟨xs,n',rfl,rfl,hl,hp⟩:=Ro hu hx;obtain⟨r1,r2⟩:=Rp hp;obtain⟨ys,h1,h2,h3⟩:=aF7 (P:=P) (w:=w) (X:=X) (cs:=cs) (e:=e) (u:=u) k (by omega) (fun i hi=>by
      have hy:xs[i]? = some xs[i]:=zB (by omega);refine(ih e u Xn n' _ _ (r2 i _ hy) fun q hq=>hw q ?_).1;simp only[DataW.weights,hu];exact uF hq (List.mem_map.2 ⟨_,zY hy,rfl⟩))
     exact one ⟨ys,h1,by omega,by omega,h3⟩
    ·cases h
   ·cases h
  ·cases h
end Go.Proofs.YtlllnjhgjijnkaaGreatDoor.Nx
namespace Go.Proofs.YtlllnjhgjijnkaaGreatDoor.Nx
open Go Go.ChangeShapes Go.WideShapes Go.RowKit
variable {H:Type}{vJ:TypeId × Value→H}{P:Program}{W W':World}
def aIk:Ty→List D→A
 | .st _,xs=>.agg (xs.map .d)
 | _,xs=>.d (xs.headD (.sc (.bool false)))
def aEZ:List Ty→List (List D)→Prop
 | [],[]=>True
 | t::ts,x::xs=>WT t x∧aEZ ts xs
 | _,_=>False
def Jf:List Ty→List (List D)→List A
 | t::ts,x::xs=>aIk t x::Jf ts xs
 | _,_=>[]
theorem aBC(b:Nat):¬ vH (fun _=>False) [] b:=by
 rintro(h | ⟨id,p,hp⟩)
 ·exact h
 ·simp at hp
theorem aDB{m:Nat}{t:TypeId}{ty:Ty}(h:Rm P (m+1) t=some ty):match ty with
  | .st _=>(∃ fs,P.underlying t=some (.struct fs))∨∃ n e,P.underlying t=some (.array n e)
  | _=>(∀ fs,P.underlying t≠some (.struct fs))∧∀ n e,P.underlying t≠some (.array n e):=by
 simp only[Rm] at h;split at h
 ·rename_i hu;split at h<;>cases h;exact⟨fun fs h=>(by rw[hu] at h;cases h),fun n e h=>(by rw[hu] at h;cases h)⟩
 ·rename_i hu;split at h<;>cases h;exact⟨fun fs h=>(by rw[hu] at h;cases h),fun n e h=>(by rw[hu] at h;cases h)⟩
 ·rename_i hu;split at h<;>cases h;exact⟨fun fs h=>(by rw[hu] at h;cases h),fun n e h=>(by rw[hu] at h;cases h)⟩
 ·rename_i hu;split at h
  ·simp only[zT] at h;obtain⟨_,_,rfl⟩:=h;exact⟨fun fs h=>(by rw[hu] at h;cases h),fun n e h=>(by rw[hu] at h;cases h)⟩
  ·cases h
 ·rename_i fs hu;split at h
  ·split at h
   ·cases h;exact .inl ⟨fs,hu⟩
   ·cases h
  ·cases h
 ·rename_i k e hu;split at h
  ·split at h
   ·cases h;exact .inr ⟨k,e,hu⟩
   ·cases h
  ·cases h
 ·cases h
theorem aKN{b0:Nat}{t:TypeId}{ty:Ty}{v:Value}{d:DataW H}{ps:List MemPlace}(hty:Rm P 20 t=some ty)(hd:DataW.Trod vJ P W 0 (fun _=>true) true t v d ps)(tA:Value.okWide P W .any b0 t v)
  (hw:∀ k∈d.weights P t,k≤reachBytes):∃ xs,WT ty xs∧RepA W (fun _=>False) [] [] (aIk ty xs) v:=by
 obtain⟨n,hn⟩:=hd;obtain⟨⟨xs,h1,h2,h3,h4⟩,h5⟩:=aBB (X:=vH (fun _=>False) []) aBC 20 t ty hty n _ _ hn hw;refine⟨xs,h1,?_⟩
 -- a value of one cell
 have one:∀ (x:D),xs=[x]→(∀ ts,ty ≠ .st ts)→(∀ cs,v ≠ .agg cs)→RepA W (fun _=>False) [] [] (aIk ty xs) v:=by
  intro x hx mO hv;have eG:v.cells.toList.length=1:=by rw[h3,hx];rfl
  have nC:v.cells = #[v]:=by
   cases v<;>first | rfl | exact absurd rfl (hv _)
  have nD:=h4 0 x (by rw[hx];rfl);rw[nC] at nD;simp at nD;have e:aIk ty xs = .d x:=by
   cases ty<;>first | (exact absurd rfl (mO _)) | (simp[aIk,hx])
  rw[e];exact .d nD
 have notAgg:(∀ fs,P.underlying t≠some (.struct fs))→(∀ n e,P.underlying t≠some (.array n e))→∀ cs,v ≠ .agg cs:=by
  rintro q1 q2 cs rfl;unfold Value.okWide at tA;split at tA
  ·exact q1 _ ‹_›
  ·exact q2 _ _ ‹_›
  ·unfold Cell.okWide at tA;split at tA
   all_goals first | contradiction | skip
   unfold Cell.ok at tA;split at tA
   all_goals first | contradiction | exact tA.elim | skip
 have hun:=aDB hty;cases ty with
 | int k =>
  obtain⟨m,hx,_⟩:=h1;exact one _ hx (fun ts h=>by cases h) (notAgg hun.1 hun.2)
 | bool =>
  obtain⟨m,hx⟩:=h1;exact one _ hx (fun ts h=>by cases h) (notAgg hun.1 hun.2)
 | str =>
  obtain⟨m,hx,_⟩:=h1;exact one _ hx (fun ts h=>by cases h) (notAgg hun.1 hun.2)
 | sl e u =>
  obtain⟨m,hx,_⟩:=h1;exact one _ hx (fun ts h=>by cases h) (notAgg hun.1 hun.2)
 | st ts =>
  have aQE:∃ cs,v = .agg cs:=by
   rcases hun with⟨fs,hu⟩ | ⟨n,e,hu⟩
   ·simp only[Value.okWide,hu] at tA;obtain⟨cs,h,_⟩:=tA;exact⟨cs,h⟩
   ·simp only[Value.okWide,hu] at tA;obtain⟨cs,h,_⟩:=tA;exact⟨cs,h⟩
  obtain⟨cs,rfl⟩:=aQE;refine .agg (by simpa[Value.cells] using h3) (fun u Xn=>?_) (fun j x hj=>?_)
  ·obtain⟨j,hj⟩:=aB.1 Xn;have cY:j<xs.length:=by
    have:=(zA.1 hj).1;simp only[Value.cells] at h3;omega
   have:=(h4 j _ (zB cY)).one;simpa[Value.cells,hj] using this
  ·simp only[zK,zT] at hj;obtain⟨x',Qf,rfl⟩:=hj;have:=h4 j x' Qf;have e:cs.getD j undef=cs.toList.getD j undef:=by
    rw[zR,zC,Array.getElem?_toList]
   rw[e];exact .d this
theorem aBD{b0:Nat}:∀ {ts:List TypeId} {tys:List Ty} {vs:List Value} {ds:List (DataW H)} {ps:List MemPlace},ts.mapM (Rm P 20)=some tys→DataW.TrodAll vJ P W 0 (fun _=>true) true ts vs ds ps →
  (∀ (j:Nat) t v,ts[j]? = some t→vs[j]? = some v→Value.okWide P W .any b0 t v)→(∀ k∈DataW.weightsEach P ts ds,k≤reachBytes) →
  ∃ xss,aEZ tys xss∧vs.length=(Jf tys xss).length∧∀ (j:Nat) (x:A),(Jf tys xss)[j]? = some x→RepA W (fun _=>False) [] [] x (vs.getD j undef)
 | [],tys,vs,ds,ps,hm,ht,_,_=>by
  simp at hm;subst hm;obtain⟨rfl,rfl,rfl⟩:=trodAll_nil ht;exact⟨[],trivial,rfl,fun j x hj=>by simp[Jf] at hj⟩
 | t::ts,tys,vs,ds,ps,hm,ht,tA,hw=>by
  simp only[List.mapM_cons,zJ,aJ,zD,zH] at hm;obtain⟨ty,hty,tys',aQ8,rfl⟩:=hm;obtain⟨v,vs,d,ds,p,q,rfl,rfl,rfl,h1,h2⟩:=trodAll_cons ht;obtain⟨x,k1,k2⟩:=aKN hty h1 (tA 0 t v rfl rfl) (fun k hk=>hw k (by simp only[DataW.weightsEach,aC];exact .inl hk));obtain⟨xss,q1,q2,q3⟩:=aBD aQ8 h2 (fun j t v ht hv=>tA (j+1) t v (by simpa using ht) (by simpa using hv)) (fun k hk=>hw k (by simp only[DataW.weightsEach,aC];exact .inr hk));refine⟨x::xss,⟨k1,q1⟩,by simp[Jf,q2],fun j y hj=>?_⟩;cases j with
  | zero=>simp[Jf] at hj;subst hj;simpa using k2
  | succ j=>simp[Jf] at hj;simpa using q3 j y hj
def Cq(P:Program):Nat→TypeId→Bool
 | 0,_=>false
 | n+1,t=>match P.underlying t with
  | some (.int _)=>P.cellsOf t == 1
  | some (.struct fs)=>match pL P (fun t=>if Cq P n t then some .bool else none) 0 fs.toList with
   | some (_,en)=>en == P.cellsOf t
   | none=>false
  | some (.array k e)=>Cq P n e&&P.cellsOf t == k * P.cellsOf e
  | _=>false
mutual
def Ou{H:Type}:DataW H→List Value
 | .lit (.int k n)=>[.int k n]
 | .agg ps=>Ac ps
 | _=>[]
def Ac{H:Type}:List (DataW H)→List Value
 | []=>[]
 | d::ds=>Ou d++Ac ds
end
theorem Mz{α:Type}{f:α→DataW H}:∀ (l:List α),Ac (l.map f)=l.flatMap fun x=>Ou (f x)
 | []=>rfl
 | x::l=>by simp[Ac,Mz l]
theorem Jg{cs:List Value}{c:Nat}:∀ n,((aD n).flatMap fun i=>(cs.drop (i * c)).take c)=cs.take (n * c)
 | 0=>by simp
 | n+1=>by
  rw[List.range_succ,List.flatMap_append,Jg n];simp only[List.flatMap_cons,List.flatMap_nil,aK];rw[aH,aI,List.take_add]
theorem Na{rec:TypeId→Option Ty}{cs:List Value}:∀ (fs:List Go.Field) (xs:List (DataW H × List MemPlace)) (off:Nat) (tys:List Ty) (en:Nat),pL P rec off fs=some (tys,en)→xs.length=fs.length →
  (∀ (i:Nat) (f:Go.Field) x,fs[i]? = some f→xs[i]? = some x→(rec f.type).isSome=true→Ou x.1=(cs.drop f.offset).take (P.cellsOf f.type)∧∀ v∈(cs.drop f.offset).take (P.cellsOf f.type),Iq v) →
  Ac (xs.map (·.1))=(cs.drop off).take (en-off)∧off≤en∧∀ v∈(cs.drop off).take (en-off),Iq v
 | [],[],off,tys,en,h,_,_=>by
  simp only[pL,zH,aL.injEq] at h;obtain⟨_,rfl⟩:=h;simp[Ac]
 | [],_::_,off,tys,en,_,hl,_=>by simp at hl
 | _::_,[],off,tys,en,_,hl,_=>by simp at hl
 | f::fs,x::xs,off,tys,en,h,hl,hf=>by
  simp only[pL] at h;split at h
  ·rename_i ho;split at h
   ·rename_i t ts en' h1 h2;simp only[zH,aL.injEq] at h;obtain⟨_,rfl⟩:=h;obtain⟨k1,k2,k3⟩:=Na fs xs _ ts en' h2 (by simpa using hl) (fun i g y hg hy=>hf (i+1) g y (by simpa using hg) (by simpa using hy));obtain⟨q1,q2⟩:=hf 0 f x rfl rfl (by rw[h1];rfl);have e:(cs.drop off).take (en'-off)=(cs.drop off).take (P.cellsOf f.type)++(cs.drop (off+P.cellsOf f.type)).take (en'-(off+P.cellsOf f.type)):=by
     have:en'-off=P.cellsOf f.type+(en'-(off+P.cellsOf f.type)):=by omega
     rw[this,List.take_add,List.drop_drop]
    rw[ho] at q1 q2;refine⟨?_,by omega,fun v hv=>?_⟩
    ·simp only[List.map_cons,Ac,k1,q1];exact e.symm
    ·rw[e] at hv;rcases aC.1 hv with hv | hv
     ·exact q2 v hv
     ·exact k3 v hv
   ·cases h
  ·cases h
theorem aAc{base:Nat}{sp:Nat→Bool}{held:Bool}:∀ (m:Nat) (t:TypeId),Cq P m t=true→∀ (n:Nat) (cs:List Value) (x:DataW H × List MemPlace),DataW.trod vJ P W base sp held n t cs=some x→Ou x.1=cs∧cs.length=P.cellsOf t∧∀ v∈cs,Iq v:=by
 intro m
 induction m with
 | zero=>intro t h;simp[Cq] at h
 | succ m ih =>
  intro t h n cs x hx;simp only[Cq] at h;split at h
  ·rename_i k hu;obtain⟨b,rfl,rfl,hb⟩:=DataW.trod_int hu hx;simp only[Lit.wf,zf,decide_eq_true_eq] at hb;exact⟨rfl,by simpa using(by simpa using h:P.cellsOf t=1).symm,fun v hv=>by simp at hv;subst hv;exact hb⟩
  ·rename_i fs hu;split at h
   ·rename_i ts en hfs;obtain⟨xs,n',rfl,rfl,hl,hxs,Bm⟩:=DataW.trod_struct hu hx;have hen:en=P.cellsOf t:=by simpa using h
    obtain⟨k1,k2,k3⟩:=Na (cs:=cs) fs.toList xs 0 ts en hfs (by simpa using hxs) (fun i f y hf hy hr=>by
     have hg:=Bm i f (by simpa using hf);rw[hy] at hg;have hft:Cq P m f.type=true:=by
      by_cases hh:Cq P m f.type=true
      ·exact hh
      ·simp[hh] at hr
     obtain⟨q1,q2,q3⟩:=ih f.type hft n' _ y hg;exact⟨q1,q3⟩)
    have e:(cs.drop 0).take (en-0)=cs:=by rw[List.drop_zero,Nat.sub_zero,hen,← hl,List.take_length]
    rw[e] at k1 k3;exact⟨by simp only[Ou];exact k1,hl,k3⟩
   ·cases h
  ·rename_i k e hu;simp only[zf,beq_iff_eq] at h;obtain⟨h1,h2⟩:=h;obtain⟨xs,n',rfl,rfl,hl,hp⟩:=Ro hu hx;obtain⟨r1,r2⟩:=Rp hp;have key:∀ (i:Nat) (y:DataW H × List MemPlace),xs[i]? = some y→Ou y.1=(cs.drop (i * P.cellsOf e)).take (P.cellsOf e)∧∀ v∈(cs.drop (i * P.cellsOf e)).take (P.cellsOf e),Iq v:=fun i y hy=>by
    obtain⟨q1,q2,q3⟩:=ih e h1 _ _ y (r2 i y hy);exact⟨q1,q3⟩
   have aPD:(xs.flatMap fun y=>Ou y.1)=(aD k).flatMap fun i=>(cs.drop (i * P.cellsOf e)).take (P.cellsOf e):=by
    have hx:(xs.map fun y=>Ou y.1)=(aD k).map fun i=>(cs.drop (i * P.cellsOf e)).take (P.cellsOf e):=by
     apply List.ext_getElem?
     intro i
     by_cases hi:i<k
     ·have:xs[i]? = some xs[i]:=zB (by omega);simp[hi,this,(key i _ this).1]
     ·rw[zk (by simp;omega),zk (by simp;omega)]
    simp only[List.flatMap,hx]
   have Il:(aD k).flatMap (fun i=>(cs.drop (i * P.cellsOf e)).take (P.cellsOf e))=cs:=by
    rw[Jg];exact List.take_of_length_le (by omega)
   refine⟨?_,hl,fun v hv=>?_⟩
   ·simp only[Ou];rw[Mz,aPD,Il]
   ·rw[← Il] at hv;obtain⟨i,hi,hv⟩:=List.mem_flatMap.1 hv;have nX:i<k:=by simpa using hi
    exact(key i _ (zB (show i<xs.length by omega))).2 v hv
  ·cases h
def aAd(P:Program)(laid:List (String × DataW Unit)):Option dP :=
 laid.mapM fun p=>match P.globalNamed p.1 with
  | some g=>match (P.globals[g]?).map (·.type) with
   | some t=>if Cq P 20 t then some (g,(Ou p.2).map .sc) else none
   | none=>none
  | none=>none
theorem aKO{laid:List (String × DataW Unit)}{Γ:dP}(ht:aAd P laid=some Γ)(hL:laidMet P laid W):aBh Γ W (fun _=>False) [] []:=by
 obtain⟨ps,hv, -, -⟩:=hL;unfold aAd at ht
 induction laid generalizing Γ ps with
 | nil=>simp at ht;subst ht;intro g cs h;cases h
 | cons p laid ih =>
  obtain⟨n,d⟩:=p;simp only[List.mapM_cons,zJ,aJ,zD,zH] at ht;obtain⟨y,hy,Γ',hΓ,rfl⟩:=ht;simp only[DataW.LaidVars] at hv;obtain⟨g,t,cs,fuel,p,q,h1,h2,h3,h4,h5,rfl⟩:=hv;intro g' cs' hm;rcases List.mem_cons.1 hm with hm | hm
  ·rw[h1] at hy;dsimp only at hy;rw[h2] at hy;dsimp only at hy;split at hy
   ·rename_i hf;cases hy;cases hm;obtain⟨k1,k2,k3⟩:=aAc 20 t hf fuel _ _ h4;dsimp only at k1;have aPF:∀ j,W.cell? ⟨g,j,none⟩=cs[j]? := by
     intro j;unfold World.var? at h3;rw[h1] at h3;simp only[Option.bind_some] at h3;unfold World.cell?
     cases hg:W.heap[g]? with
     | none=>rw[hg] at h3;simp at h3
     | some o =>
      rw[hg] at h3;cases o<;>simp_all
    refine .iptr (fun j=>cs.getD j undef) (fun j d hj=>?_) (fun j d hj=>?_)
    ·simp only[zK,zT] at hj;obtain⟨v,hv,rfl⟩:=hj;rw[k1] at hv;rw[kM,Nat.zero_add,aPF];refine⟨?_,aBC _⟩;have hv':cs[j]? = some v:=by simpa using hv
     rw[zR,hv'];rfl
    ·simp only[zK,zT] at hj;obtain⟨v,hv,rfl⟩:=hj;rw[k1] at hv;have hv':cs[j]? = some v:=by simpa using hv
     have:cs.getD j undef=v:=by rw[zR,hv'];rfl
     rw[this];exact .sc (k3 v (zY hv))
   ·cases hy
  ·exact ih hΓ _ h5 g' cs' hm
theorem Nd{sp:Nat→Bool}{base:Nat}{held:Bool}:∀ {ts:List TypeId} {vs:List Value} {ds:List (DataW H)} {ps:List MemPlace},DataW.TrodAll vJ P W base sp held ts vs ds ps→ds.length=ts.length
 | [],vs,ds,ps,h=>by obtain⟨rfl,rfl,rfl⟩:=trodAll_nil h;rfl
 | t::ts,vs,ds,ps,h=>by
  obtain⟨v,vs,d,ds,p,q,rfl,rfl,rfl,h1,h2⟩:=trodAll_cons h;simp[Nd h2]
theorem Fk(hl:laidOutB P=true){sp:Nat→Bool}:∀ {ts:List TypeId} {vs:List Value} {ds:List (DataW H)} {ps:List MemPlace},(∀ t∈ts,P.readableRec t=true∧t<P.types.size) →
  DataW.TrodAll vJ P W 0 (fun _=>true) true ts vs ds ps→(∀ p∈ps,W.sameAt W' p)→(∀ p∈ps,sp p.block=true)→DataW.TrodAll vJ P W' 0 sp true ts vs ds ps
 | [],vs,ds,ps,_,h,_,_=>by obtain⟨rfl,rfl,rfl⟩:=trodAll_nil h;exact trodAll_mk0
 | t::ts,vs,ds,ps,hr,h,hs,hp=>by
  obtain⟨v,vs,d,ds,p,q,rfl,rfl,rfl,h1,h2⟩:=trodAll_cons h;have a:=hr t (zW ..);exact trodAll_cons_mk (WideElems.Trod_stays hl a.1 a.2 h1 (fun x hx=>hs x (aA _ hx)) (fun x hx=>hp x (aA _ hx)))
   (Fk hl (fun t ht=>hr t (zZ _ ht)) h2 (fun x hx=>hs x (aG _ hx)) (fun x hx=>hp x (aG _ hx)))
theorem Evo.same{b:Nat}(g:Evo 0 [] [] W [] [] W')(hb:b<W.heap.size):W'.heap[b]? = W.heap[b]? := g.old b hb (fun id p h=>by simp at h)
theorem Evo.kept(g:Evo 0 [] [] W [] [] W')(may:MemPlace→Prop):W.keptBut W' may:=by
 refine⟨g.os,g.output,fun i hi=>?_⟩;rw[g.same hi];cases W.heap[i]? with
 | none=>rfl
 | some o=>cases o<;>first | rfl | exact⟨rfl,rfl,rfl,fun _ _=>rfl⟩ | exact .inr ⟨rfl,rfl⟩
theorem aIl{fn:Func}{s:ChangeSpec}{args:Array Value}{ds gs:List (DataW H)}{before:List MemPlace}{tb:TypeId}(hr:fn.resultTypes = #[tb])(hb:P.underlying tb=some .bool)(hv:s.vars=[])(hl:laidOutB P=true)
  (hrd:∀ t∈fn.params.toList,P.readableRec t=true∧t<P.types.size) (hs:∀ ds:List (DataW H),ds.length=fn.params.toList.length→s.fn H ds={ results:=[.lit (.bool true)],args:=ds })
  (hW:DataW.Whole vJ P fn.params.toList s.vars false W args.toList ds gs before) (g:Evo 0 [] [] W [] [] W'):s.post vJ P fn false true false false W args (.bool true) W':=by
 have hW':=hW;have cY:∀ p∈before,p.block<W.heap.size:=fun p hp=>hW.lt p hp;obtain⟨p,q,hA,hV,rfl,Vp,hnd⟩:=hW;rw[hv] at hV;obtain⟨rfl,rfl⟩:=trodVars_none hV;have eG:ds.length=fn.params.toList.length:=Nd hA;have he:s.fn H (ds++[])={ results:=[.lit (.bool true)],args:=ds }:=by rw[aK];exact hs ds eG
 refine⟨ds,[],_,[],p,[],hW',?_,?_,?_,g.kept _,fun h=>by cases h⟩
 ·rw[he,hr];exact trodAll_cons_mk (shut_bool hb true) trodAll_mk0
 ·rw[he];refine Fk hl hrd hA (fun x hx=>?_) (fun x hx=>by simpa using cY x (aA _ hx));have:=g.same (cY x (aA _ hx));cases x with
  | cell b off=>exact World.cell?_of_block this
  | map b=>exact this
 ·rw[he,hv];rfl
theorem aAe{f:FuncId}{fn:Func}{s:ChangeSpec}{args:Array Value}{ds gs:List (DataW H)}{before:List MemPlace}{tb:TypeId}{base:Nat}{Γ:dP}{tys:List Ty}{laid:List (String × DataW Unit)}
  (hr:fn.resultTypes = #[tb]) (hb:P.underlying tb=some .bool) (hv:s.vars=[]) (hl:laidOutB P=true) (hrd:∀ t∈fn.params.toList,P.readableRec t=true∧t<P.types.size)
  (hs:∀ ds:List (DataW H),ds.length=fn.params.toList.length→s.fn H ds={ results:=[.lit (.bool true)],args:=ds }) (hty:fn.params.toList.mapM (Rm P 20)=some tys) (hΓ:aAd P laid=some Γ)
  (law:∀ xss,aEZ tys xss→FnP Γ P f (Jf tys xss) (.bool true))
  (tA:∀ (j:Nat) t v,fn.params[j]? = some t→args[j]? = some v→Value.okWide P W .any base t v)
  (hW:DataW.Whole vJ P fn.params.toList s.vars false W args.toList ds gs before) (hw:(DataW.weightsEach P fn.params.toList ds).all (· ≤ reachBytes)=true) (hL:laidMet P laid W) :
  Calls P f args W fun e W'=>∃ v,e = .returned v∧s.post vJ P fn false true false false W args v W':=by
 have hW':=hW;obtain⟨p,q,hA, -, -, -, -⟩:=hW;obtain⟨xss,k1,k2,k3⟩:=aBD hty hA (fun j t v ht hv=>tA j t v (by simpa using ht) (by simpa using hv)) (fun k hk=>by
  have:=List.all_eq_true.1 hw k hk;simpa using this)
 refine((law xss k1).run (fun _=>False) W args (fun _ h=>h.elim) (aKO hΓ hL) ⟨by simpa using k2,fun j x hj=>?_⟩).mono fun e W1 ⟨v,he,nD,g⟩=>?_
 ·have:=k3 j x hj;have e:args.getD j undef=args.toList.getD j undef:=by
   rw[zR,zC,Array.getElem?_toList]
  rw[e];exact this
 ·have hvb:v = .bool true:=by
   cases nD with
   | d hx=>cases hx;rfl
  subst hvb;exact⟨_,he,aIl hr hb hv hl hrd hs hW' g⟩
end Go.Proofs.YtlllnjhgjijnkaaGreatDoor.Nx

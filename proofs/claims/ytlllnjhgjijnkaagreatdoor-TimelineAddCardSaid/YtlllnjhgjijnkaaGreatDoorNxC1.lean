import Derived.Test.YtlllnjhgjijnkaaGreatDoorNxCore
import Derived.Lib.ValidAsc
import Derived.Test.YtlllnjhgjijnkaaGreatDoorNxD15
import Derived.Test.YtlllnjhgjijnkaaGreatDoorNxWalk
set_option linter.all false
open List renaming getElem?_eq_getElem → zB, getD_eq_getElem?_getD → zC, getElem?_map → zK, mem_cons_self → zW, mem_cons_of_mem → zZ, length_cons → za, length_append → zb, nil_append → zn, cons_append → zo, length_nil → zq, length_drop → zt
open Nat renaming zero_le → zI, le_refl → zL
open Bool renaming eq_iff_iff → ze, and_eq_true → zf
open Nat renaming reduceEqDiff → qE, reduceAdd → qA, reduceLT → qL, reduceLeDiff → qD
set_option maxHeartbeats 1000000
open List renaming flatMap_cons → aA, foldl_cons → aB, foldl_nil → aC, getD_cons_zero → aD, getD_cons_succ → aF, length_pos_iff → aG, drop_succ_cons → aH, drop_zero → aJ, mem_iff_getElem → aK, map_congr_left → aL, map_map → aN, any_eq_true → aQ, getElem_mem → aR
open Bool renaming eq_false_iff → aE, false_or → aI, false_eq_true → aM, true_or → aP
open Prod renaming mk → aO
namespace Go.Proofs.YtlllnjhgjijnkaaGreatDoor.Nx
open Go Go.Lib
def gN(r:Nat):Prop:=r<55296∨(57344≤r∧r≤1114111)
instance (r:Nat):Decidable (gN r):=by unfold gN;infer_instance
def gT(r:Nat):List Nat :=
 if r<128 then [r] else if r<2048 then [192+r / 64,128+r % 64] else if r<65536 then [224+r / 4096,128+r / 64 % 64,128+r % 64]
 else [240+r / 262144,128+r / 4096 % 64,128+r / 64 % 64,128+r % 64]
def vJ(r:Nat):List UInt8:=(gT r).map UInt8.ofNat
def Cu(l:List Nat):List UInt8:=l.flatMap vJ
theorem aKQ{r:Nat}(h:r≤1114111):∀ b∈gT r,b<256:=by
 intro b hb;unfold gT at hb;split at hb
 ·simp at hb;omega
 ·split at hb
  ·simp at hb;omega
  ·split at hb
   ·simp at hb;omega
   ·simp at hb;omega
theorem Li{r:Nat}(h:gN r):r≤1114111:=by unfold gN at h;omega
theorem aE1{r:Nat}(h:r≤1114111):(vJ r).map UInt8.toNat=gT r:=by
 have cY:=aKQ h;unfold vJ;rw[aN]
 conv=>rhs;rw[← List.map_id (gT r)]
 refine aL fun b hb=>?_;have:=cY b hb;simp[Function.comp,UInt8.toNat_ofNat'];omega
theorem aKR(r:Nat):gT r≠[]:=by
 unfold gT;split
 ·simp
 ·split
  ·simp
  ·split<;>simp
theorem aDC(r:Nat):vJ r≠[]:=by simp[vJ,aKR]
def nb(l:List UInt8)(i:Nat):Nat:=(l.getD i 0).toNat
theorem aBF(l:List UInt8)(i:Nat):nb l i<256:=(l.getD i 0).toNat_lt
theorem aNm{a b:List UInt8}{i:Nat}(h:i<a.length):nb (a++b) i=nb a i:=by
 unfold nb;rw[zC,zC,List.getElem?_append_left h]
theorem aNn{l:List UInt8}{i:Nat}(h:i<l.length):nb l i=(l.map UInt8.toNat).getD i 0:=by
 unfold nb;rw[zC,zC,zK,zB h];rfl
theorem aL3(l:List UInt8):decodeL l=decodeN l.length (nb l 0) (nb l 1) (nb l 2) (nb l 3):=decodeL_N l
theorem Pt{r:Nat}:(vJ r).length=(gT r).length:=by simp[vJ]
theorem aE2{r:Nat}(h:gN r)(t:List UInt8):decodeL (vJ r++t)=(r,(vJ r).length):=by
 have gZ:=Li h;have hn:=aE1 gZ;rw[aL3];have g:∀ i,i<(gT r).length→nb (vJ r++t) i=(gT r).getD i 0:=fun i hi=>by
  rw[aNm (by rw[Pt];exact hi),aNn (by rw[Pt];exact hi),hn]
 have hl:(vJ r++t).length=(gT r).length+t.length:=by rw[zb,Pt]
 rw[Pt,hl];unfold gN at h
 by_cases c1:r<128
 ·have e:gT r=[r]:=by simp[gT,c1]
  rw[e] at g ⊢;have g0:=g 0 (by simp);simp only[aD] at g0;rw[g0];unfold decodeN;rw[if_pos c1];rfl
 ·by_cases c2:r<2048
  ·have e:gT r=[192+r / 64,128+r % 64]:=by simp[gT,c1,c2]
   rw[e] at g ⊢;have g0:=g 0 (by simp);have g1:=g 1 (by simp);simp only[aD,aF] at g0 g1;rw[g0,g1];simp only[za,zq];unfold decodeN;rw[if_neg (by omega),if_pos ⟨by omega,by omega,by omega⟩,if_pos (by omega)];refine Prod.ext ?_ rfl;simp only;omega
  ·by_cases c3:r<65536
   ·have e:gT r=[224+r / 4096,128+r / 64 % 64,128+r % 64]:=by simp[gT,c1,c2,c3]
    rw[e] at g ⊢;have g0:=g 0 (by simp);have g1:=g 1 (by simp);have g2:=g 2 (by simp);simp only[aD,aF] at g0 g1 g2;rw[g0,g1,g2];simp only[za,zq];unfold decodeN;rw[if_neg (by omega),if_neg (by omega),if_pos ⟨by omega,⟨by omega,by omega⟩,by omega,by omega⟩,if_pos (by omega)];refine Prod.ext ?_ rfl;simp only;omega
   ·have e:gT r=[240+r / 262144,128+r / 4096 % 64,128+r / 64 % 64,128+r % 64]:=by simp[gT,c1,c2,c3]
    rw[e] at g ⊢;have g0:=g 0 (by simp);have g1:=g 1 (by simp);have g2:=g 2 (by simp);have g3:=g 3 (by simp);simp only[aD,aF] at g0 g1 g2 g3;rw[g0,g1,g2,g3];simp only[za,zq];unfold decodeN;rw[if_neg (by omega),if_neg (by omega),if_neg (by omega),if_pos ⟨by omega,⟨by omega,by omega⟩,⟨by omega,by omega⟩,by omega,by omega⟩,if_pos (by omega)];refine Prod.ext ?_ rfl;simp only;omega
theorem aDD{n b0 b1 b2 b3 r k:Nat}(hn:1≤n)(h0:b0<256)(h1:b1<256)(h2:b2<256)(h3:b3<256)(h:decodeN n b0 b1 b2 b3=(r,k))(hb:¬(r=65533∧k=1)) :
  gN r∧((k=1∧gT r=[b0])∨(k=2∧2≤n∧gT r=[b0,b1])∨(k=3∧3≤n∧gT r=[b0,b1,b2])∨(k=4∧4≤n∧gT r=[b0,b1,b2,b3])):=by
 unfold decodeN at h;split at h
 ·cases h;refine⟨.inl (by omega),.inl ⟨rfl,?_⟩⟩;rw[gT,if_pos (by omega)]
 ·split at h
  ·split at h
   ·obtain⟨rfl,rfl⟩:=aO.inj h;refine⟨by unfold gN;omega,.inr (.inl ⟨rfl,by omega,?_⟩)⟩;rw[gT,if_neg (by omega),if_pos (by omega)];congr 1
    ·omega
    ·congr 1;omega
   ·cases h;exact absurd ⟨rfl,rfl⟩ hb
  ·split at h
   ·split at h
    ·obtain⟨rfl,rfl⟩:=aO.inj h;refine⟨by unfold gN;omega,.inr (.inr (.inl ⟨rfl,by omega,?_⟩))⟩;rw[gT,if_neg (by omega),if_neg (by omega),if_pos (by omega)];congr 1
     ·omega
     ·congr 1
      ·omega
      ·congr 1;omega
    ·cases h;exact absurd ⟨rfl,rfl⟩ hb
   ·split at h
    ·split at h
     ·obtain⟨rfl,rfl⟩:=aO.inj h;refine⟨by unfold gN;omega,.inr (.inr (.inr ⟨rfl,by omega,?_⟩))⟩;rw[gT,if_neg (by omega),if_neg (by omega),if_neg (by omega)];congr 1
      ·omega
      ·congr 1
       ·omega
       ·congr 1
        ·omega
        ·congr 1;omega
     ·cases h;exact absurd ⟨rfl,rfl⟩ hb
    ·cases h;exact absurd ⟨rfl,rfl⟩ hb
theorem aIn(l:List UInt8)(i:Nat):UInt8.ofNat (nb l i)=l.getD i 0:=by simp[nb]
theorem aKS:∀ (k:Nat) (l:List UInt8),k≤l.length→l.take k=(List.range k).map fun i=>UInt8.ofNat (nb l i)
 | k,l,h=>by
  refine List.ext_getElem (by simp;omega) fun i h1 h2=>?_;simp only[List.getElem_take,List.getElem_map,List.getElem_range,aIn];have hi:i<l.length:=by simp at h1;omega
  rw[zC,zB hi];rfl
theorem aKT{l:List UInt8}{r k:Nat}(fM:l≠[])(h:decodeL l=(r,k))(hb:¬(r=65533∧k=1)):gN r∧l=vJ r++l.drop k:=by
 rw[aL3] at h;have hl:0<l.length:=aG.2 fM;obtain⟨hs,hc⟩:=aDD hl (aBF _ _) (aBF _ _) (aBF _ _) (aBF _ _) h hb;refine⟨hs,?_⟩;have key:k≤l.length→gT r=(List.range k).map (nb l)→l=vJ r++l.drop k:=fun hk he=>by
  conv=>lhs;rw[← List.take_append_drop k l]
  congr 1;rw[aKS k l hk,vJ,he,aN];rfl
 rcases hc with⟨rfl,he⟩ | ⟨rfl,hn,he⟩ | ⟨rfl,hn,he⟩ | ⟨rfl,hn,he⟩
 ·exact key hl he
 ·exact key hn he
 ·exact key hn he
 ·exact key hn he
theorem aF9{r:Nat}(h:gN r)(t:List UInt8):validD (vJ r++t)=validD t:=by
 rw[validD_step _ (by simp[aDC]),aE2 h t];rw[if_neg]
 ·rw[List.drop_left]
 ·rintro⟨h1,h2⟩;simp only at h1 h2;subst h1;revert h2;decide
theorem Rq:∀ {l:List Nat},(∀ r∈l,gN r)→validD (Cu l)=true
 | [],_=>rfl
 | r::l,h=>by
  rw[Cu,aA,aF9 (h r (zW ..))];exact Rq fun r hr=>h r (zZ _ hr)
theorem Av:∀ (n:Nat) (l:List UInt8),l.length≤n→validD l=true→∃ rs,(∀ r∈rs,gN r)∧l=Cu rs
 | 0,l,hn,_=>⟨[],by simp,List.eq_nil_of_length_eq_zero (by omega)⟩
 | n+1,l,hn,h=>by
  by_cases fM:l=[]
  ·exact⟨[],by simp,fM⟩
  rw[validD_step l fM] at h;split at h
  ·cases h
  rename_i hb;obtain⟨hs,he⟩:=aKT fM (show decodeL l=((decodeL l).1,(decodeL l).2) from rfl) hb;have hw:=decodeL_width l;have hl:0<l.length:=aG.2 fM;obtain⟨rs,hrs,hd⟩:=Av n (l.drop (decodeL l).2) (by rw[zt];omega) h;refine⟨(decodeL l).1::rs,fun r hr=>?_,?_⟩
  ·rcases List.mem_cons.1 hr with rfl | hr
   ·exact hs
   ·exact hrs r hr
  ·rw[Cu,aA]
   conv=>lhs;rw[he,hd]
   rfl
theorem qX(s:ByteArray):s.size=s.data.toList.length:=by rw[Array.length_toList];rfl
theorem Ji(s:ByteArray):∀ (b i:Nat) (rs:List Nat),(∀ r∈rs,gN r)→s.data.toList.drop i=Cu rs→i≤s.size→s.size-i≤b→kO s b i=rs
 | 0,i,rs,hs,h,hi,hb=>by
  have mB:=qX s;have:s.data.toList.drop i=[]:=List.drop_eq_nil_of_le (by omega);rw[this] at h;cases rs with
  | nil=>rfl
  | cons r rs=>rw[Cu,aA] at h;exact absurd h.symm (by simp[aDC])
 | b+1,i,rs,hs,h,hi,hb=>by
  have mB:=qX s;unfold kO;cases rs with
  | nil =>
   have:i=s.size:=by
    have:=congrArg List.length h;rw[zt] at this;simp[Cu] at this;omega
   rw[if_neg (by omega)]
  | cons r rs =>
   have eG:=congrArg List.length h;rw[Cu,aA,zt,zb] at eG;have sD:0<(vJ r).length:=aG.2 (aDC r);rw[if_pos (by omega),← decodeL_drop,h,Cu,aA,aE2 (hs r (zW ..))];congr 1;refine Ji s b _ rs (fun r hr=>hs r (zZ _ hr)) ?_ (by omega) (by omega);rw[← List.drop_drop,h,Cu,aA,List.drop_left];rfl
theorem Jj{s:ByteArray}{rs:List Nat}(hs:∀ r∈rs,gN r)(h:s.data.toList=Cu rs):eI s=rs :=
 Ji s s.size 0 rs hs (by simpa using h) (zI _) (by omega)
def fY(p:Nat):Nat:=if 194≤p∧p≤223 then 2 else if 224≤p∧p≤239 then 3 else if 240≤p∧p≤244 then 4 else 0
def pD:List Nat→Nat
 | []=>0
 | [p]=>if p=224 then 160 else if p=240 then 144 else 128
 | _=>128
def jH:List Nat→Nat
 | []=>255
 | [p]=>if p=237 then 159 else if p=244 then 143 else 191
 | _=>191
def mK:List Nat→Int
 | [p,_]=>p-192
 | [p,_,_]=>p-224
 | [p,_,_,_]=>p-240
 | _=>0
def aDE(l:List Nat):Int:=(l.drop 1).foldl (fun(n:Int) (b:Nat)=>n * 64+b-128) (mK l)
def xC(out:List Int)(b:Nat):List Int × List Nat:=if b<128 then(out++[(b:Int)],[]) else if 0<fY b then(out,[b]) else(out++[65533],[])
def kK:List Int × List Nat→Nat→List Int × List Nat
 | (out,[]),b=>xC out b
 | (out,p::l),b=>if b<pD (p::l)∨jH (p::l)<b then xC (out++[65533]) b else if(p::l++[b]).length=fY p then(out++[aDE (p::l++[b])],[]) else(out,p::l++[b])
def Eu(l:List Nat):List Int × List Nat:=l.foldl kK ([],[])
theorem aGa{r:Nat}(h:gN r)(out:List Int):(gT r).foldl kK (out,[])=(out++[(r:Int)],[]):=by
 unfold gN at h
 by_cases c1:r<128
 ·have e:gT r=[r]:=by simp[gT,c1]
  rw[e];simp[kK,xC,c1]
 ·by_cases c2:r<2048
  ·have e:gT r=[192+r / 64,128+r % 64]:=by simp[gT,c1,c2]
   rw[e];have hp:194≤192+r / 64∧192+r / 64≤223:=by omega
   have hz:fY (192+r / 64)=2:=by rw[fY,if_pos hp]
   have On:pD [192+r / 64]=128:=by rw[pD,if_neg (by omega),if_neg (by omega)]
   have Vq:jH [192+r / 64]=191:=by rw[jH,if_neg (by omega),if_neg (by omega)]
   simp only[aB,aC,kK,xC,hz];rw[if_neg (by omega),if_pos (by decide)];simp only[kK,hz,On,Vq];rw[if_neg (by omega),if_pos (by simp)];simp only[aDE,mK,zo,zn,aH,aJ,aB,aC,aO.injEq,and_true];congr 2;omega
  ·by_cases c3:r<65536
   ·have e:gT r=[224+r / 4096,128+r / 64 % 64,128+r % 64]:=by simp[gT,c1,c2,c3]
    rw[e];have hz:fY (224+r / 4096)=3:=by rw[fY,if_neg (by omega),if_pos (by omega)]
    have On:pD [224+r / 4096]=if r / 4096=0 then 160 else 128:=by
     rw[pD];split
     ·rw[if_pos (by omega)]
     ·rw[if_neg (by omega),if_neg (by omega)]
    have Vq:jH [224+r / 4096]=if r / 4096=13 then 159 else 191:=by
     rw[jH];split
     ·rw[if_pos (by omega)]
     ·rw[if_neg (by omega),if_neg (by omega)]
    simp only[aB,aC,kK,xC,hz];rw[if_neg (by omega),if_pos (by decide)];simp only[kK,hz,On,Vq];rw[if_neg (by split<;>split<;>omega),if_neg (by simp)];simp only[kK,hz,pD,jH,zo,zn];rw[if_neg (by omega),if_pos (by simp)];simp only[aDE,mK,zo,zn,aH,aJ,aB,aC,aO.injEq,and_true];congr 2;omega
   ·have e:gT r=[240+r / 262144,128+r / 4096 % 64,128+r / 64 % 64,128+r % 64]:=by simp[gT,c1,c2,c3]
    rw[e];have hz:fY (240+r / 262144)=4:=by rw[fY,if_neg (by omega),if_neg (by omega),if_pos (by omega)]
    have On:pD [240+r / 262144]=if r / 262144=0 then 144 else 128:=by
     rw[pD];rw[if_neg (by omega)];split
     ·rw[if_pos (by omega)]
     ·rw[if_neg (by omega)]
    have Vq:jH [240+r / 262144]=if r / 262144=4 then 143 else 191:=by
     rw[jH];rw[if_neg (by omega)];split
     ·rw[if_pos (by omega)]
     ·rw[if_neg (by omega)]
    simp only[aB,aC,kK,xC,hz];rw[if_neg (by omega),if_pos (by decide)];simp only[kK,hz,On,Vq];rw[if_neg (by split<;>split<;>omega),if_neg (by simp)];simp only[kK,hz,pD,jH,zo,zn];rw[if_neg (by omega),if_neg (by simp)];simp only[kK,hz,pD,jH,zo,zn];rw[if_neg (by omega),if_pos (by simp)];simp only[aDE,mK,zo,zn,aH,aJ,aB,aC,aO.injEq,and_true];congr 2;omega
def Ik(l:List UInt8):List Nat:=l.map UInt8.toNat
theorem aBG:∀ {rs:List Nat},(∀ r∈rs,gN r)→Ik (Cu rs)=rs.flatMap gT
 | [],_=>rfl
 | r::rs,h=>by
  have:=aBG fun r hr=>h r (zZ _ hr);rw[Cu,Ik] at *;rw[aA,List.map_append,this,aE1 (Li (h r (zW ..))),aA]
theorem Nh:∀ {rs:List Nat},(∀ r∈rs,gN r)→∀ out,(rs.flatMap gT).foldl kK (out,[])=(out++rs.map fun(r:Nat)=>(r:Int),[])
 | [],_,out=>by simp
 | r::rs,h,out=>by
  rw[aA,List.foldl_append,aGa (h r (zW ..)),Nh fun r hr=>h r (zZ _ hr)];simp
theorem Ya{rs:List Nat}(h:∀ r∈rs,gN r):Eu (Ik (Cu rs))=(rs.map fun(r:Nat)=>(r:Int),[]):=by
 rw[aBG h,Eu,Nh h];simp
def san(n:Int):Nat:=if n<0∨1114111<n∨(55296≤n∧n≤57343) then 65533 else n.toNat
theorem Rr(n:Int):gN (san n):=by
 unfold san gN;split<;>omega
theorem aNo{r:Nat}(h:gN r):san (r:Int)=r:=by
 unfold gN at h;unfold san;rw[if_neg (by omega)];simp
def aKU(l:List Int):List UInt8:=Cu (l.map san)
def Jk(l:List UInt8):Bool:=decide ((Eu (Ik l)).2=[])&&decide (aKU (Eu (Ik l)).1=l)
theorem aBH(l:List UInt8):Jk l=validD l:=by
 rw[ze];constructor
 ·intro h;simp only[Jk,zf,decide_eq_true_eq] at h;rw[← h.2];refine Rq fun r hr=>?_;obtain⟨n,_,rfl⟩:=List.mem_map.1 hr;exact Rr n
 ·intro h;obtain⟨rs,hs,rfl⟩:=Av l.length l (zL _) h;simp only[Jk,Ya hs,decide_true,Bool.true_and,decide_eq_true_eq,aKU,aN];congr 1
  conv=>rhs;rw[← List.map_id rs]
  exact aL fun r hr=>aNo (hs r hr)
theorem aIo{s:ByteArray}(h:validD s.data.toList=true):Eu (Ik s.data.toList)=((eI s).map fun(r:Nat)=>(r:Int),[]):=by
 obtain⟨rs,hs,he⟩:=Av _ s.data.toList (zL _) h;rw[Jj hs he,he,Ya hs]
theorem Rs{s:ByteArray}(h:validD s.data.toList=true)(h0:0<s.size):eI s≠[]:=by
 obtain⟨rs,hs,he⟩:=Av _ s.data.toList (zL _) h;rw[Jj hs he];rintro rfl;have:=qX s;rw[he] at this;have h2:(Cu ([]:List Nat)).length=0:=rfl;omega
theorem Nj(s:ByteArray):∀ b i,(kO s b i).length≤b
 | 0,_=>zL _
 | b+1,i=>by
  unfold kO;split
  ·have:=Nj s b (i+(Utf8.decode s i).2);simp;omega
  ·simp
theorem Cv(s:ByteArray):(eI s).length≤s.size:=Nj s _ _
end Go.Proofs.YtlllnjhgjijnkaaGreatDoor.Nx
namespace Go.Proofs.YtlllnjhgjijnkaaGreatDoor.Nx
open Go
variable {P:Program}{N:Nat}{Γ:dP}
abbrev eRg:Elt:=⟨2,8⟩
def lU(l:List (Int × Int)):List (List D):=l.map fun p=>[.sc (.int .i32 p.1),.sc (.int .i32 p.2)]
theorem qY{l:List (Int × Int)}:(lU l).length=l.length:=by simp[lU]
theorem Gn{l:List (Int × Int)}{i:Nat}(hi:i<l.length):(lU l).getD i []=[.sc (.int .i32 l[i].1),.sc (.int .i32 l[i].2)]:=by
 rw[zC,lU,zK,zB hi];rfl
def Gp:List (Int × Int):=[(768,879),(6832,6911),(7616,7679),(8203,8207),(8400,8447),(65024,65039),(65056,65071)]
def Rt:List (Int × Int):=[(4352,4447),(11904,12350),(12353,13311),(13312,19903),(19968,40959),(40960,42191),(44032,55203),(63744,64255),(65072,65135),(65280,65376),(65504,65510),(127744,128591),(129280,129535),(131072,262141)]
def inR(l:List (Int × Int))(r:Int):Bool:=l.any fun p=>decide (p.1≤r)&&decide (r≤p.2)
def markC(r:Int):Bool:=inR Gp r
def gU(r:Int):Int:=if r<32∨(127≤r∧r≤159) then -1 else if markC r then 0 else if inR Rt r then 2 else 1
theorem aIp{f:FuncId}(H:FnIs P f N [.t 0] jG):FnP Γ P f [] (.d (.sl eRg (lU Gp))):=by
 refine .of_W H (by simp) ?_;unfold jG;refine wR ?_;simp only[xq,reduceIte,qE,qA,qL,qD];refine wR ?_;simp only[xq,reduceIte,qE,qA,qL,qD];refine cT (.frz ?_);simp only[xq,reduceIte,qE,qA,qL,qD];exact iJ (id:=0) (full:=true) (e:=eRg) (rows:=lU Gp) rfl
theorem aIq{f:FuncId}(H:FnIs P f N [.t 0] mF):FnP Γ P f [] (.d (.sl eRg (lU Rt))):=by
 refine .of_W H (by simp) ?_;unfold mF;refine wR ?_;simp only[xq,reduceIte,qE,qA,qL,qD];refine wR ?_;simp only[xq,reduceIte,qE,qA,qL,qD];refine cT (.frz ?_);simp only[xq,reduceIte,qE,qA,qL,qD];exact iJ (id:=0) (full:=true) (e:=eRg) (rows:=lU Rt) rfl
theorem Yb{f f1:FuncId}(H:FnIs P f N [.t 2] (iT f1))(hN:1≤N)(rows:List (List D)):FnP Γ P f [.d (.sl eRg rows)] (.fn f1 [.iptr [.sl eRg rows]]):=by
 refine .of_W H (by simpa using hN) ?_;unfold iT;refine wR ?_;simp only[xq,reduceIte,qE,qA,qL,qD];refine wR ?_;simp only[xq,reduceIte,qE,qA,qL,qD];refine cT (.frz ?_);simp only[xq,reduceIte,qE,qA,qL,qD];refine .fn rfl fun j y hj=>?_;cases j with
 | zero =>
  cases hj;refine FrzA.iptr (rows:=[[.d (.sl eRg rows)]]) (i:=0) (off:=0) (id:=0) (zI 0) rfl rfl fun k d hk=>?_;cases k with
  | zero=>cases hk;exact⟨by simp,.d _⟩
  | succ k=>simp at hk
 | succ j=>simp at hj
def Cw(l:List (Int × Int)):Prop:=∀ j,j<l.length→∀ i,i<j→(l.getD i (0,0)).1≤(l.getD j (0,0)).1∧(l.getD i (0,0)).2≤(l.getD j (0,0)).2
theorem Cw.le{l:List (Int × Int)}(h:Cw l){i j:Nat}(hij:i≤j)(hj:j<l.length):(l[i]'(by omega)).1≤l[j].1∧(l[i]'(by omega)).2≤l[j].2:=by
 rcases Nat.lt_or_ge i j with h1 | h1
 ·have:=h j hj i h1;rw[zC,zC,zB hj,zB (by omega)] at this;exact this
 ·have:i=j:=by omega
  subst this;exact⟨Int.le_refl _,Int.le_refl _⟩
theorem aAg:Cw Gp:=by unfold Cw;decide
theorem aBI:Cw Rt:=by unfold Cw;decide
theorem aNp{l:List (Int × Int)}(h:Cw l){r:Int}{k:Nat}(hk:k<l.length)(h1:∀ i (hi:i<l.length),i<k→l[i].2<r)(h2:r≤l[k].2):inR l r=decide (l[k].1≤r):=by
 rw[ze];simp only[inR,aQ,zf,decide_eq_true_eq];constructor
 ·rintro⟨p,hp,hp1,hp2⟩;obtain⟨i,hi,rfl⟩:=aK.1 hp;rcases Nat.lt_or_ge i k with hik | hik
  ·have:=h1 i hi hik;omega
  ·have:=(h.le hik hi).1;omega
 ·intro Cb;exact⟨l[k],aR hk,Cb,h2⟩
theorem aIr{l:List (Int × Int)}{r:Int}(h1:∀ i (hi:i<l.length),l[i].2<r):inR l r=false:=by
 rw[aE];intro h;simp only[inR,aQ,zf,decide_eq_true_eq] at h;obtain⟨p,hp,hp1,hp2⟩:=h;obtain⟨i,hi,rfl⟩:=aK.1 hp;have:=h1 i hi;omega
theorem Ru{f:FuncId}(H:FnIs P f N [.t 3] iB)(hN:2≤N){l:List (Int × Int)}(hs:Cw l)(hl:l.length≤1000)(r:Int) :
  FnP Γ P f [.sc (.int .i32 r),.iptr [.sl eRg (lU l)]] (.bool (inR l r)):=by
 refine .of_W H (by simpa using hN) ?_;unfold iB;refine wR ?_;simp only[xq,reduceIte,qE,qA,qL,qD];refine cN (eD (by simp) ?_);simp only[xq,reduceIte,qE,qA,qL,qD,qY];let S:Nat→Nat→St:=fun i j=>⟨dB [(0,.sc (.int .i32 r)),(1,.iptr [.sl eRg (lU l)]),(4,.int i),(5,.int j)],[]⟩;refine dX (s':=S 0 l.length) (Co.keep _ (by simp[cJ,cK])) ?_;refine cN (cS ?_);refine dN (fun m s=>∃ i j,i≤j∧j≤l.length∧m=j-i∧s=S i j∧(∀ k (hk:k<l.length),k<i→l[k].2<r)∧(∀ k (hk:k<l.length),j≤k→r≤l[k].2)) ⟨0,l.length,zI _,zL _,rfl,rfl,fun _ _ h=>by omega,fun _ _ h=>by omega⟩ ?_;rintro m s ⟨i,j,hij,hj,rfl,rfl,On,Vq⟩;refine cN (wR ?_);simp only[xq,reduceIte,qE,qA,qL,qD,S];refine cL rfl (fun hc=>cQ ?_) (fun hc=>dJ ?_)
 ·have cY:i<j:=by simpa using hc
  simp only[xq,reduceIte,qE,qA,qL,qD];have e1:IntKind.i64.wrap ((i:Int)+(j:Int))=(i:Int)+(j:Int):=cX (by omega);have e2:IntKind.i64.wrap (((i:Int)+(j:Int)).tdiv 2)=(((i+j) / 2:Nat):Int):=by
   rw[Int.tdiv_eq_ediv_of_nonneg (by omega),cX (by omega)];omega
  have Vr:i≤(i+j) / 2:=by omega
  have hm2:(i+j) / 2<j:=by omega
  generalize (i+j) / 2=mid at e2 Vr hm2;have hml:mid<l.length:=by omega
  refine cS (wR ?_);simp only[xq,reduceIte,qE,qA,qL,qD,Rl (k:=.i64) (show(2:Int)≠0 by decide),e1,e2];refine wR ?_;simp only[xq,reduceIte,qE,qA,qL,qD,Gn hml,qY,show Int.toNat 1=1 from rfl,Nat.mul_one];refine⟨by omega,by omega,by decide,by decide,?_⟩;refine cL rfl (fun hd=>cU ?_) (fun hd=>cU ?_)
  ·have hgt:l[mid].2<r:=by simpa using hd
   simp only[xq,reduceIte,qE,qA,qL,qD];refine⟨j-(mid+1),S (mid+1) j,by omega,Co.keep _ ?_,mid+1,j,by omega,hj,rfl,rfl,fun k hk Mt=>?_,Vq⟩
   ·simp[cJ,cK,gB hml (show l.length≤dL by simp only[dL];omega)]
   ·have:=(hs.le (show k≤mid by omega) hml).2;omega
  ·have gZ:r≤l[mid].2:=by simp at hd;omega
   simp only[xq,reduceIte,qE,qA,qL,qD];refine⟨mid-i,S i mid,by omega,Co.keep _ ?_,i,mid,Vr,by omega,rfl,rfl,On,fun k hk Mt=>?_⟩
   ·simp[cJ,cK]
   ·have:=(hs.le Mt hk).2;omega
 ·have gZ:i=j:=by simp at hc;omega
  subst gZ;simp only[xq,reduceIte,qE,qA,qL,qD]
  by_cases Qe:i<l.length
  ·have d1:decide ((i:Int)<(l.length:Int))=true:=decide_eq_true (by omega);refine wR ?_;simp only[xq,reduceIte,qE,qA,qL,qD,Gn Qe,qY,d1,Nat.zero_mul];refine⟨by omega,by omega,by decide,by decide,?_⟩;refine cT (.tmp ?_ rfl);simp only[cJ,reduceIte,aNp hs Qe (fun k hk Mt=>On k hk Mt) (Vq i Qe (zL _))]
  ·have d1:decide ((i:Int)<(l.length:Int))=false:=decide_eq_false (by omega);refine wR ?_;simp only[xq,reduceIte,qE,qA,qL,qD,qY,d1];refine cT (.tmp ?_ rfl);simp only[cJ,reduceIte,aIr (fun k hk=>On k hk (by omega))]
theorem aE3{f fm ff f1:FuncId}{Nm Nf N1:Nat}(H:FnIs P f N [.t 2] (mE fm ff))(hN:1≤N)(Hm:FnIs P fm Nm [.t 0] jG)(Hf:FnIs P ff Nf [.t 2] (iT f1))(hNf:1≤Nf)(H1:FnIs P f1 N1 [.t 3] iB)(hN1:2≤N1)(r:Int) :
  FnP Γ P f [.sc (.int .i32 r)] (.bool (markC r)):=by
 refine .of_W H (by simpa using hN) ?_;unfold mE;refine wR ?_;simp only[xq,reduceIte,qE,qA,qL,qD];refine wR ?_;simp only[xq,reduceIte,qE,qA,qL,qD];refine dF (aIp Hm) rfl ?_;simp only[xq,reduceIte,qE,qA,qL,qD];refine dF (Yb Hf hNf _) rfl ?_;simp only[xq,reduceIte,qE,qA,qL,qD];refine aIf (Ru H1 hN1 aAg (by decide) r) rfl ?_;simp only[xq,reduceIte,qE,qA,qL,qD];refine cT (.tmp ?_ rfl);simp only[cJ,reduceIte,markC]
theorem aGb{f fk fm fw ff f1:FuncId}{Nk Nm Nw Nf N1:Nat}(H:FnIs P f N [.t 2] (pQ fk fw ff))(hN:1≤N)(Hk:FnIs P fk Nk [.t 2] (mE fm ff))(hNk:1≤Nk)(Hm:FnIs P fm Nm [.t 0] jG)
  (Hw:FnIs P fw Nw [.t 0] mF) (Hf:FnIs P ff Nf [.t 2] (iT f1)) (hNf:1≤Nf) (H1:FnIs P f1 N1 [.t 3] iB) (hN1:2≤N1) (r:Int) :
  FnP Γ P f [.sc (.int .i32 r)] (.int (gU r)):=by
 refine .of_W H (by simpa using hN) ?_;unfold pQ;refine wR ?_;simp only[xq,reduceIte,qE,qA,qL,qD];let S:Bool→St:=fun b=>⟨dB [(0,.sc (.int .i32 r)),(3,.bool b)],[]⟩;refine cN (cS (lT (· = S (decide (r<32)||(decide (127≤r)&&decide (r≤159)))) rfl (fun K hK=>?_) ?_))
 ·cases h1:decide (r<32) with
  | true =>
   simp only[xq,reduceIte,qE,qA,qL,qD,h1];exact hK _ (S true) (Co.keep _ (by simp[cJ,cK])) (by rw[h1,aP])
  | false =>
   cases h2:decide (127≤r) with
   | true =>
    simp only[xq,reduceIte,qE,qA,qL,qD,h1,h2];exact hK _ (S (decide (r≤159))) (Co.keep _ (by simp[cJ,cK])) (by rw[h1,h2,aI,Bool.true_and])
   | false =>
    simp only[xq,reduceIte,qE,qA,qL,qD,h1,h2];exact hK _ (S false) (Co.keep _ (by simp[cJ,cK])) (by rw[h1,h2,aI,Bool.false_and])
 ·rintro _ rfl;refine cL rfl (fun hc=>?_) (fun hc=>?_)
  ·have Xg:r<32∨(127≤r∧r≤159):=by simpa using hc
   refine wR ?_;simp only[S,xq,reduceIte,qE,qA,qL,qD];refine cT ?_;simp only[xq,reduceIte,qE,qA,qL,qD];refine .tmp ?_ rfl;simp only[cJ,reduceIte,gU,Xg]
  ·have Xg:¬ (r<32∨(127≤r∧r≤159)):=by
    intro h;rw[aE] at hc;exact hc (by simpa using h)
   refine wR ?_;simp only[S,xq,reduceIte,qE,qA,qL,qD];refine dF (aE3 Hk hNk Hm Hf hNf H1 hN1 r) rfl ?_;simp only[xq,reduceIte,qE,qA,qL,qD];refine cL rfl (fun hm=>?_) (fun hm=>?_)
   ·refine wR ?_;simp only[xq,reduceIte,qE,qA,qL,qD];refine cT ?_;simp only[xq,reduceIte,qE,qA,qL,qD];refine .tmp ?_ rfl;simp only[cJ,reduceIte,gU,Xg,hm]
   ·refine wR ?_;simp only[xq,reduceIte,qE,qA,qL,qD];refine dF (aIq Hw) rfl ?_;simp only[xq,reduceIte,qE,qA,qL,qD];refine dF (Yb Hf hNf _) rfl ?_;simp only[xq,reduceIte,qE,qA,qL,qD];refine aIf (Ru H1 hN1 aBI (by decide) r) rfl ?_;simp only[xq,reduceIte,qE,qA,qL,qD];refine cL rfl (fun hw=>?_) (fun hw=>cQ ?_)
    ·refine wR ?_;simp only[xq,reduceIte,qE,qA,qL,qD];refine cT ?_;simp only[xq,reduceIte,qE,qA,qL,qD];refine .tmp ?_ rfl;simp only[cJ,reduceIte,gU,Xg,hm,hw,aM]
    ·simp only[xq,reduceIte,qE,qA,qL,qD];refine wR ?_;simp only[xq,reduceIte,qE,qA,qL,qD];refine cT (.tmp ?_ rfl);simp only[cJ,reduceIte,gU,Xg,hm,hw,aM]
end Go.Proofs.YtlllnjhgjijnkaaGreatDoor.Nx
namespace Go.Proofs.YtlllnjhgjijnkaaGreatDoor.Nx
open Go Go.Lib
variable {P:Program}{N:Nat}{Γ:dP}
abbrev eRn:Elt:=⟨1,4⟩
def gL(l:List Nat):List (List D):=l.map nE
theorem gM{l:List Nat}:(gL l).length=l.length:=by simp[gL]
theorem Rv{l:List Nat}{i:Nat}(hi:i<l.length):(gL l).getD i []=[.sc (.int .i32 l[i])]:=by
 rw[zC,gL,zK,zB hi];rfl
def validS(s:ByteArray):Bool:=validD s.data.toList
def Vz:List Nat→Int
 | []=>3
 | r::l=>if gU r<1∨(l.all fun n=>markC n)=false then 9 else if 3<l.length then 5 else 0
def sV(s:ByteArray):Int:=if s.size=0∨validS s=false then 3 else Vz (eI s)
def xD(s:ByteArray):List Nat:=if sV s=0 then eI s else []
def Jl(s:ByteArray):Int:=match xD s with
 | []=>0
 | r::_=>gU r
theorem aGc{f fk:FuncId}(H:FnIs P f N [.t 2] (qW fk))(hN:1≤N)(Hk:∀ r,FnP Γ P fk [.sc (.int .i32 r)] (.bool (markC r)))(l:List Nat):FnP Γ P f [.d (.sl eRn (gL l))] (.bool (l.all fun n=>markC n)):=by
 refine .of_W H (by simpa using hN) (xR 0 rfl fun⟨_,dT,_⟩=>?_);have vI:l.length≤dL:=fI (by rw[gM] at dT;exact dT);unfold qW;refine wR ?_;simp only[xq,reduceIte,qE,qA,qL,qD];refine cN (wR ?_);simp only[xq,reduceIte,qE,qA,qL,qD,gM];refine cS ?_;let S:Nat→St:=fun i=>⟨dB [(5,.d (.sl eRn (gL l))),(6,.int l.length),(7,.int i)],[]⟩;refine dX (s':=S 0) (Co.keep _ (by simp[cJ,cK])) ?_;refine dN (fun m s=>∃ i,i≤l.length∧m=l.length-i∧s=S i∧(l.take i).any (fun n => !markC n)=false) ⟨0,zI _,rfl,rfl,by simp⟩ ?_;rintro m s ⟨i,hi,rfl,rfl,dZ⟩;refine wR ?_;simp only[xq,reduceIte,qE,qA,qL,qD,S];refine cN (cL rfl (fun hc=>cQ ?_) (fun hc=>dJ ?_))
 ·have cY:i<l.length:=by simpa using hc
  simp only[xq,reduceIte,qE,qA,qL,qD];refine cN (cS (wR ?_));simp only[xq,reduceIte,qE,qA,qL,qD,Rv cY,gM];refine⟨by omega,by omega,?_⟩;refine wR ?_;simp only[xq,reduceIte,qE,qA,qL,qD];refine dF (Hk _) rfl ?_;simp only[xq,reduceIte,qE,qA,qL,qD];refine cL rfl (fun hd=>?_) (fun hd=>cQ ?_)
  ·refine wR ?_;simp only[xq,reduceIte,qE,qA,qL,qD];refine cT ?_;simp only[xq,reduceIte,qE,qA,qL,qD];refine .tmp ?_ rfl;have:(l.all fun n=>markC n)=false:=by
    rw[List.all_eq_false];exact⟨l[i],aR cY,by simpa using hd⟩
   simp only[cJ,reduceIte,this]
  ·simp only[xq,reduceIte,qE,qA,qL,qD];refine cU ?_;simp only[xq,reduceIte,qE,qA,qL,qD];refine⟨l.length-(i+1),S (i+1),by omega,Co.keep _ ?_,i+1,cY,rfl,rfl,lF cY dZ hd⟩;simp[cJ,cK,gB cY vI]
 ·have gZ:i=l.length:=by simp at hc;omega
  subst gZ;rw[List.take_length] at dZ;simp only[xq,reduceIte,qE,qA,qL,qD];refine wR ?_;simp only[xq,reduceIte,qE,qA,qL,qD];refine cT (.tmp ?_ rfl);have:(l.all fun n=>markC n)=true:=by
   rw[List.all_eq_true];intro n hn;have h2:=List.any_eq_false.1 dZ n hn;simpa using h2
  simp only[cJ,reduceIte,this]
theorem aIs{f fv:FuncId}(H:FnIs P f N [.t 2] (nO fv))(hN:1≤N)(Hv:∀ s:ByteArray,s.size≤1000→FnP Γ P fv [.str s] (.bool (validS s)))(s:ByteArray)(hs:s.size≤1000):FnP Γ P f [.str s] (.bool (validS s)):=by
 refine .of_W H (by simpa using hN) ?_;unfold nO;refine wR ?_;simp only[xq,reduceIte,qE,qA,qL,qD];refine wR ?_;simp only[xq,reduceIte,qE,qA,qL,qD];refine dF (Hv s hs) rfl ?_;simp only[xq,reduceIte,qE,qA,qL,qD];refine cT (.tmp ?_ rfl);simp only[cJ,reduceIte]
theorem Nn{s:ByteArray}:s=⟨#[]⟩↔s.size=0:=by
 constructor
 ·rintro rfl;rfl
 ·intro h;rcases s with⟨⟨l⟩⟩;cases l with
  | nil=>rfl
  | cons a l=>simp[ByteArray.size] at h
theorem aIt{f fv fw fk:FuncId}(H:FnIs P f N [.t 2] (sR fv fw fk))(hN:1≤N)(Hv:∀ s:ByteArray,s.size≤1000→FnP Γ P fv [.str s] (.bool (validS s)))(Hw:∀ r,FnP Γ P fw [.sc (.int .i32 r)] (.int (gU r)))
  (Hk:∀ l,FnP Γ P fk [.d (.sl eRn (gL l))] (.bool (l.all fun n=>markC n))) (s:ByteArray) (hs:s.size≤1000):FnP Γ P f [.str s] (.int (sV s)):=by
 refine .of_W H (by simpa using hN) ?_;unfold sR;refine wR ?_;simp only[xq,reduceIte,qE,qA,qL,qD];let S:Bool→St:=fun b=>⟨dB [(0,.str s),(10,.bool b)],[]⟩;have e0:decide (s=⟨#[]⟩)=decide (s.size=0):=by rw[ze];simp only[decide_eq_true_eq];exact Nn
 refine cN (lT (· = S (decide (s.size=0) || !validS s)) rfl (fun K hK=>?_) ?_)
 ·cases h0:decide (s.size=0) with
  | true =>
   simp only[xq,reduceIte,qE,qA,qL,qD,e0,h0];exact hK _ (S true) (Co.keep _ (by simp[cJ,cK])) (by rw[h0,aP])
  | false =>
   simp only[xq,reduceIte,qE,qA,qL,qD,e0,h0];refine dF (Hv s hs) rfl ?_;simp only[xq,reduceIte,qE,qA,qL,qD];exact hK _ (S (!validS s)) (Co.keep _ (by simp[cJ,cK])) (by rw[h0,aI])
 ·rintro _ rfl;refine cL rfl (fun hc=>?_) (fun hc=>cQ ?_)
  ·refine wR ?_;simp only[S,xq,reduceIte,qE,qA,qL,qD];refine cT (.tmp ?_ rfl);have:s.size=0∨validS s=false:=by simpa using hc
   simp only[cJ,reduceIte,sV,this]
  ·have hno:¬ (s.size=0∨validS s=false):=by
    intro h;rw[aE] at hc;exact hc (by simpa using h)
   have hv:validS s=true:=by
    cases h:validS s with
    | true=>rfl
    | false=>exact absurd (.inr h) hno
   have fM:=Rs hv (by omega);have eG:=Cv s;have aEB:sV s=Vz (eI s):=by rw[sV,if_neg hno]
   rw[aEB];have tH:(eI s).map nE=gL (eI s):=rfl;have hrm:(eI s).length * 4≤dL:=by simp only[dL];omega
   simp only[S,xq,reduceIte,qE,qA,qL,qD];refine wR ?_;simp only[xq,reduceIte,qE,qA,qL,qD,aL1,aO7,tH];refine⟨hrm,?_⟩;generalize eI s=l at fM eG;cases l with
   | nil=>exact absurd rfl fM
   | cons r l =>
    have hr0:(gL (r::l)).getD 0 []=[.sc (.int .i32 r)]:=rfl;have hd1:(gL (r::l)).drop 1=gL l:=rfl;have ht:(gL l).take ((((r::l).length:Nat):Int)-1).toNat=gL l:=by
     refine List.take_of_length_le ?_;rw[gM];simp
    let T:Bool→St:=fun b=>⟨dB [(3,.d (.sl eRn (gL (r::l)))),(13,.bool b)],[]⟩;refine cN (cS (lT (· = T (decide (gU r<1) || !(l.all fun n=>markC n))) rfl (fun K hK=>?_) ?_))
    ·simp only[xq,reduceIte,qE,qA,qL,qD,gM,hr0];refine⟨by decide,by simp,?_⟩;refine dF (Hw _) rfl ?_;cases h1:decide (gU r<1) with
     | true =>
      simp only[xq,reduceIte,qE,qA,qL,qD,h1];exact hK _ (T true) (Co.keep _ (by simp[cJ,cK])) (by rw[h1,aP])
     | false =>
      simp only[xq,reduceIte,qE,qA,qL,qD,h1,gM,show Int.toNat 1=1 from rfl,hd1];refine⟨by decide,by simp;omega,by omega,by omega,?_⟩;have Kx:=ht;simp only[za] at Kx;simp only[Kx];refine dF (Hk l) rfl ?_;simp only[xq,reduceIte,qE,qA,qL,qD];exact hK _ (T (!(l.all fun n=>markC n))) (Co.keep _ (by simp[cJ,cK])) (by rw[h1,aI])
    ·rintro _ rfl;refine cL rfl (fun hd=>?_) (fun hd=>?_)
     ·refine wR ?_;simp only[T,xq,reduceIte,qE,qA,qL,qD];refine cT ?_;simp only[xq,reduceIte,qE,qA,qL,qD];refine .tmp ?_ rfl;have:gU r<1∨(l.all fun n=>markC n)=false:=by simpa using hd
      simp only[cJ,reduceIte,Vz,this]
     ·have aJ8:¬ (gU r<1∨(l.all fun n=>markC n)=false):=by
       intro h;rw[aE] at hd;exact hd (by simpa using h)
      have e1:IntKind.i64.wrap (((l.length+1:Nat):Int)-1)=(l.length:Int):=xT (by simp only[dL];simp at eG;omega);refine wR ?_;simp only[T,xq,reduceIte,qE,qA,qL,qD,gM,e1];refine cL rfl (fun h3=>?_) (fun h3=>cQ ?_)
      ·refine wR ?_;simp only[xq,reduceIte,qE,qA,qL,qD];refine cT ?_;simp only[xq,reduceIte,qE,qA,qL,qD];refine .tmp ?_ rfl;have:3<l.length:=by simp at h3;omega
       simp only[cJ,reduceIte,Vz,aJ8,this]
      ·simp only[xq,reduceIte,qE,qA,qL,qD];refine wR ?_;simp only[xq,reduceIte,qE,qA,qL,qD];refine cT (.tmp ?_ rfl);have:¬ 3<l.length:=by simp at h3;omega
       simp only[cJ,reduceIte,Vz,aJ8,this]
theorem aIu{f fc:FuncId}(H:FnIs P f N [.t 2] (sU fc))(hN:1≤N)(Hc:∀ s:ByteArray,s.size≤1000→FnP Γ P fc [.str s] (.int (sV s)))(s:ByteArray)(hs:s.size≤1000):FnP Γ P f [.str s] (.d (.sl eRn (gL (xD s)))):=by
 refine .of_W H (by simpa using hN) ?_;have eG:=Cv s;have hrm:(eI s).length * 4≤dL:=by simp only[dL];omega
 have tH:(eI s).map nE=gL (eI s):=rfl;unfold sU;refine wR ?_;simp only[xq,reduceIte,qE,qA,qL,qD];refine cN (wR ?_);simp only[xq,reduceIte,qE,qA,qL,qD];refine dF (Hc s hs) rfl ?_;simp only[xq,reduceIte,qE,qA,qL,qD];refine cL rfl (fun hc=>?_) (fun hc=>cQ ?_)
 ·refine wR ?_;simp only[xq,reduceIte,qE,qA,qL,qD];refine cT (.frz ?_);have:¬ sV s=0:=by simpa using hc
  simp only[xq,reduceIte,qE,qA,qL,qD,xD,if_neg this];exact .d (.nil _)
 ·have:sV s=0:=by simpa using hc
  simp only[xq,reduceIte,qE,qA,qL,qD];refine wR ?_;simp only[xq,reduceIte,qE,qA,qL,qD,aL1,aO7,tH];refine⟨hrm,?_⟩;refine cT (.tmp ?_ rfl);simp only[cJ,reduceIte,xD,if_pos this]
theorem aGd{f fr fw:FuncId}(H:FnIs P f N [.t 2] (sS fr fw))(hN:1≤N)(Hr:∀ s:ByteArray,s.size≤1000→FnP Γ P fr [.str s] (.d (.sl eRn (gL (xD s)))))(Hw:∀ r,FnP Γ P fw [.sc (.int .i32 r)] (.int (gU r)))(s:ByteArray)(hs:s.size≤1000) :
  FnP Γ P f [.str s] (.int (Jl s)):=by
 refine .of_W H (by simpa using hN) ?_;unfold sS;refine wR ?_;simp only[xq,reduceIte,qE,qA,qL,qD];refine cN (wR ?_);simp only[xq,reduceIte,qE,qA,qL,qD];refine dF (Hr s hs) rfl ?_;simp only[xq,reduceIte,qE,qA,qL,qD];refine wR ?_;simp only[xq,reduceIte,qE,qA,qL,qD,gM];unfold Jl;generalize xD s=l;refine cL rfl (fun hc=>?_) (fun hc=>cQ ?_)
 ·cases l with
  | nil=>cases hc
  | cons r l =>
   have hr0:(gL (r::l)).getD 0 []=[.sc (.int .i32 r)]:=rfl;refine wR ?_;simp only[xq,reduceIte,qE,qA,qL,qD,gM,hr0];refine⟨by decide,by simp,?_⟩;refine dF (Hw _) rfl ?_;simp only[xq,reduceIte,qE,qA,qL,qD];refine cT ?_;simp only[xq,reduceIte,qE,qA,qL,qD];refine .tmp ?_ rfl;simp only[cJ,reduceIte]
 ·have:l=[]:=by
   cases l with
   | nil=>rfl
   | cons r l=>simp at hc
  subst this;simp only[xq,reduceIte,qE,qA,qL,qD];refine wR ?_;simp only[xq,reduceIte,qE,qA,qL,qD];refine cT (.tmp ?_ rfl);simp only[cJ,reduceIte]
end Go.Proofs.YtlllnjhgjijnkaaGreatDoor.Nx

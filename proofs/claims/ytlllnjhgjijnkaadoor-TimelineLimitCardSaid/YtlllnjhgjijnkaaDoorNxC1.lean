import Derived.Test.YtlllnjhgjijnkaaDoorNxCore
import Derived.Lib.ValidAsc
import Derived.Test.YtlllnjhgjijnkaaDoorNxD15
import Derived.Test.YtlllnjhgjijnkaaDoorNxWalk
set_option linter.unusedSimpArgs false
set_option linter.unusedVariables false
set_option linter.unnecessarySimpa false
open List renaming getElem?_eq_getElem → zB, getD_eq_getElem?_getD → zC, getElem?_map → zK, length_cons → za, length_append → zb, length_nil → zq, length_drop → zt
open Nat renaming zero_le → zI, le_refl → zL
open Nat renaming reduceEqDiff → qE, reduceAdd → qA, reduceLT → qL, reduceLeDiff → qD
namespace Go.Proofs.YtlllnjhgjijnkaaDoor.Nx
open Go Go.Lib
def scalar (r:Nat):Prop:=r<55296∨(57344≤r∧r≤1114111)
instance (r:Nat):Decidable (scalar r):=by unfold scalar;infer_instance
def encN (r:Nat):List Nat :=
 if r<128 then [r] else if r<2048 then [192+r / 64,128+r % 64] else if r<65536 then [224+r / 4096,128+r / 64 % 64,128+r % 64]
 else [240+r / 262144,128+r / 4096 % 64,128+r / 64 % 64,128+r % 64]
def enc (r:Nat):List UInt8:=(encN r).map UInt8.ofNat
def encs (l:List Nat):List UInt8:=l.flatMap enc
theorem encN_lt {r:Nat} (h:r≤1114111):∀ b∈encN r,b<256:=by
 intro b hb
 unfold encN at hb
 split at hb
 ·simp at hb;omega
 ·split at hb
  ·simp at hb;omega
  ·split at hb
   ·simp at hb;omega
   ·simp at hb;omega
theorem scalar_le {r:Nat} (h:scalar r):r≤1114111:=by unfold scalar at h;omega
theorem enc_nat {r:Nat} (h:r≤1114111):(enc r).map UInt8.toNat=encN r:=by
 have hlt:=encN_lt h
 unfold enc
 rw [List.map_map]
 conv=>rhs;rw [← List.map_id (encN r)]
 refine List.map_congr_left fun b hb=>?_
 have:=hlt b hb
 simp [Function.comp,UInt8.toNat_ofNat']
 omega
theorem encN_ne (r:Nat):encN r≠[]:=by
 unfold encN
 split
 ·simp
 ·split
  ·simp
  ·split<;>simp
theorem enc_ne (r:Nat):enc r≠[]:=by simp [enc,encN_ne]
def nb (l:List UInt8) (i:Nat):Nat:=(l.getD i 0).toNat
theorem nb_lt (l:List UInt8) (i:Nat):nb l i<256:=(l.getD i 0).toNat_lt
theorem nb_app {a b:List UInt8} {i:Nat} (h:i<a.length):nb (a++b) i=nb a i:=by
 unfold nb;rw [zC,zC,List.getElem?_append_left h]
theorem nb_map {l:List UInt8} {i:Nat} (h:i<l.length):nb l i=(l.map UInt8.toNat).getD i 0:=by
 unfold nb;rw [zC,zC,zK,zB h];rfl
theorem dec_N (l:List UInt8):decodeL l=decodeN l.length (nb l 0) (nb l 1) (nb l 2) (nb l 3):=decodeL_N l
theorem enc_len {r:Nat}:(enc r).length=(encN r).length:=by simp [enc]
set_option maxHeartbeats 1000000 in
theorem dec_enc {r:Nat} (h:scalar r) (t:List UInt8):decodeL (enc r++t)=(r,(enc r).length):=by
 have hle:=scalar_le h
 have hn:=enc_nat hle
 rw [dec_N]
 have g:∀ i,i<(encN r).length→nb (enc r++t) i=(encN r).getD i 0:=fun i hi=>by
  rw [nb_app (by rw [enc_len];exact hi),nb_map (by rw [enc_len];exact hi),hn]
 have hl:(enc r++t).length=(encN r).length+t.length:=by rw [zb,enc_len]
 rw [enc_len,hl]
 unfold scalar at h
 by_cases c1:r<128
 ·have e:encN r=[r]:=by simp [encN,c1]
  rw [e] at g ⊢
  have g0:=g 0 (by simp)
  simp only [List.getD_cons_zero] at g0
  rw [g0]
  unfold decodeN
  rw [if_pos c1];rfl
 ·by_cases c2:r<2048
  ·have e:encN r=[192+r / 64,128+r % 64]:=by simp [encN,c1,c2]
   rw [e] at g ⊢
   have g0:=g 0 (by simp)
   have g1:=g 1 (by simp)
   simp only [List.getD_cons_zero,List.getD_cons_succ] at g0 g1
   rw [g0,g1]
   simp only [za,zq]
   unfold decodeN
   rw [if_neg (by omega),if_pos ⟨by omega,by omega,by omega⟩,if_pos (by omega)]
   refine Prod.ext ?_ rfl
   simp only
   omega
  ·by_cases c3:r<65536
   ·have e:encN r=[224+r / 4096,128+r / 64 % 64,128+r % 64]:=by simp [encN,c1,c2,c3]
    rw [e] at g ⊢
    have g0:=g 0 (by simp)
    have g1:=g 1 (by simp)
    have g2:=g 2 (by simp)
    simp only [List.getD_cons_zero,List.getD_cons_succ] at g0 g1 g2
    rw [g0,g1,g2]
    simp only [za,zq]
    unfold decodeN
    rw [if_neg (by omega),if_neg (by omega),if_pos ⟨by omega,⟨by omega,by omega⟩,by omega,by omega⟩,if_pos (by omega)]
    refine Prod.ext ?_ rfl
    simp only
    omega
   ·have e:encN r=[240+r / 262144,128+r / 4096 % 64,128+r / 64 % 64,128+r % 64]:=by simp [encN,c1,c2,c3]
    rw [e] at g ⊢
    have g0:=g 0 (by simp)
    have g1:=g 1 (by simp)
    have g2:=g 2 (by simp)
    have g3:=g 3 (by simp)
    simp only [List.getD_cons_zero,List.getD_cons_succ] at g0 g1 g2 g3
    rw [g0,g1,g2,g3]
    simp only [za,zq]
    unfold decodeN
    rw [if_neg (by omega),if_neg (by omega),if_neg (by omega),if_pos ⟨by omega,⟨by omega,by omega⟩,⟨by omega,by omega⟩,by omega,by omega⟩,if_pos (by omega)]
    refine Prod.ext ?_ rfl
    simp only
    omega
theorem decN_cases {n b0 b1 b2 b3 r k:Nat} (hn:1≤n) (h0:b0<256) (h1:b1<256) (h2:b2<256) (h3:b3<256) (h:decodeN n b0 b1 b2 b3=(r,k)) (hb:¬(r=65533∧k=1)) :
  scalar r∧((k=1∧encN r=[b0])∨(k=2∧2≤n∧encN r=[b0,b1])∨(k=3∧3≤n∧encN r=[b0,b1,b2])∨(k=4∧4≤n∧encN r=[b0,b1,b2,b3])):=by
 unfold decodeN at h
 split at h
 ·cases h
  refine ⟨.inl (by omega),.inl ⟨rfl,?_⟩⟩
  rw [encN,if_pos (by omega)]
 ·split at h
  ·split at h
   ·obtain ⟨rfl,rfl⟩:=Prod.mk.inj h
    refine ⟨by unfold scalar;omega,.inr (.inl ⟨rfl,by omega,?_⟩)⟩
    rw [encN,if_neg (by omega),if_pos (by omega)]
    congr 1
    ·omega
    ·congr 1;omega
   ·cases h;exact absurd ⟨rfl,rfl⟩ hb
  ·split at h
   ·split at h
    ·obtain ⟨rfl,rfl⟩:=Prod.mk.inj h
     refine ⟨by unfold scalar;omega,.inr (.inr (.inl ⟨rfl,by omega,?_⟩))⟩
     rw [encN,if_neg (by omega),if_neg (by omega),if_pos (by omega)]
     congr 1
     ·omega
     ·congr 1
      ·omega
      ·congr 1;omega
    ·cases h;exact absurd ⟨rfl,rfl⟩ hb
   ·split at h
    ·split at h
     ·obtain ⟨rfl,rfl⟩:=Prod.mk.inj h
      refine ⟨by unfold scalar;omega,.inr (.inr (.inr ⟨rfl,by omega,?_⟩))⟩
      rw [encN,if_neg (by omega),if_neg (by omega),if_neg (by omega)]
      congr 1
      ·omega
      ·congr 1
       ·omega
       ·congr 1
        ·omega
        ·congr 1;omega
     ·cases h;exact absurd ⟨rfl,rfl⟩ hb
    ·cases h;exact absurd ⟨rfl,rfl⟩ hb
theorem ofNat_nb (l:List UInt8) (i:Nat):UInt8.ofNat (nb l i)=l.getD i 0:=by simp [nb]
theorem take_nb:∀ (k:Nat) (l:List UInt8),k≤l.length→l.take k=(List.range k).map fun i=>UInt8.ofNat (nb l i)
 | k,l,h=>by
  refine List.ext_getElem (by simp;omega) fun i h1 h2=>?_
  simp only [List.getElem_take,List.getElem_map,List.getElem_range,ofNat_nb]
  have hi:i<l.length:=by simp at h1;omega
  rw [zC,zB hi];rfl
theorem enc_dec {l:List UInt8} {r k:Nat} (hne:l≠[]) (h:decodeL l=(r,k)) (hb:¬(r=65533∧k=1)):scalar r∧l=enc r++l.drop k:=by
 rw [dec_N] at h
 have hl:0<l.length:=List.length_pos_iff.2 hne
 obtain ⟨hs,hc⟩:=decN_cases hl (nb_lt _ _) (nb_lt _ _) (nb_lt _ _) (nb_lt _ _) h hb
 refine ⟨hs,?_⟩
 have key:k≤l.length→encN r=(List.range k).map (nb l)→l=enc r++l.drop k:=fun hk he=>by
  conv=>lhs;rw [← List.take_append_drop k l]
  congr 1
  rw [take_nb k l hk,enc,he,List.map_map];rfl
 rcases hc with ⟨rfl,he⟩ | ⟨rfl,hn,he⟩ | ⟨rfl,hn,he⟩ | ⟨rfl,hn,he⟩
 ·exact key hl he
 ·exact key hn he
 ·exact key hn he
 ·exact key hn he
theorem valid_app {r:Nat} (h:scalar r) (t:List UInt8):validD (enc r++t)=validD t:=by
 rw [validD_step _ (by simp [enc_ne]),dec_enc h t]
 rw [if_neg]
 ·rw [List.drop_left]
 ·rintro ⟨h1,h2⟩
  simp only at h1 h2
  subst h1
  revert h2;decide
theorem encs_valid:∀ (n:Nat) (l:List UInt8),l.length≤n→validD l=true→∃ rs,(∀ r∈rs,scalar r)∧l=encs rs
 | 0,l,hn,_=>⟨[],by simp,List.eq_nil_of_length_eq_zero (by omega)⟩
 | n+1,l,hn,h=>by
  by_cases hne:l=[]
  ·exact ⟨[],by simp,hne⟩
  rw [validD_step l hne] at h
  split at h
  ·cases h
  rename_i hb
  obtain ⟨hs,he⟩:=enc_dec hne (show decodeL l=((decodeL l).1,(decodeL l).2) from rfl) hb
  have hw:=decodeL_width l
  have hl:0<l.length:=List.length_pos_iff.2 hne
  obtain ⟨rs,hrs,hd⟩:=encs_valid n (l.drop (decodeL l).2) (by rw [zt];omega) h
  refine ⟨(decodeL l).1::rs,fun r hr=>?_,?_⟩
  ·rcases List.mem_cons.1 hr with rfl | hr
   ·exact hs
   ·exact hrs r hr
  ·rw [encs,List.flatMap_cons]
   conv=>lhs;rw [he,hd]
   rfl
theorem bytes_size (s:ByteArray):s.size=s.data.toList.length:=by rw [Array.length_toList];rfl
theorem runesGo_encs (s:ByteArray):∀ (b i:Nat) (rs:List Nat),(∀ r∈rs,scalar r)→s.data.toList.drop i=encs rs→i≤s.size→s.size-i≤b→runesGo s b i=rs
 | 0,i,rs,hs,h,hi,hb=>by
  have hsz:=bytes_size s
  have:s.data.toList.drop i=[]:=List.drop_eq_nil_of_le (by omega)
  rw [this] at h
  cases rs with
  | nil=>rfl
  | cons r rs=>rw [encs,List.flatMap_cons] at h;exact absurd h.symm (by simp [enc_ne])
 | b+1,i,rs,hs,h,hi,hb=>by
  have hsz:=bytes_size s
  unfold runesGo
  cases rs with
  | nil =>
   have:i=s.size:=by
    have:=congrArg List.length h
    rw [zt] at this
    simp [encs] at this;omega
   rw [if_neg (by omega)]
  | cons r rs =>
   have hlen:=congrArg List.length h
   rw [encs,List.flatMap_cons,zt,zb] at hlen
   have hpos:0<(enc r).length:=List.length_pos_iff.2 (enc_ne r)
   rw [if_pos (by omega),← decodeL_drop,h,encs,List.flatMap_cons,dec_enc (hs r (List.mem_cons_self ..))]
   congr 1
   refine runesGo_encs s b _ rs (fun r hr=>hs r (List.mem_cons_of_mem _ hr)) ?_ (by omega) (by omega)
   rw [← List.drop_drop,h,encs,List.flatMap_cons,List.drop_left];rfl
theorem runesOf_encs {s:ByteArray} {rs:List Nat} (hs:∀ r∈rs,scalar r) (h:s.data.toList=encs rs):runesOf s=rs :=
 runesGo_encs s s.size 0 rs hs (by simpa using h) (zI _) (by omega)
theorem runes_ne {s:ByteArray} (h:validD s.data.toList=true) (h0:0<s.size):runesOf s≠[]:=by
 obtain ⟨rs,hs,he⟩:=encs_valid _ s.data.toList (zL _) h
 rw [runesOf_encs hs he]
 rintro rfl
 have:=bytes_size s
 rw [he] at this
 have h2:(encs ([]:List Nat)).length=0:=rfl
 omega
theorem runesGo_len (s:ByteArray):∀ b i,(runesGo s b i).length≤b
 | 0,_=>zL _
 | b+1,i=>by
  unfold runesGo
  split
  ·have:=runesGo_len s b (i+(Utf8.decode s i).2)
   simp;omega
  ·simp
theorem runesOf_len (s:ByteArray):(runesOf s).length≤s.size:=runesGo_len s _ _
end Go.Proofs.YtlllnjhgjijnkaaDoor.Nx
namespace Go.Proofs.YtlllnjhgjijnkaaDoor.Nx
open Go
variable {P:Program} {N:Nat} {Γ:Tabs}
abbrev eRg:Elt:=⟨2,8⟩
def rgRows (l:List (Int × Int)):List (List D):=l.map fun p=>[.sc (.int .i32 p.1),.sc (.int .i32 p.2)]
theorem rgRows_len {l:List (Int × Int)}:(rgRows l).length=l.length:=by simp [rgRows]
theorem rgRows_get {l:List (Int × Int)} {i:Nat} (hi:i<l.length):(rgRows l).getD i []=[.sc (.int .i32 l[i].1),.sc (.int .i32 l[i].2)]:=by
 rw [zC,rgRows,zK,zB hi];rfl
def marksT:List (Int × Int):=[(768,879),(6832,6911),(7616,7679),(8203,8207),(8400,8447),(65024,65039),(65056,65071)]
def wideT:List (Int × Int):=[(4352,4447),(11904,12350),(12353,13311),(13312,19903),(19968,40959),(40960,42191),(44032,55203),(63744,64255),(65072,65135),(65280,65376),(65504,65510),(127744,128591),(129280,129535),(131072,262141)]
def inR (l:List (Int × Int)) (r:Int):Bool:=l.any fun p=>decide (p.1≤r)&&decide (r≤p.2)
def markC (r:Int):Bool:=inR marksT r
def widthC (r:Int):Int:=if r<32∨(127≤r∧r≤159) then -1 else if markC r then 0 else if inR wideT r then 2 else 1
theorem marks_fn {f:FuncId} (H:FnIs P f N [.t 0] x_charwidth_marks):FnP Γ P f [] (.d (.sl eRg (rgRows marksT))):=by
 refine .of_W H (by simp) ?_
 unfold x_charwidth_marks
 refine wR ?_
 simp only [xq,reduceIte,qE,qA,qL,qD]
 refine wR ?_
 simp only [xq,reduceIte,qE,qA,qL,qD]
 refine W_ret (.frz ?_)
 simp only [xq,reduceIte,qE,qA,qL,qD]
 exact frz_all (id:=0) (full:=true) (e:=eRg) (rows:=rgRows marksT) rfl
theorem wides_fn {f:FuncId} (H:FnIs P f N [.t 0] x_charwidth_Wide):FnP Γ P f [] (.d (.sl eRg (rgRows wideT))):=by
 refine .of_W H (by simp) ?_
 unfold x_charwidth_Wide
 refine wR ?_
 simp only [xq,reduceIte,qE,qA,qL,qD]
 refine wR ?_
 simp only [xq,reduceIte,qE,qA,qL,qD]
 refine W_ret (.frz ?_)
 simp only [xq,reduceIte,qE,qA,qL,qD]
 exact frz_all (id:=0) (full:=true) (e:=eRg) (rows:=rgRows wideT) rfl
theorem finder_fn {f f1:FuncId} (H:FnIs P f N [.t 2] (x_charwidth_finder f1)) (hN:1≤N) (rows:List (List D)):FnP Γ P f [.d (.sl eRg rows)] (.fn f1 [.iptr [.sl eRg rows]]):=by
 refine .of_W H (by simpa using hN) ?_
 unfold x_charwidth_finder
 refine wR ?_
 simp only [xq,reduceIte,qE,qA,qL,qD]
 refine wR ?_
 simp only [xq,reduceIte,qE,qA,qL,qD]
 refine W_ret (.frz ?_)
 simp only [xq,reduceIte,qE,qA,qL,qD]
 refine .fn rfl fun j y hj=>?_
 cases j with
 | zero =>
  cases hj
  refine FrzA.iptr (rows:=[[.d (.sl eRg rows)]]) (i:=0) (off:=0) (id:=0) (zI 0) rfl rfl fun k d hk=>?_
  cases k with
  | zero=>cases hk;exact ⟨by simp,.d _⟩
  | succ k=>simp at hk
 | succ j=>simp at hj
def Sorted (l:List (Int × Int)):Prop:=∀ j,j<l.length→∀ i,i<j→(l.getD i (0,0)).1≤(l.getD j (0,0)).1∧(l.getD i (0,0)).2≤(l.getD j (0,0)).2
theorem Sorted.le {l:List (Int × Int)} (h:Sorted l) {i j:Nat} (hij:i≤j) (hj:j<l.length):(l[i]'(by omega)).1≤l[j].1∧(l[i]'(by omega)).2≤l[j].2:=by
 rcases Nat.lt_or_ge i j with h1 | h1
 ·have:=h j hj i h1
  rw [zC,zC,zB hj,zB (by omega)] at this
  exact this
 ·have:i=j:=by omega
  subst this;exact ⟨Int.le_refl _,Int.le_refl _⟩
theorem marks_sorted:Sorted marksT:=by unfold Sorted;decide
theorem wide_sorted:Sorted wideT:=by unfold Sorted;decide
theorem inR_at {l:List (Int × Int)} (h:Sorted l) {r:Int} {k:Nat} (hk:k<l.length) (h1:∀ i (hi:i<l.length),i<k→l[i].2<r) (h2:r≤l[k].2):inR l r=decide (l[k].1≤r):=by
 rw [Bool.eq_iff_iff]
 simp only [inR,List.any_eq_true,Bool.and_eq_true,decide_eq_true_eq]
 constructor
 ·rintro ⟨p,hp,hp1,hp2⟩
  obtain ⟨i,hi,rfl⟩:=List.mem_iff_getElem.1 hp
  rcases Nat.lt_or_ge i k with hik | hik
  ·have:=h1 i hi hik;omega
  ·have:=(h.le hik hi).1;omega
 ·intro hk1
  exact ⟨l[k],List.getElem_mem hk,hk1,h2⟩
theorem inR_none {l:List (Int × Int)} {r:Int} (h1:∀ i (hi:i<l.length),l[i].2<r):inR l r=false:=by
 rw [Bool.eq_false_iff]
 intro h
 simp only [inR,List.any_eq_true,Bool.and_eq_true,decide_eq_true_eq] at h
 obtain ⟨p,hp,hp1,hp2⟩:=h
 obtain ⟨i,hi,rfl⟩:=List.mem_iff_getElem.1 hp
 have:=h1 i hi;omega
theorem finder1_fn {f:FuncId} (H:FnIs P f N [.t 3] x_charwidth_finder_1) (hN:2≤N) {l:List (Int × Int)} (hs:Sorted l) (hl:l.length≤1000) (r:Int) :
  FnP Γ P f [.sc (.int .i32 r),.iptr [.sl eRg (rgRows l)]] (.bool (inR l r)):=by
 refine .of_W H (by simpa using hN) ?_
 unfold x_charwidth_finder_1
 refine wR ?_
 simp only [xq,reduceIte,qE,qA,qL,qD]
 refine W_seq (W_drw (by simp) ?_)
 simp only [xq,reduceIte,qE,qA,qL,qD,rgRows_len]
 let S:Nat→Nat→St:=fun i j=>⟨look [(0,.sc (.int .i32 r)),(1,.iptr [.sl eRg (rgRows l)]),(4,.int i),(5,.int j)],[]⟩
 refine W_co (s':=S 0 l.length) (Co.keep _ (by simp [x_upd,x_look])) ?_
 refine W_seq (W_block ?_)
 refine W_loop (fun m s=>∃ i j,i≤j∧j≤l.length∧m=j-i∧s=S i j∧(∀ k (hk:k<l.length),k<i→l[k].2<r)∧(∀ k (hk:k<l.length),j≤k→r≤l[k].2)) ⟨0,l.length,zI _,zL _,rfl,rfl,fun _ _ h=>by omega,fun _ _ h=>by omega⟩ ?_
 rintro m s ⟨i,j,hij,hj,rfl,rfl,hlo,hhi⟩
 refine W_seq (wR ?_)
 simp only [xq,reduceIte,qE,qA,qL,qD,S]
 refine W_cond rfl (fun hc=>W_skip ?_) (fun hc=>W_exit ?_)
 ·have hlt:i<j:=by simpa using hc
  simp only [xq,reduceIte,qE,qA,qL,qD]
  have e1:IntKind.i64.wrap ((i:Int)+(j:Int))=(i:Int)+(j:Int):=i64_of (by omega)
  have e2:IntKind.i64.wrap (((i:Int)+(j:Int)).tdiv 2)=(((i+j) / 2:Nat):Int):=by
   rw [Int.tdiv_eq_ediv_of_nonneg (by omega),i64_of (by omega)];omega
  have hm1:i≤(i+j) / 2:=by omega
  have hm2:(i+j) / 2<j:=by omega
  generalize (i+j) / 2=mid at e2 hm1 hm2
  have hml:mid<l.length:=by omega
  refine W_block (wR ?_)
  simp only [xq,reduceIte,qE,qA,qL,qD,b_quo (k:=.i64) (show (2:Int)≠0 by decide),e1,e2]
  refine wR ?_
  simp only [xq,reduceIte,qE,qA,qL,qD,rgRows_get hml,rgRows_len,show Int.toNat 1=1 from rfl,Nat.mul_one]
  refine ⟨by omega,by omega,by decide,by decide,?_⟩
  refine W_cond rfl (fun hd=>W_reg ?_) (fun hd=>W_reg ?_)
  ·have hgt:l[mid].2<r:=by simpa using hd
   simp only [xq,reduceIte,qE,qA,qL,qD]
   refine ⟨j-(mid+1),S (mid+1) j,by omega,Co.keep _ ?_,mid+1,j,by omega,hj,rfl,rfl,fun k hk hk2=>?_,hhi⟩
   ·simp [x_upd,x_look,i64_succ hml (show l.length≤room by simp only [room];omega)]
   ·have:=(hs.le (show k≤mid by omega) hml).2;omega
  ·have hle:r≤l[mid].2:=by simp at hd;omega
   simp only [xq,reduceIte,qE,qA,qL,qD]
   refine ⟨mid-i,S i mid,by omega,Co.keep _ ?_,i,mid,hm1,by omega,rfl,rfl,hlo,fun k hk hk2=>?_⟩
   ·simp [x_upd,x_look]
   ·have:=(hs.le hk2 hk).2;omega
 ·have hle:i=j:=by simp at hc;omega
  subst hle
  simp only [xq,reduceIte,qE,qA,qL,qD]
  by_cases hin:i<l.length
  ·have d1:decide ((i:Int)<(l.length:Int))=true:=decide_eq_true (by omega)
   refine wR ?_
   simp only [xq,reduceIte,qE,qA,qL,qD,rgRows_get hin,rgRows_len,d1,Nat.zero_mul]
   refine ⟨by omega,by omega,by decide,by decide,?_⟩
   refine W_ret (.tmp ?_ rfl)
   simp only [x_upd,reduceIte,inR_at hs hin (fun k hk hk2=>hlo k hk hk2) (hhi i hin (zL _))]
  ·have d1:decide ((i:Int)<(l.length:Int))=false:=decide_eq_false (by omega)
   refine wR ?_
   simp only [xq,reduceIte,qE,qA,qL,qD,rgRows_len,d1]
   refine W_ret (.tmp ?_ rfl)
   simp only [x_upd,reduceIte,inR_none (fun k hk=>hlo k hk (by omega))]
theorem mark_fn {f fm ff f1:FuncId} {Nm Nf N1:Nat} (H:FnIs P f N [.t 2] (x_charwidth_Mark fm ff)) (hN:1≤N) (Hm:FnIs P fm Nm [.t 0] x_charwidth_marks) (Hf:FnIs P ff Nf [.t 2] (x_charwidth_finder f1)) (hNf:1≤Nf) (H1:FnIs P f1 N1 [.t 3] x_charwidth_finder_1) (hN1:2≤N1) (r:Int) :
  FnP Γ P f [.sc (.int .i32 r)] (.bool (markC r)):=by
 refine .of_W H (by simpa using hN) ?_
 unfold x_charwidth_Mark
 refine wR ?_
 simp only [xq,reduceIte,qE,qA,qL,qD]
 refine wR ?_
 simp only [xq,reduceIte,qE,qA,qL,qD]
 refine c_fn (marks_fn Hm) rfl ?_
 simp only [xq,reduceIte,qE,qA,qL,qD]
 refine c_fn (finder_fn Hf hNf _) rfl ?_
 simp only [xq,reduceIte,qE,qA,qL,qD]
 refine c_clo (finder1_fn H1 hN1 marks_sorted (by decide) r) rfl ?_
 simp only [xq,reduceIte,qE,qA,qL,qD]
 refine W_ret (.tmp ?_ rfl)
 simp only [x_upd,reduceIte,markC]
theorem widthC_fn {f fk fm fw ff f1:FuncId} {Nk Nm Nw Nf N1:Nat} (H:FnIs P f N [.t 2] (x_charwidth_Width fk fw ff)) (hN:1≤N) (Hk:FnIs P fk Nk [.t 2] (x_charwidth_Mark fm ff)) (hNk:1≤Nk) (Hm:FnIs P fm Nm [.t 0] x_charwidth_marks)
  (Hw:FnIs P fw Nw [.t 0] x_charwidth_Wide) (Hf:FnIs P ff Nf [.t 2] (x_charwidth_finder f1)) (hNf:1≤Nf) (H1:FnIs P f1 N1 [.t 3] x_charwidth_finder_1) (hN1:2≤N1) (r:Int) :
  FnP Γ P f [.sc (.int .i32 r)] (.int (widthC r)):=by
 refine .of_W H (by simpa using hN) ?_
 unfold x_charwidth_Width
 refine wR ?_
 simp only [xq,reduceIte,qE,qA,qL,qD]
 let S:Bool→St:=fun b=>⟨look [(0,.sc (.int .i32 r)),(3,.bool b)],[]⟩
 refine W_seq (W_block (W_cutX (· = S (decide (r<32)||(decide (127≤r)&&decide (r≤159)))) rfl (fun K hK=>?_) ?_))
 ·cases h1:decide (r<32) with
  | true =>
   simp only [xq,reduceIte,qE,qA,qL,qD,h1]
   exact hK _ (S true) (Co.keep _ (by simp [x_upd,x_look])) (by rw [h1,Bool.true_or])
  | false =>
   cases h2:decide (127≤r) with
   | true =>
    simp only [xq,reduceIte,qE,qA,qL,qD,h1,h2]
    exact hK _ (S (decide (r≤159))) (Co.keep _ (by simp [x_upd,x_look])) (by rw [h1,h2,Bool.false_or,Bool.true_and])
   | false =>
    simp only [xq,reduceIte,qE,qA,qL,qD,h1,h2]
    exact hK _ (S false) (Co.keep _ (by simp [x_upd,x_look])) (by rw [h1,h2,Bool.false_or,Bool.false_and])
 ·rintro _ rfl
  refine W_cond rfl (fun hc=>?_) (fun hc=>?_)
  ·have hc':r<32∨(127≤r∧r≤159):=by simpa using hc
   refine wR ?_
   simp only [S,xq,reduceIte,qE,qA,qL,qD]
   refine W_ret ?_
   simp only [xq,reduceIte,qE,qA,qL,qD]
   refine .tmp ?_ rfl
   simp only [x_upd,reduceIte,widthC,hc']
  ·have hc':¬ (r<32∨(127≤r∧r≤159)):=by
    intro h
    rw [Bool.eq_false_iff] at hc
    exact hc (by simpa using h)
   refine wR ?_
   simp only [S,xq,reduceIte,qE,qA,qL,qD]
   refine c_fn (mark_fn Hk hNk Hm Hf hNf H1 hN1 r) rfl ?_
   simp only [xq,reduceIte,qE,qA,qL,qD]
   refine W_cond rfl (fun hm=>?_) (fun hm=>?_)
   ·refine wR ?_
    simp only [xq,reduceIte,qE,qA,qL,qD]
    refine W_ret ?_
    simp only [xq,reduceIte,qE,qA,qL,qD]
    refine .tmp ?_ rfl
    simp only [x_upd,reduceIte,widthC,hc',hm]
   ·refine wR ?_
    simp only [xq,reduceIte,qE,qA,qL,qD]
    refine c_fn (wides_fn Hw) rfl ?_
    simp only [xq,reduceIte,qE,qA,qL,qD]
    refine c_fn (finder_fn Hf hNf _) rfl ?_
    simp only [xq,reduceIte,qE,qA,qL,qD]
    refine c_clo (finder1_fn H1 hN1 wide_sorted (by decide) r) rfl ?_
    simp only [xq,reduceIte,qE,qA,qL,qD]
    refine W_cond rfl (fun hw=>?_) (fun hw=>W_skip ?_)
    ·refine wR ?_
     simp only [xq,reduceIte,qE,qA,qL,qD]
     refine W_ret ?_
     simp only [xq,reduceIte,qE,qA,qL,qD]
     refine .tmp ?_ rfl
     simp only [x_upd,reduceIte,widthC,hc',hm,hw,Bool.false_eq_true]
    ·simp only [xq,reduceIte,qE,qA,qL,qD]
     refine wR ?_
     simp only [xq,reduceIte,qE,qA,qL,qD]
     refine W_ret (.tmp ?_ rfl)
     simp only [x_upd,reduceIte,widthC,hc',hm,hw,Bool.false_eq_true]
end Go.Proofs.YtlllnjhgjijnkaaDoor.Nx
namespace Go.Proofs.YtlllnjhgjijnkaaDoor.Nx
open Go Go.Lib
variable {P:Program} {N:Nat} {Γ:Tabs}
abbrev eRn:Elt:=⟨1,4⟩
def rnRows (l:List Nat):List (List D):=l.map runeRow
theorem rnRows_len {l:List Nat}:(rnRows l).length=l.length:=by simp [rnRows]
theorem rnRows_get {l:List Nat} {i:Nat} (hi:i<l.length):(rnRows l).getD i []=[.sc (.int .i32 l[i])]:=by
 rw [zC,rnRows,zK,zB hi];rfl
def validS (s:ByteArray):Bool:=validD s.data.toList
def chkR:List Nat→Int
 | []=>3
 | r::l=>if widthC r<1∨(l.all fun n=>markC n)=false then 9 else if 3<l.length then 5 else 0
def chkC (s:ByteArray):Int:=if s.size=0∨validS s=false then 3 else chkR (runesOf s)
def runesC (s:ByteArray):List Nat:=if chkC s=0 then runesOf s else []
def widC (s:ByteArray):Int:=match runesC s with
 | []=>0
 | r::_=>widthC r
theorem marked_fn {f fk:FuncId} (H:FnIs P f N [.t 2] (x_cluster_marked fk)) (hN:1≤N) (Hk:∀ r,FnP Γ P fk [.sc (.int .i32 r)] (.bool (markC r))) (l:List Nat):FnP Γ P f [.d (.sl eRn (rnRows l))] (.bool (l.all fun n=>markC n)):=by
 refine .of_W H (by simpa using hN) (W_sl 0 rfl fun ⟨_,hroom,_⟩=>?_)
 have hlr:l.length≤room:=le_of_mul (by rw [rnRows_len] at hroom;exact hroom)
 unfold x_cluster_marked
 refine wR ?_
 simp only [xq,reduceIte,qE,qA,qL,qD]
 refine W_seq (wR ?_)
 simp only [xq,reduceIte,qE,qA,qL,qD,rnRows_len]
 refine W_block ?_
 let S:Nat→St:=fun i=>⟨look [(5,.d (.sl eRn (rnRows l))),(6,.int l.length),(7,.int i)],[]⟩
 refine W_co (s':=S 0) (Co.keep _ (by simp [x_upd,x_look])) ?_
 refine W_loop (fun m s=>∃ i,i≤l.length∧m=l.length-i∧s=S i∧(l.take i).any (fun n => !markC n)=false) ⟨0,zI _,rfl,rfl,by simp⟩ ?_
 rintro m s ⟨i,hi,rfl,rfl,hpre⟩
 refine wR ?_
 simp only [xq,reduceIte,qE,qA,qL,qD,S]
 refine W_seq (W_cond rfl (fun hc=>W_skip ?_) (fun hc=>W_exit ?_))
 ·have hlt:i<l.length:=by simpa using hc
  simp only [xq,reduceIte,qE,qA,qL,qD]
  refine W_seq (W_block (wR ?_))
  simp only [xq,reduceIte,qE,qA,qL,qD,rnRows_get hlt,rnRows_len]
  refine ⟨by omega,by omega,?_⟩
  refine wR ?_
  simp only [xq,reduceIte,qE,qA,qL,qD]
  refine c_fn (Hk _) rfl ?_
  simp only [xq,reduceIte,qE,qA,qL,qD]
  refine W_cond rfl (fun hd=>?_) (fun hd=>W_skip ?_)
  ·refine wR ?_
   simp only [xq,reduceIte,qE,qA,qL,qD]
   refine W_ret ?_
   simp only [xq,reduceIte,qE,qA,qL,qD]
   refine .tmp ?_ rfl
   have:(l.all fun n=>markC n)=false:=by
    rw [List.all_eq_false]
    exact ⟨l[i],List.getElem_mem hlt,by simpa using hd⟩
   simp only [x_upd,reduceIte,this]
  ·simp only [xq,reduceIte,qE,qA,qL,qD]
   refine W_reg ?_
   simp only [xq,reduceIte,qE,qA,qL,qD]
   refine ⟨l.length-(i+1),S (i+1),by omega,Co.keep _ ?_,i+1,hlt,rfl,rfl,any_take_succ hlt hpre hd⟩
   simp [x_upd,x_look,i64_succ hlt hlr]
 ·have hle:i=l.length:=by simp at hc;omega
  subst hle
  rw [List.take_length] at hpre
  simp only [xq,reduceIte,qE,qA,qL,qD]
  refine wR ?_
  simp only [xq,reduceIte,qE,qA,qL,qD]
  refine W_ret (.tmp ?_ rfl)
  have:(l.all fun n=>markC n)=true:=by
   rw [List.all_eq_true]
   intro n hn
   have h2:=List.any_eq_false.1 hpre n hn
   simpa using h2
  simp only [x_upd,reduceIte,this]
theorem valid_fn {f fv:FuncId} (H:FnIs P f N [.t 2] (x_utf8stream_Valid fv)) (hN:1≤N) (Hv:∀ s:ByteArray,s.size≤1000→FnP Γ P fv [.str s] (.bool (validS s))) (s:ByteArray) (hs:s.size≤1000):FnP Γ P f [.str s] (.bool (validS s)):=by
 refine .of_W H (by simpa using hN) ?_
 unfold x_utf8stream_Valid
 refine wR ?_
 simp only [xq,reduceIte,qE,qA,qL,qD]
 refine wR ?_
 simp only [xq,reduceIte,qE,qA,qL,qD]
 refine c_fn (Hv s hs) rfl ?_
 simp only [xq,reduceIte,qE,qA,qL,qD]
 refine W_ret (.tmp ?_ rfl)
 simp only [x_upd,reduceIte]
theorem bytes_empty {s:ByteArray}:s=⟨#[]⟩↔s.size=0:=by
 constructor
 ·rintro rfl;rfl
 ·intro h
  rcases s with ⟨⟨l⟩⟩
  cases l with
  | nil=>rfl
  | cons a l=>simp [ByteArray.size] at h
theorem check_fn {f fv fw fk:FuncId} (H:FnIs P f N [.t 2] (x_cluster_Check fv fw fk)) (hN:1≤N) (Hv:∀ s:ByteArray,s.size≤1000→FnP Γ P fv [.str s] (.bool (validS s))) (Hw:∀ r,FnP Γ P fw [.sc (.int .i32 r)] (.int (widthC r)))
  (Hk:∀ l,FnP Γ P fk [.d (.sl eRn (rnRows l))] (.bool (l.all fun n=>markC n))) (s:ByteArray) (hs:s.size≤1000):FnP Γ P f [.str s] (.int (chkC s)):=by
 refine .of_W H (by simpa using hN) ?_
 unfold x_cluster_Check
 refine wR ?_
 simp only [xq,reduceIte,qE,qA,qL,qD]
 let S:Bool→St:=fun b=>⟨look [(0,.str s),(10,.bool b)],[]⟩
 have e0:decide (s=⟨#[]⟩)=decide (s.size=0):=by rw [Bool.eq_iff_iff];simp only [decide_eq_true_eq];exact bytes_empty
 refine W_seq (W_cutX (· = S (decide (s.size=0) || !validS s)) rfl (fun K hK=>?_) ?_)
 ·cases h0:decide (s.size=0) with
  | true =>
   simp only [xq,reduceIte,qE,qA,qL,qD,e0,h0]
   exact hK _ (S true) (Co.keep _ (by simp [x_upd,x_look])) (by rw [h0,Bool.true_or])
  | false =>
   simp only [xq,reduceIte,qE,qA,qL,qD,e0,h0]
   refine c_fn (Hv s hs) rfl ?_
   simp only [xq,reduceIte,qE,qA,qL,qD]
   exact hK _ (S (!validS s)) (Co.keep _ (by simp [x_upd,x_look])) (by rw [h0,Bool.false_or])
 ·rintro _ rfl
  refine W_cond rfl (fun hc=>?_) (fun hc=>W_skip ?_)
  ·refine wR ?_
   simp only [S,xq,reduceIte,qE,qA,qL,qD]
   refine W_ret (.tmp ?_ rfl)
   have:s.size=0∨validS s=false:=by simpa using hc
   simp only [x_upd,reduceIte,chkC,this]
  ·have hno:¬ (s.size=0∨validS s=false):=by
    intro h
    rw [Bool.eq_false_iff] at hc
    exact hc (by simpa using h)
   have hv:validS s=true:=by
    cases h:validS s with
    | true=>rfl
    | false=>exact absurd (.inr h) hno
   have hne:=runes_ne hv (by omega)
   have hlen:=runesOf_len s
   have hchk:chkC s=chkR (runesOf s):=by rw [chkC,if_neg hno]
   rw [hchk]
   have hrows:(runesOf s).map runeRow=rnRows (runesOf s):=rfl
   have hrm:(runesOf s).length * 4≤room:=by simp only [room];omega
   simp only [S,xq,reduceIte,qE,qA,qL,qD]
   refine wR ?_
   simp only [xq,reduceIte,qE,qA,qL,qD,x_s2r,s2_s,hrows]
   refine ⟨hrm,?_⟩
   generalize runesOf s=l at hne hlen
   cases l with
   | nil=>exact absurd rfl hne
   | cons r l =>
    have hr0:(rnRows (r::l)).getD 0 []=[.sc (.int .i32 r)]:=rfl
    have hd1:(rnRows (r::l)).drop 1=rnRows l:=rfl
    have ht:(rnRows l).take ((((r::l).length:Nat):Int)-1).toNat=rnRows l:=by
     refine List.take_of_length_le ?_
     rw [rnRows_len];simp
    let T:Bool→St:=fun b=>⟨look [(3,.d (.sl eRn (rnRows (r::l)))),(13,.bool b)],[]⟩
    refine W_seq (W_block (W_cutX (· = T (decide (widthC r<1) || !(l.all fun n=>markC n))) rfl (fun K hK=>?_) ?_))
    ·simp only [xq,reduceIte,qE,qA,qL,qD,rnRows_len,hr0]
     refine ⟨by decide,by simp,?_⟩
     refine c_fn (Hw _) rfl ?_
     cases h1:decide (widthC r<1) with
     | true =>
      simp only [xq,reduceIte,qE,qA,qL,qD,h1]
      exact hK _ (T true) (Co.keep _ (by simp [x_upd,x_look])) (by rw [h1,Bool.true_or])
     | false =>
      simp only [xq,reduceIte,qE,qA,qL,qD,h1,rnRows_len,show Int.toNat 1=1 from rfl,hd1]
      refine ⟨by decide,by simp;omega,by omega,by omega,?_⟩
      have ht':=ht
      simp only [za] at ht'
      simp only [ht']
      refine c_fn (Hk l) rfl ?_
      simp only [xq,reduceIte,qE,qA,qL,qD]
      exact hK _ (T (!(l.all fun n=>markC n))) (Co.keep _ (by simp [x_upd,x_look])) (by rw [h1,Bool.false_or])
    ·rintro _ rfl
     refine W_cond rfl (fun hd=>?_) (fun hd=>?_)
     ·refine wR ?_
      simp only [T,xq,reduceIte,qE,qA,qL,qD]
      refine W_ret ?_
      simp only [xq,reduceIte,qE,qA,qL,qD]
      refine .tmp ?_ rfl
      have:widthC r<1∨(l.all fun n=>markC n)=false:=by simpa using hd
      simp only [x_upd,reduceIte,chkR,this]
     ·have hno2:¬ (widthC r<1∨(l.all fun n=>markC n)=false):=by
       intro h
       rw [Bool.eq_false_iff] at hd
       exact hd (by simpa using h)
      have e1:IntKind.i64.wrap (((l.length+1:Nat):Int)-1)=(l.length:Int):=i64_pred (by simp only [room];simp at hlen;omega)
      refine wR ?_
      simp only [T,xq,reduceIte,qE,qA,qL,qD,rnRows_len,e1]
      refine W_cond rfl (fun h3=>?_) (fun h3=>W_skip ?_)
      ·refine wR ?_
       simp only [xq,reduceIte,qE,qA,qL,qD]
       refine W_ret ?_
       simp only [xq,reduceIte,qE,qA,qL,qD]
       refine .tmp ?_ rfl
       have:3<l.length:=by simp at h3;omega
       simp only [x_upd,reduceIte,chkR,hno2,this]
      ·simp only [xq,reduceIte,qE,qA,qL,qD]
       refine wR ?_
       simp only [xq,reduceIte,qE,qA,qL,qD]
       refine W_ret (.tmp ?_ rfl)
       have:¬ 3<l.length:=by simp at h3;omega
       simp only [x_upd,reduceIte,chkR,hno2,this]
theorem runes_fn {f fc:FuncId} (H:FnIs P f N [.t 2] (x_cluster_runes fc)) (hN:1≤N) (Hc:∀ s:ByteArray,s.size≤1000→FnP Γ P fc [.str s] (.int (chkC s))) (s:ByteArray) (hs:s.size≤1000):FnP Γ P f [.str s] (.d (.sl eRn (rnRows (runesC s)))):=by
 refine .of_W H (by simpa using hN) ?_
 have hlen:=runesOf_len s
 have hrm:(runesOf s).length * 4≤room:=by simp only [room];omega
 have hrows:(runesOf s).map runeRow=rnRows (runesOf s):=rfl
 unfold x_cluster_runes
 refine wR ?_
 simp only [xq,reduceIte,qE,qA,qL,qD]
 refine W_seq (wR ?_)
 simp only [xq,reduceIte,qE,qA,qL,qD]
 refine c_fn (Hc s hs) rfl ?_
 simp only [xq,reduceIte,qE,qA,qL,qD]
 refine W_cond rfl (fun hc=>?_) (fun hc=>W_skip ?_)
 ·refine wR ?_
  simp only [xq,reduceIte,qE,qA,qL,qD]
  refine W_ret (.frz ?_)
  have:¬ chkC s=0:=by simpa using hc
  simp only [xq,reduceIte,qE,qA,qL,qD,runesC,if_neg this]
  exact .d (.nil _)
 ·have:chkC s=0:=by simpa using hc
  simp only [xq,reduceIte,qE,qA,qL,qD]
  refine wR ?_
  simp only [xq,reduceIte,qE,qA,qL,qD,x_s2r,s2_s,hrows]
  refine ⟨hrm,?_⟩
  refine W_ret (.tmp ?_ rfl)
  simp only [x_upd,reduceIte,runesC,if_pos this]
theorem cwidth_fn {f fr fw:FuncId} (H:FnIs P f N [.t 2] (x_cluster_Width fr fw)) (hN:1≤N) (Hr:∀ s:ByteArray,s.size≤1000→FnP Γ P fr [.str s] (.d (.sl eRn (rnRows (runesC s))))) (Hw:∀ r,FnP Γ P fw [.sc (.int .i32 r)] (.int (widthC r))) (s:ByteArray) (hs:s.size≤1000) :
  FnP Γ P f [.str s] (.int (widC s)):=by
 refine .of_W H (by simpa using hN) ?_
 unfold x_cluster_Width
 refine wR ?_
 simp only [xq,reduceIte,qE,qA,qL,qD]
 refine W_seq (wR ?_)
 simp only [xq,reduceIte,qE,qA,qL,qD]
 refine c_fn (Hr s hs) rfl ?_
 simp only [xq,reduceIte,qE,qA,qL,qD]
 refine wR ?_
 simp only [xq,reduceIte,qE,qA,qL,qD,rnRows_len]
 unfold widC
 generalize runesC s=l
 refine W_cond rfl (fun hc=>?_) (fun hc=>W_skip ?_)
 ·cases l with
  | nil=>cases hc
  | cons r l =>
   have hr0:(rnRows (r::l)).getD 0 []=[.sc (.int .i32 r)]:=rfl
   refine wR ?_
   simp only [xq,reduceIte,qE,qA,qL,qD,rnRows_len,hr0]
   refine ⟨by decide,by simp,?_⟩
   refine c_fn (Hw _) rfl ?_
   simp only [xq,reduceIte,qE,qA,qL,qD]
   refine W_ret ?_
   simp only [xq,reduceIte,qE,qA,qL,qD]
   refine .tmp ?_ rfl
   simp only [x_upd,reduceIte]
 ·have:l=[]:=by
   cases l with
   | nil=>rfl
   | cons r l=>simp at hc
  subst this
  simp only [xq,reduceIte,qE,qA,qL,qD]
  refine wR ?_
  simp only [xq,reduceIte,qE,qA,qL,qD]
  refine W_ret (.tmp ?_ rfl)
  simp only [x_upd,reduceIte]
end Go.Proofs.YtlllnjhgjijnkaaDoor.Nx

import Derived.Test.YtlllnjhgjijnkaaDoorNxJ9
import Derived.Test.YtlllnjhgjijnkaaDoorNxEval
set_option linter.unusedSimpArgs false
set_option linter.unusedVariables false
set_option linter.unnecessarySimpa false
open List renaming getElem?_eq_some_iff → zA, getElem?_append_left → zF, getElem?_map → zK, getElem?_set_ne → zM, getElem?_set_self → zN, append_assoc → zS, map_cons → zU, map_nil → zV, mem_cons_self → zW, mem_cons_of_mem → zZ, length_cons → za, not_mem_nil → zc, drop_eq_getElem_cons → zd, mem_cons → zp
open Bool renaming true_eq_false → zE
open Nat renaming zero_le → zI
open Int renaming toNat_natCast → zQ
open Nat renaming reduceEqDiff → qE, reduceAdd → qA, reduceLT → qL, reduceLeDiff → qD
namespace Go.Proofs.YtlllnjhgjijnkaaDoor.Nx
open Go
variable {P:Program} {N:Nat} {Γ:Tabs}
abbrev mosA (l:List Mom):A:=.d (.sl eMo (moRows l))
abbrev moB (m:Mom):HB:=.cells eMo [m.ds.map .d]
abbrev moLB (l:List Mom):HB:=.cells eMo ((moRows l).map fun r=>r.map A.d)
def fineM (l:List Mom):Bool:=decide (l.length≤8)&&l.all fun m => !greatV m.view
theorem fineM_sm {l:List Mom} (h:fineM l=true):l.length≤8∧∀ m∈l,Sm m.view 140:=by
 simp only [fineM,Bool.and_eq_true,decide_eq_true_eq,List.all_eq_true,Bool.not_eq_true'] at h
 exact ⟨h.1,fun m hm=>(greatV_sm (h.2 m hm)).1⟩
abbrev FineOk (Γ:Tabs) (P:Program) (f:FuncId):Prop:=∀ l:List Mom,FnP Γ P f [mosA l] (.bool (fineM l))
set_option maxHeartbeats 1000000 in
theorem fine_fn {f fg:FuncId} (H:FnIs P f N [.t 2] (x_law21_fine fg)) (hN:1≤N) (Hg:∀ v:Vw,FnP Γ P fg [vwA v] (.bool (greatV v))):FineOk Γ P f:=by
 intro l
 refine .of_W H (by simpa using hN) ?_
 unfold x_law21_fine
 have fin:∀ (sl:Nat→A) (h:Heap) (r:Bool),sl 2 = .bool r→fineM l=r→RetQ [.t 2] (.bool (fineM l)) .ret ⟨sl,h⟩:=fun sl h r h2 hr=>by
  rw [hr];exact .tmp h2 rfl
 refine wR ?_;simp only [xq,reduceIte,qE,qA,qL,qD]
 refine W_seq ?_
 refine wR ?_;simp only [xq,reduceIte,qE,qA,qL,qD,moRows_len]
 refine W_cond rfl (fun hl=>?_) (fun hl=>W_skip ?_)
 ·have hl:¬ l.length≤8:=by have:=of_decide_eq_true hl;omega
  refine wR ?_;simp only [xq,reduceIte,qE,qA,qL,qD]
  exact W_ret (fin _ _ false rfl (by simp [fineM,hl]))
 have hl:l.length≤8:=by have:=of_decide_eq_false hl;omega
 have hf:fineM l=l.all fun m => !greatV m.view:=by simp [fineM,hl]
 simp only [xq,reduceIte,qE,qA,qL,qD]
 refine W_seq ?_
 refine wR ?_;simp only [xq,reduceIte,qE,qA,qL,qD,moRows_len]
 refine W_block ?_
 let S:Nat→Heap→St:=fun i hp=>⟨look [(8,mosA l),(9,.int l.length),(10,.int i)],hp⟩
 refine W_co (s':=S 0 []) (Co.keep _ (by simp [x_upd,x_look])) ?_
 refine W_loop (fun m s=>∃ i hp,i≤l.length∧m=l.length-i∧s=S i hp∧((l.drop i).all fun m => !greatV m.view)=fineM l) ⟨0,_,zI _,rfl,rfl,by rw [hf];rfl⟩ ?_
 rintro m s ⟨i,hp,hi,rfl,rfl,hall⟩
 simp only [S]
 refine wR ?_;simp only [xq,reduceIte,qE,qA,qL,qD]
 refine W_seq (W_cond rfl (fun hc=>W_skip ?_) (fun hc=>W_exit ?_))
 ·have hlt:i<l.length:=by simpa using hc
  have w1:IntKind.i64.wrap ((i:Int)+1)=((i+1:Nat):Int):=by rw [i64_of (by omega)];omega
  obtain ⟨m,hm⟩:∃ m,m=l[i]:=⟨_,rfl⟩
  have hmg:(moRows l).getD i []=m.ds:=by rw [moRows_get hlt,← hm]
  rw [zd hlt,List.all_cons,← hm] at hall
  have hg:=Hg m.view
  simp only [vwA,Vw.ds,zU,zV] at hg
  simp only [xq,reduceIte,qE,qA,qL,qD]
  refine W_seq (W_block ?_)
  refine wR ?_;simp only [xq,reduceIte,qE,qA,qL,qD,moRows_len,hmg,Mom.ds,zQ,hp_g0,hp_s0]
  repeat refine And.intro (by omega) ?_
  refine wR ?_;simp only [xq,reduceIte,qE,qA,qL,qD,hp_g0,Mom.ds]
  refine c_fn (hg) rfl ?_;simp only [xq,reduceIte,qE,qA,qL,qD]
  refine W_cond rfl (fun h1=>?_) (fun h1=>W_skip ?_)
  ·rw [h1] at hall
   refine wR ?_;simp only [xq,reduceIte,qE,qA,qL,qD]
   exact W_ret (fin _ _ false rfl hall.symm)
  ·rw [h1] at hall
   simp only [xq,reduceIte,qE,qA,qL,qD]
   refine W_reg ?_;simp only [xq,reduceIte,qE,qA,qL,qD,w1]
   exact ⟨l.length-(i+1),S (i+1) _,by omega,Co.keep _ (by simp [x_upd,x_look]),i+1,_,hlt,rfl,rfl,hall⟩
 ·have hie:i=l.length:=by simp at hc;omega
  subst hie
  rw [List.drop_length] at hall
  simp only [xq,reduceIte,qE,qA,qL,qD]
  refine wR ?_;simp only [xq,reduceIte,qE,qA,qL,qD]
  exact W_ret (fin _ _ true rfl hall.symm)
def buildR (l:List Mom):Tl × List Mom × Bool:=match l with
 | []=>(zeroT,[],false)
 | m0::r=>if fineM (m0::r)=false∨viewC m0.view≠0∨m0.time<0∨maxT<m0.time then (zeroT,[],false) else (tlOf 0 m0 (buildM m0 [] r),m0::buildM m0 [] r,true)
def buE (x:Tl × List Mom × Bool):A:=.tup [tlA x.1,mosA x.2.1,.bool x.2.2]
abbrev BuildOk (Γ:Tabs) (P:Program) (f:FuncId):Prop:=∀ l:List Mom,FnP Γ P f [mosA l] (buE (buildR l))
theorem cutA_one {e:Elt} {r:List D} {rows:List (List D)}:cutA true ((0:Nat):Int) 1 1 e (r::rows) = .fd e [r]:=by simp [cutA]
theorem frzT3' {k:Nat} {h:Heap} {x y z x' y' z':A} (h1:FrzA k h x x') (h2:FrzA k h y y') (h3:FrzA k h z z'):FrzA k h (.tup [x,y,z]) (.tup [x',y',z']):=by
 refine .tup rfl fun j w hj=>?_
 rcases j with _ | _ | _ | j
 ·cases hj;exact h1
 ·cases hj;exact h2
 ·cases hj;exact h3
 ·simp at hj
theorem frz_mo {k q:Nat} {h:Heap} {l:List Mom} (hk:k≤q) (hq:h[q]? = some (moLB l)):FrzA k h (.ref q l.length 0 l.length true) (mosA l):=by
 have:=frzD_rows (k:=k) (id:=q) (off:=0) (len:=l.length) (full:=true) (e:=eMo) (rows:=moRows l) hk hq (by rw [moRows_len];omega)
 rw [moRows_len,List.drop_zero,List.take_of_length_le (by rw [moRows_len];exact Nat.le_refl _)] at this
 exact .d this
theorem last_at:∀ {ins:List Mom} {m0:Mom},(m0::ins)[ins.length]? = some (lastM m0 ins)
 | [],m0=>rfl
 | y::l,m0=>by rw [za,List.getElem?_cons_succ,last_at,lastM,lastM,List.getLastD_cons]
def InI (m0:Mom) (ins:List Mom) (a:A) (hp:Heap):Prop:=(ins=[]∧a = .fd eMo [m0.ds])∨(∃ q,2≤q∧ins≠[]∧a = .ref q (m0::ins).length 0 (m0::ins).length true∧hp[q]? = some (moLB (m0::ins)))
theorem InI.frz {m0:Mom} {ins:List Mom} {a:A} {hp:Heap} (h:InI m0 ins a hp):FrzA 0 hp a (mosA (m0::ins)):=by
 rcases h with ⟨rfl,rfl⟩ | ⟨q,_,_,rfl,hq⟩
 ·exact .d (.fd _ _)
 ·exact frz_mo (zI _) hq
set_option maxHeartbeats 4000000 in
theorem build_fn {f ff fv fn fa fe:FuncId} (H:FnIs P f N [.c 2 9 true,.t 3,.t 4] (x_law21_build ff fv fn fa fe)) (hN:1≤N) (Hf:FineOk Γ P ff) (Hv:VchkOk Γ P fv) (Hn:TNewOk Γ P fn) (Ha:TAddOk Γ P fa) (He:SameOk Γ P fe):BuildOk Γ P f:=by
 intro l
 refine .of_W H (by simpa using hN) ?_
 obtain ⟨r,hr⟩:∃ r,buildR l=r:=⟨_,rfl⟩
 rw [hr]
 unfold x_law21_build
 refine wR ?_;simp only [xq,reduceIte,qE,qA,qL,qD]
 refine W_seq ?_
 refine W_cut (· = ⟨look [(0,mosA l),(2,.ptr 0 1 0 0),(40,.bool (!r.2.2))],[ztl]⟩) (W_reg ?_) ?_
 ·cases l with
  | nil =>
   have:r.2.2=false:=by rw [← hr];rfl
   simp only [xq,reduceIte,qE,qA,qL,qD,moRows,undefA,zE,(by decide:decide (((0:Nat):Int)=0)=true)]
   exact ⟨_,Co.keep _ (by simp [x_upd,x_look,this,moRows]),rfl⟩
  | cons m0 rs =>
   have hlen:decide ((((m0::rs).length:Nat):Int)=0)=false:=decide_eq_false (by simp only [za];omega)
   have hf:=Hf (m0::rs)
   have hg0:(moRows (m0::rs)).getD 0 []=m0.ds:=rfl
   have hbr:r=if fineM (m0::rs)=false∨viewC m0.view≠0∨m0.time<0∨maxT<m0.time then (zeroT,[],false) else (tlOf 0 m0 (buildM m0 [] rs),m0::buildM m0 [] rs,true):=hr.symm
   refine run_take 6 fun K1 hK1=>?_
   simp only [xq,reduceIte,qE,qA,qL,qD,moRows_len,hlen,undefA,zE]
   refine c_fn hf rfl ?_
   simp only [xq,reduceIte,qE,qA,qL,qD]
   refine hK1 _ ?_
   clear hK1 K1
   refine run_take 3 fun K1 hK1=>?_
   cases e1:fineM (m0::rs)
   ·have:r.2.2=false:=by rw [hbr,if_pos (.inl e1)]
    simp only [xq,reduceIte,qE,qA,qL,qD,e1,undefA,zE]
    refine hK1 _ ?_
    clear hK1 K1
    simp only [xq,reduceIte,qE,qA,qL,qD,undefA,zE]
    exact ⟨_,Co.keep _ (by simp [x_upd,x_look,this]),rfl⟩
   ·have sm:=(fineM_sm e1).2 m0 (zW ..)
    have hv:=Hv m0.view (sm.mono (by omega))
    simp only [vwA,Vw.ds,zU,zV] at hv
    simp only [xq,reduceIte,qE,qA,qL,qD,e1,undefA,zE]
    refine hK1 _ ?_
    clear hK1 K1
    refine run_take 5 fun K1 hK1=>?_
    simp only [xq,reduceIte,qE,qA,qL,qD,undefA,zE,moRows_len,hg0,Mom.ds,Int.toNat_zero]
    repeat refine And.intro (by omega) ?_
    refine c_fn hv rfl ?_
    simp only [xq,reduceIte,qE,qA,qL,qD]
    refine hK1 _ ?_
    clear hK1 K1
    refine run_take 3 fun K1 hK1=>?_
    cases e2:decide (viewC m0.view=0)
    ·have:r.2.2=false:=by rw [hbr,if_pos (.inr (.inl (of_decide_eq_false e2)))]
     simp only [xq,reduceIte,qE,qA,qL,qD,e2,undefA,zE]
     refine hK1 _ ?_
     clear hK1 K1
     simp only [xq,reduceIte,qE,qA,qL,qD,undefA,zE]
     exact ⟨_,Co.keep _ (by simp [x_upd,x_look,this]),rfl⟩
    ·simp only [xq,reduceIte,qE,qA,qL,qD,e2,undefA,zE]
     refine hK1 _ ?_
     clear hK1 K1
     refine run_take 7 fun K1 hK1=>?_
     cases e3:decide (m0.time<0)
     ·simp only [xq,reduceIte,qE,qA,qL,qD,e3,undefA,zE,moRows_len,hg0,Mom.ds,Int.toNat_zero]
      repeat refine And.intro (by omega) ?_
      refine hK1 _ ?_
      clear hK1 K1
      have:r.2.2 = !decide ((1099511627776:Int)<m0.time):=by
       cases e4:decide ((1099511627776:Int)<m0.time)
       ·rw [hbr,if_neg]
        ·rfl
        ·rintro (h | h | h | h)
         ·rw [e1] at h;cases h
         ·exact h (of_decide_eq_true e2)
         ·exact of_decide_eq_false e3 h
         ·exact of_decide_eq_false e4 h
       ·rw [hbr,if_pos (.inr (.inr (.inr (of_decide_eq_true e4))))];rfl
      simp only [xq,reduceIte,qE,qA,qL,qD,undefA,zE,moRows_len,hg0,Mom.ds,Int.toNat_zero]
      repeat refine And.intro (by omega) ?_
      exact ⟨_,Co.keep _ (by simp [x_upd,x_look,this]),rfl⟩
     ·have:r.2.2=false:=by rw [hbr,if_pos (.inr (.inr (.inl (of_decide_eq_true e3))))]
      simp only [xq,reduceIte,qE,qA,qL,qD,e3,undefA,zE,moRows_len,hg0,Mom.ds,Int.toNat_zero]
      repeat refine And.intro (by omega) ?_
      refine hK1 _ ?_
      clear hK1 K1
      simp only [xq,reduceIte,qE,qA,qL,qD,undefA,zE]
      exact ⟨_,Co.keep _ (by simp [x_upd,x_look,this]),rfl⟩
 rintro _ rfl
 refine W_cond rfl (fun hg=>?_) (fun hg=>W_skip ?_)
 ·have hz:r=(zeroT,[],false):=by
   have h2:r.2.2=false:=by simpa using hg
   rw [← hr] at h2 ⊢
   unfold buildR at h2 ⊢
   split at h2
   ·rfl
   ·split at h2
    ·rename_i hc;rw [if_pos hc]
    ·cases h2
  rw [hz]
  refine wR ?_;simp only [xq,reduceIte,qE,qA,qL,qD]
  refine W_ret ⟨.inr rfl,?_⟩
  simp only [readRs,readR,single,x_upd,reduceIte,qE,x_look,argS,xq,reduceIte,qE,qA,qL,qD,loadsTo]
  exact frzT3' frz_tlZ (.d (.nil _)) (.same rfl)
 have h2:r.2.2=true:=by simpa using hg
 obtain ⟨m0,rs,hl0,hc,hres⟩:∃ m0 rs,l=m0::rs∧¬ (fineM (m0::rs)=false∨viewC m0.view≠0∨m0.time<0∨maxT<m0.time)∧r=(tlOf 0 m0 (buildM m0 [] rs),m0::buildM m0 [] rs,true):=by
  rw [← hr] at h2 ⊢
  unfold buildR at h2 ⊢
  split at h2
  ·cases h2
  ·rename_i m0 rs
   split at h2
   ·cases h2
   ·rename_i hc;exact ⟨m0,rs,rfl,hc,by rw [if_neg hc]⟩
 subst hl0
 clear hg h2
 have hfine:fineM (m0::rs)=true:=by
  cases hq:fineM (m0::rs)
  ·exact absurd (.inl hq) hc
  ·rfl
 obtain ⟨hl8,hsm⟩:=fineM_sm hfine
 have hv0:viewC m0.view=0:=by
  rcases Decidable.em (viewC m0.view=0) with h | h
  ·exact h
  ·exact absurd (.inr (.inl h)) hc
 have ht0:0≤m0.time:=by
  rcases Int.lt_or_le m0.time 0 with h | h
  ·exact absurd (.inr (.inr (.inl h))) hc
  ·exact h
 have ht1:m0.time≤maxT:=by
  rcases Int.lt_or_le maxT m0.time with h | h
  ·exact absurd (.inr (.inr (.inr h))) hc
  ·exact h
 have hm0:MomsOk m0 []:=⟨hv0,ht0,ht1⟩
 have hnew:=Hn m0.view m0.time ((hsm m0 (zW ..)).mono (by omega))
 rw [show newT m0.view m0.time=tlOf 0 m0 [] by rw [newT,if_neg (by rintro (h | h | h)<;>omega)];rfl] at hnew
 have hg0:(moRows (m0::rs)).getD 0 []=m0.ds:=rfl
 simp only [za] at hl8
 simp only [vwA,Vw.ds,tlA,Tl.ds,zU,zV] at hnew
 rw [hres]
 simp only [xq,reduceIte,qE,qA,qL,qD]
 refine W_seq (W_drw (by simp) ?_)
 simp only [xq,reduceIte,qE,qA,qL,qD,moRows_len,hg0,Mom.ds,Int.toNat_zero]
 repeat refine And.intro (by omega) ?_
 refine c_fn (hnew) rfl ?_;simp only [xq,reduceIte,qE,qA,qL,qD,moRows_len,hg0,Mom.ds]
 refine wR ?_;simp only [xq,reduceIte,qE,qA,qL,qD,moRows_len]
 repeat refine And.intro (by omega) ?_
 have hcut:cutA true ((0:Nat):Int) 1 1 eMo (moRows (m0::rs)) = .fd eMo [m0.ds]:=cutA_one
 have htl:List.take (((rs.length+1:Nat):Int)-1).toNat (List.drop (Int.toNat 1) (moRows (m0::rs)))=moRows rs:=by
  show List.take _ (moRows rs)=_
  exact List.take_of_length_le (by rw [moRows_len];omega)
 rw [hcut]
 refine W_seq ?_
 refine wR ?_;simp only [xq,reduceIte,qE,qA,qL,qD,moRows_len,htl]
 repeat refine And.intro (by omega) ?_
 refine W_block ?_
 let S:Nat→A→Heap→St:=fun i a hp=>⟨look [(2,.ptr 0 1 0 0),(5,.ptr 1 1 0 0),(6,a),(54,mosA rs),(55,.int rs.length),(56,.int i)],hp⟩
 refine W_co (s':=S 0 (.fd eMo [m0.ds]) [ztl,tlB (tlOf 0 m0 [])]) (Co.keep _ (by simp [x_upd,x_look,Mom.ds])) ?_
 refine W_loop (fun m s=>∃ i ins a hp,i≤rs.length∧m=rs.length-i∧s=S i a hp∧buildM m0 ins (rs.drop i)=buildM m0 [] rs∧MomsOk m0 ins∧ins.length≤i∧(∀ x∈ins,x∈rs)∧InI m0 ins a hp∧hp[0]? = some ztl∧hp[1]? = some (tlB (tlOf 0 m0 ins)))
  ⟨0,[],_,_,zI _,rfl,rfl,rfl,hm0,Nat.le_refl _,by simp,.inl ⟨rfl,rfl⟩,rfl,rfl⟩ ?_
 rintro mm s ⟨i,ins,a,hp,hi,rfl,rfl,hbm,hok,hil,hin,hI,hp0,hp1⟩
 simp only [S]
 refine wR ?_;simp only [xq,reduceIte,qE,qA,qL,qD]
 refine W_seq (W_cond rfl (fun hc=>W_skip ?_) (fun hc=>W_exit ?_))
 ·have hlt:i<rs.length:=by simpa using hc
  have w1:IntKind.i64.wrap ((i:Int)+1)=((i+1:Nat):Int):=by rw [i64_of (by omega)];omega
  obtain ⟨m,hm⟩:∃ m,m=rs[i]:=⟨_,rfl⟩
  have hmr:m∈rs:=by rw [hm];exact List.getElem_mem hlt
  have hmg:(moRows rs).getD i []=m.ds:=by rw [moRows_get hlt,← hm]
  rw [zd hlt,buildM,← hm] at hbm
  have hsx:∀ y∈m0::ins,Sm y.view 140:=fun y hy=>by
   rcases zp.1 hy with rfl | hy
   ·exact hsm _ (zW ..)
   ·exact hsm _ (zZ _ (hin y hy))
  have hlm:lastM m0 ins∈m0::ins:=by
   unfold lastM
   rw [List.getLastD_eq_getLast?]
   cases hg:ins.getLast? with
   | none=>exact zW ..
   | some y=>exact zZ _ (List.mem_of_getLast? hg)
  have hadd:=Ha (tlOf 0 m0 ins) m.view m.time (tok_of hok hsx) (hsm m (zZ _ hmr)) (by
   show Sm (finV m0.view (stpsOf m0 ins)) 140
   rw [finV_of hok];exact hsx _ hlm)
  rw [bstep_add hok (by omega)] at hadd
  obtain ⟨x,hx⟩:∃ x:Tl × Int,x=if addE m0 ins m=0 then (tlOf 0 m0 (bstep m0 ins m),0) else (zeroT,addE m0 ins m):=⟨_,rfl⟩
  rw [← hx] at hadd
  have hpl:2≤hp.length:=(zA.1 hp1).1
  have g1:∀ tt:Heap,(hp++tt)[1]? = some (tlB (tlOf 0 m0 ins)):=fun tt=>hp_gl hp1
  simp only [tlE,vwA,Vw.ds,tlA,Tl.ds,zU,zV] at hadd
  simp only [xq,reduceIte,qE,qA,qL,qD]
  refine W_seq (W_block ?_)
  refine wR ?_;simp only [xq,reduceIte,qE,qA,qL,qD,moRows_len,hmg,Mom.ds,zQ,hp_g0,hp_s0]
  repeat refine And.intro (by omega) ?_
  refine wR ?_;simp only [xq,reduceIte,qE,qA,qL,qD,g1,hp_g0,hp_g1,hp_gk,hp_s0,hp_sk,Mom.ds,Tl.ds,zS]
  refine c_fn (hadd) rfl ?_;simp only [xq,reduceIte,qE,qA,qL,qD,hp_g0,hp_g1,hp_gk,hp_s0,hp_sk,Mom.ds,Tl.ds,zS]
  refine W_co (s':=⟨look [(2,.ptr 0 1 0 0),(5,.ptr 1 1 0 0),(6,a),(8,.ptr hp.length 1 0 0),(9,.ptr (hp.length+1) 1 0 0),(10,.int x.2),(54,mosA rs),(55,.int rs.length),(56,.int i)],hp++[moB m,tlB x.1]⟩) (Co.keep _ (by simp [x_upd,x_look])) ?_
  refine wR ?_;simp only [xq,reduceIte,qE,qA,qL,qD]
  refine W_cond rfl (fun h1=>?_) (fun h1=>W_skip ?_)
  ·have h1:x.2=0:=by simpa using h1
   have hae:addE m0 ins m=0:=by
    by_cases h:addE m0 ins m=0
    ·exact h
    ·rw [if_neg h] at hx;rw [hx] at h1;exact absurd h1 h
   rw [if_pos hae] at hx
   have hbi:=bstep_in hae
   obtain ⟨ins',hins'⟩:∃ ins',ins'=bstep m0 ins m:=⟨_,rfl⟩
   rw [← hins'] at hx hbm hbi
   have hok':MomsOk m0 ins':=by rw [hins'];exact bstep_ok hok
   have hx1:x.1=tlOf 0 m0 ins':=by rw [hx]
   refine W_cut (fun s1=>∃ a' hp',s1=⟨look [(2,.ptr 0 1 0 0),(5,.ptr 1 1 0 0),(6,a'),(9,.ptr (hp.length+1) 1 0 0),(54,mosA rs),(55,.int rs.length),(56,.int i)],hp'⟩∧InI m0 ins' a' hp'∧hp'[0]? = some ztl∧hp'[1]? = some (tlB (tlOf 0 m0 ins))∧hp'[hp.length+1]? = some (tlB x.1)) ?_ ?_
   ·have he:=He m.view (lastM m0 ins).view
    simp only [vwA,Vw.ds,zU,zV] at he
    rcases hI with ⟨rfl,rfl⟩ | ⟨q,hq2,hne,rfl,hq⟩
    ·refine W_seq (W_drw (by simp) ?_)
     simp only [xq,reduceIte,qE,qA,qL,qD,hp_g0,hp_g1,hp_gk,Mom.ds,(by decide:IntKind.i64.wrap (((0+1:Nat):Int)-1)=0),Int.toNat_zero]
     repeat refine And.intro (by omega) ?_
     refine c_fn (he) rfl ?_;simp only [xq,reduceIte,qE,qA,qL,qD]
     refine W_cond rfl (fun h2=>?_) (fun h2=>W_skip ?_)
     ·have h2:¬ m0.view=m.view:=fun h=>by simp [lastM,h] at h2
      have hi2:ins'=[m]:=by rw [hbi];exact if_neg h2
      refine W_reg ?_;simp only [xq,reduceIte,qE,qA,qL,qD,hp_g0,hp_g1,hp_gk,Mom.ds,zS,ne_eq]
      refine ⟨by simp,by decide,by decide,_,Co.keep _ (by simp [x_upd,x_look];rfl),_,_,rfl,.inr ⟨hp.length+3,by omega,by rw [hi2];simp,by rw [hi2];rfl,by rw [hi2];exact hp_gk⟩,hp_gl hp0,hp_gl hp1,hp_gk⟩
     ·have h2:m0.view=m.view:=by simp [lastM] at h2;exact h2.symm
      have hi2:ins'=[]:=by rw [hbi];exact if_pos h2
      exact ⟨rfl,_,Co.keep _ (by simp [x_upd,x_look,Mom.ds]),_,_,rfl,.inl ⟨hi2,rfl⟩,hp_gl hp0,hp_gl hp1,hp_gk⟩
    ·have hq':∀ tt:Heap,(hp++tt)[q]? = some (moLB (m0::ins)):=fun tt=>hp_gl hq
     have hql:q<hp.length:=(zA.1 hq).1
     have hat:((moRows (m0::ins)).map fun r=>r.map A.d)[ins.length]? = some ((lastM m0 ins).ds.map .d):=by
      rw [zK,moRows,zK,last_at];rfl
     have w2:IntKind.i64.wrap (((ins.length+1:Nat):Int)-1)=((ins.length:Nat):Int):=by rw [i64_of (by omega)];omega
     refine W_seq (W_drw (by simp) ?_)
     simp only [xq,reduceIte,qE,qA,qL,qD,hp_g0,hp_g1,hp_gk,hq',Mom.ds,moRows_len,w2,hat,zQ]
     repeat refine And.intro (by omega) ?_
     refine c_fn (he) rfl ?_;simp only [xq,reduceIte,qE,qA,qL,qD]
     refine W_cond rfl (fun h2=>?_) (fun h2=>W_skip ?_)
     ·have h2:¬ (lastM m0 ins).view=m.view:=fun h=>by simp [h] at h2
      have hi2:ins'=ins++[m]:=by rw [hbi];exact if_neg h2
      have e1:∀ (tt:Heap) X,(hp++tt).set q X=hp.set q X++tt:=fun tt X=>List.set_append_left _ _ hql
      refine W_reg ?_;simp only [xq,reduceIte,qE,qA,qL,qD,hp_g0,hp_g1,hp_gk,hq',e1,Mom.ds,zS,moRows_len]
      refine ⟨by simp only [room];omega,by simp only [maxLen];omega,_,Co.keep [(2,.ptr 0 1 0 0),(5,.ptr 1 1 0 0),(6,.ref q (ins.length+1+1) 0 (ins.length+1+1) true),(9,.ptr (hp.length+1) 1 0 0),(54,mosA rs),(55,.int rs.length),(56,.int i)] (by simp [x_upd,x_look]),
       _,_,rfl,.inr ⟨q,hq2,by rw [hi2];simp,by rw [hi2];simp,?_⟩,?_,?_,?_⟩
      ·rw [zF (by simpa using hql),zN hql]
       show some (HB.cells eMo _)=some (HB.cells eMo ((moRows (m0::ins')).map fun r=>r.map A.d))
       rw [hi2,show m0::(ins++[m])=(m0::ins)++[m] from rfl,moRows_app,List.map_append];rfl
      ·rw [zF (by simp;omega),zM (by omega)];exact hp0
      ·rw [zF (by simp;omega),zM (by omega)];exact hp1
      ·rw [List.getElem?_append_right (by simp)];simp
     ·have h2:(lastM m0 ins).view=m.view:=by simp at h2;exact h2.symm
      have hi2:ins'=ins:=by rw [hbi];exact if_pos h2
      exact ⟨rfl,_,Co.keep [(2,.ptr 0 1 0 0),(5,.ptr 1 1 0 0),(6,.ref q (ins.length+1) 0 (ins.length+1) true),(9,.ptr (hp.length+1) 1 0 0),(54,mosA rs),(55,.int rs.length),(56,.int i)] (by simp [x_upd,x_look]),_,_,rfl,.inr ⟨q,hq2,by rw [hi2];exact hne,by rw [hi2];rfl,by rw [hi2];exact hp_gl hq⟩,hp_gl hp0,hp_gl hp1,hp_gk⟩
   rintro _ ⟨a',hp',rfl,hI',q0,q1,q2⟩
   have hl2:hp.length+1<hp'.length:=(zA.1 q2).1
   rw [hx1] at q2
   refine W_reg ?_;simp only [xq,reduceIte,qE,qA,qL,qD,q1,q2,Tl.ds]
   refine W_reg ?_;simp only [xq,reduceIte,qE,qA,qL,qD,w1]
   refine ⟨rs.length-(i+1),S (i+1) a' (hp'.set 1 (tlB (tlOf 0 m0 ins'))),by omega,Co.keep _ (by simp [x_upd,x_look]),i+1,ins',a',_,hlt,rfl,rfl,hbm,hok',?_,?_,?_,?_,?_⟩
   ·have:=bstep_len (m0:=m0) (m:=m) (ins:=ins);rw [← hins'] at this;omega
   ·intro y hy
    rw [hbi] at hy
    split at hy
    ·exact hin y hy
    ·rcases List.mem_append.1 hy with hy | hy
     ·exact hin y hy
     ·rw [List.mem_singleton] at hy;subst hy;exact hmr
   ·rcases hI' with hI' | ⟨q,hq2,hne,ha,hq⟩
    ·exact .inl hI'
    ·exact .inr ⟨q,hq2,hne,ha,by rw [zM (by omega)];exact hq⟩
   ·rw [zM (by decide)];exact q0
   ·exact zN (by omega)
  ·have h1:¬ x.2=0:=by simpa using h1
   have hae:addE m0 ins m≠0:=fun h=>by
    rw [if_pos h] at hx;rw [hx] at h1;exact h1 rfl
   rw [bstep_err hae] at hbm
   simp only [xq,reduceIte,qE,qA,qL,qD]
   refine W_reg ?_;simp only [xq,reduceIte,qE,qA,qL,qD,w1]
   refine ⟨rs.length-(i+1),S (i+1) a _,by omega,Co.keep _ (by simp [x_upd,x_look]),i+1,ins,a,_,hlt,rfl,rfl,hbm,hok,by omega,hin,?_,hp_gl hp0,hp_gl hp1⟩
   rcases hI with hI | ⟨q,hq2,hne,ha,hq⟩
   ·exact .inl hI
   ·exact .inr ⟨q,hq2,hne,ha,hp_gl hq⟩
 ·have hie:i=rs.length:=by simp at hc;omega
  subst hie
  rw [List.drop_length,buildM] at hbm
  have hpl:2≤hp.length:=(zA.1 hp1).1
  have s0:∀ X,(hp.set 0 X)[0]? = some X:=fun X=>zN (by omega)
  rw [← hbm]
  simp only [xq,reduceIte,qE,qA,qL,qD]
  refine wR ?_;simp only [xq,reduceIte,qE,qA,qL,qD,hp0,hp1,Tl.ds]
  refine W_ret ⟨.inr rfl,?_⟩
  simp only [readRs,readR,single,x_upd,reduceIte,qE,x_look,argS,xq,reduceIte,qE,qA,qL,qD,loadsTo,s0]
  refine frzT3' (.same rfl) ?_ (.same rfl)
  refine InI.frz (hp:=_) ?_
  rcases hI with hI | ⟨q,hq2,hne,ha,hq⟩
  ·exact .inl hI
  ·exact .inr ⟨q,hq2,hne,ha,by rw [zM (by omega)];exact hq⟩
end Go.Proofs.YtlllnjhgjijnkaaDoor.Nx
namespace Go.Proofs.YtlllnjhgjijnkaaDoor.Nx
open Go
variable {P:Program} {N:Nat} {Γ:Tabs}
def awA:Vw:=⟨3,1,[[]],0,0,false⟩
def awB:Vw:=⟨3,1,[[⟨⟨#[120]⟩,false,0⟩]],0,0,false⟩
set_option maxHeartbeats 2000000 in
theorem awake21_fn {f fn fa fw ft fl fe:FuncId} (H:FnIs P f N [.t 0] (x_law21_awake fn fa fw ft fl fe)) (Hn:TNewOk Γ P fn) (Ha:TAddOk Γ P fa) (Hw:TWhenOk Γ P fw) (Ht:TAtOk Γ P ft) (Hl:TLastOk Γ P fl) (He:SameOk Γ P fe)
  (ha:viewC awA=0) (hb:viewC awB=0):FnP Γ P f [] (.bool true):=by
 refine .of_W H (by simp) ?_
 unfold x_law21_awake
 have hne:¬ awA=awB:=by decide
 have sa:Sm awA 140:=⟨by simp [awA],by simp [awA]⟩
 have sb:Sm awB 140:=⟨by simp [awB],by intro r hr g hg;simp only [awB,zp,zc,or_false] at hr;subst hr;simp only [zp,zc,or_false] at hg;subst hg;decide⟩
 let m0:Mom:=⟨awA,5⟩
 let m1:Mom:=⟨awB,7⟩
 have k0:MomsOk m0 []:=⟨ha,by decide,by decide⟩
 have k1:MomsOk m0 [m1]:=⟨ha,by decide,by decide,hb,by decide,by decide⟩
 have s0:∀ x∈[m0],Sm x.view 140:=by simp [m0,sa]
 have s1:∀ x∈[m0,m1],Sm x.view 140:=by simp [m0,m1,sa,sb]
 have hn:FnP Γ P fn [vwA awA,.int 5] (tlA (tlOf 0 m0 [])):=by
  have:=Hn awA 5 (sa.mono (by omega))
  rw [newT,if_neg (by rw [ha];decide)] at this
  exact this
 have h1:FnP Γ P fa [tlA (tlOf 0 m0 []),vwA awB,.int 7] (tlE (tlOf 0 m0 [m1],0)):=by
  have:=Ha (tlOf 0 m0 []) awB 7 (tok_of k0 s0) sb sa
  rw [addT_of k0 (by decide) (by decide),if_neg (by rw [hb];decide),if_neg (by decide),if_neg (by decide),show (lastM m0 []).view=awA from rfl,if_neg hne,if_neg (by decide)] at this
  exact this
 have h2:FnP Γ P fa [tlA (tlOf 0 m0 [m1]),vwA awB,.int 9] (tlE (tlOf 0 m0 [m1],0)):=by
  have:=Ha (tlOf 0 m0 [m1]) awB 9 (tok_of k1 s1) sb (by show Sm (finV m0.view (stpsOf m0 [m1])) 140;rw [finV_of k1];exact sb)
  rw [addT_of k1 (by decide) (by decide),if_neg (by rw [hb];decide),if_neg (by decide),if_neg (by decide),show (lastM m0 [m1]).view=awB from rfl,if_pos rfl] at this
  exact this
 have h3:FnP Γ P fw [tlA (tlOf 0 m0 [m1]),.int 6] (.tup [.int 0,.int 0]):=by
  have:=Hw (tlOf 0 m0 [m1]) 6 (tok_of k1 s1)
  rw [whenT_of k1 (by decide) (by decide)] at this
  exact this
 have h4:FnP Γ P fw [tlA (tlOf 0 m0 [m1]),.int 8] (.tup [.int 1,.int 0]):=by
  have:=Hw (tlOf 0 m0 [m1]) 8 (tok_of k1 s1)
  rw [whenT_of k1 (by decide) (by decide)] at this
  exact this
 have h5:FnP Γ P ft [tlA (tlOf 0 m0 [m1]),.int 1] (vwE (awB,0)):=by
  have:=Ht (tlOf 0 m0 [m1]) 1 (tok_of k1 s1)
  rw [atT_of k1 (by decide) (by decide),if_pos (by decide)] at this
  exact this
 have h6:FnP Γ P fl [tlA (tlOf 0 m0 [m1])] (.int 1):=Hl (tlOf 0 m0 [m1]) (by decide) (by decide)
 have h7:=He awB awB
 rw [decide_eq_true rfl] at h7
 clear_value m0 m1
 generalize tlOf 0 m0 []=t0 at *
 generalize tlOf 0 m0 [m1]=t1 at *
 simp only [tlE,vwE,tlA,Tl.ds,vwA,Vw.ds,zU,zV] at hn h1 h2 h3 h4 h5 h6 h7
 refine wR ?_;simp only [xq,reduceIte,qE,qA,qL,qD]
 refine wR ?_;simp only [xq,reduceIte,qE,qA,qL,qD]
 refine wR ?_;simp only [xq,reduceIte,qE,qA,qL,qD]
 refine W_co (Co.frz [(1,.iptr awA.ds),(2,.iptr awB.ds)] 0 ?_ (zI _) (zI _) (by simp)) ?_
 ·intro p hp
  simp only [zp,zc,or_false] at hp
  rcases hp with rfl | rfl
  ·exact (frz_ok (dflt:=⟨3,32⟩) 10).1 _ _ rfl
  ·exact (frz_ok (dflt:=⟨3,32⟩) 10).1 _ _ rfl
 simp only [List.take_zero]
 refine wR ?_;simp only [xq,reduceIte,qE,qA,qL,qD,Vw.ds]
 refine c_fn (hn) rfl ?_;simp only [xq,reduceIte,qE,qA,qL,qD]
 refine wR ?_;simp only [xq,reduceIte,qE,qA,qL,qD,Vw.ds,Tl.ds]
 refine c_fn (h1) rfl ?_;simp only [xq,reduceIte,qE,qA,qL,qD]
 refine wR ?_;simp only [xq,reduceIte,qE,qA,qL,qD,Vw.ds,Tl.ds]
 refine c_fn (h2) rfl ?_;simp only [xq,reduceIte,qE,qA,qL,qD]
 refine wR ?_;simp only [xq,reduceIte,qE,qA,qL,qD,Tl.ds]
 refine c_fn (h3) rfl ?_;simp only [xq,reduceIte,qE,qA,qL,qD]
 refine wR ?_;simp only [xq,reduceIte,qE,qA,qL,qD,Tl.ds]
 refine c_fn (h4) rfl ?_;simp only [xq,reduceIte,qE,qA,qL,qD]
 refine wR ?_;simp only [xq,reduceIte,qE,qA,qL,qD,Tl.ds]
 refine c_fn (h5) rfl ?_;simp only [xq,reduceIte,qE,qA,qL,qD]
 have d0:decide ((0:Int)=0)=true:=by decide
 have d1:decide ((1:Int)=1)=true:=by decide
 refine W_sreg fun K hK=>?_
 have fin:∀ (sl:Nat→A) (h:Heap),sl 0 = .bool true→K ⟨sl,h⟩:=fun sl h h0=>hK _ (W_ret (.tmp h0 rfl))
 clear hK
 refine run_take 12 fun K1 hK1=>?_
 simp only [xq,reduceIte,qE,qA,qL,qD,d0,d1]
 refine hK1 _ ?_
 clear hK1 K1
 refine run_take 9 fun K1 hK1=>?_
 simp only [xq,reduceIte,qE,qA,qL,qD,d0,d1,Tl.ds]
 refine c_fn (h6) rfl ?_;simp only [xq,reduceIte,qE,qA,qL,qD,d0,d1]
 refine hK1 _ ?_
 clear hK1 K1
 refine run_take 10 fun K1 hK1=>?_
 simp only [xq,reduceIte,qE,qA,qL,qD,d0,d1]
 refine hK1 _ ?_
 clear hK1 K1
 simp only [xq,reduceIte,qE,qA,qL,qD,d0,d1,Vw.ds]
 refine c_fn (h7) rfl ?_;simp only [xq,reduceIte,qE,qA,qL,qD]
 exact fin _ _ rfl
end Go.Proofs.YtlllnjhgjijnkaaDoor.Nx

import Derived.Test.YtlllnjhgjijnkaaDoorNxJ11
import Derived.Test.YtlllnjhgjijnkaaDoorNxDL
set_option linter.unusedSimpArgs false
set_option linter.unusedVariables false
set_option linter.unnecessarySimpa false
open List renaming append_assoc → zS, map_cons → zU, map_nil → zV, mem_cons_self → zW, mem_cons_of_mem → zZ, length_cons → za
open Nat renaming reduceEqDiff → qE, reduceAdd → qA, reduceLT → qL, reduceLeDiff → qD
namespace Go.Proofs.YtlllnjhgjijnkaaDoor.Nx
open Go
variable {P:Program} {N:Nat} {Γ:Tabs}
theorem bstep_mem {m0 m x:Mom} {ins:List Mom} (h:x∈bstep m0 ins m):x∈ins∨x=m:=by
 unfold bstep at h
 split at h
 ·exact .inl h
 ·split at h
  ·exact .inl h
  ·split at h
   ·exact .inl h
   ·split at h
    ·exact .inl h
    ·rcases List.mem_append.1 h with h | h
     ·exact .inl h
     ·exact .inr (List.mem_singleton.1 h)
theorem buildM_mem:∀ {l:List Mom} {m0 x:Mom} {ins:List Mom},x∈buildM m0 ins l→x∈ins∨x∈l
 | [],_,_,_,h=>.inl h
 | m::l,m0,x,ins,h=>by
  rcases buildM_mem (l:=l) h with h | h
  ·rcases bstep_mem h with h | h
   ·exact .inl h
   ·subst h;exact .inr (zW ..)
  ·exact .inr (zZ _ h)
theorem buildR_ok {l:List Mom} {r:Tl × List Mom × Bool} (h:buildR l=r) :
  r.2.2=false∨∃ m0 ins,r=(tlOf 0 m0 ins,m0::ins,true)∧MomsOk m0 ins∧ins.length≤7∧∀ x∈m0::ins,Sm x.view 140:=by
 cases l with
 | nil=>subst h;exact .inl rfl
 | cons m0 rs =>
  rw [buildR] at h
  split at h
  ·subst h;exact .inl rfl
  ·rename_i hc
   refine .inr ⟨m0,buildM m0 [] rs,h.symm,?_,?_,?_⟩
   ·refine buildM_ok ⟨?_,?_,?_⟩
    ·rcases Decidable.em (viewC m0.view=0) with h | h
     ·exact h
     ·exact absurd (.inr (.inl h)) hc
    ·rcases Int.lt_or_le m0.time 0 with h | h
     ·exact absurd (.inr (.inr (.inl h))) hc
     ·exact h
    ·rcases Int.lt_or_le maxT m0.time with h | h
     ·exact absurd (.inr (.inr (.inr h))) hc
     ·exact h
   ·have hf:fineM (m0::rs)=true:=by
     cases hq:fineM (m0::rs)
     ·exact absurd (.inl hq) hc
     ·rfl
    have h1:=(fineM_sm hf).1
    have h2:=buildM_len (l:=rs) (m0:=m0) (ins:=[])
    simp only [za,List.length_nil] at h1 h2
    omega
   ·have hf:fineM (m0::rs)=true:=by
     cases hq:fineM (m0::rs)
     ·exact absurd (.inl hq) hc
     ·rfl
    intro x hx
    refine (fineM_sm hf).2 x ?_
    rcases List.mem_cons.1 hx with rfl | hx
    ·exact zW ..
    ·rcases buildM_mem hx with hx | hx
     ·simp at hx
     ·exact zZ _ hx
theorem tlOf_first {f:Int} {m:Mom} {l:List Mom}:(tlOf f m l).first=f:=rfl
set_option maxHeartbeats 2000000 in
theorem viewsLaw21_fn {f fb fa fc fl ft fe:FuncId} (H:FnIs P f N [.t 2] (x_law21_TimelineViews fb fa fc fl ft fe)) (hN:1≤N) (Hb:BuildOk Γ P fb) (Ha:FnP Γ P fa [] (.bool true)) (Hc:TCheckOk Γ P fc) (Hl:TLastOk Γ P fl) (Ht:TAtOk Γ P ft) (He:SameOk Γ P fe) (l:List Mom) :
  FnP Γ P f [mosA l] (.bool true):=by
 refine .of_W H (by simpa using hN) ?_
 obtain ⟨r,hr⟩:∃ r,buildR l=r:=⟨_,rfl⟩
 have hb:=Hb l
 rw [hr] at hb
 unfold x_law21_TimelineViews
 simp only [buE,tlA,Tl.ds,zU,zV] at hb
 refine wR ?_;simp only [xq,reduceIte,qE,qA,qL,qD]
 refine wR ?_;simp only [xq,reduceIte,qE,qA,qL,qD]
 refine c_fn (hb) rfl ?_;simp only [xq,reduceIte,qE,qA,qL,qD]
 refine W_co (s':=⟨look [(3,.ptr 0 1 0 0),(4,mosA r.2.1),(5,.bool r.2.2)],[tlB r.1]⟩) (Co.keep _ (by simp [x_upd,x_look])) ?_
 refine W_seq ?_
 refine wR ?_;simp only [xq,reduceIte,qE,qA,qL,qD]
 rcases buildR_ok hr with hz | ⟨m0,ins,rfl,hok,hin,hsm⟩
 ·refine W_cond (t:=true) (by simp [ev,x_upd,hz]) (fun _=>?_) (fun h=>by cases h)
  refine wR ?_;simp only [xq,reduceIte,qE,qA,qL,qD]
  refine c_fn (Ha) rfl ?_;simp only [xq,reduceIte,qE,qA,qL,qD]
  refine W_ret (.tmp ?_ rfl)
  simp only [x_upd,reduceIte]
 refine W_cond rfl (fun h=>by cases h) (fun _=>W_skip ?_)
 have htok:=tok_of hok hsm
 have hc:=Hc (tlOf 0 m0 ins) htok
 rw [chkT_of hok (by omega) (by omega)] at hc
 have hl:=Hl (tlOf 0 m0 ins) (by rw [tlOf_first];omega) (by show (stpsOf m0 ins).length≤_;rw [stpsOf_len];omega)
 have hlast:lastT (tlOf 0 m0 ins)=(ins.length:Int):=by
  show (0:Int)+((stpsOf m0 ins).length:Int)=_
  rw [stpsOf_len];omega
 rw [hlast] at hl
 have hat:∀ n:Int,FnP Γ P ft [tlA (tlOf 0 m0 ins),.int n] (vwE (if 0≤n∧n-0≤(ins.length:Int) then (((m0::ins).map (·.view)).getD (n-0).toNat zeroV,0) else (zeroV,2))):=fun n=>by
  have:=Ht (tlOf 0 m0 ins) n htok
  rw [atT_of hok (by omega) (by omega)] at this
  exact this
 have hatm:∀ (i:Nat) (hi:i<(m0::ins).length),FnP Γ P ft [tlA (tlOf 0 m0 ins),.int i] (vwE ((m0::ins)[i].view,0)):=fun i hi=>by
  have:=hat (i:Nat)
  rw [if_pos (by simp only [za] at hi;omega),show ((i:Int)-0).toNat=i by omega,
   show ((m0::ins).map (·.view)).getD i zeroV=(m0::ins)[i].view by rw [List.getD_eq_getElem?_getD,List.getElem?_map,List.getElem?_eq_getElem hi];rfl] at this
  exact this
 have hat1:=hat ((m0::ins).length:Nat)
 have hat2:=hat (-1)
 rw [if_neg (by simp only [za];omega)] at hat1
 rw [if_neg (by omega)] at hat2
 clear hat
 generalize tlOf 0 m0 ins=t at *
 simp only [vwE,vwA,Vw.ds,tlA,Tl.ds,zU,zV] at hc hl hat1 hat2
 have w0:IntKind.i64.wrap (((ins.length+1:Nat):Int)-1)=(ins.length:Int):=by rw [i64_of (by omega)];omega
 have d0:decide ((0:Int)=0)=true:=by decide
 have d1:decide (((ins.length:Nat):Int)=((ins.length:Nat):Int))=true:=decide_eq_true rfl
 simp only [xq,reduceIte,qE,qA,qL,qD]
 refine W_seq ?_
 refine wR ?_;simp only [xq,reduceIte,qE,qA,qL,qD,Tl.ds]
 refine c_fn (hc) rfl ?_;simp only [xq,reduceIte,qE,qA,qL,qD,Tl.ds,d0]
 refine c_fn (hl) rfl ?_;simp only [xq,reduceIte,qE,qA,qL,qD,moRows_len,w0,d1,za]
 refine W_cond rfl (fun h=>by cases h) (fun _=>W_skip ?_)
 simp only [xq,reduceIte,qE,qA,qL,qD]
 refine W_seq ?_
 refine wR ?_;simp only [xq,reduceIte,qE,qA,qL,qD,moRows_len]
 refine W_block ?_
 let S:Nat→Heap→St:=fun i hp=>⟨look [(3,.ptr 0 1 0 0),(4,mosA (m0::ins)),(34,mosA (m0::ins)),(35,.int ((ins.length+1:Nat):Int)),(36,.int i)],hp⟩
 refine W_co (s':=S 0 [tlB t]) (Co.keep _ (by simp [x_upd,x_look])) ?_
 refine W_loop (fun m s=>∃ i hp,i≤ins.length+1∧m=ins.length+1-i∧s=S i hp∧hp[0]? = some (tlB t)) ⟨0,_,Nat.zero_le _,rfl,rfl,rfl⟩ ?_
 rintro mm s ⟨i,hp,hi,rfl,rfl,hp0⟩
 have g0:∀ tt:Heap,(hp++tt)[0]? = some (tlB t):=fun tt=>hp_gl hp0
 simp only [S]
 refine wR ?_;simp only [xq,reduceIte,qE,qA,qL,qD]
 refine W_seq (W_cond rfl (fun hc=>W_skip ?_) (fun hc=>W_exit ?_))
 ·have hlt:i<(m0::ins).length:=by simp only [za];have:=of_decide_eq_true hc;omega
  have w1:IntKind.i64.wrap ((i:Int)+1)=((i+1:Nat):Int):=by rw [i64_of (by omega)];omega
  obtain ⟨m,hm⟩:∃ m,m=(m0::ins)[i]:=⟨_,rfl⟩
  have hmg:(moRows (m0::ins)).getD i []=m.ds:=by rw [moRows_get hlt,← hm]
  have hati:=hatm i hlt
  rw [← hm] at hati
  simp only [vwE,vwA,Vw.ds,tlA,Tl.ds,zU,zV] at hati
  have he:=He m.view m.view
  rw [decide_eq_true rfl] at he
  simp only [vwA,Vw.ds,zU,zV] at he
  simp only [za] at hlt
  simp only [xq,reduceIte,qE,qA,qL,qD]
  refine W_seq (W_block ?_)
  refine wR ?_;simp only [xq,reduceIte,qE,qA,qL,qD,moRows_len,hmg,Mom.ds,Int.toNat_natCast,hp_g0,hp_s0]
  repeat refine And.intro (by omega) ?_
  refine wR ?_;simp only [xq,reduceIte,qE,qA,qL,qD,g0,Tl.ds,hp_g0,hp_g1,hp_gk,hp_s0,hp_sk,zS]
  refine c_fn (hati) rfl ?_;simp only [xq,reduceIte,qE,qA,qL,qD,hp_g0,hp_g1,hp_gk,hp_s0,hp_sk,zS]
  refine wR ?_;simp only [xq,reduceIte,qE,qA,qL,qD,hp_g0,hp_g1,hp_gk,Mom.ds,d0]
  refine c_fn (he) rfl ?_;simp only [xq,reduceIte,qE,qA,qL,qD]
  refine W_cond rfl (fun h=>by cases h) (fun _=>W_skip ?_)
  simp only [xq,reduceIte,qE,qA,qL,qD]
  refine W_reg ?_;simp only [xq,reduceIte,qE,qA,qL,qD,w1]
  exact ⟨ins.length+1-(i+1),S (i+1) _,by omega,Co.keep _ (by simp [x_upd,x_look]),i+1,_,by omega,rfl,rfl,g0 _⟩
 ·simp only [xq,reduceIte,qE,qA,qL,qD]
  refine wR ?_;simp only [xq,reduceIte,qE,qA,qL,qD,hp0,Tl.ds,moRows_len]
  simp only [za] at hat1
  refine c_fn (hat1) rfl ?_;simp only [xq,reduceIte,qE,qA,qL,qD,hp_g0,hp_s0]
  refine wR ?_;simp only [xq,reduceIte,qE,qA,qL,qD,g0,Tl.ds,hp_g0,hp_g1,hp_gk,hp_s0,hp_sk,zS]
  refine c_fn (hat2) rfl ?_;simp only [xq,reduceIte,qE,qA,qL,qD,hp_g0,hp_g1,hp_gk,hp_s0,hp_sk,zS]
  have d2:decide ((2:Int)=2)=true:=by decide
  refine wR ?_;simp only [xq,reduceIte,qE,qA,qL,qD,d2]
  refine c_fn (Ha) rfl ?_;simp only [xq,reduceIte,qE,qA,qL,qD]
  refine W_ret (.tmp ?_ rfl)
  simp only [x_upd,reduceIte]
end Go.Proofs.YtlllnjhgjijnkaaDoor.Nx

import Derived.Test.YtlllnjhgjijnkaaDoorNxJ13
import Derived.Test.YtlllnjhgjijnkaaDoorNxE29
import Derived.Test.YtlllnjhgjijnkaaDoorNxDL
set_option linter.unusedSimpArgs false
set_option linter.unusedVariables false
set_option linter.unnecessarySimpa false
open List renaming getElem?_eq_getElem → zB, getD_eq_getElem?_getD → zC, getElem?_map → zK, append_assoc → zS, mem_of_getElem? → zY, replicate_zero → zr
open Option.some renaming injEq → zH
open Int renaming toNat_natCast → zQ
open Nat renaming reduceEqDiff → qE, reduceAdd → qA, reduceLT → qL, reduceLeDiff → qD
namespace Go.Proofs.YtlllnjhgjijnkaaDoor.Nx
open Go
variable {P:Program} {N:Nat} {Γ:Tabs}
theorem stps_at:∀ {l:List Mom} {m x y:Mom} {i:Nat},(m::l)[i]? = some x→(m::l)[i+1]? = some y→(stpsOf m l)[i]? = some ⟨y.time,diffV x.view y.view⟩
 | [],m,x,y,i,_,h2=>by simp at h2
 | z::l,m,x,y,0,h1,h2=>by
  simp only [List.getElem?_cons_zero,zH] at h1
  simp only [Nat.zero_add,List.getElem?_cons_succ,List.getElem?_cons_zero,zH] at h2
  subst h1 h2;rfl
 | z::l,m,x,y,i+1,h1,h2=>by
  rw [List.getElem?_cons_succ] at h1 h2
  rw [stpsOf,List.getElem?_cons_succ]
  exact stps_at h1 h2
theorem MomsOk.vw:∀ {l:List Mom} {m x:Mom},MomsOk m l→x∈m::l→viewC x.view=0
 | [],m,x,h,hx=>by
  rw [List.mem_singleton] at hx;subst hx;exact h.1
 | y::l,m,x,h,hx=>by
  rcases List.mem_cons.1 hx with rfl | hx
  ·exact h.1
  ·exact MomsOk.vw h.2.2.2 hx
set_option maxHeartbeats 2000000 in
theorem stepsLaw21_fn {f fb fa fd fe fp fv:FuncId} (H:FnIs P f N [.t 2] (x_law21_TimelineSteps fb fa fd fe fp fv)) (hN:1≤N) (Hb:BuildOk Γ P fb) (Ha:FnP Γ P fa [] (.bool true)) (Hd:DiffOk Γ P fd) (He:CgsSameOk Γ P fe) (Hp:ApOk Γ P fp) (Hv:SameOk Γ P fv) (l:List Mom) :
  FnP Γ P f [mosA l] (.bool true):=by
 refine .of_W H (by simpa using hN) ?_
 obtain ⟨r,hr⟩:∃ r,buildR l=r:=⟨_,rfl⟩
 have hb:=Hb l
 rw [hr] at hb
 unfold x_law21_TimelineSteps
 simp only [buE,tlA,Tl.ds,List.map_cons,List.map_nil] at hb
 refine wR ?_;simp only [xq,reduceIte,qE,qA,qL,qD]
 refine wR ?_;simp only [xq,reduceIte,qE,qA,qL,qD]
 refine c_fn (hb) rfl ?_;simp only [xq,reduceIte,qE,qA,qL,qD]
 refine W_co (s':=⟨look [(3,.ptr 0 1 0 0),(4,mosA r.2.1),(5,.bool r.2.2)],[tlB r.1]⟩) (Co.keep _ (by simp [x_upd,x_look])) ?_
 refine W_seq ?_
 refine wR ?_;simp only [xq,reduceIte,qE,qA,qL,qD]
 rcases buildR_ok hr with hz | ⟨m0,ins,rfl,hok,hin,hsm⟩
 ·refine W_cond (t:=true) (by simp [ev,x_upd,hz]) (fun _=>?_) (fun h=>by cases h)
  refine wR ?_;simp only [xq,reduceIte,qE,qA,qL,qD]
  refine c_fn (Ha) rfl ?_;simp only [xq,reduceIte,qE,qA,qL,qD]
  refine W_ret (.tmp ?_ rfl)
  simp only [x_upd,reduceIte]
 refine W_cond rfl (fun h=>by cases h) (fun _=>W_skip ?_)
 have hst:(tlOf 0 m0 ins).steps=stpsOf m0 ins:=rfl
 have hsl:(stpsOf m0 ins).length=ins.length:=stpsOf_len
 generalize tlOf 0 m0 ins=t at *
 have w0:IntKind.i64.wrap (((ins.length+1:Nat):Int)-1)=(ins.length:Int):=by rw [i64_of (by omega)];omega
 have d0:decide ((0:Int)=0)=true:=by decide
 have d1:decide (((ins.length:Nat):Int)=((ins.length:Nat):Int))=true:=decide_eq_true rfl
 simp only [xq,reduceIte,qE,qA,qL,qD]
 refine W_seq ?_
 refine wR ?_;simp only [xq,reduceIte,qE,qA,qL,qD,Tl.ds,stRows_len,hst,hsl,moRows_len,w0,d1]
 refine W_cond rfl (fun h=>by cases h) (fun _=>W_skip ?_)
 simp only [xq,reduceIte,qE,qA,qL,qD]
 refine W_seq ?_
 refine wR ?_;simp only [xq,reduceIte,qE,qA,qL,qD,Tl.ds,stRows_len,hst,hsl]
 refine W_block ?_
 let S:Nat→Heap→St:=fun i hp=>⟨look [(3,.ptr 0 1 0 0),(4,mosA (m0::ins)),(28,stsA (stpsOf m0 ins)),(29,.int ins.length),(30,.int i)],hp⟩
 refine W_co (s':=S 0 [tlB t]) (Co.keep _ (by simp [x_upd,x_look])) ?_
 refine W_loop (fun m s=>∃ i hp,i≤ins.length∧m=ins.length-i∧s=S i hp) ⟨0,_,Nat.zero_le _,rfl,rfl⟩ ?_
 rintro mm s ⟨i,hp,hi,rfl,rfl⟩
 simp only [S]
 refine wR ?_;simp only [xq,reduceIte,qE,qA,qL,qD]
 refine W_seq (W_cond rfl (fun hc=>W_skip ?_) (fun hc=>W_exit ?_))
 ·have hlt:i<ins.length:=by simpa using hc
  have w1:IntKind.i64.wrap ((i:Int)+1)=((i+1:Nat):Int):=by rw [i64_of (by omega)];omega
  obtain ⟨x,hx⟩:∃ x,(m0::ins)[i]? = some x:=⟨_,zB (by simp only [List.length_cons];omega)⟩
  obtain ⟨y,hy⟩:∃ y,(m0::ins)[i+1]? = some y:=⟨_,zB (by simp only [List.length_cons];omega)⟩
  have hs:=stps_at hx hy
  have hxm:=zY hx
  have hym:=zY hy
  have vx:=hok.vw hxm
  have vy:=hok.vw hym
  have sx:=hsm x hxm
  have sy:=hsm y hym
  have hsg:(stRows (stpsOf m0 ins)).getD i []=(⟨y.time,diffV x.view y.view⟩:Stp).ds:=by rw [zC,stRows,zK,hs];rfl
  have hxg:(moRows (m0::ins)).getD i []=x.ds:=by rw [zC,moRows,zK,hx];rfl
  have hyg:(moRows (m0::ins)).getD (i+1) []=y.ds:=by rw [zC,moRows,zK,hy];rfl
  have hd:=Hd x.view y.view sx sy
  have he:=He (diffV x.view y.view) (diffV x.view y.view)
  have hp':=Hp x.view (diffV x.view y.view) (runOk_diff vx vy (sx.mono (by omega)) (sy.mono (by omega))) (diff_ok sy)
  have hv:=Hv y.view y.view
  rw [run_diff vx vy] at hp'
  rw [decide_eq_true rfl] at he hv
  have dy:decide (y.time=y.time)=true:=decide_eq_true rfl
  simp only [apA,vwA,Vw.ds,List.map_cons,List.map_nil] at hd hp' hv
  generalize diffV x.view y.view=ds at *
  simp only [xq,reduceIte,qE,qA,qL,qD]
  refine W_seq (W_block ?_)
  refine wR ?_;simp only [xq,reduceIte,qE,qA,qL,qD,stRows_len,hsl,hsg,Stp.ds,zQ,hp_g0,hp_s0]
  repeat refine And.intro (by omega) ?_
  refine W_seq ?_
  refine W_seq (W_drw (by simp) ?_)
  refine run_take 10 fun K1 hK1=>?_
  simp only [xq,reduceIte,qE,qA,qL,qD,zr,hp_g0,moRows_len,w1,hyg,Mom.ds,dy,zQ]
  repeat refine And.intro (by omega) ?_
  refine hK1 _ ?_
  clear hK1 K1
  simp only [xq,reduceIte,qE,qA,qL,qD,hp_g0,moRows_len,w1,hxg,hyg,Mom.ds,zQ]
  repeat refine And.intro (by omega) ?_
  refine c_fn (hd) rfl ?_;simp only [xq,reduceIte,qE,qA,qL,qD]
  refine c_fn (he) rfl ?_;simp only [xq,reduceIte,qE,qA,qL,qD]
  refine W_cond rfl (fun h=>by cases h) (fun _=>W_skip ?_)
  simp only [xq,reduceIte,qE,qA,qL,qD]
  refine W_seq (W_drw (by simp) ?_)
  simp only [xq,reduceIte,qE,qA,qL,qD,hp_g0,hp_g1,hp_gk,hp_s0,hp_sk,zS,moRows_len,hxg,Mom.ds,zQ]
  repeat refine And.intro (by omega) ?_
  refine c_fn (hp') rfl ?_;simp only [xq,reduceIte,qE,qA,qL,qD,hp_g0,hp_g1,hp_gk,hp_s0,hp_sk,zS]
  refine W_seq (W_drw (by simp) ?_)
  simp only [xq,reduceIte,qE,qA,qL,qD,zr,hp_g0,hp_g1,hp_gk,moRows_len,w1,hyg,Mom.ds,d0,zQ]
  repeat refine And.intro (by omega) ?_
  refine c_fn (hv) rfl ?_;simp only [xq,reduceIte,qE,qA,qL,qD]
  refine W_cond rfl (fun h=>by cases h) (fun _=>W_skip ?_)
  simp only [xq,reduceIte,qE,qA,qL,qD]
  refine W_reg ?_;simp only [xq,reduceIte,qE,qA,qL,qD,w1]
  exact ⟨ins.length-(i+1),S (i+1) _,by omega,Co.keep _ (by simp [x_upd,x_look]),i+1,_,hlt,rfl,rfl⟩
 ·simp only [xq,reduceIte,qE,qA,qL,qD]
  refine wR ?_;simp only [xq,reduceIte,qE,qA,qL,qD]
  refine c_fn (Ha) rfl ?_;simp only [xq,reduceIte,qE,qA,qL,qD]
  refine W_ret (.tmp ?_ rfl)
  simp only [x_upd,reduceIte]
end Go.Proofs.YtlllnjhgjijnkaaDoor.Nx

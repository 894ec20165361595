import Derived.Test.YtlllnjhgjijnkaaDoorNxJ13
import Derived.Test.YtlllnjhgjijnkaaDoorNxDL
set_option linter.unusedSimpArgs false
set_option linter.unusedVariables false
set_option linter.unnecessarySimpa false
open Bool renaming true_eq_false → zE
open Nat renaming reduceEqDiff → qE, reduceAdd → qA, reduceLT → qL, reduceLeDiff → qD
namespace Go.Proofs.YtlllnjhgjijnkaaDoor.Nx
open Go
variable {P:Program} {N:Nat} {Γ:Tabs}
theorem mo_getQ {l:List Mom} {i:Nat} {x:Mom} (h:l[i]? = some x):(moRows l).getD i []=x.ds:=by
 rw [List.getD_eq_getElem?_getD,moRows,List.getElem?_map,h];rfl
set_option maxHeartbeats 2000000 in
theorem timesLaw21_fn {f fb fa fw:FuncId} (H:FnIs P f N [.t 4] (x_law21_TimelineTimes fb fa fw)) (hN:2≤N) (Hb:BuildOk Γ P fb) (Ha:FnP Γ P fa [] (.bool true)) (Hw:TWhenOk Γ P fw) (l:List Mom) (n:Int) :
  FnP Γ P f [mosA l,.int n] (.bool true):=by
 refine .of_W H (by simpa using hN) ?_
 obtain ⟨r,hr⟩:∃ r,buildR l=r:=⟨_,rfl⟩
 have hb:=Hb l
 rw [hr] at hb
 unfold x_law21_TimelineTimes
 simp only [buE,tlA,Tl.ds,List.map_cons,List.map_nil] at hb
 have d0:decide ((0:Int)=0)=true:=by decide
 have d2:decide ((2:Int)=2)=true:=by decide
 refine wR ?_;simp only [xq,reduceIte,qE,qA,qL,qD]
 refine wR ?_;simp only [xq,reduceIte,qE,qA,qL,qD]
 refine c_fn (hb) rfl ?_;simp only [xq,reduceIte,qE,qA,qL,qD]
 refine W_co (s':=⟨look [(1,.int n),(5,.ptr 0 1 0 0),(6,mosA r.2.1),(7,.bool r.2.2)],[tlB r.1]⟩) (Co.keep _ (by simp [x_upd,x_look])) ?_
 refine W_seq ?_
 refine wR ?_;simp only [xq,reduceIte,qE,qA,qL,qD]
 rcases buildR_ok hr with hz | ⟨m0,ins,rfl,hok,hin,hsm⟩
 ·refine W_cond (t:=true) (by simp [ev,x_upd,hz]) (fun _=>?_) (fun h=>by cases h)
  refine wR ?_;simp only [xq,reduceIte,qE,qA,qL,qD]
  refine c_fn (Ha) rfl ?_;simp only [xq,reduceIte,qE,qA,qL,qD]
  refine W_ret (.tmp ?_ rfl)
  simp only [x_upd,reduceIte]
 refine W_cond rfl (fun h=>by cases h) (fun _=>W_skip ?_)
 have hw:=Hw (tlOf 0 m0 ins) n (tok_of hok hsm)
 rw [whenT_of hok (by omega) (by omega)] at hw
 have hlastw:=when_last (n:=n) hok
 have hcl:(ins.filter fun x=>decide (x.time≤n)).length≤ins.length:=List.length_filter_le _ _
 generalize (ins.filter fun x=>decide (x.time≤n)).length=c at *
 generalize tlOf 0 m0 ins=t at *
 simp only [tlA,Tl.ds,List.map_cons,List.map_nil] at hw
 have hg0:(moRows (m0::ins)).getD 0 []=m0.ds:=rfl
 simp only [xq,reduceIte,qE,qA,qL,qD]
 refine wR ?_;simp only [xq,reduceIte,qE,qA,qL,qD,Tl.ds]
 refine c_fn (hw) rfl ?_;simp only [xq,reduceIte,qE,qA,qL,qD]
 refine W_seq ?_
 refine wR ?_;simp only [xq,reduceIte,qE,qA,qL,qD,moRows_len,hg0,Mom.ds,Int.toNat_zero]
 repeat refine And.intro (by omega) ?_
 refine W_cond rfl (fun h1=>?_) (fun h1=>W_skip ?_)
 ·have h1:n<m0.time:=by simpa using h1
  rw [if_pos h1]
  refine wR ?_;simp only [xq,reduceIte,qE,qA,qL,qD,d0,d2]
  refine c_fn (Ha) rfl ?_;simp only [xq,reduceIte,qE,qA,qL,qD]
  refine W_ret (.tmp ?_ rfl)
  simp only [x_upd,reduceIte]
 have h1:¬ n<m0.time:=by simpa using h1
 rw [if_neg h1]
 obtain ⟨x,hx1,hx2,hx3⟩:=hlastw (by omega)
 have hxg:=mo_getQ hx1
 have e1:decide ((0:Int)+(c:Int)<0)=false:=decide_eq_false (by omega)
 have e2:decide (((ins.length+1:Nat):Int)≤(0:Int)+(c:Int))=false:=decide_eq_false (by omega)
 have e3:decide (n<x.time)=false:=decide_eq_false (by omega)
 have e4:((0:Int)+(c:Int)).toNat=c:=by omega
 have w1:IntKind.i64.wrap ((0:Int)+(c:Int)+1)=((c+1:Nat):Int):=by rw [i64_of (by omega)];omega
 simp only [xq,reduceIte,qE,qA,qL,qD]
 refine W_seq ?_
 refine W_cut (· = ⟨look [(77,.bool false)],[tlB t]⟩) (W_reg ?_) ?_
 ·refine run_take 13 fun K1 hK1=>?_
  simp only [xq,reduceIte,qE,qA,qL,qD,d0,e1,e2,moRows_len,undefA,zE]
  refine hK1 _ ?_
  clear hK1 K1
  refine run_take 9 fun K1 hK1=>?_
  simp only [xq,reduceIte,qE,qA,qL,qD,e3,e4,hxg,moRows_len,Mom.ds,undefA,zE]
  repeat refine And.intro (by omega) ?_
  refine hK1 _ ?_
  clear hK1 K1
  cases e5:decide (((c+1:Nat):Int)<((ins.length+1:Nat):Int))
  ·simp only [xq,reduceIte,qE,qA,qL,qD,w1,e5,moRows_len,undefA,zE]
   exact ⟨_,Co.keep _ (by simp [x_upd,x_look]),rfl⟩
  ·have hlt:c+1<(m0::ins).length:=by have:=of_decide_eq_true e5;simp only [List.length_cons];omega
   obtain ⟨y,hy⟩:∃ y,(m0::ins)[c+1]? = some y:=⟨_,List.getElem?_eq_getElem hlt⟩
   have hyg:=mo_getQ hy
   have e6:decide (y.time≤n)=false:=decide_eq_false (by have:=hx3 y hy;omega)
   have e7:(((c+1:Nat):Int)).toNat=c+1:=by omega
   simp only [List.length_cons] at hlt
   refine run_take 6 fun K1 hK1=>?_
   simp only [xq,reduceIte,qE,qA,qL,qD,w1,e5,moRows_len,undefA,zE]
   refine hK1 _ ?_
   clear hK1 K1
   simp only [xq,reduceIte,qE,qA,qL,qD,w1,e6,e7,hyg,moRows_len,Mom.ds,undefA,zE]
   repeat refine And.intro (by omega) ?_
   exact ⟨_,Co.keep _ (by simp [x_upd,x_look]),rfl⟩
 rintro _ rfl
 refine W_cond rfl (fun h=>by cases h) (fun _=>W_skip ?_)
 simp only [xq,reduceIte,qE,qA,qL,qD]
 refine wR ?_;simp only [xq,reduceIte,qE,qA,qL,qD]
 refine c_fn (Ha) rfl ?_;simp only [xq,reduceIte,qE,qA,qL,qD]
 refine W_ret (.tmp ?_ rfl)
 simp only [x_upd,reduceIte]
end Go.Proofs.YtlllnjhgjijnkaaDoor.Nx

import Derived.Test.YtadfkfgjhaijiaaDoorNxE21
import Derived.Test.YtadfkfgjhaijiaaDoorNxI6
import Derived.Test.YtadfkfgjhaijiaaDoorNxDL
set_option linter.unusedSimpArgs false
set_option linter.unusedVariables false
set_option linter.unnecessarySimpa false
open Bool renaming true_eq_false → zE
open List renaming map_cons → zU, map_nil → zV, length_append → zb
open Nat renaming reduceEqDiff → qE, reduceAdd → qA, reduceLT → qL, reduceLeDiff → qD
namespace Go.Proofs.YtadfkfgjhaijiaaDoor.Nx
open Go
variable {P:Program} {N:Nat} {Γ:Tabs}
theorem frz_cgL {k q:Nat} {h:Heap} {l:List Cg} (hk:k≤q) (hq:h[q]? = some (cgLB l)):FrzA k h (.ref q l.length 0 l.length true) (cgsA l):=by
  have:=frzD_rows (k:=k) (id:=q) (off:=0) (len:=l.length) (full:=true) (e:=eCg) (rows:=cgRows l) hk hq (by rw [cgRows_len];omega)
  rw [cgRows_len,List.drop_zero,List.take_of_length_le (by rw [cgRows_len];exact Nat.le_refl _)] at this
  exact .d this
set_option maxHeartbeats 2000000 in
theorem concatLaw19_fn {f fg fr fa fp fe:FuncId} (H:FnIs P f N [.t 6] (x_law19_ChangeConcatenation fg fr fa fp fe)) (hN:3≤N) (Hg:GrtOk Γ P fg) (Hr:∀ l:List Cg,FnP Γ P fr [cgsA l] (.bool (greatL l))) (Ha:FnP Γ P fa [] (.bool true)) (Hp:ApNOk Γ P fp) (He:SameOk Γ P fe)
    (v:Vw) (a b:List Cg):FnP Γ P f [vwA v,cgsA a,cgsA b] (.bool true):=by
  refine .of_W H (by simpa using hN) ?_
  have hg:=Hg v a
  have hr:=Hr b
  unfold x_law19_ChangeConcatenation
  simp only [vwA,Vw.ds,zU,zV] at hg ⊢
  refine W_seq (W_reg ?_);simp only [xq,reduceIte,qE,qA,qL,qD]
  obtain ⟨g,hgd⟩:∃ g,g=((greatV v||greatL a)||greatL b):=⟨_,rfl⟩
  refine W_seq ?_
  refine W_cut (· = ⟨look [(1,cgsA a),(2,cgsA b),(3,.ptr 0 1 0 0),(22,.bool g)],[vwB v]⟩) (W_reg ?_) ?_
  · simp only [xq,reduceIte,qE,qA,qL,qD]
    refine c_fn (hg) rfl ?_;simp only [xq,reduceIte,qE,qA,qL,qD]
    cases e1:(greatV v||greatL a)
    · simp only [xq,reduceIte,qE,qA,qL,qD,undefA,zE]
      refine c_fn (hr) rfl ?_;simp only [xq,reduceIte,qE,qA,qL,qD]
      exact ⟨_,Co.keep _ (by simp [x_upd,x_look,hgd,e1]),rfl⟩
    · simp only [xq,reduceIte,qE,qA,qL,qD,undefA,zE]
      exact ⟨_,Co.keep _ (by simp [x_upd,x_look,hgd,e1]),rfl⟩
  rintro _ rfl
  refine W_cond rfl (fun hc=>?_) (fun hc=>W_skip ?_)
  · refine W_seq (W_reg ?_);simp only [xq,reduceIte,qE,qA,qL,qD]
    refine c_fn (Ha) rfl ?_;simp only [xq,reduceIte,qE,qA,qL,qD]
    refine W_ret (.tmp ?_ rfl)
    simp only [x_upd,reduceIte]
  rw [hc] at hgd
  obtain ⟨hga,hgb⟩:=Bool.or_eq_false_iff.1 hgd.symm
  obtain ⟨h1,h2,h3,h4,h5,h6⟩:=small_of hga
  obtain ⟨k3,k4⟩:=greatL_small hgb
  have hp1:=(Hp v a h5 fun c hc=>(h4 c hc).ok).toP
  obtain ⟨w,i,e,hap⟩:∃ w i e,applyV v a=(w,i,e):=⟨_,_,_,rfl⟩
  have hsw:=fun h0=>applyV_sm h1 h4 h0
  have hcon:=fun h0=>apply_concat (v:=v) (a:=a) b h0
  rw [hap] at hp1 hsw hcon
  simp only at hsw hcon
  simp only [apA,vwA,Vw.ds,zU,zV] at hp1
  simp only [xq,reduceIte,qE,qA,qL,qD]
  refine W_seq (W_reg ?_);simp only [xq,reduceIte,qE,qA,qL,qD,Vw.ds]
  refine c_fn (hp1) rfl ?_;simp only [xq,reduceIte,qE,qA,qL,qD,Vw.ds]
  refine W_seq ?_
  refine W_seq (W_reg ?_);simp only [xq,reduceIte,qE,qA,qL,qD]
  refine W_cond rfl (fun hk=>?_) (fun hk=>W_skip ?_)
  · refine W_seq (W_reg ?_);simp only [xq,reduceIte,qE,qA,qL,qD]
    refine c_fn (Ha) rfl ?_;simp only [xq,reduceIte,qE,qA,qL,qD]
    refine W_ret (.tmp ?_ rfl)
    simp only [x_upd,reduceIte]
  have hk:e=0:=by simpa using hk
  have hsw:=hsw hk
  have hcon:=hcon hk
  have hrb:RunOk w b:=runOk_of hsw k4 (by omega)
  have hp2:=(Hp w b hrb fun c hc=>(k4 c hc).ok).toP
  obtain ⟨x,j,f2,hap2⟩:∃ x j f2,applyV w b=(x,j,f2):=⟨_,_,_,rfl⟩
  rw [hap2] at hp2 hcon
  simp only at hcon
  have hok3:∀ c∈a++b,CgOk c:=fun c hc=>by
    rcases List.mem_append.1 hc with hc | hc
    · exact (h4 c hc).ok
    · exact (k4 c hc).ok
  have hrun3:RunOk v (a++b):=runOk_of h1 (fun c hc=>by
    rcases List.mem_append.1 hc with hc | hc
    · exact h4 c hc
    · exact k4 c hc) (by rw [zb];omega)
  have hj:f2≠0→0≤j∧j≤b.length:=fun h0=>by
    have:=(applyV_ends w b).2
    rw [hap2] at this
    exact (this h0).2
  simp only [apA,vwA,Vw.ds,zU,zV] at hp2
  have he:=He x x
  rw [decide_eq_true rfl] at he
  simp only [vwA,Vw.ds,zU,zV] at he
  simp only [xq,reduceIte,qE,qA,qL,qD]
  refine W_seq (W_reg ?_);simp only [xq,reduceIte,qE,qA,qL,qD,Vw.ds]
  refine c_fn (hp2) rfl ?_;simp only [xq,reduceIte,qE,qA,qL,qD,Vw.ds]
  refine W_co (s':=⟨look [(1,cgsA a),(2,cgsA b),(3,.ptr 0 1 0 0),(10,.ptr 2 1 0 0),(11,.int j),(12,.int f2)],[vwB v,vwB w,vwB x]⟩) (Co.keep _ (by simp [x_upd,x_look])) ?_
  refine W_seq (W_drw (by
    intro p hp
    simp only [List.mem_cons,List.not_mem_nil,or_false] at hp
    rcases hp with rfl | rfl | rfl | rfl | rfl | rfl<;>rfl) ?_)
  simp only [xq,reduceIte,qE,qA,qL,qD,Vw.ds,cgRows_len]
  have hblk:(List.map (fun r=>List.map A.d r) (cgRows a)++List.map (fun r=>List.map A.d r) (cgRows b))=(cgRows (a++b)).map fun r=>r.map A.d:=by simp [cgRows]
  have hcall:∀ h':Heap,h'[3]? = some (cgLB (a++b))→FnD Γ.ctx P fp [vwA v,.ref 3 (a.length+b.length) 0 (a.length+b.length) true] h' (apA (applyV v (a++b))) h':=fun h' hq=>by
    have:=frz_cgL (k:=0) (Nat.zero_le _) hq
    rw [zb] at this
    exact Hp.lend hrun3 hok3 (.same rfl) this
  rw [hcon] at hcall
  rw [hblk]
  refine ⟨by simp only [room];omega,by simp only [maxLen];omega,by simp only [room];omega,by simp only [maxLen];omega,?_⟩
  simp only [apA,vwA,Vw.ds,zU,zV] at hcall
  refine cn_fn ?_ (fun h' hh=>hcall h' ?_) ?_
  · intro y hy id hid
    simp only [List.mem_cons,List.not_mem_nil,or_false] at hy
    rcases hy with rfl | rfl
    · simp [A.touch] at hid
    · simp only [A.touch,Option.some.injEq] at hid
      subst hid
      exact ⟨_,_,rfl⟩
  · exact hh (.ref 3 (a.length+b.length) 0 (a.length+b.length) true) (by simp) 3 rfl
  simp only [xq,reduceIte,qE,qA,qL,qD]
  refine W_seq (W_seq ?_)
  by_cases hf:f2=0
  · subst hf
    have d0:decide ((0:Int)=0)=true:=by decide
    simp only [if_pos]
    refine W_reg ?_;simp only [xq,reduceIte,qE,qA,qL,qD,d0]
    refine W_cond rfl (fun h=>by cases h) (fun _=>W_skip ?_)
    simp only [xq,reduceIte,qE,qA,qL,qD]
    refine W_seq (W_reg ?_);simp only [xq,reduceIte,qE,qA,qL,qD,d0,Vw.ds]
    refine c_fn (he) rfl ?_;simp only [xq,reduceIte,qE,qA,qL,qD]
    refine c_fn (Ha) rfl ?_;simp only [xq,reduceIte,qE,qA,qL,qD]
    refine W_ret (.tmp ?_ rfl)
    simp only [x_upd,reduceIte]
  · have d0:decide (f2=0)=false:=decide_eq_false hf
    have d1:decide (f2=f2)=true:=decide_eq_true rfl
    have w1:IntKind.i64.wrap ((a.length:Int)+j)=(a.length:Int)+j:=i64_of (by have:=hj hf;omega)
    have d2:decide ((a.length:Int)+j=(a.length:Int)+j)=true:=decide_eq_true rfl
    simp only [if_neg hf]
    refine W_reg ?_;simp only [xq,reduceIte,qE,qA,qL,qD,d0]
    refine W_cond rfl (fun _=>?_) (fun h=>by cases h)
    refine W_seq (W_reg ?_);simp only [xq,reduceIte,qE,qA,qL,qD,d1,w1,d2,cgRows_len]
    refine c_fn (Ha) rfl ?_;simp only [xq,reduceIte,qE,qA,qL,qD]
    refine W_ret (.tmp ?_ rfl)
    simp only [x_upd,reduceIte]
end Go.Proofs.YtadfkfgjhaijiaaDoor.Nx

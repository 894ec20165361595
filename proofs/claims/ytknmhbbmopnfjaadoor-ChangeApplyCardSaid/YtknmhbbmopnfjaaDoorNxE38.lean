import Derived.Test.YtknmhbbmopnfjaaDoorNxE37
import Derived.Test.YtknmhbbmopnfjaaDoorNxE31
import Derived.Test.YtknmhbbmopnfjaaDoorNxE26
import Derived.Test.YtknmhbbmopnfjaaDoorNxE28
import Derived.Test.YtknmhbbmopnfjaaDoorNxDL
set_option linter.unusedSimpArgs false
set_option linter.unusedVariables false
set_option linter.unnecessarySimpa false
open Nat renaming reduceEqDiff → qE, reduceAdd → qA, reduceLT → qL, reduceLeDiff → qD
namespace Go.Proofs.YtknmhbbmopnfjaaDoor.Nx
open Go
variable {P:Program} {N:Nat} {Γ:Tabs}
abbrev RStepOk (Γ:Tabs) (P:Program) (f:FuncId):Prop:=∀ (v:Vw) (c:Cg),StepPre v c→FnP Γ P f [vwA v,cgA c] (vwA (stepV v c))
set_option maxHeartbeats 2000000 in
theorem rapply_fn {f fv ff fs fw:FuncId} (H:FnIs P f N [.c 4 6 true,.t 5,.t 6] (x_ref19_Apply fv ff fs fw)) (hN:2≤N) (Hv:VchkOk Γ P fv) (Hf:FitsOk Γ P ff) (Hs:RStepOk Γ P fs) (Hw:∀ l:List Gl,FnP Γ P fw [.d (.sl eGl (glRows l))] (.int (widthN l))):ApOk Γ P f:=by
  intro v l hrun hl
  refine .of_W H (by simpa using hN) (W_sl 1 rfl fun ⟨hmx,hroom,_⟩=>?_)
  rw [cgRows_len] at hroom hmx
  have hlr:l.length≤room:=le_of_mul hroom
  have hlr':=hlr
  simp only [room] at hlr'
  have hv0:=Hv v hrun.sm
  unfold x_ref19_Apply
  simp only [vwA,Vw.ds,List.map_cons,List.map_nil] at hv0 ⊢
  refine W_seq (W_reg ?_);simp only [xq,reduceIte,qE,qA,qL,qD]
  refine W_seq ?_
  refine W_seq (W_reg ?_);simp only [xq,reduceIte,qE,qA,qL,qD]
  refine c_fn (hv0) rfl ?_;simp only [xq,reduceIte,qE,qA,qL,qD]
  refine W_cond rfl (fun hk=>?_) (fun hk=>W_skip ?_)
  · have hk:¬ viewC v=0:=by simpa using hk
    refine W_seq (W_reg ?_);simp only [xq,reduceIte,qE,qA,qL,qD]
    refine W_ret ?_
    simp only [xq,reduceIte,qE,qA,qL,qD]
    refine retAp (row:=zrow) rfl rfl rfl ?_ ?_ ?_<;>simp only [applyV,if_neg hk]
    · exact frz_zero
    · rfl
    · rfl
  have hk:viewC v=0:=by simpa using hk
  obtain ⟨hed,_⟩:=viewC_zero.1 hk
  have hap:applyV v l=runV v 0 l:=by rw [applyV,if_pos hk]
  rw [hap]
  simp only [xq,reduceIte,qE,qA,qL,qD]
  refine W_seq ?_
  refine W_seq (W_reg ?_);simp only [xq,reduceIte,qE,qA,qL,qD]
  refine W_block ?_
  let S:Vw→Nat→St:=fun w i=>⟨look [(1,cgsA l),(2,.ptr 0 1 0 0),(4,.ptr 1 1 0 0),(7,.int i)],[vwB w,zeroB]⟩
  refine W_co (s':=S v 0) (Co.keep _ (by simp [x_upd,x_look])) ?_
  refine W_loop (fun m s=>∃ (i:Nat) (w:Vw),i≤l.length∧m=l.length-i∧s=S w i∧runV w i (l.drop i)=runV v 0 l∧Ed w∧RunOk w (l.drop i)) ⟨0,v,Nat.zero_le _,rfl,rfl,rfl,hed,hrun⟩ ?_
  rintro m s ⟨i,w,hi,rfl,rfl,hrw,hew,hrk⟩
  simp only [S]
  refine W_seq (W_seq ?_)
  refine W_reg ?_;simp only [xq,reduceIte,qE,qA,qL,qD,cgRows_len]
  refine W_cond rfl (fun hc=>W_skip ?_) (fun hc=>W_exit ?_)
  · have hlt:i<l.length:=by simpa using hc
    have w1:IntKind.i64.wrap ((i:Int)+1)=((i+1:Nat):Int):=by rw [i64_of (by omega)];omega
    obtain ⟨c,hcd⟩:∃ c,c=l[i]:=⟨_,rfl⟩
    have hcm:c∈l:=by rw [hcd];exact List.getElem_mem hlt
    have hok:=hl c hcm
    rw [List.drop_eq_getElem_cons hlt,← hcd] at hrw hrk
    have hcg:(cgRows l).getD i []=c.ds:=by rw [cgRows_get hlt,← hcd]
    have hC:=Hf w c hew hrk.1 hok.txt
    simp only [vwA,Vw.ds,cgA,Cg.ds,List.map_cons,List.map_nil] at hC
    simp only [xq,reduceIte,qE,qA,qL,qD]
    refine W_seq (W_block ?_)
    refine W_seq ?_
    refine W_seq (W_drw (by simp) ?_);simp only [xq,reduceIte,qE,qA,qL,qD,Vw.ds,cgRows_len,hcg,Cg.ds,Int.toNat_natCast,List.replicate_zero,List.append_nil]
    refine ⟨by omega,by omega,?_⟩
    refine c_fn (hC) rfl ?_;simp only [xq,reduceIte,qE,qA,qL,qD]
    refine W_seq (W_reg ?_);simp only [xq,reduceIte,qE,qA,qL,qD]
    refine W_cond rfl (fun hd=>?_) (fun hd=>W_skip ?_)
    · have hd:¬ chgC w c=0:=by simpa using hd
      rw [runV,if_neg hd] at hrw
      refine W_seq (W_reg ?_);simp only [xq,reduceIte,qE,qA,qL,qD]
      refine W_ret ?_
      simp only [xq,reduceIte,qE,qA,qL,qD]
      rw [← hrw]
      exact retAp (row:=zrow) rfl rfl rfl frz_zero rfl rfl
    · have hd:chgC w c=0:=by simpa using hd
      rw [runV,if_pos hd] at hrw
      have hS:=Hs w c ⟨hew,hd,fun r hr=>hrk.1.row r hr,hok.len⟩
      simp only [vwA,Vw.ds,cgA,Cg.ds,List.map_cons,List.map_nil] at hS
      simp only [xq,reduceIte,qE,qA,qL,qD]
      refine W_drw (by simp) ?_
      simp only [xq,reduceIte,qE,qA,qL,qD,Vw.ds,cgRows_len,hcg,Cg.ds,Int.toNat_natCast,List.replicate_zero,List.append_nil]
      refine ⟨by omega,by omega,?_⟩
      refine c_fn (hS) rfl ?_;simp only [xq,reduceIte,qE,qA,qL,qD,Vw.ds]
      refine W_reg ?_;simp only [xq,reduceIte,qE,qA,qL,qD,w1]
      exact ⟨l.length-(i+1),S (stepV w c) (i+1),by omega,Co.keep _ (by simp [x_upd,x_look]),i+1,stepV w c,hlt,rfl,rfl,hrw,hew.step hd,hrk.2 hd⟩
  · have hle:i=l.length:=by simp at hc;omega
    subst hle
    rw [List.drop_length,runV] at hrw
    have hwl:=hew.len
    have hws:=szOk_iff.1 hew.sz
    simp only [xq,reduceIte,qE,qA,qL,qD]
    refine W_seq ?_
    refine W_seq (W_reg ?_);simp only [xq,reduceIte,qE,qA,qL,qD]
    refine W_block ?_
    let T:Nat→St:=fun j=>⟨look [(1,cgsA l),(2,.ptr 0 1 0 0),(4,.ptr 1 1 0 0),(9,.int j)],[vwB w,zeroB]⟩
    refine W_co (s':=T 0) (Co.keep _ (by simp [x_upd,x_look])) ?_
    refine W_loop (fun m s=>∃ j:Nat,j≤w.rows.length∧m=w.rows.length-j∧s=T j∧((w.rows.take j).any fun r=>decide (w.width<(widthN r:Int)))=false) ⟨0,Nat.zero_le _,rfl,rfl,by simp⟩ ?_
    rintro m s ⟨j,hj,rfl,rfl,hwide⟩
    simp only [T]
    refine W_seq (W_seq ?_)
    refine W_reg ?_;simp only [xq,reduceIte,qE,qA,qL,qD,Vw.ds,rwRows_len]
    refine W_cond rfl (fun hc=>W_skip ?_) (fun hc=>W_exit ?_)
    · have hlt:j<w.rows.length:=by simpa using hc
      have w1:IntKind.i64.wrap ((j:Int)+1)=((j+1:Nat):Int):=by rw [i64_of (by omega)];omega
      simp only [xq,reduceIte,qE,qA,qL,qD]
      refine W_seq (W_block ?_)
      refine W_seq (W_drw (by simp) ?_);simp only [xq,reduceIte,qE,qA,qL,qD,Vw.ds,rwRows_len,rwRows_get hlt,Int.toNat_natCast,List.replicate_zero,List.append_nil]
      refine ⟨by omega,by omega,?_⟩
      refine c_fn (Hw w.rows[j]) rfl ?_;simp only [xq,reduceIte,qE,qA,qL,qD]
      refine W_cond rfl (fun hd=>?_) (fun hd=>W_skip ?_)
      · have hd:w.width<(widthN w.rows[j]:Int):=by simpa using hd
        have hwd:wideV w=true:=by
          rw [wideV,List.any_eq_true]
          exact ⟨_,List.getElem_mem hlt,by simpa using hd⟩
        rw [hwd,if_pos rfl] at hrw
        refine W_seq (W_reg ?_);simp only [xq,reduceIte,qE,qA,qL,qD,cgRows_len]
        refine W_ret ?_
        simp only [xq,reduceIte,qE,qA,qL,qD]
        rw [← hrw]
        exact retAp (row:=zrow) rfl rfl rfl frz_zero rfl rfl
      · have hd:¬ w.width<(widthN w.rows[j]:Int):=by simpa using hd
        simp only [xq,reduceIte,qE,qA,qL,qD]
        refine W_reg ?_;simp only [xq,reduceIte,qE,qA,qL,qD,w1]
        refine ⟨w.rows.length-(j+1),T (j+1),by omega,Co.keep _ (by simp [x_upd,x_look]),j+1,hlt,rfl,rfl,?_⟩
        rw [List.take_add_one,List.getElem?_eq_getElem hlt,Option.toList_some,List.any_append,hwide]
        simpa using hd
    · have hje:j=w.rows.length:=by simp at hc;omega
      subst hje
      rw [List.take_length] at hwide
      have hwd:wideV w=false:=hwide
      rw [hwd,if_neg Bool.false_ne_true] at hrw
      simp only [xq,reduceIte,qE,qA,qL,qD]
      refine W_seq (W_reg ?_);simp only [xq,reduceIte,qE,qA,qL,qD,Vw.ds]
      refine W_ret ?_
      rw [← hrw]
      exact retAp (row:=w.ds.map .d) rfl rfl rfl (.same rfl) rfl rfl
set_option maxHeartbeats 1000000 in
theorem rrows19_fn {f fp fe:FuncId} (H:FnIs P f N [.t 4] (x_ref19_Rows fp fe)) (hN:2≤N) (Hp:ApOk Γ P fp) (He:RowSameOk Γ P fe):RowsOk Γ P f:=by
  intro v l hro hok
  have Hp:=Hp v l hro hok
  have hrl:=rows_few v l
  refine .of_W H (by simpa using hN) ?_
  obtain ⟨w,i0,er,hap⟩:∃ w i e,applyV v l=(w,i,e):=⟨_,_,_,rfl⟩
  unfold rowsV
  rw [hap] at Hp hrl ⊢
  simp only at hrl ⊢
  unfold x_ref19_Rows
  simp only [apA,vwA,Vw.ds,List.map_cons,List.map_nil] at Hp ⊢
  refine W_seq (W_reg ?_);simp only [xq,reduceIte,qE,qA,qL,qD]
  refine W_seq (W_reg ?_);simp only [xq,reduceIte,qE,qA,qL,qD]
  refine c_fn (Hp) rfl ?_;simp only [xq,reduceIte,qE,qA,qL,qD]
  refine W_seq ?_
  refine W_seq (W_reg ?_);simp only [xq,reduceIte,qE,qA,qL,qD]
  refine W_cond rfl (fun hk=>?_) (fun hk=>W_skip ?_)
  · have hk:¬ er=0:=by simpa using hk
    refine W_seq (W_reg ?_);simp only [xq,reduceIte,qE,qA,qL,qD]
    refine W_ret ?_
    simp only [xq,reduceIte,qE,qA,qL,qD]
    rw [if_neg hk]
    exact .frz (.d (.nil _))
  have hk:er=0:=by simpa using hk
  subst hk
  rw [if_pos rfl]
  simp only [xq,reduceIte,qE,qA,qL,qD]
  refine W_seq (W_reg ?_);simp only [xq,reduceIte,qE,qA,qL,qD]
  refine W_seq ?_
  refine W_seq (W_reg ?_);simp only [xq,reduceIte,qE,qA,qL,qD]
  refine W_block ?_
  let S:A→Heap→Nat→St:=fun x t i=>⟨look [(2,.ptr 0 1 0 0),(5,.ptr 1 1 0 0),(8,x),(9,.int i)],vwB v::vwB w::t⟩
  refine W_co (s':=S .nil [] 0) (Co.keep _ (by simp [x_upd,x_look])) ?_
  refine W_loop (fun m s=>∃ i x t,i≤w.rows.length∧m=w.rows.length-i∧s=S x t i∧InsIs (vwB v::vwB w::t) ((List.range i).filter (difP w.rows v.rows)) x) ⟨0,.nil,[],Nat.zero_le _,rfl,rfl,.inl ⟨rfl,rfl⟩⟩ ?_
  rintro m s ⟨i,x,t,hi,rfl,rfl,ho⟩
  simp only [S]
  refine W_seq (W_seq ?_)
  refine W_reg ?_;simp only [xq,reduceIte,qE,qA,qL,qD,Vw.ds,rwRows_len]
  refine W_cond rfl (fun hc=>W_skip ?_) (fun hc=>W_exit ?_)
  · have hlt:i<w.rows.length:=by simpa using hc
    have w1:IntKind.i64.wrap ((i:Int)+1)=((i+1:Nat):Int):=by rw [i64_of (by omega)];omega
    have ga:w.rows.getD i []=w.rows[i]:=by rw [List.getD_eq_getElem?_getD,List.getElem?_eq_getElem hlt];rfl
    simp only [xq,reduceIte,qE,qA,qL,qD]
    refine W_seq (W_block ?_)
    refine W_cut (· = ⟨look [(2,.ptr 0 1 0 0),(5,.ptr 1 1 0 0),(8,x),(9,.int i),(44,.bool (difP w.rows v.rows i))],vwB v::vwB w::t⟩) (W_drw (by simp) ?_) ?_
    · simp only [List.replicate_zero,List.append_nil]
      by_cases hle:v.rows.length≤i
      · have e1:decide ((v.rows.length:Int)≤(i:Int))=true:=decide_eq_true (by omega)
        simp only [xq,reduceIte,qE,qA,qL,qD,Vw.ds,rwRows_len,e1,undefA,Bool.true_eq_false]
        refine ⟨_,Co.keep _ ?_,rfl⟩
        simp [x_upd,x_look,difP,hle]
      · have e1:decide ((v.rows.length:Int)≤(i:Int))=false:=decide_eq_false (by omega)
        have hlv:i<v.rows.length:=by omega
        have gb:v.rows.getD i []=v.rows[i]:=by rw [List.getD_eq_getElem?_getD,List.getElem?_eq_getElem hlv];rfl
        simp only [xq,reduceIte,qE,qA,qL,qD,Vw.ds,rwRows_len,rwRows_get hlv,rwRows_get hlt,e1,Int.toNat_natCast]
        refine ⟨by omega,by omega,by omega,by omega,?_⟩
        refine c_fn (He w.rows[i] v.rows[i]) rfl ?_;simp only [xq,reduceIte,qE,qA,qL,qD]
        refine ⟨_,Co.keep _ ?_,rfl⟩
        simp only [difP,decide_eq_false hle,Bool.false_or,ga,gb]
        simp [x_upd,x_look]
    rintro _ rfl
    have hsu:=rowsDiff_succ (a:=w.rows) (b:=v.rows) (i:=i)
    obtain ⟨o,hod⟩:∃ o,o=(List.range i).filter (difP w.rows v.rows):=⟨_,rfl⟩
    have hol:o.length≤i:=by rw [hod];exact filt_len
    rw [← hod] at ho hsu
    refine W_cond rfl (fun hd=>?_) (fun hd=>W_skip ?_)
    · rw [hd,if_pos rfl] at hsu
      rcases ho with ⟨rfl,hnil⟩ | ⟨q,rfl,hq,hne⟩
      · rw [hnil] at hsu
        refine W_reg ?_;simp only [xq,reduceIte,qE,qA,qL,qD,List.append_assoc,hp_g0,hp_g1]
        rw [if_neg (by simp)]
        refine ⟨by decide,by decide,?_⟩
        refine W_reg ?_;simp only [xq,reduceIte,qE,qA,qL,qD,w1]
        refine ⟨w.rows.length-(i+1),S (.ref (t.length+3) 1 0 1 true) (t++[inLB [i],inLB [i]]) (i+1),by omega,Co.keep _ (by simp [x_upd,x_look]),i+1,_,_,hlt,rfl,rfl,.inr ⟨t.length+3,by rw [hsu];rfl,?_,by rw [hsu];simp⟩⟩
        rw [hsu]
        show (vwB v::vwB w::t++[inLB [i],inLB [i]])[(vwB v::vwB w::t).length+1]? = _
        rw [hp_g1];rfl
      · obtain ⟨k,rfl⟩:∃ k,q=k+2:=by
          rcases q with _ | _ | k
          · simp at hq
          · simp at hq
          · exact ⟨k,rfl⟩
        have hq':t[k]? = some (inLB o):=by simpa using hq
        have hql:=(List.getElem?_eq_some_iff.1 hq').1
        have gq:∀ t':Heap,(t++t')[k]? = some (inLB o):=fun t'=>hp_gl hq'
        have sq:∀ (t':Heap) X,(t++t').set k X=t.set k X++t':=fun t' X=>List.set_append_left _ _ hql
        refine W_reg ?_;simp only [xq,reduceIte,qE,qA,qL,qD,List.append_assoc,hp_g0,gq,sq,inRows_len]
        refine ⟨by simp only [room];omega,by simp only [maxLen];omega,?_⟩
        refine W_reg ?_;simp only [xq,reduceIte,qE,qA,qL,qD,w1]
        refine ⟨w.rows.length-(i+1),S (.ref (k+2) (o.length+1) 0 (o.length+1) true) (t.set k (inLB (o++[i]))++[inLB [i]]) (i+1),by omega,?_,i+1,_,_,hlt,rfl,rfl,.inr ⟨k+2,by rw [hsu,List.length_append];rfl,?_,by rw [hsu];simp⟩⟩
        · have:inLB (o++[i]) = .cells eInt ((inRows o).map (fun r=>r.map A.d)++[[.int i]]):=by simp only [inLB,inRows_app,List.map_append];rfl
          rw [this]
          exact Co.keep _ (by simp [x_upd,x_look])
        · rw [hsu]
          show (t.set k (inLB (o++[i]))++[inLB [i]])[k]? = _
          rw [List.getElem?_append_left (by simpa using hql),List.getElem?_set_self hql]
    · rw [hd,if_neg (by simp),List.append_nil] at hsu
      simp only [xq,reduceIte,qE,qA,qL,qD]
      refine W_reg ?_;simp only [xq,reduceIte,qE,qA,qL,qD,w1]
      exact ⟨w.rows.length-(i+1),S x t (i+1),by omega,Co.keep _ (by simp [x_upd,x_look]),i+1,x,t,hlt,rfl,rfl,by rw [hsu];exact ho⟩
  · have hle:i=w.rows.length:=by simp at hc;omega
    subst hle
    simp only [xq,reduceIte,qE,qA,qL,qD]
    refine W_seq (W_reg ?_);simp only [xq,reduceIte,qE,qA,qL,qD]
    refine W_ret (.frz ?_)
    simp only [xq,reduceIte,qE,qA,qL,qD]
    exact ho.frz
set_option maxHeartbeats 1000000 in
theorem applyLaw19_fn {f fg fa fp fr fs fw fx fi:FuncId} (H:FnIs P f N [.t 4] (x_law19_ChangeApply fg fa fp fr fs fw fx fi)) (hN:2≤N) (Hg:GrtOk Γ P fg) (Ha:FnP Γ P fa [] (.bool true)) (Hp:ApOk Γ P fp) (Hr:ApOk Γ P fr) (Hs:SameOk Γ P fs) (Hw:RowsOk Γ P fw) (Hx:RowsOk Γ P fx)
    (Hi:∀ a b:List Nat,FnP Γ P fi [insA a,insA b] (.bool (decide (a=b)))) (v:Vw) (l:List Cg):FnP Γ P f [vwA v,cgsA l] (.bool true):=by
  refine .of_W H (by simpa using hN) ?_
  have hg:=Hg v l
  unfold x_law19_ChangeApply
  simp only [vwA,Vw.ds,List.map_cons,List.map_nil] at hg ⊢
  refine W_seq (W_reg ?_);simp only [xq,reduceIte,qE,qA,qL,qD]
  refine W_seq ?_
  refine W_seq (W_reg ?_);simp only [xq,reduceIte,qE,qA,qL,qD]
  refine c_fn (hg) rfl ?_;simp only [xq,reduceIte,qE,qA,qL,qD]
  refine W_cond rfl (fun hc=>?_) (fun hc=>W_skip ?_)
  · refine W_seq (W_reg ?_);simp only [xq,reduceIte,qE,qA,qL,qD]
    refine c_fn (Ha) rfl ?_;simp only [xq,reduceIte,qE,qA,qL,qD]
    refine W_ret (.tmp ?_ rfl)
    simp only [x_upd,reduceIte]
  obtain ⟨h1,h2,h3,h4,h5,h6⟩:=small_of hc
  have hok:∀ c∈l,CgOk c:=fun c hc=>(h4 c hc).ok
  have hp:=Hp v l h5 hok
  have hr:=Hr v l h5 hok
  have hw:=Hw v l h5 hok
  have hx:=Hx v l h5 hok
  have hi:=Hi (rowsV v l) (rowsV v l)
  rw [decide_eq_true rfl] at hi
  obtain ⟨w,i,e,hap⟩:∃ w i e,applyV v l=(w,i,e):=⟨_,_,_,rfl⟩
  have hs:=Hs w w
  rw [decide_eq_true rfl] at hs
  rw [hap] at hp hr
  simp only [apA,vwA,Vw.ds,List.map_cons,List.map_nil] at hp hr hw hx hs
  simp only [xq,reduceIte,qE,qA,qL,qD]
  refine W_seq (W_reg ?_);simp only [xq,reduceIte,qE,qA,qL,qD]
  refine c_fn (hp) rfl ?_;simp only [xq,reduceIte,qE,qA,qL,qD]
  refine W_seq (W_reg ?_);simp only [xq,reduceIte,qE,qA,qL,qD,Vw.ds]
  refine c_fn (hr) rfl ?_;simp only [xq,reduceIte,qE,qA,qL,qD]
  refine W_sdrw (by simp) fun K hK=>?_
  simp only [List.replicate_zero,List.append_nil]
  refine run_take 13 fun K1 hK1=>?_
  simp only [xq,reduceIte,qE,qA,qL,qD,Vw.ds]
  refine c_fn (hs) rfl ?_;simp only [xq,reduceIte,qE,qA,qL,qD,decide_true]
  refine hK1 _ ?_
  clear hK1 K1
  simp only [xq,reduceIte,qE,qA,qL,qD,Vw.ds]
  refine c_fn (hw) rfl ?_;simp only [xq,reduceIte,qE,qA,qL,qD,Vw.ds]
  refine c_fn (hx) rfl ?_;simp only [xq,reduceIte,qE,qA,qL,qD]
  refine c_fn (hi) rfl ?_;simp only [xq,reduceIte,qE,qA,qL,qD]
  refine c_fn (Ha) rfl ?_;simp only [xq,reduceIte,qE,qA,qL,qD]
  refine hK _ ?_
  refine W_ret (.tmp ?_ rfl)
  simp only [x_upd,reduceIte]
end Go.Proofs.YtknmhbbmopnfjaaDoor.Nx

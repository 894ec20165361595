import Derived.Test.YtigfbnglplbbpaaDoorNxI20
import Derived.Test.YtigfbnglplbbpaaDoorNxDL
set_option linter.unusedSimpArgs false
set_option linter.unusedVariables false
set_option linter.unnecessarySimpa false
open Bool renaming true_eq_false → zE
open Nat renaming zero_le → zI
open Nat renaming reduceEqDiff → qE, reduceAdd → qA, reduceLT → qL, reduceLeDiff → qD
namespace Go.Proofs.YtigfbnglplbbpaaDoor.Nx
open Go
variable {P:Program} {N:Nat} {Γ:Tabs}
theorem formB_cons {c:Cg} {l:List Cg} {st row:Int} (h:formB st row (c::l)=true):¬ (stageG c<st∨(stageG c=st∧stageG c≠3)∨(stageG c=3∧c.row<row))∧formB (stageG c) (if stageG c=3 then c.row else row) l=true:=by
  rw [formB] at h
  split at h
  · cases h
  · rename_i hn;exact ⟨hn,h⟩
set_option maxHeartbeats 2000000 in
theorem formLaw20_fn {f fs fa fd:FuncId} (H:FnIs P f N [.t 4] (x_law20_ViewdiffForm fs fa fd)) (hN:2≤N) (Hs:SmallOk Γ P fs) (Ha:FnP Γ P fa [] (.bool true)) (Hd:DiffOk Γ P fd) (a b:Vw) :
    FnP Γ P f [vwA a,vwA b] (.bool true):=by
  refine .of_W H (by simpa using hN) ?_
  have hs:=Hs a b
  unfold x_law20_ViewdiffForm
  simp only [vwA,Vw.ds,List.map_cons,List.map_nil] at hs ⊢
  refine W_seq (W_reg ?_);simp only [xq,reduceIte,qE,qA,qL,qD]
  refine W_co (frz_boxes (a:=a) (b:=b) (t:=[]) (h:=[]) [] (by simp [x_upd,x_look]) (by simp [x_upd,x_look]) (by simp)) ?_
  refine W_seq ?_
  refine W_seq (W_reg ?_);simp only [xq,reduceIte,qE,qA,qL,qD,Vw.ds]
  refine c_fn (hs) rfl ?_;simp only [xq,reduceIte,qE,qA,qL,qD]
  refine W_cond rfl (fun hc=>?_) (fun hc=>W_skip ?_)
  · refine W_seq (W_reg ?_);simp only [xq,reduceIte,qE,qA,qL,qD]
    refine c_fn (Ha) rfl ?_;simp only [xq,reduceIte,qE,qA,qL,qD]
    refine W_ret (.tmp ?_ rfl)
    simp only [x_upd,reduceIte]
  obtain ⟨⟨sa,_⟩,⟨sb,rb⟩,ha,hb⟩:=small20 (by simpa using hc)
  have hd:=Hd a b sa sb
  simp only [vwA,Vw.ds,List.map_cons,List.map_nil] at hd
  have hform:=form_diff (a:=a) (b:=b)
  have hlen:=diff_len sa sb
  obtain ⟨l,hl⟩:∃ l,l=diffV a b:=⟨_,rfl⟩
  rw [← hl] at hd hform hlen
  simp only [xq,reduceIte,qE,qA,qL,qD]
  refine W_seq (W_reg ?_);simp only [xq,reduceIte,qE,qA,qL,qD]
  refine W_seq ?_
  refine W_seq (W_reg ?_);simp only [xq,reduceIte,qE,qA,qL,qD]
  refine c_fn (hd) rfl ?_;simp only [xq,reduceIte,qE,qA,qL,qD,cgRows_len]
  refine W_block ?_
  let S:Nat→Int→Int→St:=fun i st row=>⟨look [(5,.int st),(6,.int row),(17,cgsA l),(18,.int l.length),(19,.int i)],[]⟩
  refine W_co (s':=S 0 0 0) (Co.keep _ (by simp [x_upd,x_look])) ?_
  refine W_loop (fun m s=>∃ i st row,i≤l.length∧m=l.length-i∧s=S i st row∧formB st row (l.drop i)=true) ⟨0,0,0,zI _,rfl,rfl,hform⟩ ?_
  rintro m s ⟨i,st,row,hi,rfl,rfl,hf⟩
  simp only [S]
  refine W_seq (W_reg ?_);simp only [xq,reduceIte,qE,qA,qL,qD]
  refine W_seq (W_cond rfl (fun hc=>W_skip ?_) (fun hc=>W_exit ?_))
  · have hlt:i<l.length:=by simpa using hc
    have w1:IntKind.i64.wrap ((i:Int)+1)=((i+1:Nat):Int):=by rw [i64_of (by omega)];omega
    obtain ⟨c,hcd⟩:∃ c,c=l[i]:=⟨_,rfl⟩
    have hcg:(cgRows l).getD i []=c.ds:=by rw [cgRows_get hlt,← hcd]
    rw [List.drop_eq_getElem_cons hlt,← hcd] at hf
    obtain ⟨hno,hf2⟩:=formB_cons hf
    obtain ⟨g,hg⟩:∃ g,g=stageG c:=⟨_,rfl⟩
    have hgd:g=if c.kind=1 then 1 else if c.kind=2 then 2 else if c.kind=3 then 3 else if c.kind=4 then 4 else 0:=hg
    rw [← hg] at hno hf2
    simp only [xq,reduceIte,qE,qA,qL,qD]
    let T:Int→Int→St:=fun st row=>⟨look [(5,.int st),(6,.int row),(17,cgsA l),(18,.int l.length),(19,.int i)],[]⟩
    refine W_cut (· = T g (if g=3 then c.row else row)) ?_ ?_
    · refine W_block ?_
      refine W_seq (W_reg ?_);simp only [xq,reduceIte,qE,qA,qL,qD,cgRows_len,hcg,Cg.ds,Int.toNat_natCast]
      refine ⟨by omega,by omega,?_⟩
      refine W_seq (W_reg ?_);simp only [xq,reduceIte,qE,qA,qL,qD]
      let V:St:=⟨look [(5,.int st),(6,.int row),(8,.ptr 0 1 0 0),(9,.int g),(17,cgsA l),(18,.int l.length),(19,.int i)],[cgB c]⟩
      refine W_cut (· = V) ?_ ?_
      · refine W_seq (W_reg ?_);simp only [xq,reduceIte,qE,qA,qL,qD,Cg.ds]
        refine W_block ?_
        refine W_seq (W_reg ?_);simp only [xq,reduceIte,qE,qA,qL,qD]
        refine W_cond rfl (fun h1=>?_) (fun h1=>?_)
        · have h1:=of_decide_eq_true h1
          rw [if_pos h1] at hgd
          refine W_reg ?_;simp only [xq,reduceIte,qE,qA,qL,qD]
          exact ⟨_,Co.keep _ (by simp [x_upd,x_look,hgd]),rfl⟩
        have h1:=of_decide_eq_false h1
        rw [if_neg h1] at hgd
        refine W_seq (W_reg ?_);simp only [xq,reduceIte,qE,qA,qL,qD]
        refine W_cond rfl (fun h2=>?_) (fun h2=>?_)
        · have h2:=of_decide_eq_true h2
          rw [if_pos h2] at hgd
          refine W_reg ?_;simp only [xq,reduceIte,qE,qA,qL,qD]
          exact ⟨_,Co.keep _ (by simp [x_upd,x_look,hgd]),rfl⟩
        have h2:=of_decide_eq_false h2
        rw [if_neg h2] at hgd
        refine W_seq (W_reg ?_);simp only [xq,reduceIte,qE,qA,qL,qD]
        refine W_cond rfl (fun h3=>?_) (fun h3=>?_)
        · have h3:=of_decide_eq_true h3
          rw [if_pos h3] at hgd
          refine W_reg ?_;simp only [xq,reduceIte,qE,qA,qL,qD]
          exact ⟨_,Co.keep _ (by simp [x_upd,x_look,hgd]),rfl⟩
        have h3:=of_decide_eq_false h3
        rw [if_neg h3] at hgd
        refine W_seq (W_reg ?_);simp only [xq,reduceIte,qE,qA,qL,qD]
        refine W_cond rfl (fun h4=>?_) (fun h4=>W_skip ?_)
        · have h4:=of_decide_eq_true h4
          rw [if_pos h4] at hgd
          refine W_reg ?_;simp only [xq,reduceIte,qE,qA,qL,qD]
          exact ⟨_,Co.keep _ (by simp [x_upd,x_look,hgd]),rfl⟩
        · have h4:=of_decide_eq_false h4
          rw [if_neg h4] at hgd
          simp only [xq,reduceIte,qE,qA,qL,qD]
          exact ⟨_,Co.keep _ (by simp [x_upd,x_look,hgd]),rfl⟩
      rintro _ rfl
      clear hgd
      simp only [V]
      let V2:Bool→St:=fun z=>⟨look [(5,.int st),(6,.int row),(8,.ptr 0 1 0 0),(9,.int g),(17,cgsA l),(18,.int l.length),(19,.int i),(54,.bool z)],[cgB c]⟩
      refine W_seq (W_cut (· = V2 false) (W_reg ?_) ?_)
      · have e1:decide (g<st)=false:=decide_eq_false (fun h=>hno (.inl h))
        by_cases q2:g=st
        · have q3:g=3:=by
            rcases Classical.em (g=3) with h | h
            · exact h
            · exact absurd (.inr (.inl ⟨q2,h⟩)) hno
          have e2:decide (g=st)=true:=decide_eq_true q2
          have e3:decide (g=3)=true:=decide_eq_true q3
          have e4:decide (c.row<row)=false:=decide_eq_false (fun h=>hno (.inr (.inr ⟨q3,h⟩)))
          refine run_take 13 fun K1 hK1=>?_
          simp only [xq,reduceIte,qE,qA,qL,qD,e1,e2,e3,undefA,zE]
          refine hK1 _ ?_
          simp only [xq,reduceIte,qE,qA,qL,qD,e3,Cg.ds,e4,undefA,zE]
          exact ⟨_,Co.keep _ (by simp [x_upd,x_look]),rfl⟩
        · have e2:decide (g=st)=false:=decide_eq_false q2
          refine run_take 13 fun K1 hK1=>?_
          simp only [xq,reduceIte,qE,qA,qL,qD,e1,e2,undefA,zE]
          refine hK1 _ ?_
          by_cases q3:g=3
          · have e3:decide (g=3)=true:=decide_eq_true q3
            have e4:decide (c.row<row)=false:=decide_eq_false (fun h=>hno (.inr (.inr ⟨q3,h⟩)))
            simp only [xq,reduceIte,qE,qA,qL,qD,e3,Cg.ds,e4,undefA,zE]
            exact ⟨_,Co.keep _ (by simp [x_upd,x_look]),rfl⟩
          · have e3:decide (g=3)=false:=decide_eq_false q3
            simp only [xq,reduceIte,qE,qA,qL,qD,e3,undefA,zE]
            exact ⟨_,Co.keep _ (by simp [x_upd,x_look]),rfl⟩
      rintro _ rfl
      simp only [V2]
      refine W_cond rfl (fun hd=>by cases hd) (fun _=>W_skip ?_)
      simp only [xq,reduceIte,qE,qA,qL,qD]
      refine W_seq (W_reg ?_);simp only [xq,reduceIte,qE,qA,qL,qD]
      refine W_seq (W_reg ?_);simp only [xq,reduceIte,qE,qA,qL,qD]
      have fin:∀ (sl:Nat→A) (h:Heap) (r:Int),sl 5 = .int g→sl 6 = .int r→sl 17=cgsA l→sl 18 = .int l.length→sl 19 = .int i→r=(if g=3 then c.row else row)→∃ s1,Co 0 ⟨sl,h⟩ s1∧s1=T g (if g=3 then c.row else row):=by
        intro sl h r q5 q6 q17 q18 q19 hr
        refine ⟨_,Co.to (s:=⟨sl,h⟩) [(5,.int g),(6,.int r),(17,cgsA l),(18,.int l.length),(19,.int i)] 0 ?_ (zI _) (zI _) u0,?_⟩
        · simp [q5,q6,q17,q18,q19,A.under]
        · rw [hr];rfl
      refine W_cond rfl (fun hd=>?_) (fun hd=>W_skip ?_)
      · have hd:=of_decide_eq_true hd
        refine W_reg ?_;simp only [xq,reduceIte,qE,qA,qL,qD,Cg.ds]
        exact fin _ _ c.row rfl rfl rfl rfl rfl (by rw [if_pos hd])
      · have hd:=of_decide_eq_false hd
        simp only [xq,reduceIte,qE,qA,qL,qD]
        exact fin _ _ row rfl rfl rfl rfl rfl (by rw [if_neg hd])
    rintro _ rfl
    simp only [T]
    refine W_reg ?_;simp only [xq,reduceIte,qE,qA,qL,qD,w1]
    exact ⟨l.length-(i+1),S (i+1) g (if g=3 then c.row else row),by omega,Co.keep _ (by simp [x_upd,x_look]),i+1,_,_,hlt,rfl,rfl,hf2⟩
  · simp only [xq,reduceIte,qE,qA,qL,qD]
    refine W_seq (W_reg ?_);simp only [xq,reduceIte,qE,qA,qL,qD]
    refine c_fn (Ha) rfl ?_;simp only [xq,reduceIte,qE,qA,qL,qD]
    refine W_ret (.tmp ?_ rfl)
    simp only [x_upd,reduceIte]
end Go.Proofs.YtigfbnglplbbpaaDoor.Nx

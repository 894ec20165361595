import Derived.Test.YthhjkfilfhmakaaDoorNxB0
import Derived.Test.YthhjkfilfhmakaaDoorNxC1
set_option linter.unusedSimpArgs false
set_option linter.unusedVariables false
set_option linter.unnecessarySimpa false
open List renaming getElem?_eq_getElem → zB, drop_eq_getElem_cons → zd
open Nat renaming zero_le → zI
open Bool renaming eq_iff_iff → ze
open Nat renaming reduceEqDiff → qE, reduceAdd → qA, reduceLT → qL, reduceLeDiff → qD
namespace Go.Proofs.YthhjkfilfhmakaaDoor.Nx
open Go
variable {P:Program} {N:Nat} {Γ:Tabs}
def rowCk:List Ce→Int
  | []=>0
  | c::l=>if ¬ (c.width=1∨c.width=2) then 12 else if chkC c.text=0 then (if widC c.text=c.width then (if c.width=2 then (match l with
    | []=>12
    | d::l'=>if d=pairC c then rowCk l' else 12) else rowCk l) else 12) else 3
def checkR (l:List Ce):Int:=if l.length<1∨132<l.length then 5 else rowCk l
theorem rowCk_at {l:List Ce} {i:Nat} (hi:i<l.length):rowCk (l.drop i)=if ¬ (l[i].width=1∨l[i].width=2) then 12 else if chkC l[i].text=0 then (if widC l[i].text=l[i].width then (if l[i].width=2 then (if h:i+1<l.length then (if l[i+1]=pairC l[i] then rowCk (l.drop (i+2)) else 12) else 12) else rowCk (l.drop (i+1))) else 12) else 3:=by
  rw [zd hi,rowCk.eq_def]
  simp only
  by_cases h:i+1<l.length
  · rw [zd h]
    simp only [h,dite_true]
  · have:l.drop (i+1)=[]:=List.drop_eq_nil_of_le (by omega)
    simp only [this,h,dite_false]
set_option maxHeartbeats 400000 in
theorem rowCheck_fn {f fc fw:FuncId} (H:FnIs P f N [.t 2] (x_cellrow_Check fc fw)) (hN:1≤N) (Hc:∀ s:ByteArray,s.size≤1000→FnP Γ P fc [.str s] (.int (chkC s))) (Hw:∀ s:ByteArray,s.size≤1000→FnP Γ P fw [.str s] (.int (widC s)))
    (l:List Ce) (ht:∀ c∈l,c.text.size≤1000):FnP Γ P f [.d (.sl eCe (ceRows l))] (.int (checkR l)):=by
  refine .of_W H (by simpa using hN) ?_
  unfold x_cellrow_Check
  refine W_seq (W_reg ?_)
  simp only [xq,reduceIte,qE,qA,qL,qD]
  have g1:decide ((l.length:Int)<1)=decide (l.length<1):=by rw [ze];simp only [decide_eq_true_eq];omega
  have g2:decide ((132:Int)<(l.length:Int))=decide (132<l.length):=by rw [ze];simp;omega
  let S:Bool→St:=fun b=>⟨look [(0,.d (.sl eCe (ceRows l))),(12,.bool b)],[]⟩
  refine W_seq (W_cutX (· = S (decide (l.length<1)||decide (132<l.length))) rfl (fun K hK=>?_) ?_)
  · cases e:decide (l.length<1)<;>simp only [xq,reduceIte,qE,qA,qL,qD,ceRows_length,g1,g2,e]
    all_goals (refine hK _ _ (Co.keep _ ?_) rfl;generalize l.length=n at e ⊢; simp only [e,Bool.true_or,Bool.false_or];simp [x_upd,x_look])
  rintro _ rfl
  refine W_cond rfl (fun hc=>?_) (fun hc=>W_skip ?_)
  · have hc:l.length<1∨132<l.length:=by simpa using hc
    refine W_seq (W_reg ?_)
    simp only [S,xq,reduceIte,qE,qA,qL,qD]
    refine W_ret (.tmp ?_ rfl)
    simp only [x_upd,reduceIte,checkR,if_pos hc]
  have hno:¬ (l.length<1∨132<l.length):=by
    intro h
    rw [Bool.eq_false_iff] at hc
    exact hc (by simpa using h)
  have hck:checkR l=rowCk l:=by rw [checkR,if_neg hno]
  rw [hck]
  simp only [S,xq,reduceIte,qE,qA,qL,qD]
  refine W_seq (W_seq (W_reg ?_))
  simp only [xq,reduceIte,qE,qA,qL,qD]
  refine W_block ?_
  let T:Nat→St:=fun i=>⟨look [(0,.d (.sl eCe (ceRows l))),(3,.int i)],[]⟩
  refine W_co (s':=T 0) (Co.keep _ (by simp [x_upd,x_look])) ?_
  refine W_loop (fun m s=>∃ i,i≤l.length∧m=l.length-i∧s=T i∧rowCk (l.drop i)=rowCk l) ⟨0,zI _,rfl,rfl,by simp⟩ ?_
  rintro m s ⟨i,hi,rfl,rfl,hpre⟩
  refine W_seq (W_seq (W_reg ?_))
  simp only [T,xq,reduceIte,qE,qA,qL,qD,ceRows_length]
  refine W_cond rfl (fun hc=>W_skip ?_) (fun hc=>W_exit ?_)
  · have hlt:i<l.length:=by simpa using hc
    have htx:=ht _ (List.getElem_mem hlt)
    rw [rowCk_at hlt] at hpre
    simp only [xq,reduceIte,qE,qA,qL,qD]
    refine W_block (W_seq (W_reg ?_))
    simp only [xq,reduceIte,qE,qA,qL,qD,ceRows_get hlt,Ce.row,ceRows_length]
    refine ⟨by omega,by omega,?_⟩
    have hnext:∀ h:i+1<l.length,(ceRows l).getD (i+1) []=l[i+1].row:=fun h=>ceRows_get h
    generalize hci:l[i]=c at hpre htx
    let U:List (Nat × A)→St:=fun t=>⟨look ((0,.d (.sl eCe (ceRows l)))::(3,.int i)::(4,.ptr 0 1 0 0)::t),[.cells eCe [c.row.map .d]]⟩
    refine W_seq (W_cutX (· = U [(28,.bool (!decide (c.width=1) && !decide (c.width=2)))]) rfl (fun K hK=>?_) ?_)
    · cases e:decide (c.width=1)<;>simp only [xq,reduceIte,qE,qA,qL,qD,e]
      all_goals (refine hK _ _ (Co.keep _ ?_) rfl;simp only [Bool.not_true,Bool.not_false,Bool.true_and,Bool.false_and];simp [x_upd,x_look,e])
    rintro _ rfl
    refine W_cond rfl (fun hw=>?_) (fun hw=>W_skip ?_)
    · refine W_seq (W_reg ?_)
      simp only [U,xq,reduceIte,qE,qA,qL,qD]
      refine W_ret ?_
      simp only [xq,reduceIte,qE,qA,qL,qD]
      refine .tmp ?_ rfl
      have:¬ (c.width=1∨c.width=2):=by simpa using hw
      rw [if_pos this] at hpre
      simp only [x_upd,reduceIte,← hpre]
    have hw12:¬¬ (c.width=1∨c.width=2):=by
      intro h
      rw [Bool.eq_false_iff] at hw
      exact hw (by simpa using h)
    rw [if_neg hw12] at hpre
    have hw12:c.width=1∨c.width=2:=Decidable.not_not.1 hw12
    simp only [U,Ce.row,xq,reduceIte,qE,qA,qL,qD]
    refine W_seq (W_seq (W_reg ?_))
    simp only [xq,reduceIte,qE,qA,qL,qD]
    refine c_fn (Hc _ htx) rfl ?_
    simp only [xq,reduceIte,qE,qA,qL,qD]
    refine W_cond rfl (fun hk=>?_) (fun hk=>W_skip ?_)
    · have hk:¬ chkC c.text=0:=by simpa using hk
      rw [if_neg hk] at hpre
      refine W_seq (W_reg ?_)
      simp only [xq,reduceIte,qE,qA,qL,qD]
      refine W_ret ?_
      simp only [xq,reduceIte,qE,qA,qL,qD]
      refine .tmp ?_ rfl
      simp only [x_upd,reduceIte,← hpre]
    have hk:chkC c.text=0:=by simpa using hk
    rw [if_pos hk] at hpre
    simp only [xq,reduceIte,qE,qA,qL,qD]
    refine W_seq (W_seq (W_drw (by simp) ?_))
    simp only [xq,reduceIte,qE,qA,qL,qD]
    refine c_fn (Hw _ htx) rfl ?_
    simp only [xq,reduceIte,qE,qA,qL,qD]
    refine W_cond rfl (fun hv=>?_) (fun hv=>W_skip ?_)
    · have hv:¬ widC c.text=c.width:=by simpa using hv
      rw [if_neg hv] at hpre
      refine W_seq (W_reg ?_)
      simp only [xq,reduceIte,qE,qA,qL,qD]
      refine W_ret ?_
      simp only [xq,reduceIte,qE,qA,qL,qD]
      refine .tmp ?_ rfl
      simp only [x_upd,reduceIte,← hpre]
    have hv:widC c.text=c.width:=by simpa using hv
    rw [if_pos hv] at hpre
    simp only [xq,reduceIte,qE,qA,qL,qD]
    refine W_co (s':=U []) (Co.keep _ (by simp [x_upd,x_look,Ce.row])) ?_
    have f1:IntKind.i64.wrap ((i:Int)+1)=((i+1:Nat):Int):=i64_of (by omega)
    have f2:IntKind.i64.wrap ((i:Int)+2)=((i+2:Nat):Int):=i64_of (by omega)
    -- the test of the second half
    let B:Bool:=decide (c.width=2)&&(decide (l.length≤i+1) || !decide (l[i+1]? = some (pairC c)))
    refine W_seq (W_cut (· = U [(59,.bool B)]) (W_drw (by simp) ?_) ?_)
    · have fin:∀ sl b,sl 0 = .d (.sl eCe (ceRows l))→sl 3 = .int i→sl 4 = .ptr 0 1 0 0→sl 59 = .bool b→b=B→∃ s1,Co 0 ⟨sl,[.cells eCe [c.row.map .d]]⟩ s1∧s1=U [(59,.bool B)]:=fun sl b a0 a3 a4 a5 a6=>by
        subst a6
        exact ⟨U [(59,.bool B)],Co.keep _ (by simp [a0,a3,a4,a5]),rfl⟩
      cases e2:decide (c.width=2) with
      | false =>
        refine run_take 4 fun K1 hK1=>?_
        simp only [U,Ce.row,xq,reduceIte,qE,qA,qL,qD,e2]
        refine hK1 _ ?_
        simp only [xq,reduceIte,qE,qA,qL,qD]
        exact fin _ false rfl rfl rfl rfl (by simp only [B,e2,Bool.false_and])
      | true =>
        refine run_take 4 fun K1 hK1=>?_
        simp only [U,Ce.row,xq,reduceIte,qE,qA,qL,qD,e2]
        refine hK1 _ ?_
        by_cases hn:i+1<l.length
        · have g3:decide ((l.length:Int)≤((i+1:Nat):Int))=false:=decide_eq_false (by omega)
          have g4:decide (l.length≤i+1)=false:=decide_eq_false (by omega)
          refine run_take 6 fun K1 hK1=>?_
          simp only [xq,reduceIte,qE,qA,qL,qD,ceRows_length,f1,g3]
          refine hK1 _ ?_
          refine run_take 6 fun K1 hK1=>?_
          simp only [xq,reduceIte,qE,qA,qL,qD,ceRows_length,f1,hnext hn,Ce.row]
          refine ⟨by omega,by omega,hK1 _ ?_⟩
          have he:=ce_eq l[i+1] (pairC c)
          simp only [pairC] at he
          have e4:decide (l[i+1]? = some (pairC c))=decide (l[i+1]=pairC c):=by rw [zB hn];simp
          simp only [xq,reduceIte,qE,qA,qL,qD]
          refine fin _ _ rfl rfl rfl rfl ((congrArg (fun b => !b) he).trans ?_)
          simp only [B,e2,g4,e4,Bool.true_and,Bool.false_or];rfl
        · have g3:decide ((l.length:Int)≤((i+1:Nat):Int))=true:=decide_eq_true (by omega)
          have g4:decide (l.length≤i+1)=true:=decide_eq_true (by omega)
          refine run_take 6 fun K1 hK1=>?_
          simp only [xq,reduceIte,qE,qA,qL,qD,ceRows_length,f1,g3]
          refine hK1 _ ?_
          simp only [xq,reduceIte,qE,qA,qL,qD]
          exact fin _ true rfl rfl rfl rfl (by simp only [B,e2,g4,Bool.true_or,Bool.true_and])
    rintro _ rfl
    refine W_cond rfl (fun hB=>?_) (fun hB=>W_skip ?_)
    · refine W_seq (W_reg ?_)
      simp only [U,xq,reduceIte,qE,qA,qL,qD]
      refine W_ret ?_
      simp only [xq,reduceIte,qE,qA,qL,qD]
      refine .tmp ?_ rfl
      simp only [B,Bool.and_eq_true,Bool.or_eq_true,decide_eq_true_eq,Bool.not_eq_true',decide_eq_false_iff_not] at hB
      obtain ⟨hB1,hB2⟩:=hB
      rw [if_pos hB1] at hpre
      by_cases hn:i+1<l.length
      · rw [dif_pos hn,if_neg] at hpre
        · simp only [x_upd,reduceIte,← hpre]
        · rcases hB2 with h | h
          · omega
          · rw [zB hn] at h
            exact fun h'=>h (by rw [h'])
      · rw [dif_neg hn] at hpre
        simp only [x_upd,reduceIte,← hpre]
    · simp only [U,Ce.row,xq,reduceIte,qE,qA,qL,qD]
      refine W_reg ?_
      rcases hw12 with hw1 | hw2
      · have hne2:¬ c.width=2:=by omega
        rw [if_neg hne2] at hpre
        simp only [xq,reduceIte,qE,qA,qL,qD,hw1,f1]
        refine ⟨l.length-(i+1),T (i+1),by omega,?_,i+1,hlt,rfl,rfl,hpre⟩
        refine Co.to _ 0 ?_ (Nat.le_refl _) (zI _) (by simp)
        simp [x_upd,x_look,A.under]
      · rw [if_pos hw2] at hpre
        have hB':i+1<l.length∧l[i+1]? = some (pairC c):=by
          simp only [B,hw2,decide_true,Bool.true_and,Bool.or_eq_false_iff,decide_eq_false_iff_not,Bool.not_eq_false',decide_eq_true_eq] at hB
          exact ⟨by omega,hB.2⟩
        obtain ⟨hn,hq⟩:=hB'
        rw [zB hn] at hq
        rw [dif_pos hn,if_pos (Option.some.inj hq)] at hpre
        simp only [xq,reduceIte,qE,qA,qL,qD,hw2,f2]
        refine ⟨l.length-(i+2),T (i+2),by omega,?_,i+2,hn,rfl,rfl,hpre⟩
        refine Co.to _ 0 ?_ (Nat.le_refl _) (zI _) (by simp)
        simp [x_upd,x_look,A.under]
  · have hle:i=l.length:=by simp at hc;omega
    subst hle
    rw [List.drop_length] at hpre
    simp only [xq,reduceIte,qE,qA,qL,qD]
    refine W_seq (W_reg ?_)
    simp only [xq,reduceIte,qE,qA,qL,qD]
    refine W_ret (.tmp ?_ rfl)
    simp only [x_upd,reduceIte,← hpre];rfl
end Go.Proofs.YthhjkfilfhmakaaDoor.Nx
namespace Go.Proofs.YthhjkfilfhmakaaDoor.Nx
open Go
variable {P:Program} {N:Nat} {Γ:Tabs}
set_option maxHeartbeats 400000 in
theorem refRow_fn {f fc fw:FuncId} (H:FnIs P f N [.t 2] (x_ref07_Check fc fw)) (hN:1≤N) (Hc:∀ s:ByteArray,s.size≤1000→FnP Γ P fc [.str s] (.int (chkC s))) (Hw:∀ s:ByteArray,s.size≤1000→FnP Γ P fw [.str s] (.int (widC s)))
    (l:List Ce) (ht:∀ c∈l,c.text.size≤1000):FnP Γ P f [.d (.sl eCe (ceRows l))] (.int (checkR l)):=by
  refine .of_W H (by simpa using hN) ?_
  unfold x_ref07_Check
  refine W_seq (W_reg ?_)
  simp only [xq,reduceIte,qE,qA,qL,qD]
  have g1:decide ((l.length:Int)<1)=decide (l.length<1):=by rw [ze];simp only [decide_eq_true_eq];omega
  have g2:decide ((132:Int)<(l.length:Int))=decide (132<l.length):=by rw [ze];simp only [decide_eq_true_eq];omega
  let S:Bool→St:=fun b=>⟨look [(0,.d (.sl eCe (ceRows l))),(12,.bool b)],[]⟩
  refine W_seq (W_cutX (· = S (decide (l.length<1)||decide (132<l.length))) rfl (fun K hK=>?_) ?_)
  · cases e:decide (l.length<1)<;>simp only [xq,reduceIte,qE,qA,qL,qD,ceRows_length,g1,g2,e]
    all_goals (refine hK _ _ (Co.keep _ ?_) rfl;generalize l.length=n at e ⊢; simp only [e,Bool.true_or,Bool.false_or];simp [x_upd,x_look])
  rintro _ rfl
  refine W_cond rfl (fun hc=>?_) (fun hc=>W_skip ?_)
  · have hc:l.length<1∨132<l.length:=by simpa using hc
    refine W_seq (W_reg ?_)
    simp only [S,xq,reduceIte,qE,qA,qL,qD]
    refine W_ret (.tmp ?_ rfl)
    simp only [x_upd,reduceIte,checkR,if_pos hc]
  have hno:¬ (l.length<1∨132<l.length):=by
    intro h
    rw [Bool.eq_false_iff] at hc
    exact hc (by simpa using h)
  have hck:checkR l=rowCk l:=by rw [checkR,if_neg hno]
  rw [hck]
  simp only [S,xq,reduceIte,qE,qA,qL,qD]
  refine W_seq (W_seq (W_reg ?_))
  simp only [xq,reduceIte,qE,qA,qL,qD]
  refine W_block ?_
  let T:Nat→St:=fun i=>⟨look [(0,.d (.sl eCe (ceRows l))),(3,.int i)],[]⟩
  refine W_co (s':=T 0) (Co.keep _ (by simp [x_upd,x_look])) ?_
  refine W_loop (fun m s=>∃ i,i≤l.length∧m=l.length-i∧s=T i∧rowCk (l.drop i)=rowCk l) ⟨0,zI _,rfl,rfl,by simp⟩ ?_
  rintro m s ⟨i,hi,rfl,rfl,hpre⟩
  refine W_seq (W_seq (W_reg ?_))
  simp only [T,xq,reduceIte,qE,qA,qL,qD,ceRows_length]
  refine W_cond rfl (fun hc=>W_skip ?_) (fun hc=>W_exit ?_)
  · have hlt:i<l.length:=by simpa using hc
    have htx:=ht _ (List.getElem_mem hlt)
    rw [rowCk_at hlt] at hpre
    have k1:(0:Int)≤(i:Int):=by omega
    have k2:((i:Int)<(l.length:Int)):=by omega
    simp only [xq,reduceIte,qE,qA,qL,qD]
    have hget:(ceRows l).getD i []=l[i].row:=ceRows_get hlt
    have hnext:∀ h:i+1<l.length,(ceRows l).getD (i+1) []=l[i+1].row:=fun h=>ceRows_get h
    generalize hci:l[i]=c at hpre htx hget
    refine W_seq (W_block (W_seq (W_reg ?_)))
    simp only [xq,reduceIte,qE,qA,qL,qD,hget,Ce.row,ceRows_length,k1,k2]
    let U:List (Nat × A)→St:=fun t=>⟨look ((0,.d (.sl eCe (ceRows l)))::(3,.int i)::(4,.int c.width)::t),[]⟩
    refine W_seq (W_cutX (· = U [(29,.bool (!decide (c.width=1) && !decide (c.width=2)))]) rfl (fun K hK=>?_) ?_)
    · cases e:decide (c.width=1)<;>simp only [xq,reduceIte,qE,qA,qL,qD,e]
      all_goals (refine hK _ _ (Co.keep _ ?_) rfl;simp only [Bool.not_true,Bool.not_false,Bool.true_and,Bool.false_and];simp [x_upd,x_look,e])
    rintro _ rfl
    refine W_cond rfl (fun hw=>?_) (fun hw=>W_skip ?_)
    · refine W_seq (W_reg ?_)
      simp only [U,xq,reduceIte,qE,qA,qL,qD]
      refine W_ret ?_
      simp only [xq,reduceIte,qE,qA,qL,qD]
      refine .tmp ?_ rfl
      have:¬ (c.width=1∨c.width=2):=by simpa using hw
      rw [if_pos this] at hpre
      simp only [x_upd,reduceIte,← hpre]
    have hw12:¬¬ (c.width=1∨c.width=2):=by
      intro h
      rw [Bool.eq_false_iff] at hw
      exact hw (by simpa using h)
    rw [if_neg hw12] at hpre
    have hw12:c.width=1∨c.width=2:=Decidable.not_not.1 hw12
    simp only [U,xq,reduceIte,qE,qA,qL,qD]
    refine W_seq (W_seq (W_reg ?_))
    simp only [xq,reduceIte,qE,qA,qL,qD,hget,Ce.row,ceRows_length,k1,k2]
    refine c_fn (Hc _ htx) rfl ?_
    simp only [xq,reduceIte,qE,qA,qL,qD]
    refine W_cond rfl (fun hk=>?_) (fun hk=>W_skip ?_)
    · have hk:¬ chkC c.text=0:=by simpa using hk
      rw [if_neg hk] at hpre
      refine W_seq (W_reg ?_)
      simp only [xq,reduceIte,qE,qA,qL,qD]
      refine W_ret ?_
      simp only [xq,reduceIte,qE,qA,qL,qD]
      refine .tmp ?_ rfl
      simp only [x_upd,reduceIte,← hpre]
    have hk:chkC c.text=0:=by simpa using hk
    rw [if_pos hk] at hpre
    simp only [xq,reduceIte,qE,qA,qL,qD]
    refine W_seq (W_seq (W_reg ?_))
    simp only [xq,reduceIte,qE,qA,qL,qD,hget,Ce.row,ceRows_length,k1,k2]
    refine c_fn (Hw _ htx) rfl ?_
    simp only [xq,reduceIte,qE,qA,qL,qD]
    refine W_cond rfl (fun hv=>?_) (fun hv=>W_skip ?_)
    · have hv:¬ widC c.text=c.width:=by simpa using hv
      rw [if_neg hv] at hpre
      refine W_seq (W_reg ?_)
      simp only [xq,reduceIte,qE,qA,qL,qD]
      refine W_ret ?_
      simp only [xq,reduceIte,qE,qA,qL,qD]
      refine .tmp ?_ rfl
      simp only [x_upd,reduceIte,← hpre]
    have hv:widC c.text=c.width:=by simpa using hv
    rw [if_pos hv] at hpre
    simp only [xq,reduceIte,qE,qA,qL,qD]
    refine W_co (s':=U []) (Co.keep _ (by simp [x_upd,x_look])) ?_
    have f1:IntKind.i64.wrap ((i:Int)+1)=((i+1:Nat):Int):=i64_of (by omega)
    have f2:IntKind.i64.wrap (((i+1:Nat):Int)+1)=((i+2:Nat):Int):=by rw [i64_of (by omega)];omega
    refine W_seq (W_seq (W_reg ?_))
    simp only [U,xq,reduceIte,qE,qA,qL,qD]
    refine W_cond rfl (fun h1=>W_exit ?_) (fun h1=>W_skip ?_)
    · have h1:c.width=1:=by simpa using h1
      rw [if_neg (by omega)] at hpre
      simp only [xq,reduceIte,qE,qA,qL,qD]
      refine W_reg ?_
      simp only [xq,reduceIte,qE,qA,qL,qD,f1]
      refine ⟨l.length-(i+1),T (i+1),by omega,Co.keep _ ?_,i+1,hlt,rfl,rfl,hpre⟩
      simp [x_upd,x_look]
    have h1:¬ c.width=1:=by simpa using h1
    have hw2:c.width=2:=by omega
    rw [if_pos hw2] at hpre
    simp only [xq,reduceIte,qE,qA,qL,qD]
    refine W_co (s':=U []) (Co.keep _ (by simp [x_upd,x_look])) ?_
    let B:Bool:=decide (i+1=l.length) || !decide (l[i+1]? = some (pairC c))
    refine W_seq (W_cut (· = U [(65,.bool B)]) (W_drw (by simp) ?_) ?_)
    · have fin:∀ sl b,sl 0 = .d (.sl eCe (ceRows l))→sl 3 = .int i→sl 4 = .int c.width→sl 65 = .bool b→b=B→∃ s1,Co 0 ⟨sl,[]⟩ s1∧s1=U [(65,.bool B)]:=fun sl b a0 a3 a4 a5 a6=>by
        subst a6
        exact ⟨U [(65,.bool B)],Co.keep _ (by simp [a0,a3,a4,a5]),rfl⟩
      by_cases hn:i+1<l.length
      · have g3:decide (((i+1:Nat):Int)=(l.length:Int))=false:=decide_eq_false (by omega)
        have g4:decide (i+1=l.length)=false:=decide_eq_false (by omega)
        refine run_take 6 fun K1 hK1=>?_
        simp only [U,xq,reduceIte,qE,qA,qL,qD,ceRows_length,f1,g3]
        refine hK1 _ ?_
        refine run_take 5 fun K1 hK1=>?_
        simp only [xq,reduceIte,qE,qA,qL,qD,ceRows_length,f1,hnext hn,Ce.row]
        refine ⟨by omega,by omega,hK1 _ ?_⟩
        refine run_take 5 fun K1 hK1=>?_
        simp only [xq,reduceIte,qE,qA,qL,qD,hget,Ce.row,ceRows_length,k1,k2]
        refine hK1 _ ?_
        have he:=ce_eq l[i+1] (pairC c)
        simp only [pairC] at he
        have e4:decide (l[i+1]? = some (pairC c))=decide (l[i+1]=pairC c):=by rw [zB hn];simp
        simp only [xq,reduceIte,qE,qA,qL,qD]
        refine fin _ _ rfl rfl rfl rfl ((congrArg (fun b => !b) he).trans ?_)
        simp only [B,g4,e4,Bool.false_or];rfl
      · have g3:decide (((i+1:Nat):Int)=(l.length:Int))=true:=decide_eq_true (by omega)
        have g4:decide (i+1=l.length)=true:=decide_eq_true (by omega)
        refine run_take 6 fun K1 hK1=>?_
        simp only [U,xq,reduceIte,qE,qA,qL,qD,ceRows_length,f1,g3]
        refine hK1 _ ?_
        refine run_take 7 fun K1 hK1=>?_
        simp only [xq,reduceIte,qE,qA,qL,qD]
        refine hK1 _ ?_
        simp only [xq,reduceIte,qE,qA,qL,qD]
        exact fin _ true rfl rfl rfl rfl (by simp only [B,g4,Bool.true_or])
    rintro _ rfl
    refine W_cond rfl (fun hB=>?_) (fun hB=>W_skip ?_)
    · refine W_seq (W_reg ?_)
      simp only [U,xq,reduceIte,qE,qA,qL,qD]
      refine W_ret ?_
      simp only [xq,reduceIte,qE,qA,qL,qD]
      refine .tmp ?_ rfl
      simp only [B,Bool.or_eq_true,decide_eq_true_eq,Bool.not_eq_true',decide_eq_false_iff_not] at hB
      by_cases hn:i+1<l.length
      · rw [dif_pos hn,if_neg] at hpre
        · simp only [x_upd,reduceIte,← hpre]
        · rcases hB with h | h
          · omega
          · rw [zB hn] at h
            exact fun h'=>h (by rw [h'])
      · rw [dif_neg hn] at hpre
        simp only [x_upd,reduceIte,← hpre]
    · have hB':i+1<l.length∧l[i+1]? = some (pairC c):=by
        simp only [B,Bool.or_eq_false_iff,decide_eq_false_iff_not,Bool.not_eq_false',decide_eq_true_eq] at hB
        exact ⟨by omega,hB.2⟩
      obtain ⟨hn,hq⟩:=hB'
      rw [zB hn] at hq
      rw [dif_pos hn,if_pos (Option.some.inj hq)] at hpre
      simp only [U,xq,reduceIte,qE,qA,qL,qD]
      refine W_reg ?_
      simp only [xq,reduceIte,qE,qA,qL,qD,f1]
      refine W_reg ?_
      simp only [xq,reduceIte,qE,qA,qL,qD,f2]
      refine ⟨l.length-(i+2),T (i+2),by omega,Co.keep _ ?_,i+2,hn,rfl,rfl,hpre⟩
      simp [x_upd,x_look]
  · have hle:i=l.length:=by simp at hc;omega
    subst hle
    rw [List.drop_length] at hpre
    simp only [xq,reduceIte,qE,qA,qL,qD]
    refine W_seq (W_reg ?_)
    simp only [xq,reduceIte,qE,qA,qL,qD]
    refine W_ret (.tmp ?_ rfl)
    simp only [x_upd,reduceIte,← hpre];rfl
end Go.Proofs.YthhjkfilfhmakaaDoor.Nx

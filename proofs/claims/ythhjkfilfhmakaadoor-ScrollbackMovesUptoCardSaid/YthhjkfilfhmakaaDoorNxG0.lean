import Derived.Test.YthhjkfilfhmakaaDoorNxB0
import Derived.Test.YthhjkfilfhmakaaDoorNxR1
import Derived.Test.YthhjkfilfhmakaaDoorNxD15
import Derived.Test.YthhjkfilfhmakaaDoorNxB4
import Derived.Test.YthhjkfilfhmakaaDoorNxQ3
import Derived.Test.YthhjkfilfhmakaaDoorNxQ1
set_option linter.unusedSimpArgs false
set_option linter.unusedVariables false
set_option linter.unnecessarySimpa false
open List renaming getElem?_eq_some_iff → zA, getElem?_append_left → zF, getElem?_append_right → zG, getElem?_set_ne → zM, getElem?_set_self → zN, append_assoc → zS, not_mem_nil → zc, getElem_mem → zi, mem_cons → zp
open Nat renaming zero_le → zI
open Int renaming toNat_natCast → zQ
open Nat renaming reduceEqDiff → qE, reduceAdd → qA, reduceLT → qL, reduceLeDiff → qD
namespace Go.Proofs.YthhjkfilfhmakaaDoor.Nx
open Go
def szOk (w h:Int):Bool:=((decide (1≤w)&&decide (w≤132))&&decide (1≤h))&&decide (h≤60)
theorem szOk_le {w h:Int} (hs:szOk w h=true):(1≤w∧w≤132)∧1≤h∧h≤60:=by
  simp only [szOk,Bool.and_eq_true,decide_eq_true_eq] at hs
  omega
abbrev eGd:Elt:=⟨3,40⟩
structure Gd where
  w:Int
  h:Int
  rows:List (List Ce)
def Gd.ds (g:Gd):List D:=[.sc (.int .i64 g.w),.sc (.int .i64 g.h),.sl eRw (crRows g.rows)]
def gdR (g:Gd):List A:=[.int g.w,.int g.h,.d (.sl eRw (crRows g.rows))]
def gdA (g:Gd):A:=.agg (gdR g)
deriving instance DecidableEq for Gd
def zeroGd:Gd:=⟨0,0,[]⟩
def gdE (x:Gd × Int):A:=.tup [gdA x.1,.int x.2]
abbrev gB (g:Gd):HB:=.cells eGd [gdR g]
abbrev zgB:HB:=.cells eGd [[.int 0,.int 0,.nil]]
abbrev oB (w h:Int) (x:A):HB:=.cells eGd [[.int w,.int h,x]]
abbrev iB (n:Int):HB:=.cells ⟨1,8⟩ [[.int n]]
abbrev crBk (l:List (List Ce)):HB:=.cells eRw ((crRows l).map fun r=>r.map A.d)
theorem frz_gd {h:Heap} {w hh e:Int} {x:A} {L:List (List Ce)} (hx:FrzA 0 h x (.d (.sl eRw (crRows L)))):FrzA 0 h (.tup [.agg [.int w,.int hh,x],.int e]) (gdE (⟨w,hh,L⟩,e)):=by
  refine .tup rfl fun j y hj=>?_
  rcases j with _ | _ | j
  · cases hj
    refine .agg rfl fun j y hj=>?_
    rcases j with _ | _ | _ | j
    · cases hj;exact .same rfl
    · cases hj;exact .same rfl
    · cases hj;exact hx
    · simp [gdR] at hj
  · cases hj;exact .same rfl
  · simp at hj
end Go.Proofs.YthhjkfilfhmakaaDoor.Nx
namespace Go.Proofs.YthhjkfilfhmakaaDoor.Nx
open Go
variable {P:Program} {N:Nat} {Γ:Tabs}
def great10 (l:List (List Ce)):Bool:=decide (10<l.length)||l.any greatC
theorem great10_fn {f fg:FuncId} (H:FnIs P f N [.t 2] (x_ref08_Great fg)) (hN:1≤N) (Hg:∀ l,FnP Γ P fg [.d (.sl eCe (ceRows l))] (.bool (greatC l))) (l:List (List Ce)):FnP Γ P f [.d (.sl eRw (crRows l))] (.int (if great10 l then 1 else 0)):=by
  refine .of_W H (by simpa using hN) (W_sl 0 rfl fun ⟨_,hroom,_⟩=>?_)
  have hlr:l.length≤room:=le_of_mul (by rw [crRows_len] at hroom;exact hroom)
  have c1:decide ((10:Int)<(l.length:Int))=decide (10<l.length):=by rw [Bool.eq_iff_iff];simp only [decide_eq_true_eq];omega
  unfold x_ref08_Great
  refine W_seq (W_reg ?_)
  simp only [xq,reduceIte,qE,qA,qL,qD]
  refine W_seq (W_seq (W_reg ?_))
  simp only [xq,reduceIte,qE,qA,qL,qD,crRows_len,c1]
  refine W_cond rfl (fun hc=>?_) (fun hc=>W_skip ?_)
  · refine W_seq (W_reg ?_)
    simp only [xq,reduceIte,qE,qA,qL,qD]
    refine W_ret (.tmp ?_ rfl)
    simp only [x_upd,reduceIte,great10,hc,Bool.true_or]
  · rename_i hg0
    simp only [xq,reduceIte,qE,qA,qL,qD]
    refine W_seq (W_seq (W_reg ?_))
    simp only [xq,reduceIte,qE,qA,qL,qD]
    refine W_block ?_
    let S:Nat→St:=fun i=>⟨look [(0,.d (.sl eRw (crRows l))),(3,.int i)],[]⟩
    refine W_co (s':=S 0) (Co.keep _ (by simp [x_upd,x_look])) ?_
    refine W_loop (fun m s=>∃ i,i≤l.length∧m=l.length-i∧s=S i∧(l.take i).any greatC=false) ⟨0,zI _,rfl,rfl,by simp⟩ ?_
    rintro m s ⟨i,hi,rfl,rfl,hpre⟩
    refine W_seq (W_seq (W_reg ?_))
    simp only [S,xq,reduceIte,qE,qA,qL,qD,crRows_len]
    refine W_cond rfl (fun hc=>W_skip ?_) (fun hc=>W_exit ?_)
    · have hlt:i<l.length:=by simpa using hc
      simp only [xq,reduceIte,qE,qA,qL,qD]
      refine W_seq (W_block (W_seq (W_reg ?_)))
      simp only [xq,reduceIte,qE,qA,qL,qD,crRows_get hlt,crRows_len]
      refine ⟨by omega,by omega,?_⟩
      refine c_fn (Hg _) rfl ?_
      simp only [xq,reduceIte,qE,qA,qL,qD]
      refine W_cond rfl (fun hd=>?_) (fun hd=>W_skip ?_)
      · refine W_seq (W_reg ?_)
        simp only [xq,reduceIte,qE,qA,qL,qD]
        refine W_ret ?_
        simp only [xq,reduceIte,qE,qA,qL,qD]
        refine .tmp ?_ rfl
        have:l.any greatC=true:=List.any_eq_true.2 ⟨l[i],zi hlt,hd⟩
        simp only [x_upd,reduceIte,great10,this,Bool.or_true]
      · simp only [xq,reduceIte,qE,qA,qL,qD]
        refine W_reg ?_
        simp only [xq,reduceIte,qE,qA,qL,qD]
        refine ⟨l.length-(i+1),S (i+1),by omega,Co.keep _ ?_,i+1,hlt,rfl,rfl,any_take_succ hlt hpre hd⟩
        simp [x_upd,x_look,i64_succ hlt hlr]
    · have hle:i=l.length:=by simp at hc;omega
      subst hle
      rw [List.take_length] at hpre
      have hgf:great10 l=false:=by rw [great10,hpre,Bool.or_false];assumption
      simp only [xq,reduceIte,qE,qA,qL,qD]
      refine W_seq (W_reg ?_)
      simp only [xq,reduceIte,qE,qA,qL,qD]
      refine W_ret (.tmp ?_ rfl)
      simp only [x_upd,reduceIte,hgf,Bool.false_eq_true]
theorem sized8_fn {f:FuncId} (H:FnIs P f N [.t 4] x_ref08_sized) (hN:2≤N) (w h:Int):FnP Γ P f [.int w,.int h] (.bool (szOk w h)):=by
  refine .of_W H (by simpa using hN) ?_
  unfold x_ref08_sized
  refine W_seq (W_reg ?_)
  simp only [xq,reduceIte,qE,qA,qL,qD]
  refine W_seq (W_reg ?_)
  cases e1:decide (1≤w)
  · simp only [xq,reduceIte,qE,qA,qL,qD,e1]
    refine W_ret (.tmp ?_ rfl)
    simp only [x_upd,reduceIte,szOk,e1,Bool.false_and]
  · cases e2:decide (w≤132)
    · simp only [xq,reduceIte,qE,qA,qL,qD,e1,e2]
      refine W_ret (.tmp ?_ rfl)
      simp only [x_upd,reduceIte,szOk,e1,e2,Bool.true_and,Bool.false_and]
    · cases e3:decide (1≤h)
      · simp only [xq,reduceIte,qE,qA,qL,qD,e1,e2,e3]
        refine W_ret (.tmp ?_ rfl)
        simp only [x_upd,reduceIte,szOk,e1,e2,e3,Bool.true_and,Bool.false_and]
      · simp only [xq,reduceIte,qE,qA,qL,qD,e1,e2,e3]
        refine W_ret (.tmp ?_ rfl)
        simp only [x_upd,reduceIte,szOk,e1,e2,e3,Bool.true_and]
theorem size8_fn {f:FuncId} (H:FnIs P f N [.t 4] x_grid_size) (hN:2≤N) (w h:Int):FnP Γ P f [.int w,.int h] (.int (if szOk w h then 0 else 2)):=by
  refine .of_W H (by simpa using hN) ?_
  unfold x_grid_size
  refine W_seq (W_reg ?_)
  simp only [xq,reduceIte,qE,qA,qL,qD]
  let U:Bool→St:=fun c=>⟨look [(18,.bool c)],[]⟩
  refine W_seq (W_cutX (· = U (((decide (w<1)||decide (132<w))||decide (h<1))||decide (60<h))) rfl (fun K hK=>?_) ?_)
  · cases e:decide (w<1)
    · cases e2:decide (132<w)
      · cases e3:decide (h<1)
        · simp only [xq,reduceIte,qE,qA,qL,qD,e,e2,e3]
          exact hK _ _ (Co.keep _ (by simp [x_upd,x_look,e,e2,e3])) rfl
        · simp only [xq,reduceIte,qE,qA,qL,qD,e,e2,e3]
          exact hK _ _ (Co.keep _ (by simp [x_upd,x_look,e,e2,e3])) rfl
      · simp only [xq,reduceIte,qE,qA,qL,qD,e,e2]
        exact hK _ _ (Co.keep _ (by simp [x_upd,x_look,e,e2])) rfl
    · simp only [xq,reduceIte,qE,qA,qL,qD,e]
      exact hK _ _ (Co.keep _ (by simp [x_upd,x_look,e])) rfl
  rintro _ rfl
  refine W_cond rfl (fun hc=>?_) (fun hc=>W_skip ?_)
  · have hs:szOk w h=false:=by
      simp only [Bool.or_eq_true,decide_eq_true_eq] at hc
      simp only [szOk,Bool.and_eq_false_iff,decide_eq_false_iff_not]
      omega
    refine W_seq (W_reg ?_)
    simp only [U,xq,reduceIte,qE,qA,qL,qD]
    refine W_ret (.tmp ?_ rfl)
    simp [x_upd,hs]
  · have hs:szOk w h=true:=by
      simp only [Bool.or_eq_false_iff,decide_eq_false_iff_not] at hc
      simp only [szOk,Bool.and_eq_true,decide_eq_true_eq]
      omega
    simp only [U,xq,reduceIte,qE,qA,qL,qD]
    refine W_seq (W_reg ?_)
    simp only [xq,reduceIte,qE,qA,qL,qD]
    refine W_ret (.tmp ?_ rfl)
    simp [x_upd,hs]
def rowsCk (w:Int):List (List Ce)→Int
  | []=>0
  | r::l=>if (r.length:Int)=w then (if checkR r=0 then rowsCk w l else checkR r) else 12
def gridCk (g:Gd):Int:=if szOk g.w g.h then (if (g.rows.length:Int)=g.h then rowsCk g.w g.rows else 1) else 2
theorem rowsCk_at {w:Int} {l:List (List Ce)} {i:Nat} (hi:i<l.length):rowsCk w (l.drop i)=if (l[i].length:Int)=w then (if checkR l[i]=0 then rowsCk w (l.drop (i+1)) else checkR l[i]) else 12:=by
  rw [List.drop_eq_getElem_cons hi,rowsCk]
abbrev CheckOk (Γ:Tabs) (P:Program) (f:FuncId):Prop:=∀ l:List Ce,(∀ c∈l,c.text.size≤1000)→FnP Γ P f [.d (.sl eCe (ceRows l))] (.int (checkR l))
set_option maxHeartbeats 1000000 in
theorem gcheck_fn {f fs fc:FuncId} (H:FnIs P f N [.t 2] (x_grid_Check fs fc)) (hN:1≤N) (Hs:∀ w h,FnP Γ P fs [.int w,.int h] (.int (if szOk w h then 0 else 2))) (Hc:CheckOk Γ P fc) (g:Gd) (ht:∀ r∈g.rows,∀ c∈r,c.text.size≤1000) :
    FnP Γ P f [gdA g] (.int (gridCk g)):=by
  obtain ⟨w,h,rows⟩:=g
  dsimp only at ht
  have hS:=Hs w h
  refine .of_W H (by simpa using hN) (W_aggsl 0 2 rfl rfl fun ⟨_,hroom,_⟩=>?_)
  have hlr:rows.length≤room:=le_of_mul (by rw [crRows_len] at hroom;exact hroom)
  unfold x_grid_Check
  refine W_seq (W_reg ?_)
  simp only [gdA,gdR,xq,reduceIte,qE,qA,qL,qD]
  refine W_seq (W_seq (W_reg ?_))
  simp only [xq,reduceIte,qE,qA,qL,qD]
  refine c_fn hS rfl ?_
  simp only [xq,reduceIte,qE,qA,qL,qD]
  refine W_seq (W_reg ?_)
  simp only [xq,reduceIte,qE,qA,qL,qD]
  cases hs:szOk w h
  all_goals simp only [hs,Bool.false_eq_true,if_true,if_false]
  · refine W_cond rfl (fun _=>?_) (fun hc=>by simp at hc)
    refine W_seq (W_reg ?_)
    simp only [xq,reduceIte,qE,qA,qL,qD]
    refine W_ret (.tmp ?_ rfl)
    simp [x_upd,gridCk,hs]
  refine W_cond rfl (fun hc=>by simp at hc) (fun _=>W_skip ?_)
  simp only [xq,reduceIte,qE,qA,qL,qD]
  refine W_seq (W_seq (W_reg ?_))
  simp only [xq,reduceIte,qE,qA,qL,qD,crRows_len]
  refine W_cond rfl (fun hc=>?_) (fun hc=>W_skip ?_)
  · have hne:¬ (rows.length:Int)=h:=by simpa using hc
    refine W_seq (W_reg ?_)
    simp only [xq,reduceIte,qE,qA,qL,qD]
    refine W_ret (.tmp ?_ rfl)
    simp [x_upd,gridCk,hs,hne]
  have heq:(rows.length:Int)=h:=by simpa using hc
  have hgc:gridCk ⟨w,h,rows⟩=rowsCk w rows:=by simp [gridCk,hs,heq]
  rw [hgc]
  simp only [xq,reduceIte,qE,qA,qL,qD]
  refine W_seq (W_seq (W_reg ?_))
  simp only [xq,reduceIte,qE,qA,qL,qD,crRows_len]
  refine W_block ?_
  let S:Nat→St:=fun i=>⟨look [(1,.ptr 0 1 0 0),(22,.d (.sl eRw (crRows rows))),(23,.int rows.length),(24,.int i)],[.cells eGd [[.int w,.int h,.d (.sl eRw (crRows rows))]]]⟩
  refine W_co (s':=S 0) (Co.keep _ (by simp [x_upd,x_look])) ?_
  refine W_loop (fun m s=>∃ i,i≤rows.length∧m=rows.length-i∧s=S i∧rowsCk w (rows.drop i)=rowsCk w rows) ⟨0,zI _,rfl,rfl,by simp⟩ ?_
  rintro m s ⟨i,hi,rfl,rfl,hpre⟩
  refine W_seq (W_reg ?_)
  simp only [S,xq,reduceIte,qE,qA,qL,qD]
  refine W_seq (W_cond rfl (fun hc=>W_skip ?_) (fun hc=>W_exit ?_))
  · have hlt:i<rows.length:=by simpa using hc
    rw [rowsCk_at hlt] at hpre
    have hC:=Hc rows[i] (ht _ (zi hlt))
    have hgk:(crRows rows).getD i []=[.sl eCe (ceRows rows[i])]:=crRows_get hlt
    generalize rows[i]=R at hpre hC hgk
    simp only [xq,reduceIte,qE,qA,qL,qD]
    refine W_seq (W_block (W_seq (W_reg ?_)))
    simp only [xq,reduceIte,qE,qA,qL,qD,hgk,crRows_len]
    refine ⟨by omega,by omega,?_⟩
    refine W_seq (W_seq (W_reg ?_))
    simp only [xq,reduceIte,qE,qA,qL,qD,ceRows_length]
    refine W_cond rfl (fun hd=>?_) (fun hd=>W_skip ?_)
    · have hne:¬ (R.length:Int)=w:=by simpa using hd
      refine W_seq (W_reg ?_)
      simp only [xq,reduceIte,qE,qA,qL,qD]
      refine W_ret ?_
      simp only [xq,reduceIte,qE,qA,qL,qD]
      refine .tmp ?_ rfl
      rw [if_neg hne] at hpre
      simp [x_upd,← hpre]
    have heq:(R.length:Int)=w:=by simpa using hd
    rw [if_pos heq] at hpre
    simp only [xq,reduceIte,qE,qA,qL,qD]
    refine W_seq (W_reg ?_)
    simp only [xq,reduceIte,qE,qA,qL,qD]
    refine c_fn hC rfl ?_
    simp only [xq,reduceIte,qE,qA,qL,qD]
    refine W_seq (W_reg ?_)
    simp only [xq,reduceIte,qE,qA,qL,qD]
    refine W_cond rfl (fun hd=>?_) (fun hd=>W_skip ?_)
    · have hne:¬ checkR R=0:=by simpa using hd
      refine W_seq (W_reg ?_)
      simp only [xq,reduceIte,qE,qA,qL,qD]
      refine W_ret ?_
      simp only [xq,reduceIte,qE,qA,qL,qD]
      refine .tmp ?_ rfl
      rw [if_neg hne] at hpre
      simp [x_upd,← hpre]
    have heq0:checkR R=0:=by simpa using hd
    rw [if_pos heq0] at hpre
    simp only [xq,reduceIte,qE,qA,qL,qD]
    refine W_reg ?_
    simp only [xq,reduceIte,qE,qA,qL,qD]
    refine ⟨rows.length-(i+1),S (i+1),by omega,Co.keep _ ?_,i+1,hlt,rfl,rfl,hpre⟩
    simp [x_upd,x_look,i64_succ hlt hlr]
  · have hle:i=rows.length:=by simp at hc;omega
    subst hle
    rw [List.drop_length] at hpre
    simp only [xq,reduceIte,qE,qA,qL,qD]
    refine W_seq (W_reg ?_)
    simp only [xq,reduceIte,qE,qA,qL,qD]
    refine W_ret (.tmp ?_ rfl)
    simp only [x_upd,reduceIte,← hpre];rfl
set_option maxHeartbeats 1000000 in
theorem rgcheck_fn {f fs fc:FuncId} (H:FnIs P f N [.t 2] (x_ref08_Check fs fc)) (hN:1≤N) (Hs:∀ w h,FnP Γ P fs [.int w,.int h] (.bool (szOk w h))) (Hc:CheckOk Γ P fc) (g:Gd) (ht:∀ r∈g.rows,∀ c∈r,c.text.size≤1000) :
    FnP Γ P f [gdA g] (.int (gridCk g)):=by
  obtain ⟨w,h,rows⟩:=g
  dsimp only at ht
  have hS:=Hs w h
  refine .of_W H (by simpa using hN) (W_aggsl 0 2 rfl rfl fun ⟨_,hroom,_⟩=>?_)
  have hlr:rows.length≤room:=le_of_mul (by rw [crRows_len] at hroom;exact hroom)
  unfold x_ref08_Check
  refine W_seq (W_reg ?_)
  simp only [gdA,gdR,xq,reduceIte,qE,qA,qL,qD]
  refine W_seq (W_seq (W_reg ?_))
  simp only [xq,reduceIte,qE,qA,qL,qD]
  refine c_fn hS rfl ?_
  simp only [xq,reduceIte,qE,qA,qL,qD]
  cases hs:szOk w h
  all_goals simp only [hs,Bool.not_true,Bool.not_false]
  · refine W_cond rfl (fun _=>?_) (fun hc=>by simp at hc)
    refine W_seq (W_reg ?_)
    simp only [xq,reduceIte,qE,qA,qL,qD]
    refine W_ret (.tmp ?_ rfl)
    simp [x_upd,gridCk,hs]
  refine W_cond rfl (fun hc=>by simp at hc) (fun _=>W_skip ?_)
  simp only [xq,reduceIte,qE,qA,qL,qD]
  refine W_seq (W_seq (W_reg ?_))
  simp only [xq,reduceIte,qE,qA,qL,qD,crRows_len]
  refine W_cond rfl (fun hc=>?_) (fun hc=>W_skip ?_)
  · have hne:¬ (rows.length:Int)=h:=by simpa using hc
    refine W_seq (W_reg ?_)
    simp only [xq,reduceIte,qE,qA,qL,qD]
    refine W_ret (.tmp ?_ rfl)
    simp [x_upd,gridCk,hs,hne]
  have heq:(rows.length:Int)=h:=by simpa using hc
  have hgc:gridCk ⟨w,h,rows⟩=rowsCk w rows:=by simp [gridCk,hs,heq]
  rw [hgc]
  simp only [xq,reduceIte,qE,qA,qL,qD]
  refine W_seq (W_seq (W_reg ?_))
  simp only [xq,reduceIte,qE,qA,qL,qD]
  refine W_block ?_
  let S:Nat→St:=fun i=>⟨look [(1,.ptr 0 1 0 0),(3,.int i)],[.cells eGd [[.int w,.int h,.d (.sl eRw (crRows rows))]]]⟩
  refine W_co (s':=S 0) (Co.keep _ (by simp [x_upd,x_look])) ?_
  refine W_loop (fun m s=>∃ i,i≤rows.length∧m=rows.length-i∧s=S i∧rowsCk w (rows.drop i)=rowsCk w rows) ⟨0,zI _,rfl,rfl,by simp⟩ ?_
  rintro m s ⟨i,hi,rfl,rfl,hpre⟩
  refine W_seq (W_seq (W_reg ?_))
  simp only [S,xq,reduceIte,qE,qA,qL,qD,crRows_len]
  refine W_cond rfl (fun hc=>W_skip ?_) (fun hc=>W_exit ?_)
  · have hlt:i<rows.length:=by simpa using hc
    rw [rowsCk_at hlt] at hpre
    have hC:=Hc rows[i] (ht _ (zi hlt))
    have hgk:(crRows rows).getD i []=[.sl eCe (ceRows rows[i])]:=crRows_get hlt
    generalize rows[i]=R at hpre hC hgk
    simp only [xq,reduceIte,qE,qA,qL,qD]
    refine W_seq (W_block (W_seq (W_seq (W_drw (by simp) ?_))))
    simp only [xq,reduceIte,qE,qA,qL,qD,hgk,crRows_len,ceRows_length]
    refine ⟨by omega,by omega,?_⟩
    refine W_cond rfl (fun hd=>?_) (fun hd=>W_skip ?_)
    · have hne:¬ (R.length:Int)=w:=by simpa using hd
      refine W_seq (W_reg ?_)
      simp only [xq,reduceIte,qE,qA,qL,qD]
      refine W_ret ?_
      simp only [xq,reduceIte,qE,qA,qL,qD]
      refine .tmp ?_ rfl
      rw [if_neg hne] at hpre
      simp [x_upd,← hpre]
    have heq:(R.length:Int)=w:=by simpa using hd
    rw [if_pos heq] at hpre
    simp only [xq,reduceIte,qE,qA,qL,qD]
    refine W_seq (W_reg ?_)
    simp only [xq,reduceIte,qE,qA,qL,qD,hgk,crRows_len]
    refine ⟨by omega,by omega,?_⟩
    refine c_fn hC rfl ?_
    simp only [xq,reduceIte,qE,qA,qL,qD]
    refine W_seq (W_reg ?_)
    simp only [xq,reduceIte,qE,qA,qL,qD]
    refine W_cond rfl (fun hd=>?_) (fun hd=>W_skip ?_)
    · have hne:¬ checkR R=0:=by simpa using hd
      refine W_seq (W_reg ?_)
      simp only [xq,reduceIte,qE,qA,qL,qD]
      refine W_ret ?_
      simp only [xq,reduceIte,qE,qA,qL,qD]
      refine .tmp ?_ rfl
      rw [if_neg hne] at hpre
      simp [x_upd,← hpre]
    have heq0:checkR R=0:=by simpa using hd
    rw [if_pos heq0] at hpre
    simp only [xq,reduceIte,qE,qA,qL,qD]
    refine W_reg ?_
    simp only [xq,reduceIte,qE,qA,qL,qD]
    refine ⟨rows.length-(i+1),S (i+1),by omega,Co.keep _ ?_,i+1,hlt,rfl,rfl,hpre⟩
    simp [x_upd,x_look,i64_succ hlt hlr]
  · have hle:i=rows.length:=by simp at hc;omega
    subst hle
    rw [List.drop_length] at hpre
    simp only [xq,reduceIte,qE,qA,qL,qD]
    refine W_seq (W_reg ?_)
    simp only [xq,reduceIte,qE,qA,qL,qD]
    refine W_ret (.tmp ?_ rfl)
    simp only [x_upd,reduceIte,← hpre];rfl
def rightG (g:Gd):Bool := !(great10 g.rows||decide (gridCk g≠0))
theorem right8_fn {f fg fc:FuncId} (H:FnIs P f N [.t 2] (x_ref08_Right fg fc)) (hN:1≤N) (Hg:∀ l:List (List Ce),FnP Γ P fg [.d (.sl eRw (crRows l))] (.int (if great10 l then 1 else 0)))
    (Hc:∀ g:Gd,(∀ r∈g.rows,∀ c∈r,c.text.size≤1000)→FnP Γ P fc [gdA g] (.int (gridCk g))) (g:Gd):FnP Γ P f [gdA g] (.int (if rightG g then 1 else 0)):=by
  refine .of_W H (by simpa using hN) ?_
  have hG:=Hg g.rows
  unfold x_ref08_Right
  refine W_seq (W_reg ?_)
  simp only [gdA,gdR,xq,reduceIte,qE,qA,qL,qD]
  let U:Bool→St:=fun c=>⟨look [(11,.bool c)],[]⟩
  refine W_seq (W_cutX (· = U (great10 g.rows||decide (gridCk g≠0))) rfl (fun K hK=>?_) ?_)
  · cases hg:great10 g.rows<;>simp only [hg,Bool.false_eq_true,if_true,if_false] at hG
    · have hx:∀ r∈g.rows,∀ c∈r,c.text.size≤1000:=fun r hr c hc=>by
        simp only [great10,Bool.or_eq_false_iff,decide_eq_false_iff_not] at hg
        have:=List.any_eq_false.1 hg.2 r hr
        have:=(greatC_small (by simpa using this)).2 c hc
        omega
      have hC:=Hc g hx
      simp only [gdA,gdR] at hC
      simp only [xq,reduceIte,qE,qA,qL,qD]
      refine c_fn hG rfl ?_
      simp only [xq,reduceIte,qE,qA,qL,qD,Int.lt_irrefl,decide_false]
      refine c_fn hC (by simp [A.underL,A.under]) ?_
      simp only [xq,reduceIte,qE,qA,qL,qD]
      refine hK _ _ (Co.to _ 0 ?_ (zI _) (zI _) (by simp)) rfl
      simp [x_upd,x_look,A.under,hg]
    · simp only [xq,reduceIte,qE,qA,qL,qD]
      refine c_fn hG rfl ?_
      simp only [xq,reduceIte,qE,qA,qL,qD,show decide ((0:Int)<1)=true from rfl]
      refine hK _ _ (Co.to _ 0 ?_ (zI _) (zI _) (by simp)) rfl
      simp [x_upd,x_look,A.under,hg]
  rintro _ rfl
  refine W_cond rfl (fun hc=>?_) (fun hc=>W_skip ?_)
  · refine W_seq (W_reg ?_)
    simp only [U,xq,reduceIte,qE,qA,qL,qD]
    refine W_ret (.tmp ?_ rfl)
    simp only [x_upd,reduceIte,rightG,hc,Bool.not_true,Bool.false_eq_true]
  · simp only [U,xq,reduceIte,qE,qA,qL,qD]
    refine W_seq (W_reg ?_)
    simp only [xq,reduceIte,qE,qA,qL,qD]
    refine W_ret (.tmp ?_ rfl)
    simp only [x_upd,reduceIte,rightG,hc,Bool.not_false]
theorem same8_fn {f fs:FuncId} (H:FnIs P f N [.t 4] (x_ref08_Same fs)) (hN:2≤N) (Hs:∀ a b:List (List Ce),FnP Γ P fs [.d (.sl eRw (crRows a)),.d (.sl eRw (crRows b))] (.bool (decide (a=b)))) (a b:Gd):FnP Γ P f [gdA a,gdA b] (.bool (decide (a=b))):=by
  refine .of_W H (by simpa using hN) ?_
  have hS:=Hs a.rows b.rows
  have heq:(decide (a=b))=((decide (a.w=b.w)&&decide (a.h=b.h))&&decide (a.rows=b.rows)):=by
    cases a;cases b;rw [Bool.eq_iff_iff];simp [and_assoc]
  unfold x_ref08_Same
  refine W_seq (W_reg ?_)
  simp only [gdA,gdR,xq,reduceIte,qE,qA,qL,qD]
  refine W_seq (W_reg ?_)
  cases e1:decide (a.w=b.w)
  · simp only [xq,reduceIte,qE,qA,qL,qD,e1]
    refine W_ret (.tmp ?_ rfl)
    simp only [x_upd,reduceIte,heq,e1,Bool.false_and]
  · cases e2:decide (a.h=b.h)
    · simp only [xq,reduceIte,qE,qA,qL,qD,e1,e2]
      refine W_ret (.tmp ?_ rfl)
      simp only [x_upd,reduceIte,heq,e1,e2,Bool.true_and,Bool.false_and]
    · simp only [xq,reduceIte,qE,qA,qL,qD,e1,e2]
      refine c_fn hS rfl ?_
      simp only [xq,reduceIte,qE,qA,qL,qD]
      refine W_ret (.tmp ?_ rfl)
      simp only [x_upd,reduceIte,heq,e1,e2,Bool.true_and]
end Go.Proofs.YthhjkfilfhmakaaDoor.Nx
namespace Go.Proofs.YthhjkfilfhmakaaDoor.Nx
open Go
variable {P:Program} {N:Nat} {Γ:Tabs}
theorem hp_g2 {h t:Heap} {B C D:HB}:(h++B::C::D::t)[h.length+2]? = some D:=by
  rw [zG (by omega)];simp
theorem hp_s2 {h t:Heap} {B C D X:HB}:(h++B::C::D::t).set (h.length+2) X=h++B::C::X::t:=by
  rw [List.set_append_right _ _ (by omega)];simp
def ownH (g:Gd) (k:Nat):Heap:=[oB g.w g.h (.ref k g.rows.length 0 g.rows.length true),oB g.w g.h (.ref k g.rows.length 0 g.rows.length true),crBk g.rows]
theorem own_fn {f fc:FuncId} {Δ:Ctx} (H:FnIs P f N [.c 2 3 true] (x_grid_own fc)) (hN:1≤N) (Hc:∀ rows,FnP Δ.t P fc [.d (.sl eCe rows)] (.d (.sl eCe rows))) (g:Gd) (hl:g.rows.length≤100000) (h:Heap) (hb:Δ.b≤h.length) :
    FnD Δ P f [gdA g] h (.agg [.int g.w,.int g.h,.ref (h.length+2) g.rows.length 0 g.rows.length true]) (h++ownH g (h.length+2)):=by
  obtain ⟨w,hh,l⟩:=g
  dsimp only at hl
  refine .of_W H (by simpa using hN) hb ?_
  unfold x_grid_own
  refine W_seq (W_reg ?_)
  simp only [gdA,gdR,xq,reduceIte,qE,qA,qL,qD,zS,hp_g0,hp_g1,hp_s0,hp_s1]
  refine W_seq (W_reg ?_)
  simp only [xq,reduceIte,qE,qA,qL,qD,zS,hp_g0,hp_g1,hp_s0,hp_s1,crRows_len]
  refine ⟨by omega,by omega,by omega,by simp only [room];omega,?_⟩
  refine W_seq (W_seq (W_reg ?_))
  simp only [xq,reduceIte,qE,qA,qL,qD,zS,hp_g0,hp_g1,hp_s0,hp_s1,crRows_len]
  refine W_block ?_
  let R:Nat→List (List A):=fun i=>((crRows (l.take i)).map fun r=>r.map A.d)++List.replicate (l.length-i) [A.nil]
  have hRl:∀ i,i≤l.length→(R i).length=l.length:=fun i hi=>by simp [R,crRows];omega
  have hRs:∀ i (hi:i<l.length),(R i).set i [.d (.sl eCe (ceRows l[i]))]=R (i+1):=fun i hi=>by
    simp only [R]
    have h1:((crRows (l.take i)).map fun r=>r.map A.d).length=i:=by simp [crRows];omega
    rw [List.set_append_right _ _ (by omega),h1,Nat.sub_self,show l.length-i=(l.length-(i+1))+1 by omega,List.replicate_succ,List.set_cons_zero,List.take_add_one,List.getElem?_eq_getElem hi]
    simp only [crRows,List.map_append,List.map_cons,List.map_nil,zS,List.cons_append,List.nil_append,Option.toList_some]
  have hRg:∀ i (hi:i<l.length),(R i)[i]? = some [A.nil]:=fun i hi=>by
    simp only [R]
    have h1:((crRows (l.take i)).map fun r=>r.map A.d).length=i:=by simp [crRows];omega
    rw [zG (by omega),h1,Nat.sub_self,List.getElem?_replicate,if_pos (by omega)]
  let S:Nat→St:=fun i=>⟨look [(1,.ptr h.length 1 0 0),(2,.ptr (h.length+1) 1 0 0),(3,.ref (h.length+2) l.length 0 l.length true),(11,.d (.sl eRw (crRows l))),(12,.int l.length),(13,.int i)],h++[gB ⟨w,hh,l⟩,zgB,.cells eRw (R i)]⟩
  have hR0:List.replicate l.length [A.nil]=R 0:=by simp [R,crRows]
  rw [hR0]
  refine W_co (s':=S 0) (Co.keep _ (by simp [x_upd,x_look])) ?_
  refine W_loop (fun m s=>∃ i,i≤l.length∧m=l.length-i∧s=S i) ⟨0,zI _,rfl,rfl⟩ ?_
  rintro m s ⟨i,hi,rfl,rfl⟩
  refine W_seq (W_reg ?_)
  simp only [S,xq,reduceIte,qE,qA,qL,qD]
  refine W_seq (W_cond rfl (fun hc=>W_skip ?_) (fun hc=>W_exit ?_))
  · have hlt:i<l.length:=by simpa using hc
    have h1:=hRl i hi
    simp only [xq,reduceIte,qE,qA,qL,qD]
    refine W_seq (W_block (W_seq (W_reg ?_)))
    simp only [xq,reduceIte,qE,qA,qL,qD,crRows_get hlt,crRows_len]
    refine ⟨by omega,by omega,?_⟩
    refine W_reg ?_
    simp only [xq,reduceIte,qE,qA,qL,qD]
    refine c_fn (Hc _) rfl ?_
    simp only [xq,reduceIte,qE,qA,qL,qD,hp_g2,hp_s2,h1,hRg i hlt]
    refine ⟨by omega,by omega,?_⟩
    rw [hRs i hlt]
    refine W_reg ?_
    simp only [xq,reduceIte,qE,qA,qL,qD]
    refine ⟨l.length-(i+1),S (i+1),by omega,Co.keep _ ?_,i+1,hlt,rfl,rfl⟩
    simp [x_upd,x_look,i64_succ hlt (show l.length≤room by simp only [room];omega)]
  · have hle:i=l.length:=by simp at hc;omega
    subst hle
    have hRe:R l.length=(crRows l).map fun r=>r.map A.d:=by simp [R]
    simp only [xq,reduceIte,qE,qA,qL,qD,hRe]
    refine W_seq (W_reg ?_)
    simp only [gdR,xq,reduceIte,qE,qA,qL,qD,hp_g0,hp_s0]
    refine W_seq (W_reg ?_)
    simp only [xq,reduceIte,qE,qA,qL,qD,hp_g0,hp_g1,hp_s0,hp_s1]
    refine W_ret ⟨.inr rfl,?_⟩
    simp only [readRs,readR,single,x_upd,reduceIte,qE,x_look,argS,xq,reduceIte,qE,qA,qL,qD,loadsTo,hp_g1,ownH]
def readyH (g:Gd) (k:Nat):Heap:=if gridCk g=0 then [gB g,oB g.w g.h (.ref (k+4) g.rows.length 0 g.rows.length true)]++ownH g (k+4) else [gB g,zgB]
def readyA (g:Gd) (k:Nat):A:=if gridCk g=0 then .tup [.agg [.int g.w,.int g.h,.ref (k+4) g.rows.length 0 g.rows.length true],.int 0] else .tup [.agg [.int 0,.int 0,.nil],.int 1]
theorem gd_under (g:Gd) (k:Nat):A.underL k [gdA g]=true:=by simp [A.underL,A.under,gdA,gdR]
theorem ready_fn {f fc fo:FuncId} {Δ:Ctx} (H:FnIs P f N [.c 2 3 true,.t 3] (x_grid_ready fc fo)) (hN:1≤N) (g:Gd) (Hc:FnP Δ.t P fc [gdA g] (.int (gridCk g)))
    (Ho:gridCk g=0→∀ h:Heap,Δ.b≤h.length→FnD Δ P fo [gdA g] h (.agg [.int g.w,.int g.h,.ref (h.length+2) g.rows.length 0 g.rows.length true]) (h++ownH g (h.length+2))) (h:Heap) (hb:Δ.b≤h.length) :
    FnD Δ P f [gdA g] h (readyA g h.length) (h++readyH g h.length):=by
  refine .of_W H (by simpa using hN) hb ?_
  have hC:=Hc
  have hu:=gd_under g 0
  simp only [gdA,gdR] at hC hu
  unfold x_grid_ready
  refine W_seq (W_reg ?_)
  simp only [gdA,gdR,xq,reduceIte,qE,qA,qL,qD,zS]
  refine W_seq (W_seq (W_reg ?_))
  simp only [xq,reduceIte,qE,qA,qL,qD,zS,hp_g0]
  refine c_fn hC hu ?_
  simp only [xq,reduceIte,qE,qA,qL,qD]
  refine W_cond rfl (fun hc=>?_) (fun hc=>W_skip ?_)
  · have hne:gridCk g≠0:=by simpa using hc
    refine W_seq (W_reg ?_)
    simp only [xq,reduceIte,qE,qA,qL,qD,zS,hp_g1,hp_s1]
    refine W_ret ⟨.inr rfl,?_⟩
    simp only [readRs,readR,single,x_upd,reduceIte,qE,x_look,argS,xq,reduceIte,qE,qA,qL,qD,loadsTo,hp_g1,readyA,readyH,if_neg hne]
    first | rfl | exact ⟨rfl,rfl⟩
  · have heq:gridCk g=0:=by simpa using hc
    have hO:=Ho heq (h++[gB g,zgB]) (by simp;omega)
    have hlen:(h++[gB g,zgB]).length=h.length+2:=by simp
    rw [hlen] at hO
    simp only [gdA,gdR] at hO
    simp only [xq,reduceIte,qE,qA,qL,qD]
    refine W_seq (W_reg ?_)
    simp only [xq,reduceIte,qE,qA,qL,qD,zS,hp_g0]
    refine ce_fn hO ?_
    simp only [xq,reduceIte,qE,qA,qL,qD,zS,hp_g1,hp_s1]
    refine W_ret ⟨.inr rfl,?_⟩
    simp only [readRs,readR,single,x_upd,reduceIte,qE,x_look,argS,xq,reduceIte,qE,qA,qL,qD,loadsTo,hp_g1,readyA,readyH,if_pos heq]
theorem clone128_fn {f:FuncId} {Δ:Ctx} (H:FnIs P f N [.t 2] x_slices_Clone_128) (hN:1≤N) (rows:List (List Ce)) (id off len:Nat) (full:Bool) (h:Heap) (hb:Δ.b≤h.length) (hid:h[id]? = some (crBk rows)) (h0:0<rows.length) (hol:off+len≤rows.length) (hl:rows.length≤100000) :
    FnD Δ P f [.ref id rows.length off len full] h (.ref h.length len 0 len true) (h++[crBk ((rows.drop off).take len)]):=by
  have hidl:id<h.length:=(zA.1 hid).1
  have e0:∀ t:Heap,(h++t)[id]? = some (crBk rows):=fun t=>by rw [zF hidl];exact hid
  have hrl:((crRows rows).map fun r=>r.map A.d).length=rows.length:=by simp [crRows]
  have hdt:List.take len (List.drop off ((crRows rows).map fun r=>r.map A.d))=(crRows ((rows.drop off).take len)).map fun r=>r.map A.d:=by simp [crRows,List.map_take,List.map_drop]
  have hdl:(crRows ((rows.drop off).take len)).length=len:=by simp [crRows];omega
  refine .of_W H (by simpa using hN) hb ?_
  unfold x_slices_Clone_128
  refine W_seq (W_reg ?_)
  simp only [xq,reduceIte,qE,qA,qL,qD]
  refine W_seq (W_seq (W_reg ?_))
  simp only [xq,reduceIte,qE,qA,qL,qD,x_eqnil,EqNil,hid,EqNilB,crRows_len]
  refine ⟨h0,?_⟩
  refine W_cond rfl (fun hc=>by cases hc) (fun _=>W_skip ?_)
  simp only [xq,reduceIte,qE,qA,qL,qD]
  refine W_seq (W_reg ?_)
  simp only [xq,reduceIte,qE,qA,qL,qD,hp_g0,hp_s0,e0,crRows_len,hdt,hdl]
  refine ⟨by simp only [room];omega,by simp only [maxLen];omega,W_ret ⟨.inr rfl,?_⟩⟩
  simp only [readRs,readR,single,x_upd,reduceIte,qE,x_look,xq,reduceIte,qE,qA,qL,qD]
theorem gblanks_fn {f f1:FuncId} (H:FnIs P f N [.t 4] (x_grid_blanks f1)) (hN:2≤N) (w a b c:Int):FnP Γ P f [.int w,.agg [.int a,.int b,.int c]] (.fn f1 [.iptr [.sc (.int .i64 w)],.iptr (atD a b c)]):=by
  refine .of_W H (by simpa using hN) ?_
  unfold x_grid_blanks
  refine W_seq (W_reg ?_)
  simp only [xq,reduceIte,qE,qA,qL,qD]
  refine W_seq (W_reg ?_)
  simp only [xq,reduceIte,qE,qA,qL,qD]
  refine W_ret (.frz ?_)
  simp only [xq,reduceIte,qE,qA,qL,qD]
  refine .fn rfl fun j y hj=>?_
  rcases j with _ | _ | j
  · cases hj
    refine FrzA.iptr (rows:=[[.int w]]) (i:=0) (off:=0) (id:=0) (zI 0) rfl rfl fun k d hk=>?_
    cases k with
    | zero=>cases hk;exact ⟨by simp,.d _⟩
    | succ k=>simp at hk
  · cases hj
    refine FrzA.iptr (rows:=[[.int a,.int b,.int c]]) (i:=0) (off:=0) (id:=1) (zI 1) rfl rfl fun k d hk=>?_
    rcases k with _ | _ | _ | k
    · cases hk;exact ⟨by simp,.d _⟩
    · cases hk;exact ⟨by simp,.d _⟩
    · cases hk;exact ⟨by simp,.d _⟩
    · simp [atD] at hk
  · simp at hj
theorem gblanks1_fn {f fB:FuncId} (H:FnIs P f N [.t 2] (x_grid_blanks_1 fB)) (hN:2≤N) (w a b c:Int) (HB:FnP Γ P fB [.int w,.agg [.int a,.int b,.int c]] (.d (.sl eCe (ceRows (blankRow w b))))) :
    FnP Γ P f [.iptr [.sc (.int .i64 w)],.iptr (atD a b c)] (.d (.sl eCe (ceRows (blankRow w b)))):=by
  refine .of_W H (by simpa using hN) ?_
  unfold x_grid_blanks_1
  refine W_seq (W_reg ?_)
  simp only [xq,reduceIte,qE,qA,qL,qD]
  refine W_seq (W_reg ?_)
  simp only [atD,xq,reduceIte,qE,qA,qL,qD]
  refine c_fn HB (by simp [A.underL,A.under]) ?_
  simp only [xq,reduceIte,qE,qA,qL,qD]
  refine W_ret (.tmp ?_ rfl)
  simp only [x_upd,reduceIte]
end Go.Proofs.YthhjkfilfhmakaaDoor.Nx
namespace Go.Proofs.YthhjkfilfhmakaaDoor.Nx
open Go
variable {P:Program} {N:Nat} {Γ:Tabs}
def clampBy (m by_:Int):Int:=max (-m) (min by_ m)
theorem clampBy_le {m b:Int} (hm:0≤m) : -m≤clampBy m b∧clampBy m b≤m:=by simp only [clampBy];omega
def scrollMv (rows:List (List Ce)) (t m:Nat) (d:Int) (bl:List Ce):List (List Ce) :=
  if 0≤d then (rows.drop (t+d.toNat)).take (m-d.toNat)++List.replicate d.toNat bl else List.replicate (-d).toNat bl++(rows.drop t).take (m-(-d).toNat)
def scrollOut (rows:List (List Ce)) (t:Nat) (d:Int):List (List Ce):=if 0≤d then (rows.drop t).take d.toNat else []
def scrollR (g:Gd) (top bottom by_ b:Int):Gd × List (List Ce) × Int :=
  if gridCk g≠0 then (zeroGd,[],1) else if (top<0∨bottom≤top)∨g.h<bottom then (zeroGd,[],2) else
    (⟨g.w,g.h,g.rows.take top.toNat++scrollMv g.rows top.toNat (bottom-top).toNat (clampBy (bottom-top) by_) (blankRow g.w b)++g.rows.drop bottom.toNat⟩,scrollOut g.rows top.toNat (clampBy (bottom-top) by_),0)
def scrollA (x:Gd × List (List Ce) × Int):A:=.tup [gdA x.1,.d (.sl eRw (crRows x.2.1)),.int x.2.2]
theorem frz_tup3 {h:Heap} {x y z x' y' z':A} (h1:FrzA 0 h x x') (h2:FrzA 0 h y y') (h3:FrzA 0 h z z'):FrzA 0 h (.tup [x,y,z]) (.tup [x',y',z']):=by
  refine .tup rfl fun j u hj=>?_
  rcases j with _ | _ | _ | j
  · cases hj;exact h1
  · cases hj;exact h2
  · cases hj;exact h3
  · simp at hj
theorem frz_gd1 {h:Heap} {w hh:Int} {x:A} {L:List (List Ce)} (hx:FrzA 0 h x (.d (.sl eRw (crRows L)))):FrzA 0 h (.agg [.int w,.int hh,x]) (gdA ⟨w,hh,L⟩):=by
  refine .agg rfl fun j y hj=>?_
  rcases j with _ | _ | _ | j
  · cases hj;exact .same rfl
  · cases hj;exact .same rfl
  · cases hj;exact hx
  · simp [gdR] at hj
theorem gridCk_h {g:Gd} (h:gridCk g=0):g.h=g.rows.length∧g.rows.length≤60∧1≤g.w∧g.w≤132:=by
  simp only [gridCk] at h
  split at h
  · rename_i hs
    have:=szOk_le hs
    split at h
    · omega
    · cases h
  · cases h
abbrev sRef (n:Nat):A:=.ref 7 n 0 n true
def scrH (w:Int) (rows:List (List Ce)) (a b c:Int):Heap:=[oB w rows.length (sRef rows.length),atB a b c,zgB,gB ⟨w,rows.length,rows⟩,oB w rows.length (sRef rows.length),oB w rows.length (sRef rows.length),oB w rows.length (sRef rows.length),crBk rows]
theorem scrH_under (w:Int) (rows:List (List Ce)) (a b c:Int) (k:Nat) (hk:8≤k):∀ B∈scrH w rows a b c,HB.under k B:=by
  have hr:(sRef rows.length).under k=true:=decide_eq_true (by omega)
  have h1:HB.under k (oB w rows.length (sRef rows.length)):=under_ints fun x hx=>by
    simp only [zp,zc,or_false] at hx
    rcases hx with rfl | rfl | rfl
    · rfl
    · rfl
    · exact hr
  have h2:HB.under k (atB a b c):=under_ints fun x hx=>by
    simp only [zp,zc,or_false] at hx
    rcases hx with rfl | rfl | rfl<;>rfl
  have h3:HB.under k zgB:=under_ints fun x hx=>by
    simp only [zp,zc,or_false] at hx
    rcases hx with rfl | rfl | rfl<;>rfl
  have h4:HB.under k (gB ⟨w,rows.length,rows⟩):=under_ints fun x hx=>by
    simp only [gdR,zp,zc,or_false] at hx
    rcases hx with rfl | rfl | rfl<;>rfl
  intro B hB
  simp only [scrH,zp,zc,or_false] at hB
  rcases hB with rfl | rfl | rfl | rfl | rfl | rfl | rfl | rfl
  · exact h1
  · exact h2
  · exact h3
  · exact h4
  · exact h1
  · exact h1
  · exact h1
  · exact under_d
abbrev crC (l:List (List Ce)):List (List A):=(crRows l).map fun r=>r.map A.d
theorem crC_len {l:List (List Ce)}:(crC l).length=l.length:=by simp [crC,crRows]
theorem crC_app {a b:List (List Ce)}:crC a++crC b=crC (a++b):=by simp [crC,crRows]
theorem crC_take {a:List (List Ce)} {n:Nat}:(crC a).take n=crC (a.take n):=by simp [crC,crRows,List.map_take]
theorem crC_drop {a:List (List Ce)} {n:Nat}:(crC a).drop n=crC (a.drop n):=by simp [crC,crRows,List.map_drop]
set_option maxHeartbeats 4000000 in
theorem scroll_fn {f fr fb f1 fc:FuncId} {Nc:Nat} (H:FnIs P f N [.c 10 3 true,.t 11,.t 12] (x_grid_Scroll fr fb fc)) (hN:5≤N) (g:Gd) (top bottom by_ a b c:Int)
    (Hr:∀ h:Heap,FnD Γ.ctx P fr [gdA g] h (readyA g h.length) (h++readyH g h.length)) (Hb:∀ w,FnP Γ P fb [.int w,.agg [.int a,.int b,.int c]] (.fn f1 [.iptr [.sc (.int .i64 w)],.iptr (atD a b c)]))
    (H1:∀ w,FnP Γ P f1 [.iptr [.sc (.int .i64 w)],.iptr (atD a b c)] (.d (.sl eCe (ceRows (blankRow w b))))) (Hc:FnIs P fc Nc [.t 2] x_slices_Clone_128) (hNc:1≤Nc) :
    FnP Γ P f [gdA g,.int top,.int bottom,.int by_,.agg [.int a,.int b,.int c]] (scrollA (scrollR g top bottom by_ b)):=by
  have hR:=Hr [gB g,atB a b c,zgB]
  refine .of_W H (by simpa using hN) ?_
  unfold x_grid_Scroll
  refine W_seq (W_reg ?_)
  simp only [gdA,gdR,xq,reduceIte,qE,qA,qL,qD]
  by_cases hck:¬ gridCk g=0
  · simp only [readyA,readyH,if_neg hck,gdA,gdR,List.length_cons,List.length_nil,qA] at hR
    refine W_seq (W_reg ?_)
    simp only [xq,reduceIte,qE,qA,qL,qD]
    refine ce_fn hR ?_
    simp only [gdR,xq,reduceIte,qE,qA,qL,qD]
    refine W_seq (W_seq (W_reg ?_))
    simp only [xq,reduceIte,qE,qA,qL,qD]
    refine W_cond rfl (fun _=>?_) (fun hc=>by simp at hc)
    refine W_seq (W_reg ?_)
    simp only [xq,reduceIte,qE,qA,qL,qD]
    refine W_ret ⟨.inr rfl,?_⟩
    simp only [readRs,readR,single,x_upd,reduceIte,qE,x_look,argS,xq,reduceIte,qE,qA,qL,qD,loadsTo,scrollR,ne_eq,hck,not_false_eq_true,scrollA]
    exact frz_tup3 (frz_gd1 (.d (.nil _))) (.d (.nil _)) (.same rfl)
  have hck:gridCk g=0:=Decidable.not_not.1 hck
  obtain ⟨hgh,hgl,_,_⟩:=gridCk_h hck
  obtain ⟨w,hh,rows⟩:=g
  dsimp only at hgh hgl
  subst hgh
  simp only [readyA,readyH,if_pos hck,gdA,gdR,ownH,List.length_cons,List.length_nil,qA,List.cons_append,List.nil_append] at hR
  refine W_seq (W_reg ?_)
  simp only [xq,reduceIte,qE,qA,qL,qD]
  refine ce_fn hR ?_
  simp only [gdR,xq,reduceIte,qE,qA,qL,qD]
  refine W_seq (W_seq (W_reg ?_))
  simp only [xq,reduceIte,qE,qA,qL,qD]
  refine W_cond rfl (fun hc=>by simp at hc) (fun _=>W_skip ?_)
  simp only [xq,reduceIte,qE,qA,qL,qD]
  obtain ⟨n,hn⟩:∃ n,n=rows.length:=⟨_,rfl⟩
  let U:Bool→St:=fun x=>⟨look [(1,.int top),(2,.int bottom),(3,.int by_),(5,.ptr 0 1 0 0),(9,.ptr 1 1 0 0),(10,.ptr 2 1 0 0),(40,.bool x)],scrH w rows a b c⟩
  refine W_seq (W_cutX (· = U ((decide (top<0)||decide (bottom≤top))||decide ((rows.length:Int)<bottom))) rfl (fun K hK=>?_) ?_)
  · cases e:decide (top<0)
    · cases e2:decide (bottom≤top)
      · simp only [xq,reduceIte,qE,qA,qL,qD,e,e2]
        refine hK _ _ (Co.keep _ ?_) rfl
        simp [x_upd,x_look,e,e2]
      · simp only [xq,reduceIte,qE,qA,qL,qD,e,e2]
        refine hK _ _ (Co.keep _ ?_) rfl
        simp [x_upd,x_look,e,e2]
    · simp only [xq,reduceIte,qE,qA,qL,qD,e]
      refine hK _ _ (Co.keep _ ?_) rfl
      simp [x_upd,x_look,e]
  rintro _ rfl
  refine W_cond rfl (fun hd=>?_) (fun hd=>W_skip ?_)
  · have hd:(top<0∨bottom≤top)∨(rows.length:Int)<bottom:=by simpa using hd
    refine W_seq (W_reg ?_)
    simp only [U,scrH,xq,reduceIte,qE,qA,qL,qD]
    refine W_ret ⟨.inr rfl,?_⟩
    simp only [readRs,readR,single,x_upd,reduceIte,qE,x_look,argS,xq,reduceIte,qE,qA,qL,qD,loadsTo,scrollR,hck,ne_eq,not_true_eq_false,if_pos hd,scrollA]
    exact frz_tup3 (frz_gd1 (.d (.nil _))) (.d (.nil _)) (.same rfl)
  have hd:¬ ((top<0∨bottom≤top)∨(rows.length:Int)<bottom):=by
    simp only [Bool.or_eq_false_iff,decide_eq_false_iff_not] at hd
    omega
  obtain ⟨t,rfl⟩:∃ t:Nat,top=t:=⟨top.toNat,by omega⟩
  obtain ⟨bt,rfl⟩:∃ bt:Nat,bottom=bt:=⟨bottom.toNat,by omega⟩
  obtain ⟨m,hm⟩:∃ m,m=bt-t:=⟨_,rfl⟩
  have hmI:(bt:Int)-(t:Int)=(m:Int):=by omega
  have hdl:=clampBy_le (m:=(m:Int)) (b:=by_) (by omega)
  have hres:scrollR ⟨w,rows.length,rows⟩ t bt by_ b=(⟨w,rows.length,rows.take t++scrollMv rows t m (clampBy m by_) (blankRow w b)++rows.drop bt⟩,scrollOut rows t (clampBy m by_),0):=by
    simp only [scrollR,hck,ne_eq,not_true_eq_false,if_false,if_neg hd,hmI,zQ]
  rw [hres]
  have e1:IntKind.i64.wrap ((bt:Int)-(t:Int))=(m:Int):=by rw [i64_of (by omega)];omega
  have e2:IntKind.i64.wrap (0-(m:Int)) = -(m:Int):=by rw [i64_of (by omega)];omega
  have e3:minmaxInt true (-(m:Int)) (minmaxInt false by_ (m:Int))=clampBy m by_:=by
    simp only [minmaxInt,clampBy,Bool.false_eq_true,if_false,if_true]
    split<;>split<;>omega
  generalize clampBy m by_=d at hdl e3
  simp only [U,xq,reduceIte,qE,qA,qL,qD]
  refine W_seq (W_reg ?_)
  simp only [xq,reduceIte,qE,qA,qL,qD,e1]
  refine W_seq (W_reg ?_)
  simp only [xq,reduceIte,qE,qA,qL,qD,e2,e3]
  refine W_seq (W_reg ?_)
  simp only [scrH,xq,reduceIte,qE,qA,qL,qD]
  refine c_fn (Hb w) (by simp [A.underL,A.under]) ?_
  simp only [xq,reduceIte,qE,qA,qL,qD]
  refine W_seq (W_reg ?_)
  have e4:((bt:Int)-(t:Int)).toNat=m:=by omega
  simp only [xq,reduceIte,qE,qA,qL,qD,crRows_len,e4,Option.isNone_none,Bool.and_true]
  refine ⟨by omega,by omega,by omega,by omega,?_⟩
  refine W_seq (W_reg ?_)
  simp only [xq,reduceIte,qE,qA,qL,qD]
  obtain ⟨g0,hg0⟩:∃ g0,g0=scrH w rows a b c:=⟨_,rfl⟩
  have hgl0:g0.length=8:=by rw [hg0];rfl
  have g00:g0[0]? = some (oB w rows.length (sRef rows.length)):=by rw [hg0];rfl
  have g02:g0[2]? = some zgB:=by rw [hg0];rfl
  have g07:g0[7]? = some (crBk rows):=by rw [hg0];rfl
  have hu:=scrH_under w rows a b c
  rw [← hg0] at hu
  let caps:List A:=[.iptr [.sc (.int .i64 w)],.iptr (atD a b c)]
  let B:St:=⟨look [(3,.int d),(5,.ptr 0 1 0 0),(10,.ptr 2 1 0 0),(14,.int m),(15,.fn f1 caps),(16,.ref 7 rows.length t m true),(17,.nil),(18,.nil)],g0⟩
  refine W_co (s':=B) (by
    simp only [B,hg0,scrH]
    exact Co.keep _ (by simp [x_upd,x_look,caps])) ?_
  obtain ⟨out,hout⟩:∃ out,out=scrollOut rows t d:=⟨_,rfl⟩
  obtain ⟨mv,hmv⟩:∃ mv,mv=scrollMv rows t m d (blankRow w b):=⟨_,rfl⟩
  rw [← hout,← hmv]
  let F:A→Nat→Heap→St:=fun o id tl=>⟨look [(5,.ptr 0 1 0 0),(10,.ptr 2 1 0 0),(16,.ref 7 rows.length t m true),(17,o),(18,.ref id m 0 m true)],g0++tl⟩
  refine W_cut (fun s=>∃ o id tl,s=F o id tl∧8≤id∧(g0++tl)[id]? = some (crBk mv)∧mv.length=m∧((o = .nil∧out=[])∨∃ j,8≤j∧o = .ref j out.length 0 out.length true∧(g0++tl)[j]? = some (crBk out))) ?_ ?_
  · have g07':∀ tl:Heap,(g0++tl)[7]? = some (crBk rows):=fun tl=>by rw [zF (by omega)];exact g07
    obtain ⟨bl,hbl⟩:∃ bl,bl=blankRow w b:=⟨_,rfl⟩
    have H1w:=H1 w
    rw [← hbl] at H1w hmv
    refine W_seq (W_reg ?_)
    simp only [B,xq,reduceIte,qE,qA,qL,qD]
    refine W_cond rfl (fun h0=>?_) (fun h0=>?_)
    · -- up
      have h0:0≤d:=by simpa using h0
      obtain ⟨k,rfl⟩:∃ k:Nat,d=k:=⟨d.toNat,by omega⟩
      simp only [scrollOut,scrollMv,if_pos h0,zQ] at hout hmv
      have hol:out.length=k:=by rw [hout];simp;omega
      have e5:((k:Int)-((0:Nat):Int)).toNat=k:=by omega
      have e6:((m:Int)-(k:Int)).toNat=m-k:=by omega
      let M:Nat→List (List Ce):=fun i=>(rows.drop (t+k)).take (m-k)++List.replicate i bl
      have hMl:∀ i,(M i).length=m-k+i:=fun i=>by simp [M];omega
      have hMs:∀ i,((crRows (M i)).map fun r=>r.map A.d)++[[A.d (.sl eCe (ceRows bl))]]=(crRows (M (i+1))).map fun r=>r.map A.d:=fun i=>by simp [M,crRows,List.replicate_succ']
      have hM0:M 0=(rows.drop (t+k)).take (m-k):=by simp [M]
      refine W_seq (W_reg ?_)
      simp only [xq,reduceIte,qE,qA,qL,qD,g07,crRows_len,e5]
      refine ⟨by omega,by omega,by omega,by omega,?_⟩
      refine ce_fn (clone128_fn Hc hNc rows 7 t k true g0 (zI _) g07 (by omega) (by omega) (by omega)) ?_
      rw [← hout]
      simp only [xq,reduceIte,qE,qA,qL,qD]
      refine W_seq (W_reg ?_)
      simp only [xq,reduceIte,qE,qA,qL,qD,g07',crRows_len,e6]
      refine ⟨by omega,by omega,by omega,by omega,?_⟩
      refine ce_fn (clone128_fn Hc hNc rows 7 (t+k) (m-k) true (g0++[crBk out]) (zI _) (g07' _) (by omega) (by omega) (by omega)) ?_
      rw [← hM0]
      simp only [xq,reduceIte,qE,qA,qL,qD,zS]
      let S:Nat→St:=fun i=>⟨look [(5,.ptr 0 1 0 0),(10,.ptr 2 1 0 0),(15,.fn f1 caps),(16,.ref 7 rows.length t m true),(17,.ref g0.length k 0 k true),(18,.ref (g0.length+1) (m-k+i) 0 (m-k+i) true),(70,.int k),(71,.int i)],g0++[crBk out,crBk (M i)]⟩
      refine W_seq (W_reg ?_)
      simp only [xq,reduceIte,qE,qA,qL,qD]
      refine W_block ?_
      refine W_co (s':=S 0) (Co.keep _ (by simp [x_upd,x_look,caps])) ?_
      refine W_loop (fun q s=>∃ i,i≤k∧q=k-i∧s=S i) ⟨0,zI _,rfl,rfl⟩ ?_
      rintro q s ⟨i,hi,rfl,rfl⟩
      refine W_seq (W_reg ?_)
      simp only [S,xq,reduceIte,qE,qA,qL,qD]
      refine W_seq (W_cond rfl (fun hc=>W_skip ?_) (fun hc=>W_exit ?_))
      · have hlt:i<k:=by simpa using hc
        simp only [xq,reduceIte,qE,qA,qL,qD]
        refine W_seq (W_block (W_reg ?_))
        simp only [xq,reduceIte,qE,qA,qL,qD]
        refine c_clo (caps:=caps) (args:=[]) H1w rfl ?_
        simp only [xq,reduceIte,qE,qA,qL,qD,zS,hp_g1,hp_g2,hp_s1,crRows_len,hMl,hMs,Nat.reduceMul]
        refine ⟨by simp only [room];omega,by simp only [maxLen];omega,?_⟩
        refine W_reg ?_
        simp only [xq,reduceIte,qE,qA,qL,qD]
        have ht:∀ A B C:HB,(g0++[A,B,C]).take (g0.length+2)=g0++[A,B]:=fun A B C=>by
          rw [List.take_append,List.take_of_length_le (by omega)];simp
        refine ⟨k-(i+1),S (i+1),by omega,?_,i+1,hlt,rfl,rfl⟩
        rw [show S (i+1)=⟨look [(5,.ptr 0 1 0 0),(10,.ptr 2 1 0 0),(15,.fn f1 caps),(16,.ref 7 rows.length t m true),(17,.ref g0.length k 0 k true),(18,.ref (g0.length+1) (m-k+(i+1)) 0 (m-k+(i+1)) true),(70,.int k),(71,.int ((i+1:Nat):Int))],
          (g0++[crBk out,crBk (M (i+1)),crBk [bl]]).take (g0.length+2)⟩ from by simp only [S,ht]]
        refine Co.to _ (g0.length+2) ?_ (zI _) (by simp) ?_
        · have:∀ q,A.underL q caps=true:=fun _=>rfl
          simp [x_upd,x_look,A.under,this,i64_succ hlt (show k≤room by simp only [room];omega),Nat.add_assoc,hgl0]
        · intro B hB
          dsimp only at hB
          rw [ht] at hB
          rcases List.mem_append.1 hB with h | h
          · exact hu _ (by omega) B h
          · simp only [zp,zc,or_false] at h
            rcases h with rfl | rfl
            · exact under_d
            · exact under_d
      · have hle:i=k:=by simp at hc;omega
        subst hle
        have hmk:m-i+i=m:=by omega
        simp only [xq,reduceIte,qE,qA,qL,qD,hmk]
        refine ⟨F (.ref g0.length i 0 i true) (g0.length+1) [crBk out,crBk (M i)],Co.keep _ (by simp [x_upd,x_look]),_,_,_,rfl,by omega,?_,?_,.inr ⟨g0.length,by omega,by rw [hol],?_⟩⟩
        · rw [hmv];exact hp_g1
        · rw [hmv];have:=hMl i;simp only [M] at this;omega
        · exact hp_g0
    · -- down
      have h0:¬ 0≤d:=by simpa using h0
      obtain ⟨k,rfl⟩:∃ k:Nat,d = -(k:Int):=⟨(-d).toNat,by omega⟩
      simp only [scrollOut,scrollMv,if_neg h0,Int.neg_neg,zQ] at hout hmv
      have hk1:1≤k:=by omega
      have hkm:k≤m:=by omega
      have e5:IntKind.i64.wrap (0 - -(k:Int))=(k:Int):=by rw [i64_of (by omega)];omega
      have e6:IntKind.i64.wrap ((m:Int) + -(k:Int))=((m-k:Nat):Int):=by rw [i64_of (by omega)];omega
      have e7:(((m-k:Nat):Int)-((0:Nat):Int)).toNat=m-k:=by omega
      let M:Nat→List (List Ce):=fun i=>List.replicate i bl
      have hMl:∀ i,(M i).length=i:=fun i=>by simp [M]
      have hMs:∀ i,((crRows (M i)).map fun r=>r.map A.d)++[[A.d (.sl eCe (ceRows bl))]]=(crRows (M (i+1))).map fun r=>r.map A.d:=fun i=>by simp [M,crRows,List.replicate_succ']
      let T:St:=⟨look [(3,.int (-(k:Int))),(5,.ptr 0 1 0 0),(10,.ptr 2 1 0 0),(14,.int m),(16,.ref 7 rows.length t m true),(17,.nil),(18,.ref (g0.length+1) k 0 k true)],g0++[crBk [bl],crBk (M k)]⟩
      refine W_cut (· = T) ?_ ?_
      · refine W_seq (W_reg ?_)
        simp only [xq,reduceIte,qE,qA,qL,qD,e5]
        refine W_block ?_
        let bx:Nat→A:=fun i=>if i=0 then .nil else .ref (g0.length+1) i 0 i true
        let Hp:Nat→Heap:=fun i=>if i=0 then g0 else g0++[crBk [bl],crBk (M i)]
        let S:Nat→St:=fun i=>⟨look [(3,.int (-(k:Int))),(5,.ptr 0 1 0 0),(10,.ptr 2 1 0 0),(14,.int m),(15,.fn f1 caps),(16,.ref 7 rows.length t m true),(17,.nil),(18,bx i),(80,.int k),(81,.int i)],Hp i⟩
        refine W_co (s':=S 0) (Co.keep _ (by simp [x_upd,x_look,caps,bx])) ?_
        refine W_loop (fun q s=>∃ i,i≤k∧q=k-i∧s=S i) ⟨0,zI _,rfl,rfl⟩ ?_
        rintro q s ⟨i,hi,rfl,rfl⟩
        refine W_seq (W_reg ?_)
        simp only [S,xq,reduceIte,qE,qA,qL,qD]
        refine W_seq (W_cond rfl (fun hc=>W_skip ?_) (fun hc=>W_exit ?_))
        · have hlt:i<k:=by simpa using hc
          simp only [xq,reduceIte,qE,qA,qL,qD]
          refine W_seq (W_block (W_reg ?_))
          rcases Nat.eq_zero_or_pos i with rfl | hpos
          · simp only [bx,Hp,xq,reduceIte,qE,qA,qL,qD]
            refine c_clo (caps:=caps) (args:=[]) H1w rfl ?_
            simp only [xq,reduceIte,qE,qA,qL,qD,zS,hp_g0,Nat.reduceMul]
            rw [if_neg (by simp)]
            refine ⟨by decide,by decide,?_⟩
            refine W_reg ?_
            simp only [xq,reduceIte,qE,qA,qL,qD]
            refine ⟨k-(0+1),S 1,by omega,?_,1,hlt,rfl,rfl⟩
            have hS1:S 1=⟨look [(3,.int (-(k:Int))),(5,.ptr 0 1 0 0),(10,.ptr 2 1 0 0),(14,.int m),(15,.fn f1 caps),(16,.ref 7 rows.length t m true),(17,.nil),(18,.ref (g0.length+1) 1 0 1 true),(80,.int k),(81,.int 1)],g0++[crBk [bl],crBk [bl]]⟩:=rfl
            rw [hS1]
            refine Co.keep _ ?_
            have w1:IntKind.i64.wrap 1=1:=rfl
            simp [x_upd,x_look,w1,caps]
          · obtain ⟨i,rfl⟩:∃ i',i=i'+1:=⟨i-1,by omega⟩
            simp only [bx,Hp,if_neg (Nat.succ_ne_zero i)]
            simp only [xq,reduceIte,qE,qA,qL,qD]
            refine c_clo (caps:=caps) (args:=[]) H1w rfl ?_
            simp only [xq,reduceIte,qE,qA,qL,qD,zS,hp_g1,hp_g2,hp_s1,crRows_len,hMl,hMs,Nat.reduceMul]
            refine ⟨by simp only [room];omega,by simp only [maxLen];omega,?_⟩
            refine W_reg ?_
            simp only [xq,reduceIte,qE,qA,qL,qD]
            have ht:∀ A B C:HB,(g0++[A,B,C]).take (g0.length+2)=g0++[A,B]:=fun A B C=>by
              rw [List.take_append,List.take_of_length_le (by omega)];simp
            refine ⟨k-(i+1+1),S (i+1+1),by omega,?_,i+1+1,hlt,rfl,rfl⟩
            rw [show S (i+1+1)=⟨look [(3,.int (-(k:Int))),(5,.ptr 0 1 0 0),(10,.ptr 2 1 0 0),(14,.int m),(15,.fn f1 caps),(16,.ref 7 rows.length t m true),(17,.nil),(18,.ref (g0.length+1) (i+1+1) 0 (i+1+1) true),(80,.int k),(81,.int ((i+1+1:Nat):Int))],
              (g0++[crBk [bl],crBk (M (i+1+1)),crBk [bl]]).take (g0.length+2)⟩ from by simp only [S,ht,bx,Hp,if_neg (Nat.succ_ne_zero (i+1))]]
            refine Co.to _ (g0.length+2) ?_ (zI _) (by simp) ?_
            · have:∀ q,A.underL q caps=true:=fun _=>rfl
              have w2:IntKind.i64.wrap ((i:Int)+1+1)=(i:Int)+1+1:=i64_of (by omega)
              simp [x_upd,x_look,A.under,this,w2,hgl0]
            · intro B hB
              dsimp only at hB
              rw [ht] at hB
              rcases List.mem_append.1 hB with h | h
              · exact hu _ (by omega) B h
              · simp only [zp,zc,or_false] at h
                rcases h with rfl | rfl
                · exact under_d
                · exact under_d
        · have hle:i=k:=by simp at hc;omega
          subst hle
          simp only [xq,reduceIte,qE,qA,qL,qD]
          refine ⟨T,?_,rfl⟩
          simp only [T,bx,Hp,if_neg (show ¬ i=0 by omega)]
          exact Co.keep _ (by simp [x_upd,x_look])
      rintro _ rfl
      have hsl:List.take (m-k) (List.drop t ((crRows rows).map fun r=>r.map A.d))=(crRows ((rows.drop t).take (m-k))).map fun r=>r.map A.d:=by simp [crRows,List.map_take,List.map_drop]
      have hsll:((rows.drop t).take (m-k)).length=m-k:=by simp;omega
      have hap:((crRows (M k)).map fun r=>r.map A.d)++((crRows ((rows.drop t).take (m-k))).map fun r=>r.map A.d)=(crRows mv).map fun r=>r.map A.d:=by rw [hmv];simp [M,crRows]
      have hkk:k+(m-k)=m:=by omega
      refine W_reg ?_
      simp only [T,xq,reduceIte,qE,qA,qL,qD,e6,g07',crRows_len,e7]
      refine ⟨by omega,by omega,by omega,by omega,?_⟩
      simp only [xq,reduceIte,qE,qA,qL,qD,hsl,hp_g1,hp_s1,crRows_len,hMl,hsll,hap,hkk]
      refine ⟨by simp only [room];omega,by simp only [maxLen];omega,F .nil (g0.length+1) [crBk [bl],crBk mv],Co.keep _ (by simp [x_upd,x_look]),_,_,_,rfl,by omega,hp_g1,?_,.inl ⟨rfl,hout⟩⟩
      rw [hmv];simp;omega
  · rintro _ ⟨o,id,tl,rfl,hid8,hid,hml,ho⟩
    have e0:(g0++tl)[0]? = some (oB w rows.length (sRef rows.length)):=by rw [zF (by omega)];exact g00
    have e02:(g0++tl)[2]? = some zgB:=by rw [zF (by omega)];exact g02
    have e07:(g0++tl)[7]? = some (crBk rows):=by rw [zF (by omega)];exact g07
    simp only [F]
    generalize g0++tl=hp at e0 e02 e07 hid ho ⊢
    have hl7:7<hp.length:=(zA.1 e07).1
    have hnew:List.take t (crC rows)++crC mv++List.drop (t+m) (crC rows)=crC (rows.take t++mv++rows.drop bt):=by
      rw [crC_take,crC_drop,crC_app,crC_app,show t+m=bt by omega]
    have hcm:List.take m (crC mv)=crC mv:=List.take_of_length_le (by rw [crC_len];omega)
    have x0:∀ X,(hp.set 7 X)[0]? = some (oB w rows.length (sRef rows.length)):=fun X=>by rw [zM (by decide)];exact e0
    have x2:∀ X,(hp.set 7 X)[2]? = some zgB:=fun X=>by rw [zM (by decide)];exact e02
    have y2:∀ X Y,((hp.set 7 X).set 2 Y)[2]? = some Y:=fun X Y=>by rw [zN (by simp;omega)]
    have y7:∀ X Y,((hp.set 7 X).set 2 Y)[7]? = some X:=fun X Y=>by rw [zM (by decide),zN (by omega)]
    have yj:∀ X Y j,8≤j→((hp.set 7 X).set 2 Y)[j]? = hp[j]? := fun X Y j hj=>by rw [zM (by omega),zM (by omega)]
    refine W_seq (W_reg ?_)
    simp only [xq,reduceIte,qE,qA,qL,qD,hid,e07,crRows_len,hml,List.drop_zero,hcm,crC_len,Nat.min_self,hnew]
    refine W_seq (W_reg ?_)
    simp only [xq,reduceIte,qE,qA,qL,qD,x0,x2]
    refine W_ret ⟨.inr rfl,?_⟩
    simp only [readRs,readR,single,x_upd,reduceIte,qE,x_look,argS,xq,reduceIte,qE,qA,qL,qD,loadsTo,y2,scrollA]
    refine frz_tup3 (frz_gd1 ?_) ?_ (.same rfl)
    · have hnl:(rows.take t++mv++rows.drop bt).length=rows.length:=by simp;omega
      have:=frz_all (full:=true) (e:=eRw) (rows:=crRows (rows.take t++mv++rows.drop bt)) (y7 (crBk (rows.take t++mv++rows.drop bt)) (.cells eGd [[.int w,.int rows.length,sRef rows.length]]))
      rw [crRows_len,hnl] at this
      exact this
    · rcases ho with ⟨rfl,ho⟩ | ⟨j,hj,rfl,hjb⟩
      · rw [ho];exact .d (.nil _)
      · have:=frz_all (full:=true) ((yj (crBk (rows.take t++mv++rows.drop bt)) (.cells eGd [[.int w,.int rows.length,sRef rows.length]]) j hj).trans hjb)
        rw [crRows_len] at this
        exact this
end Go.Proofs.YthhjkfilfhmakaaDoor.Nx

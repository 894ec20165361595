import Derived.Test.YthhjkfilfhmakaaDoorNxS9
import Derived.Test.YthhjkfilfhmakaaDoorNxS6
import Derived.Test.YthhjkfilfhmakaaDoorNxG13
import Derived.Test.YthhjkfilfhmakaaDoorNxDL
set_option linter.unusedSimpArgs false
set_option linter.unusedVariables false
set_option linter.unnecessarySimpa false
open Nat renaming reduceEqDiff → qE, reduceAdd → qA, reduceLT → qL, reduceLeDiff → qD
namespace Go.Proofs.YthhjkfilfhmakaaDoor.Nx
open Go
variable {P:Program} {N:Nat} {Γ:Tabs}
def winV (b:List (List Ce)) (g:Gd) (back:Int):Gd × Int:=winR b g back (gridCk g) checkR fun r=>fitR (checkR r) r g.w
abbrev WinOk (Γ:Tabs) (P:Program) (f:FuncId):Prop:=∀ (b:List (List Ce)) (g:Gd) (back:Int),b.length≤1000→smallL b→g.small→FnP Γ P f [.d (.sl eRw (crRows b)),gdA g,.int back] (gdE (winV b g back))
theorem fitR_ok' {l:List Ce} {w:Int} (h:checkR l=0) (h1:1≤w) (h2:w≤132):fitR (checkR l) l w=fitC l w.toNat:=by
  unfold fitR;rw [if_neg (by omega)]
theorem fitR_small {l:List Ce} {w:Int} (h:smallR l):(fitR (checkR l) l w).length≤132∧smallR (fitR (checkR l) l w):=by
  unfold fitR
  split
  · exact ⟨by simp,fun c hc=>by cases hc⟩
  · rename_i hn
    have h0:checkR l=0:=by omega
    have h3:=fitC_ck (l:=l) (w:=w.toNat) h0 (by omega) (by omega)
    exact ⟨by omega,fitC_small h⟩
theorem winRow_mem {b rows:List (List Ce)} {bk k:Nat} (hb:bk≤b.length) (hk:k<rows.length):(k<bk→winRow b rows bk k∈b)∧(¬ k<bk→winRow b rows bk k∈rows):=by
  constructor
  · intro h
    rw [winRow,if_pos h,List.getD_eq_getElem?_getD,List.getElem?_eq_getElem (show b.length-bk+k<b.length by omega)]
    exact List.getElem_mem _
  · intro h
    rw [winRow,if_neg h,List.getD_eq_getElem?_getD,List.getElem?_eq_getElem (show k-bk<rows.length by omega)]
    exact List.getElem_mem _
theorem winV_zero {b:List (List Ce)} {g:Gd} {back:Int} (h:(winV b g back).2=0) :
    gridCk g=0∧(0≤back∧back≤b.length)∧(∀ k,k<g.rows.length→winOk b g.rows back.toNat checkR k=true)∧winV b g back=(⟨g.w,g.h,winL b g.rows back.toNat (fun r=>fitR (checkR r) r g.w) g.rows.length⟩,0):=by
  unfold winV at h ⊢
  unfold winR at h ⊢
  by_cases h0:gridCk g≠0
  · rw [if_pos h0] at h;cases h
  rw [if_neg h0] at h ⊢
  by_cases h1:back<0∨(b.length:Int)<back
  · rw [if_pos h1] at h;cases h
  rw [if_neg h1] at h ⊢
  cases hf:(List.range g.rows.length).find? fun k => !winOk b g.rows back.toNat checkR k with
  | some k =>
    rw [hf] at h
    have hk:=List.find?_some hf
    simp only [winOk,Bool.not_not,Bool.and_eq_true,decide_eq_true_eq] at hk
    exact absurd h hk.2
  | none =>
    refine ⟨by omega,by omega,fun k hk=>?_,rfl⟩
    have:=List.find?_eq_none.1 hf k (List.mem_range.2 hk)
    simpa using this
theorem winV_of {b:List (List Ce)} {g:Gd} {back:Int} (hg:gridCk g=0) (hb:0≤back∧back≤b.length) (hk:∀ k,k<g.rows.length→winOk b g.rows back.toNat checkR k=true) :
    winV b g back=(⟨g.w,g.h,winL b g.rows back.toNat (fun r=>fitR (checkR r) r g.w) g.rows.length⟩,0):=by
  unfold winV winR
  rw [if_neg (by simpa using hg),if_neg (by omega)]
  have hf:((List.range g.rows.length).find? fun k => !winOk b g.rows back.toNat checkR k)=none:=by
    rw [List.find?_eq_none]
    intro k hk2
    simp [hk k (List.mem_range.1 hk2)]
  rw [hf]
theorem winL_mem {b rows:List (List Ce)} {bk n:Nat} {fit:List Ce→List Ce} {r:List Ce} (h:r∈winL b rows bk fit n):∃ k,k<n∧r=winOut b rows bk fit k:=by
  rw [winL,List.mem_map] at h
  obtain ⟨k,hk,rfl⟩:=h
  exact ⟨k,List.mem_range.1 hk,rfl⟩
theorem winV_ck {b:List (List Ce)} {g:Gd} {back:Int} (h:(winV b g back).2=0):gridCk (winV b g back).1=0:=by
  obtain ⟨hg,hb,hk,he⟩:=winV_zero h
  have hh:=gridCk_h hg
  rw [he]
  refine gridCk_of (gridCk_sz (g:=g) hg) (by rw [winL_len];exact hh.1.symm) fun r hr=>?_
  obtain ⟨k,hk2,rfl⟩:=winL_mem hr
  have hm:=winRow_mem (b:=b) (rows:=g.rows) (bk:=back.toNat) (k:=k) (by omega) hk2
  rw [winOut]
  split
  · rename_i hlt
    have h0:checkR (winRow b g.rows back.toNat k)=0:=by simpa [winOk,hlt] using hk k hk2
    rw [fitR_ok' h0 hh.2.2.1 hh.2.2.2]
    have h3:=fitC_ck (w:=g.w.toNat) h0 (by omega) (by omega)
    exact ⟨by show ((fitC _ _).length:Int)=g.w;omega,h3.1⟩
  · rename_i hlt
    exact gridCk_rows hg _ (hm.2 hlt)
theorem winV_small {b:List (List Ce)} {g:Gd} {back:Int} (hb:smallL b) (hg:g.small):(winV b g back).1.small:=by
  by_cases h:(winV b g back).2=0
  · obtain ⟨_,hbb,_,he⟩:=winV_zero h
    rw [he]
    intro r hr
    obtain ⟨k,hk2,rfl⟩:=winL_mem hr
    have hm:=winRow_mem (b:=b) (rows:=g.rows) (bk:=back.toNat) (k:=k) (by omega) hk2
    rw [winOut]
    split
    · rename_i hlt
      have h3:=fitR_small (l:=winRow b g.rows back.toNat k) (w:=g.w) (hb _ (hm.1 hlt)).2
      exact ⟨by have:=h3.1;omega,h3.2⟩
    · rename_i hlt
      exact hg _ (hm.2 hlt)
  · have hz:(winV b g back).1=zeroGd:=by
      unfold winV winR at h ⊢
      by_cases h0:gridCk g≠0
      · rw [if_pos h0]
      rw [if_neg h0] at h ⊢
      by_cases h1:back<0∨(b.length:Int)<back
      · rw [if_pos h1]
      rw [if_neg h1] at h ⊢
      cases hf:(List.range g.rows.length).find? fun k => !winOk b g.rows back.toNat checkR k with
      | some k=>rfl
      | none=>rw [hf] at h;exact absurd rfl h
    rw [hz]
    intro r hr
    cases hr
set_option maxHeartbeats 1000000 in
theorem windowLaw_fn {f fg f8 fa fw fr fs fc:FuncId} (H:FnIs P f N [.t 6] (x_law12_ScrollbackWindow fg f8 fa fw fr fs fc)) (hN:3≤N) (Hg:GreatOk Γ P fg) (H8:Great10Ok Γ P f8) (Ha:FnP Γ P fa [] (.bool true)) (Hw:WinOk Γ P fw) (Hr:WinOk Γ P fr) (Hs:SameGOk Γ P fs) (Hc:GCheckOk Γ P fc)
    (b:List (List Ce)) (g:Gd) (back:Int):FnP Γ P f [.d (.sl eRw (crRows b)),gdA g,.int back] (.bool true):=by
  refine .of_W H (by simpa using hN) ?_
  unfold x_law12_ScrollbackWindow
  have hG:=Hg b
  have hG2:=H8 g.rows
  simp only [gdA,gdR]
  refine W_seq (W_reg ?_);simp only [xq,reduceIte,qE,qA,qL,qD]
  let U:Bool→St:=fun c=>⟨look [(0,.d (.sl eRw (crRows b))),(2,.int back),(4,.ptr 0 1 0 0),(19,.bool c)],[gB g]⟩
  refine W_seq (W_cutX (· = U (great12 b||great10 g.rows)) rfl (fun K hK=>?_) ?_)
  · cases hg:great12 b<;>cases hg2:great10 g.rows<;>simp only [hg,hg2,Bool.false_eq_true,if_true,if_false] at hG hG2
    all_goals simp only [xq,reduceIte,qE,qA,qL,qD,gdR]
    all_goals refine c_fn hG (by simp [A.underL,A.under]) ?_
    all_goals simp only [gdR,xq,reduceIte,qE,qA,qL,qD,Int.lt_irrefl,decide_false,show decide ((0:Int)<1)=true from rfl]
    · refine c_fn hG2 (by simp [A.underL,A.under]) ?_
      simp only [xq,reduceIte,qE,qA,qL,qD,Int.lt_irrefl,decide_false]
      exact hK _ _ (Co.keep _ (by simp [x_upd,x_look,hg,hg2])) rfl
    · refine c_fn hG2 (by simp [A.underL,A.under]) ?_
      simp only [xq,reduceIte,qE,qA,qL,qD,show decide ((0:Int)<1)=true from rfl]
      exact hK _ _ (Co.keep _ (by simp [x_upd,x_look,hg,hg2])) rfl
    · exact hK _ _ (Co.keep _ (by simp [x_upd,x_look,hg,hg2])) rfl
    · exact hK _ _ (Co.keep _ (by simp [x_upd,x_look,hg,hg2])) rfl
  rintro _ rfl
  refine W_cond rfl (fun hc=>?_) (fun hc=>W_skip ?_)
  · refine W_seq (W_reg ?_);simp only [xq,reduceIte,qE,qA,qL,qD,U]
    refine c_fn (Ha) rfl ?_;simp only [xq,reduceIte,qE,qA,qL,qD]
    refine W_ret (.tmp ?_ rfl)
    simp only [x_upd,reduceIte]
  rw [Bool.or_eq_false_iff] at hc
  obtain ⟨hbl,hbr⟩:=great12_small hc.1
  have hb:smallL b:=fun r hr=>⟨by have:=(hbr r hr).1;omega,fun c hc=>by have:=(hbr r hr).2 c hc;omega⟩
  have hgs:g.small:=(great10_small hc.2).2
  have hW:=Hw b g back (by omega) hb hgs
  have hR:=Hr b g back (by omega) hb hgs
  have hck:(winV b g back).2=0→gridCk (winV b g back).1=0:=winV_ck
  have hsm:=winV_small (back:=back) hb hgs
  generalize winV b g back=X at hW hR hck hsm
  have hS:=Hs X.1 X.1
  rw [decide_eq_true rfl] at hS
  have hC:=Hc X.1 hsm
  simp only [gdE,gdA,gdR] at hW hR hS hC
  simp only [U]
  refine W_seq (W_reg ?_);simp only [xq,reduceIte,qE,qA,qL,qD,gdR]
  refine c_fn (hW) rfl ?_;simp only [xq,reduceIte,qE,qA,qL,qD]
  refine W_seq (W_reg ?_);simp only [xq,reduceIte,qE,qA,qL,qD,gdR]
  refine c_fn (hR) rfl ?_;simp only [xq,reduceIte,qE,qA,qL,qD]
  refine W_sreg fun K hK=>?_
  refine run_take 3 fun K1 hK1=>?_
  simp only [xq,reduceIte,qE,qA,qL,qD]
  refine c_fn hS (by simp [A.underL,A.under]) ?_
  simp only [xq,reduceIte,qE,qA,qL,qD]
  refine hK1 _ ?_
  refine run_take 5 fun K2 hK2=>?_
  simp only [xq,reduceIte,qE,qA,qL,qD,decide_true]
  refine hK2 _ ?_
  cases hX:decide (X.2=0)
  · simp only [xq,reduceIte,qE,qA,qL,qD,hX,Bool.not_false,undefA,Bool.true_eq_false]
    refine c_fn Ha rfl ?_
    simp only [xq,reduceIte,qE,qA,qL,qD]
    refine hK _ ?_
    refine W_ret (.tmp ?_ rfl)
    simp only [x_upd,reduceIte]
  · have hX0:X.2=0:=of_decide_eq_true hX
    rw [hck hX0] at hC
    simp only [xq,reduceIte,qE,qA,qL,qD,hX,Bool.not_true]
    refine c_fn hC (by simp [A.underL,A.under]) ?_
    simp only [xq,reduceIte,qE,qA,qL,qD,decide_true]
    refine c_fn Ha rfl ?_
    simp only [xq,reduceIte,qE,qA,qL,qD]
    refine hK _ ?_
    refine W_ret (.tmp ?_ rfl)
    simp only [x_upd,reduceIte]
end Go.Proofs.YthhjkfilfhmakaaDoor.Nx

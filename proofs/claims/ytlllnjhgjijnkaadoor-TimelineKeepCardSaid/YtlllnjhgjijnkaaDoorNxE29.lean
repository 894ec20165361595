import Derived.Test.YtlllnjhgjijnkaaDoorNxE28
set_option linter.unusedSimpArgs false
set_option linter.unusedVariables false
set_option linter.unnecessarySimpa false
open Bool renaming true_eq_false → zE
open Nat renaming zero_le → zI
open Nat renaming reduceEqDiff → qE, reduceAdd → qA, reduceLT → qL, reduceLeDiff → qD
namespace Go.Proofs.YtlllnjhgjijnkaaDoor.Nx
open Go
variable {P:Program} {N:Nat} {Γ:Tabs}
theorem cg_ne {a b:Cg}:(((((!decide (a.kind=b.kind) || !decide (a.row=b.row)) || !decide (a.col=b.col)) || !decide (a.count=b.count)) || !decide (a.upto=b.upto)) || !decide (a.gl=b.gl)) = !decide (a=b):=by
 rw [← cg_eq]
 simp only [Bool.not_and]
set_option maxHeartbeats 2000000 in
theorem rsame19_fn {f fs:FuncId} (H:FnIs P f N [.t 4] (x_ref19_Same fs)) (hN:2≤N) (Hs:RowSameOk Γ P fs) (a b:List Cg):FnP Γ P f [cgsA a,cgsA b] (.bool (decide (a=b))):=by
 refine .of_W H (by simpa using hN) (W_sl 0 rfl fun ⟨_,hroom,_⟩=>?_)
 have hlr:a.length≤room:=le_of_mul (by rw [cgRows_len] at hroom;exact hroom)
 unfold x_ref19_Same
 refine wR ?_;simp only [xq,reduceIte,qE,qA,qL,qD]
 refine W_seq ?_
 refine wR ?_;simp only [xq,reduceIte,qE,qA,qL,qD,cgRows_len]
 refine W_cond rfl (fun hc=>?_) (fun hc=>W_skip ?_)
 ·refine wR ?_;simp only [xq,reduceIte,qE,qA,qL,qD]
  have hne:a≠b:=by rintro rfl;simp at hc
  refine W_ret (.tmp ?_ rfl)
  simp [x_upd,hne]
 have hlen:a.length=b.length:=by simp at hc;omega
 simp only [xq,reduceIte,qE,qA,qL,qD]
 refine W_seq ?_
 refine wR ?_;simp only [xq,reduceIte,qE,qA,qL,qD]
 refine W_block ?_
 let S:Nat→St:=fun i=>⟨look [(0,cgsA a),(1,cgsA b),(5,.int i)],[]⟩
 refine W_co (s':=S 0) (Co.keep _ (by simp [x_upd,x_look])) ?_
 refine W_loop (fun m s=>∃ i,i≤a.length∧m=a.length-i∧s=S i∧a.take i=b.take i) ⟨0,zI _,rfl,rfl,by simp⟩ ?_
 rintro m s ⟨i,hi,rfl,rfl,hpre⟩
 simp only [S]
 refine W_seq (W_seq ?_)
 refine W_reg ?_;simp only [xq,reduceIte,qE,qA,qL,qD,cgRows_len]
 refine W_cond rfl (fun hc=>W_skip ?_) (fun hc=>W_exit ?_)
 ·have hlt:i<a.length:=by simpa using hc
  have hltb:i<b.length:=by omega
  simp only [xq,reduceIte,qE,qA,qL,qD]
  refine W_seq (W_block ?_)
  obtain ⟨x,hx⟩:∃ x,x=a[i]:=⟨_,rfl⟩
  obtain ⟨y,hy⟩:∃ y,y=b[i]:=⟨_,rfl⟩
  have hxr:(cgRows a).getD i []=x.ds:=by rw [cgRows_get hlt,hx]
  have hyr:(cgRows b).getD i []=y.ds:=by rw [cgRows_get hltb,hy]
  refine W_seq (W_drw (by simp [x_upd,x_look,look,A.touch]) ?_)
  simp only [xq,reduceIte,qE,qA,qL,qD,cgRows_len,hxr,hyr,Cg.ds,Int.toNat_natCast]
  refine ⟨by omega,by omega,by omega,by omega,?_⟩
  obtain ⟨b0,h0⟩:∃ z,z = !decide (x.kind=y.kind):=⟨_,rfl⟩
  obtain ⟨b1,h1⟩:∃ z,z=(b0 || !decide (x.row=y.row)):=⟨_,rfl⟩
  obtain ⟨b2,h2⟩:∃ z,z=(b1 || !decide (x.col=y.col)):=⟨_,rfl⟩
  obtain ⟨b3,h3⟩:∃ z,z=(b2 || !decide (x.count=y.count)):=⟨_,rfl⟩
  obtain ⟨b4,h4⟩:∃ z,z=(b3 || !decide (x.upto=y.upto)):=⟨_,rfl⟩
  have h5:(b4 || !decide (x.gl=y.gl)) = !decide (x=y):=by rw [h4,h3,h2,h1,h0,cg_ne]
  let T:Nat→Bool→St:=fun n z=>⟨look [(0,cgsA a),(1,cgsA b),(5,.int i),(6,.ptr 0 1 0 0),(7,.ptr 1 1 0 0),(n,.bool z)],[cgB x,cgB y]⟩
  refine W_cut (· = ⟨look [(0,cgsA a),(1,cgsA b),(5,.int i),(67,.bool (!decide (x=y)))],[cgB x,cgB y]⟩) (W_regCK fun K hK=>?_) ?_
  ·refine runC_cut 6 (· = T 32 b0) rfl (by intro h;cases h) (fun K1 hK1=>?_) ?_
   ·rw [h0] at hK1
    simp only [xq,reduceIte,qE,qA,qL,qD]
    exact hK1 _ _ (Co.keep _ (by simp [x_upd,x_look])) rfl
   rintro _ rfl
   refine runC_cut 7 (· = T 39 b1) rfl (by intro h;cases h) (fun K1 hK1=>?_) ?_
   ·rw [h1] at hK1
    cases b0<;>simp only [T,cgB,Cg.ds,xq,reduceIte,qE,qA,qL,qD,Bool.false_or,Bool.true_or,undefA,zE]
    all_goals (refine hK1 _ _ (Co.keep _ ?_) rfl;simp [x_upd,x_look])
   rintro _ rfl
   refine runC_cut 7 (· = T 46 b2) rfl (by intro h;cases h) (fun K1 hK1=>?_) ?_
   ·rw [h2] at hK1
    cases b1<;>simp only [T,cgB,Cg.ds,xq,reduceIte,qE,qA,qL,qD,Bool.false_or,Bool.true_or,undefA,zE]
    all_goals (refine hK1 _ _ (Co.keep _ ?_) rfl;simp [x_upd,x_look])
   rintro _ rfl
   refine runC_cut 7 (· = T 53 b3) rfl (by intro h;cases h) (fun K1 hK1=>?_) ?_
   ·rw [h3] at hK1
    cases b2<;>simp only [T,cgB,Cg.ds,xq,reduceIte,qE,qA,qL,qD,Bool.false_or,Bool.true_or,undefA,zE]
    all_goals (refine hK1 _ _ (Co.keep _ ?_) rfl;simp [x_upd,x_look])
   rintro _ rfl
   refine runC_cut 7 (· = T 60 b4) rfl (by intro h;cases h) (fun K1 hK1=>?_) ?_
   ·rw [h4] at hK1
    cases b3<;>simp only [T,cgB,Cg.ds,xq,reduceIte,qE,qA,qL,qD,Bool.false_or,Bool.true_or,undefA,zE]
    all_goals (refine hK1 _ _ (Co.keep _ ?_) rfl;simp [x_upd,x_look])
   rintro _ rfl
   refine runC_end rfl ?_
   rw [← h5] at hK
   cases b4
   ·simp only [T,cgB,Cg.ds,xq,reduceIte,qE,qA,qL,qD,Bool.false_or]
    refine c_fn (Hs x.gl y.gl) rfl ?_;simp only [xq,reduceIte,qE,qA,qL,qD]
    refine hK _ ?_
    exact ⟨rfl,_,Co.keep _ (by simp [x_upd,x_look]),rfl⟩
   ·simp only [T,cgB,Cg.ds,xq,reduceIte,qE,qA,qL,qD,Bool.true_or,undefA,zE]
    refine hK _ ?_
    exact ⟨rfl,_,Co.keep _ (by simp [x_upd,x_look]),rfl⟩
  rintro _ rfl
  clear h0 h1 h2 h3 h4 h5
  refine W_cond rfl (fun hd=>?_) (fun hd=>W_skip ?_)
  ·refine wR ?_;simp only [xq,reduceIte,qE,qA,qL,qD]
   have hne:a≠b:=by
    rintro rfl
    rw [hx,hy] at hd;simp at hd
   refine W_ret ?_
   simp only [xq,reduceIte,qE,qA,qL,qD]
   refine .tmp ?_ rfl
   simp [x_upd,hne]
  ·have he:a[i]=b[i]:=by rw [← hx,← hy];simpa using hd
   simp only [xq,reduceIte,qE,qA,qL,qD]
   refine W_reg ?_;simp only [xq,reduceIte,qE,qA,qL,qD,i64_succ hlt hlr]
   exact ⟨a.length-(i+1),S (i+1),by omega,Co.to _ 0 (by simp [x_upd,x_look,A.under]) (zI _) (zI _) u0,i+1,hlt,rfl,rfl,take_eq_succ hlt hltb hpre he⟩
 ·have hle:i=a.length:=by simp at hc;omega
  have heq:a=b:=by
   subst hle
   rw [List.take_length,hlen,List.take_length] at hpre
   exact hpre
  simp only [xq,reduceIte,qE,qA,qL,qD]
  refine wR ?_;simp only [xq,reduceIte,qE,qA,qL,qD]
  refine W_ret (.tmp ?_ rfl)
  simp [x_upd,heq]
abbrev CgsSameOk (Γ:Tabs) (P:Program) (f:FuncId):Prop:=∀ a b:List Cg,FnP Γ P f [cgsA a,cgsA b] (.bool (decide (a=b)))
end Go.Proofs.YtlllnjhgjijnkaaDoor.Nx

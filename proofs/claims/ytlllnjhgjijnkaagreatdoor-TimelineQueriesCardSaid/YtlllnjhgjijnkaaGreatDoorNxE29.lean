import Derived.Test.YtlllnjhgjijnkaaGreatDoorNxE21
set_option linter.unusedSimpArgs false
set_option linter.unusedVariables false
set_option linter.unnecessarySimpa false
open Bool renaming true_eq_false → zE
open Nat renaming zero_le → zI
open Int renaming toNat_natCast → zQ
open List renaming map_cons → zU, map_nil → zV
open Nat renaming reduceEqDiff → qE, reduceAdd → qA, reduceLT → qL, reduceLeDiff → qD
namespace Go.Proofs.YtlllnjhgjijnkaaGreatDoor.Nx
open Go
section
variable {P:Program} {N:Nat} {Γ:Tabs}
theorem cg_ne {a b:Cg}:(((((!decide (a.kind=b.kind) || !decide (a.row=b.row)) || !decide (a.col=b.col)) || !decide (a.count=b.count)) || !decide (a.upto=b.upto)) || !decide (a.gl=b.gl)) = !decide (a=b):=by
 rw [← cg_eq]
 simp only [Bool.not_and]
set_option maxHeartbeats 2000000 in
theorem rsame19_fn {f fs:FuncId} (H:FnIs P f N [.t 4] (x_ref19_Same fs)) (hN:2≤N) (Hs:RowSameOk Γ P fs) (a b:List Cg):FnP Γ P f [cgsA a,cgsA b] (.bool (decide (a=b))):=by
 refine .of_W H (by simpa using hN) (W_sl 0 rfl fun ⟨_,hroom,_⟩=>?_)
 have hlr:a.length≤room:=le_of_mul (by rw [cgRows_len] at hroom;exact hroom)
 unfold x_ref19_Same
 refine wR ?_;simp only [xq,reduceIte,qE,qA,qL,qD]
 refine W_seq ?_
 refine wR ?_;simp only [xq,reduceIte,qE,qA,qL,qD,cgRows_len]
 refine W_cond rfl (fun hc=>?_) (fun hc=>W_skip ?_)
 ·refine wR ?_;simp only [xq,reduceIte,qE,qA,qL,qD]
  have hne:a≠b:=by rintro rfl;simp at hc
  refine W_ret (.tmp ?_ rfl)
  simp [x_upd,hne]
 have hlen:a.length=b.length:=by simp at hc;omega
 simp only [xq,reduceIte,qE,qA,qL,qD]
 refine W_seq ?_
 refine wR ?_;simp only [xq,reduceIte,qE,qA,qL,qD]
 refine W_block ?_
 let S:Nat→St:=fun i=>⟨look [(0,cgsA a),(1,cgsA b),(5,.int i)],[]⟩
 refine W_co (s':=S 0) (Co.keep _ (by simp [x_upd,x_look])) ?_
 refine W_loop (fun m s=>∃ i,i≤a.length∧m=a.length-i∧s=S i∧a.take i=b.take i) ⟨0,zI _,rfl,rfl,by simp⟩ ?_
 rintro m s ⟨i,hi,rfl,rfl,hpre⟩
 simp only [S]
 refine W_seq (W_seq ?_)
 refine W_reg ?_;simp only [xq,reduceIte,qE,qA,qL,qD,cgRows_len]
 refine W_cond rfl (fun hc=>W_skip ?_) (fun hc=>W_exit ?_)
 ·have hlt:i<a.length:=by simpa using hc
  have hltb:i<b.length:=by omega
  simp only [xq,reduceIte,qE,qA,qL,qD]
  refine W_seq (W_block ?_)
  obtain ⟨x,hx⟩:∃ x,x=a[i]:=⟨_,rfl⟩
  obtain ⟨y,hy⟩:∃ y,y=b[i]:=⟨_,rfl⟩
  have hxr:(cgRows a).getD i []=x.ds:=by rw [cgRows_get hlt,hx]
  have hyr:(cgRows b).getD i []=y.ds:=by rw [cgRows_get hltb,hy]
  refine W_seq (W_drw (by simp [x_upd,x_look,look,A.touch]) ?_)
  simp only [xq,reduceIte,qE,qA,qL,qD,cgRows_len,hxr,hyr,Cg.ds,zQ]
  refine ⟨by omega,by omega,by omega,by omega,?_⟩
  obtain ⟨b0,h0⟩:∃ z,z = !decide (x.kind=y.kind):=⟨_,rfl⟩
  obtain ⟨b1,h1⟩:∃ z,z=(b0 || !decide (x.row=y.row)):=⟨_,rfl⟩
  obtain ⟨b2,h2⟩:∃ z,z=(b1 || !decide (x.col=y.col)):=⟨_,rfl⟩
  obtain ⟨b3,h3⟩:∃ z,z=(b2 || !decide (x.count=y.count)):=⟨_,rfl⟩
  obtain ⟨b4,h4⟩:∃ z,z=(b3 || !decide (x.upto=y.upto)):=⟨_,rfl⟩
  have h5:(b4 || !decide (x.gl=y.gl)) = !decide (x=y):=by rw [h4,h3,h2,h1,h0,cg_ne]
  let T:Nat→Bool→St:=fun n z=>⟨look [(0,cgsA a),(1,cgsA b),(5,.int i),(6,.ptr 0 1 0 0),(7,.ptr 1 1 0 0),(n,.bool z)],[cgB x,cgB y]⟩
  refine W_cut (· = ⟨look [(0,cgsA a),(1,cgsA b),(5,.int i),(67,.bool (!decide (x=y)))],[cgB x,cgB y]⟩) (W_regCK fun K hK=>?_) ?_
  ·refine runC_cut 6 (· = T 32 b0) rfl (by intro h;cases h) (fun K1 hK1=>?_) ?_
   ·rw [h0] at hK1
    simp only [xq,reduceIte,qE,qA,qL,qD]
    exact hK1 _ _ (Co.keep _ (by simp [x_upd,x_look])) rfl
   rintro _ rfl
   refine runC_cut 7 (· = T 39 b1) rfl (by intro h;cases h) (fun K1 hK1=>?_) ?_
   ·rw [h1] at hK1
    cases b0<;>simp only [T,cgB,Cg.ds,xq,reduceIte,qE,qA,qL,qD,Bool.false_or,Bool.true_or,undefA,zE]
    all_goals (refine hK1 _ _ (Co.keep _ ?_) rfl;simp [x_upd,x_look])
   rintro _ rfl
   refine runC_cut 7 (· = T 46 b2) rfl (by intro h;cases h) (fun K1 hK1=>?_) ?_
   ·rw [h2] at hK1
    cases b1<;>simp only [T,cgB,Cg.ds,xq,reduceIte,qE,qA,qL,qD,Bool.false_or,Bool.true_or,undefA,zE]
    all_goals (refine hK1 _ _ (Co.keep _ ?_) rfl;simp [x_upd,x_look])
   rintro _ rfl
   refine runC_cut 7 (· = T 53 b3) rfl (by intro h;cases h) (fun K1 hK1=>?_) ?_
   ·rw [h3] at hK1
    cases b2<;>simp only [T,cgB,Cg.ds,xq,reduceIte,qE,qA,qL,qD,Bool.false_or,Bool.true_or,undefA,zE]
    all_goals (refine hK1 _ _ (Co.keep _ ?_) rfl;simp [x_upd,x_look])
   rintro _ rfl
   refine runC_cut 7 (· = T 60 b4) rfl (by intro h;cases h) (fun K1 hK1=>?_) ?_
   ·rw [h4] at hK1
    cases b3<;>simp only [T,cgB,Cg.ds,xq,reduceIte,qE,qA,qL,qD,Bool.false_or,Bool.true_or,undefA,zE]
    all_goals (refine hK1 _ _ (Co.keep _ ?_) rfl;simp [x_upd,x_look])
   rintro _ rfl
   refine runC_end rfl ?_
   rw [← h5] at hK
   cases b4
   ·simp only [T,cgB,Cg.ds,xq,reduceIte,qE,qA,qL,qD,Bool.false_or]
    refine c_fn (Hs x.gl y.gl) rfl ?_;simp only [xq,reduceIte,qE,qA,qL,qD]
    refine hK _ ?_
    exact ⟨rfl,_,Co.keep _ (by simp [x_upd,x_look]),rfl⟩
   ·simp only [T,cgB,Cg.ds,xq,reduceIte,qE,qA,qL,qD,Bool.true_or,undefA,zE]
    refine hK _ ?_
    exact ⟨rfl,_,Co.keep _ (by simp [x_upd,x_look]),rfl⟩
  rintro _ rfl
  clear h0 h1 h2 h3 h4 h5
  refine W_cond rfl (fun hd=>?_) (fun hd=>W_skip ?_)
  ·refine wR ?_;simp only [xq,reduceIte,qE,qA,qL,qD]
   have hne:a≠b:=by
    rintro rfl
    rw [hx,hy] at hd;simp at hd
   refine W_ret ?_
   simp only [xq,reduceIte,qE,qA,qL,qD]
   refine .tmp ?_ rfl
   simp [x_upd,hne]
  ·have he:a[i]=b[i]:=by rw [← hx,← hy];simpa using hd
   simp only [xq,reduceIte,qE,qA,qL,qD]
   refine W_reg ?_;simp only [xq,reduceIte,qE,qA,qL,qD,i64_succ hlt hlr]
   exact ⟨a.length-(i+1),S (i+1),by omega,Co.to _ 0 (by simp [x_upd,x_look,A.under]) (zI _) (zI _) u0,i+1,hlt,rfl,rfl,take_eq_succ hlt hltb hpre he⟩
 ·have hle:i=a.length:=by simp at hc;omega
  have heq:a=b:=by
   subst hle
   rw [List.take_length,hlen,List.take_length] at hpre
   exact hpre
  simp only [xq,reduceIte,qE,qA,qL,qD]
  refine wR ?_;simp only [xq,reduceIte,qE,qA,qL,qD]
  refine W_ret (.tmp ?_ rfl)
  simp [x_upd,heq]
abbrev CgsSameOk (Γ:Tabs) (P:Program) (f:FuncId):Prop:=∀ a b:List Cg,FnP Γ P f [cgsA a,cgsA b] (.bool (decide (a=b)))
end
section
variable {P:Program} {N:Nat} {Γ:Tabs}
theorem rin_fn {f:FuncId} (H:FnIs P f N [.t 6] x_ref19_in) (hN:3≤N) (n a b:Int):FnP Γ P f [.int n,.int a,.int b] (.bool (btw n a b)):=by
 refine .of_W H (by simpa using hN) ?_
 unfold x_ref19_in
 refine wR ?_;simp only [xq,reduceIte,qE,qA,qL,qD]
 unfold btw
 cases e:decide (a≤n)
 ·refine wR ?_;simp only [xq,reduceIte,qE,qA,qL,qD,e,undefA,zE,Bool.false_and]
  refine W_ret (.tmp ?_ rfl)
  simp only [x_upd,reduceIte]
 ·refine wR ?_;simp only [xq,reduceIte,qE,qA,qL,qD,e,undefA,zE]
  refine W_ret (.tmp ?_ rfl)
  simp only [x_upd,reduceIte]
set_option maxHeartbeats 1000000 in
theorem rsplice_fn {f fi fg:FuncId} (H:FnIs P f N [.t 4] (x_ref19_splice fi fg)) (hN:2≤N) (Hi:∀ n a b,FnP Γ P fi [.int n,.int a,.int b] (.bool (btw n a b))) (Hg:∀ g:Gl,g.text.size≤1000→FnP Γ P fg [glA g] (.int (glyphC g)))
  (v:Vw) (c:Cg) (hk:c.kind=3) (hl:(v.rows.length:Int)=v.height) (hh:1≤v.height∧v.height≤60) (hr:∀ r∈v.rows,r.length≤50000) (hg:∀ g∈c.gl,g.text.size≤1000):FnP Γ P f [vwA v,cgA c] (.int (chgC v c)):=by
 refine .of_W H (by simpa using hN) (W_aggsl 1 5 rfl rfl fun ⟨_,hroom,_⟩=>?_)
 have hlr:c.gl.length≤room:=le_of_mul (by rw [glRows_len] at hroom;exact hroom)
 have hlr':=hlr
 simp only [room] at hlr'
 have hkb:btw c.kind 1 4=true:=btw_iff.2 (by omega)
 have hbl:blankG c=decide (c.upto=0):=by rw [blankG,if_neg (by omega),if_neg (by omega),if_pos hk]
 have hrg:rangeG v c=((btw c.row 0 (v.height-1)&&btw c.col 0 264)&&btw c.count 0 (max 0 (((rowAt v.rows c.row).length:Int)-c.col))):=by rw [rangeG,if_neg (by omega),if_neg (by omega),if_pos hk]
 have w1:IntKind.i64.wrap (v.height-1)=v.height-1:=i64_of (by omega)
 unfold x_ref19_splice
 simp only [vwA,Vw.ds,cgA,Cg.ds,zU,zV]
 refine wR ?_;simp only [xq,reduceIte,qE,qA,qL,qD]
 refine W_seq ?_
 refine wR ?_;simp only [xq,reduceIte,qE,qA,qL,qD]
 refine W_cond rfl (fun hd=>?_) (fun hd=>W_skip ?_)
 ·refine wR ?_;simp only [xq,reduceIte,qE,qA,qL,qD]
  refine W_ret (.tmp ?_ rfl)
  have hd:decide (c.upto=0)=false:=by simpa using hd
  simp only [x_upd,reduceIte,chgC,hkb,hbl,hd,Bool.false_eq_true]
 have hup:decide (c.upto=0)=true:=by simpa using hd
 have hchg:chgC v c=if rangeG v c then fnz glyphC c.gl else 2:=by simp only [chgC,hkb,hbl,hup,if_true]
 simp only [xq,reduceIte,qE,qA,qL,qD]
 let S:Nat→Bool→St:=fun n z=>⟨look [(2,.ptr 0 1 0 0),(3,.ptr 1 1 0 0),(n,.bool z)],[vwB v,cgB c]⟩
 refine W_seq (W_cut (· = S 28 ((!btw c.row 0 (v.height-1) || !btw c.col 0 264)||decide (c.count<0))) (W_reg ?_) ?_)
 ·have h1:=Hi c.row 0 (v.height-1)
  have h2:=Hi c.col 0 264
  cases e1:btw c.row 0 (v.height-1)
  ·rw [e1] at h1
   simp only [xq,reduceIte,qE,qA,qL,qD,w1]
   refine c_fn (h1) rfl ?_;simp only [xq,reduceIte,qE,qA,qL,qD,undefA,zE,Bool.not_false,Bool.true_or]
   exact ⟨_,Co.keep _ (by simp [x_upd,x_look]),rfl⟩
  cases e2:btw c.col 0 264
  ·rw [e1] at h1
   rw [e2] at h2
   simp only [xq,reduceIte,qE,qA,qL,qD,w1]
   refine c_fn (h1) rfl ?_;simp only [xq,reduceIte,qE,qA,qL,qD,Bool.not_true,Bool.not_false]
   refine c_fn (h2) rfl ?_;simp only [xq,reduceIte,qE,qA,qL,qD,undefA,zE,Bool.not_true,Bool.not_false,Bool.true_or,Bool.or_true]
   exact ⟨_,Co.keep _ (by simp [x_upd,x_look]),rfl⟩
  ·rw [e1] at h1
   rw [e2] at h2
   simp only [xq,reduceIte,qE,qA,qL,qD,w1]
   refine c_fn (h1) rfl ?_;simp only [xq,reduceIte,qE,qA,qL,qD,Bool.not_true,Bool.not_false]
   refine c_fn (h2) rfl ?_;simp only [xq,reduceIte,qE,qA,qL,qD,Bool.not_true,Bool.not_false]
   exact ⟨_,Co.keep _ (by simp [x_upd,x_look]),rfl⟩
 rintro _ rfl
 simp only [S]
 refine W_cond rfl (fun hd=>?_) (fun hd=>W_skip ?_)
 ·refine wR ?_;simp only [xq,reduceIte,qE,qA,qL,qD]
  refine W_ret (.tmp ?_ rfl)
  have:rangeG v c=false:=by
   rw [hrg]
   cases e1:btw c.row 0 (v.height-1)
   ·rfl
   cases e2:btw c.col 0 264
   ·rfl
   rw [e1,e2] at hd
   have:c.count<0:=by simpa using hd
   cases e3:btw c.count 0 (max 0 (((rowAt v.rows c.row).length:Int)-c.col))
   ·rfl
   ·have:=btw_iff.1 e3;omega
  simp only [x_upd,reduceIte,hchg,this,Bool.false_eq_true]
 simp only [Bool.or_eq_false_iff,Bool.not_eq_false',decide_eq_false_iff_not] at hd
 obtain ⟨⟨e1,e2⟩,e3⟩:=hd
 have b1:=btw_iff.1 e1
 have b2:=btw_iff.1 e2
 rw [e1,e2] at hrg
 obtain ⟨j,hj⟩:∃ j:Nat,c.row=j:=⟨c.row.toNat,by omega⟩
 have hjl:j<v.rows.length:=by omega
 have hra:rowAt v.rows c.row=v.rows[j]:=by
  unfold rowAt
  rw [hj,zQ,List.getD_eq_getElem?_getD,List.getElem?_eq_getElem hjl];rfl
 have hrl:=hr _ (List.getElem_mem hjl)
 obtain ⟨n,hn⟩:∃ n,n=v.rows[j].length:=⟨_,rfl⟩
 rw [hra,← hn] at hrg
 rw [← hn] at hrl
 have w2:IntKind.i64.wrap ((n:Int)-c.col)=(n:Int)-c.col:=i64_of (by omega)
 simp only [xq,reduceIte,qE,qA,qL,qD]
 refine W_seq ?_
 refine wR ?_;simp only [xq,reduceIte,qE,qA,qL,qD,Vw.ds,Cg.ds,hj,rwRows_len,rwRows_get hjl,zQ,glRows_len,← hn]
 refine ⟨by omega,by omega,?_⟩
 refine W_cut (· = S 59 (decide (max 0 ((n:Int)-c.col)<c.count))) (W_regK fun K hK=>?_) ?_
 ·by_cases h1:c.col≤(n:Int)
  ·have d1:decide (c.col≤(n:Int))=true:=decide_eq_true h1
   have d2:decide ((n:Int)<c.col)=false:=decide_eq_false (by omega)
   by_cases h2:(n:Int)-c.col<c.count
   ·have d3:decide ((n:Int)-c.col<c.count)=true:=decide_eq_true h2
    have d4:decide (max 0 ((n:Int)-c.col)<c.count)=true:=decide_eq_true (by omega)
    rw [d4] at hK
    refine run_take 14 fun K1 hK1=>?_
    simp only [xq,reduceIte,qE,qA,qL,qD,Cg.ds,d1,d3,w2]
    refine hK1 _ ?_
    simp only [xq,reduceIte,qE,qA,qL,qD,undefA,zE]
    refine hK _ ?_
    exact ⟨rfl,_,Co.keep _ (by simp [x_upd,x_look]),rfl⟩
   ·have d3:decide ((n:Int)-c.col<c.count)=false:=decide_eq_false h2
    have d4:decide (max 0 ((n:Int)-c.col)<c.count)=false:=decide_eq_false (by omega)
    rw [d4] at hK
    refine run_take 14 fun K1 hK1=>?_
    simp only [xq,reduceIte,qE,qA,qL,qD,Cg.ds,d1,d3,w2]
    refine hK1 _ ?_
    simp only [xq,reduceIte,qE,qA,qL,qD,Cg.ds,d2,undefA,zE]
    refine hK _ ?_
    exact ⟨rfl,_,Co.keep _ (by simp [x_upd,x_look]),rfl⟩
  ·have d1:decide (c.col≤(n:Int))=false:=decide_eq_false h1
   have d2:decide ((n:Int)<c.col)=true:=decide_eq_true (by omega)
   have d4:decide (max 0 ((n:Int)-c.col)<c.count)=decide (0<c.count):=by rw [Bool.eq_iff_iff];simp only [decide_eq_true_eq];omega
   rw [d4] at hK
   refine run_take 14 fun K1 hK1=>?_
   simp only [xq,reduceIte,qE,qA,qL,qD,Cg.ds,d1,undefA,zE]
   refine hK1 _ ?_
   simp only [xq,reduceIte,qE,qA,qL,qD,Cg.ds,d2]
   refine hK _ ?_
   exact ⟨rfl,_,Co.keep _ (by simp [x_upd,x_look]),rfl⟩
 rintro _ rfl
 refine W_cond rfl (fun hd=>?_) (fun hd=>W_skip ?_)
 ·refine wR ?_;simp only [xq,reduceIte,qE,qA,qL,qD]
  refine W_ret ?_
  simp only [xq,reduceIte,qE,qA,qL,qD]
  refine .tmp ?_ rfl
  have hd:max 0 ((n:Int)-c.col)<c.count:=by simpa using hd
  have:rangeG v c=false:=by
   rw [hrg]
   cases e3:btw c.count 0 (max 0 ((n:Int)-c.col))
   ·rfl
   ·have:=btw_iff.1 e3;omega
  simp only [x_upd,reduceIte,hchg,this,Bool.false_eq_true]
 have hd:¬ max 0 ((n:Int)-c.col)<c.count:=by simpa using hd
 have hrt:rangeG v c=true:=by
  rw [hrg,btw_iff.2 (by omega:0≤c.count∧c.count≤max 0 ((n:Int)-c.col))];rfl
 rw [hrt,if_pos rfl] at hchg
 simp only [xq,reduceIte,qE,qA,qL,qD]
 refine W_seq ?_
 refine wR ?_;simp only [xq,reduceIte,qE,qA,qL,qD,S]
 refine W_block ?_
 let T:Nat→St:=fun i=>⟨look [(2,.ptr 0 1 0 0),(3,.ptr 1 1 0 0),(6,.int i)],[vwB v,cgB c]⟩
 refine W_co (s':=T 0) (Co.keep _ (by simp [x_upd,x_look,S])) ?_
 refine W_loop (fun q s=>∃ i,i≤c.gl.length∧q=c.gl.length-i∧s=T i∧fnz glyphC c.gl=fnz glyphC (c.gl.drop i)) ⟨0,zI _,rfl,rfl,rfl⟩ ?_
 rintro q s' ⟨i,hi,rfl,rfl,hfz⟩
 simp only [T]
 refine W_seq (W_seq ?_)
 refine W_reg ?_;simp only [xq,reduceIte,qE,qA,qL,qD,Cg.ds,glRows_len]
 refine W_cond rfl (fun hc=>W_skip ?_) (fun hc=>W_exit ?_)
 ·have hlt:i<c.gl.length:=by simpa using hc
  have hG:=Hg c.gl[i] (hg _ (List.getElem_mem hlt))
  simp only [glA,Gl.row,zU,zV] at hG
  rw [fnz_drop hlt] at hfz
  simp only [xq,reduceIte,qE,qA,qL,qD]
  refine W_seq (W_block ?_)
  refine wR ?_;simp only [xq,reduceIte,qE,qA,qL,qD,Cg.ds,glRows_len,glRows_get hlt,Gl.row,zQ]
  refine ⟨by omega,by omega,?_⟩
  refine c_fn (hG) rfl ?_;simp only [xq,reduceIte,qE,qA,qL,qD]
  refine wR ?_;simp only [xq,reduceIte,qE,qA,qL,qD]
  refine W_cond rfl (fun hd=>?_) (fun hd=>W_skip ?_)
  ·have hd:¬ glyphC c.gl[i]=0:=by simpa using hd
   rw [if_neg hd] at hfz
   refine wR ?_;simp only [xq,reduceIte,qE,qA,qL,qD]
   refine W_ret ?_
   simp only [xq,reduceIte,qE,qA,qL,qD]
   refine .tmp ?_ rfl
   simp only [x_upd,reduceIte,hchg,hfz]
  ·have hd:glyphC c.gl[i]=0:=by simpa using hd
   rw [if_pos hd] at hfz
   simp only [xq,reduceIte,qE,qA,qL,qD]
   refine W_reg ?_;simp only [xq,reduceIte,qE,qA,qL,qD,i64_succ hlt hlr]
   exact ⟨c.gl.length-(i+1),T (i+1),by omega,Co.keep _ (by simp [x_upd,x_look]),i+1,hlt,rfl,rfl,hfz⟩
 ·have hle:i=c.gl.length:=by simp at hc;omega
  subst hle
  rw [List.drop_length] at hfz
  simp only [xq,reduceIte,qE,qA,qL,qD]
  refine wR ?_;simp only [xq,reduceIte,qE,qA,qL,qD]
  refine W_ret (.tmp ?_ rfl)
  simp only [x_upd,reduceIte,hchg,hfz,fnz]
end
section
variable {P:Program} {N:Nat} {Γ:Tabs}
theorem szOk_btw {w h:Int}:szOk w h=(btw h 1 60&&btw w 1 132):=by
 rw [Bool.eq_iff_iff,szOk_iff,Bool.and_eq_true,btw_iff,btw_iff]
 omega
theorem pos_len {l:List Gl}:decide (0<(l.length:Int)) = !decide (l=[]):=by
 cases l with
 | nil=>rfl
 | cons a l=>simp
set_option maxHeartbeats 2000000 in
theorem fits_fn {f fs fi fz:FuncId} (H:FnIs P f N [.t 4] (x_ref19_fits fs fi fz)) (hN:2≤N) (Hi:∀ n a b,FnP Γ P fi [.int n,.int a,.int b] (.bool (btw n a b))) (Hz:∀ w h,FnP Γ P fz [.int w,.int h] (.bool (szOk w h)))
  (v:Vw) (c:Cg) (ed:Ed v) (Hs:c.kind=3→FnP Γ P fs [vwA v,cgA c] (.int (chgC v c))):FnP Γ P f [vwA v,cgA c] (.int (chgC v c)):=by
 refine .of_W H (by simpa using hN) ?_
 have hs:=szOk_iff.1 ed.sz
 have w1:IntKind.i64.wrap (v.height-1)=v.height-1:=i64_of (by omega)
 have w2:IntKind.i64.wrap (v.width-1)=v.width-1:=i64_of (by omega)
 simp only [vwA,Vw.ds,cgA,Cg.ds,zU,zV] at Hs
 unfold x_ref19_fits
 simp only [vwA,Vw.ds,cgA,Cg.ds,zU,zV]
 refine wR ?_;simp only [xq,reduceIte,qE,qA,qL,qD]
 refine W_seq ?_
 refine wR ?_;simp only [xq,reduceIte,qE,qA,qL,qD]
 refine W_cond rfl (fun hk=>?_) (fun hk=>W_skip ?_)
 ·have hk:c.kind=3:=by simpa using hk
  refine wR ?_;simp only [xq,reduceIte,qE,qA,qL,qD]
  refine c_fn (Hs hk) rfl ?_;simp only [xq,reduceIte,qE,qA,qL,qD]
  refine W_ret (.tmp ?_ rfl)
  simp only [x_upd,reduceIte]
 have hk3:¬ c.kind=3:=by simpa using hk
 simp only [xq,reduceIte,qE,qA,qL,qD]
 refine W_seq ?_
 refine wR ?_;simp only [xq,reduceIte,qE,qA,qL,qD]
 refine c_fn (Hi c.kind 1 4) rfl ?_;simp only [xq,reduceIte,qE,qA,qL,qD]
 refine W_cond rfl (fun hk=>?_) (fun hk=>W_skip ?_)
 ·have hk:btw c.kind 1 4=false:=by simpa using hk
  refine wR ?_;simp only [xq,reduceIte,qE,qA,qL,qD]
  refine W_ret (.tmp ?_ rfl)
  simp only [x_upd,reduceIte,chgC,hk,Bool.false_eq_true]
 have hkb:btw c.kind 1 4=true:=by simpa using hk
 have hk4:=btw_iff.1 hkb
 simp only [xq,reduceIte,qE,qA,qL,qD]
 let S:Nat→Bool→St:=fun n z=>⟨look [(2,.ptr 0 1 0 0),(3,.ptr 1 1 0 0),(n,.bool z)],[vwB v,cgB c]⟩
 refine W_seq (W_cut (· = S 50 (!blankG c)) (W_regCK fun K hK=>?_) ?_)
 ·obtain ⟨b1,h1⟩:∃ z,z = !decide (c.gl=[]):=⟨_,rfl⟩
  obtain ⟨b2,h2⟩:∃ z,z=(b1||(!decide (c.kind=2) && !decide (c.upto=0))):=⟨_,rfl⟩
  obtain ⟨b3,h3⟩:∃ z,z=(b2||(decide (c.kind=1) && !decide (c.count=0))):=⟨_,rfl⟩
  have h4:(b3||(decide (c.kind=2) && !decide (c.col=0))) = !blankG c:=by
   rw [h3,h2,h1,blankG]
   by_cases k1:c.kind=1
   ·simp [k1]
    cases decide (c.gl=[])<;>cases decide (c.upto=0)<;>cases decide (c.count=0)<;>rfl
   by_cases k2:c.kind=2
   ·simp [k2]
    cases decide (c.gl=[])<;>cases decide (c.col=0)<;>rfl
   ·simp [k1,k2,hk3]
    cases decide (c.gl=[])<;>cases decide (c.upto=0)<;>rfl
  refine runC_cut 5 (· = S 21 b1) rfl (by intro h;cases h) (fun K1 hK1=>?_) ?_
  ·rw [h1] at hK1
   simp only [xq,reduceIte,qE,qA,qL,qD,glRows_len,pos_len]
   refine hK1 _ _ (Co.keep _ ?_) rfl
   simp [x_upd,x_look]
  rintro _ rfl
  refine runC_cut 10 (· = S 31 b2) rfl (by intro h;cases h) (fun K1 hK1=>?_) ?_
  ·rw [h2] at hK1
   cases b1
   ·cases e1:decide (c.kind=2)
    ·rw [e1] at hK1
     simp only [S,Cg.ds,xq,reduceIte,qE,qA,qL,qD,e1,undefA,zE,Bool.false_or,Bool.not_false,Bool.true_and]
     refine hK1 _ _ (Co.keep _ ?_) rfl
     simp [x_upd,x_look]
    ·rw [e1] at hK1
     simp only [S,Cg.ds,xq,reduceIte,qE,qA,qL,qD,e1,undefA,zE,Bool.false_or,Bool.not_true,Bool.false_and]
     refine hK1 _ _ (Co.keep _ ?_) rfl
     simp [x_upd,x_look]
   ·simp only [S,Cg.ds,xq,reduceIte,qE,qA,qL,qD,undefA,zE,Bool.true_or]
    refine hK1 _ _ (Co.keep _ ?_) rfl
    simp [x_upd,x_look]
  rintro _ rfl
  refine runC_cut 10 (· = S 41 b3) rfl (by intro h;cases h) (fun K1 hK1=>?_) ?_
  ·rw [h3] at hK1
   cases b2
   ·cases e1:decide (c.kind=1)
    ·rw [e1] at hK1
     simp only [S,Cg.ds,xq,reduceIte,qE,qA,qL,qD,e1,undefA,zE,Bool.false_or,Bool.false_and]
     refine hK1 _ _ (Co.keep _ ?_) rfl
     simp [x_upd,x_look]
    ·rw [e1] at hK1
     simp only [S,Cg.ds,xq,reduceIte,qE,qA,qL,qD,e1,undefA,zE,Bool.false_or,Bool.true_and]
     refine hK1 _ _ (Co.keep _ ?_) rfl
     simp [x_upd,x_look]
   ·simp only [S,Cg.ds,xq,reduceIte,qE,qA,qL,qD,undefA,zE,Bool.true_or]
    refine hK1 _ _ (Co.keep _ ?_) rfl
    simp [x_upd,x_look]
  rintro _ rfl
  refine runC_end rfl ?_
  rw [← h4] at hK
  cases b3
  ·cases e1:decide (c.kind=2)
   ·rw [e1] at hK
    simp only [S,Cg.ds,xq,reduceIte,qE,qA,qL,qD,e1,undefA,zE,Bool.false_or,Bool.false_and]
    refine hK _ ?_
    exact ⟨rfl,_,Co.keep _ (by simp [x_upd,x_look]),rfl⟩
   ·rw [e1] at hK
    simp only [S,Cg.ds,xq,reduceIte,qE,qA,qL,qD,e1,undefA,zE,Bool.false_or,Bool.true_and]
    refine hK _ ?_
    exact ⟨rfl,_,Co.keep _ (by simp [x_upd,x_look]),rfl⟩
  ·simp only [S,Cg.ds,xq,reduceIte,qE,qA,qL,qD,undefA,zE,Bool.true_or]
   refine hK _ ?_
   exact ⟨rfl,_,Co.keep _ (by simp [x_upd,x_look]),rfl⟩
 rintro _ rfl
 refine W_cond rfl (fun hd=>?_) (fun hd=>W_skip ?_)
 ·have hd:blankG c=false:=by simpa using hd
  refine wR ?_;simp only [xq,reduceIte,qE,qA,qL,qD,S]
  refine W_ret (.tmp ?_ rfl)
  simp only [x_upd,reduceIte,chgC,hkb,hd,Bool.false_eq_true]
 have hbl:blankG c=true:=by simpa using hd
 have hgl:c.gl=[]:=by
  rw [blankG] at hbl
  split at hbl
  ·simp at hbl;exact hbl.2
  ·split at hbl
   ·simp at hbl;exact hbl.2
   ·simp at hbl;exact hbl.2
 have hchg:chgC v c=if rangeG v c then 0 else 2:=by rw [chgC,hkb,hbl,hgl];rfl
 simp only [xq,reduceIte,qE,qA,qL,qD]
 refine wR ?_;simp only [xq,reduceIte,qE,qA,qL,qD,S]
 refine W_cut (· = S 5 (rangeG v c)) ?_ ?_
 ·refine wR ?_;simp only [xq,reduceIte,qE,qA,qL,qD,Cg.ds]
  refine W_block ?_
  refine wR ?_;simp only [xq,reduceIte,qE,qA,qL,qD]
  refine W_cond rfl (fun hk=>?_) (fun hk=>?_)
  ·have hk1:c.kind=1:=by simpa using hk
   have hrg:rangeG v c=szOk c.col c.row:=by rw [rangeG,if_pos hk1,szOk_btw]
   rw [hrg]
   refine W_reg ?_;simp only [xq,reduceIte,qE,qA,qL,qD,Cg.ds]
   refine c_fn (Hz c.col c.row) rfl ?_;simp only [xq,reduceIte,qE,qA,qL,qD]
   exact ⟨_,Co.keep _ (by simp [x_upd,x_look]),rfl⟩
  have hk1:¬ c.kind=1:=by simpa using hk
  refine wR ?_;simp only [xq,reduceIte,qE,qA,qL,qD]
  refine W_cond rfl (fun hk=>?_) (fun hk=>?_)
  ·have hk2:c.kind=2:=by simpa using hk
   refine wR ?_;simp only [xq,reduceIte,qE,qA,qL,qD,Cg.ds]
   obtain ⟨sz,hsz⟩:∃ sz,sz=IntKind.i64.wrap (c.upto-c.row):=⟨_,rfl⟩
   obtain ⟨nz,hnz⟩:∃ nz,nz=IntKind.i64.wrap (0-sz):=⟨_,rfl⟩
   rw [← hsz]
   obtain ⟨b1,h1⟩:∃ z,z=decide (0≤c.row):=⟨_,rfl⟩
   obtain ⟨b2,h2⟩:∃ z,z=(b1&&decide (c.row<c.upto)):=⟨_,rfl⟩
   obtain ⟨b3,h3⟩:∃ z,z=(b2&&decide (c.upto≤v.height)):=⟨_,rfl⟩
   obtain ⟨b4,h4⟩:∃ z,z=(b3 && !decide (c.count=0)):=⟨_,rfl⟩
   obtain ⟨b5,h5⟩:∃ z,z=(b4&&decide (c.count<sz)):=⟨_,rfl⟩
   have h6:(b5&&decide (nz<c.count))=rangeG v c:=by
    rw [rangeG,if_neg hk1,if_pos hk2,h5,h4,h3,h2,h1]
    by_cases hin:(0≤c.row∧c.row<c.upto)∧c.upto≤v.height
    ·have e1:sz=c.upto-c.row:=by rw [hsz];exact i64_of (by omega)
     have e2:nz=c.row-c.upto:=by rw [hnz,e1,i64_of (by omega)];omega
     rw [e1,e2]
    ·have:((decide (0≤c.row)&&decide (c.row<c.upto))&&decide (c.upto≤v.height))=false:=by
      rw [Bool.eq_false_iff]
      intro h;apply hin
      simpa using h
     rw [this];rfl
   let T:Nat→Bool→St:=fun n z=>⟨look [(2,.ptr 0 1 0 0),(3,.ptr 1 1 0 0),(6,.int sz),(n,.bool z)],[vwB v,cgB c]⟩
   refine W_regCK fun K hK=>?_
   refine runC_cut 4 (· = T 70 b1) rfl (by intro h;cases h) (fun K1 hK1=>?_) ?_
   ·rw [h1] at hK1
    simp only [Cg.ds,xq,reduceIte,qE,qA,qL,qD]
    refine hK1 _ _ (Co.keep _ ?_) rfl
    simp [x_upd,x_look]
   rintro _ rfl
   refine runC_cut 7 (· = T 77 b2) rfl (by intro h;cases h) (fun K1 hK1=>?_) ?_
   ·rw [h2] at hK1
    cases b1<;>simp only [T,Cg.ds,xq,reduceIte,qE,qA,qL,qD,undefA,zE,Bool.false_and,Bool.true_and]
    all_goals (refine hK1 _ _ (Co.keep _ ?_) rfl;simp [x_upd,x_look])
   rintro _ rfl
   refine runC_cut 7 (· = T 84 b3) rfl (by intro h;cases h) (fun K1 hK1=>?_) ?_
   ·rw [h3] at hK1
    cases b2<;>simp only [T,Vw.ds,Cg.ds,xq,reduceIte,qE,qA,qL,qD,undefA,zE,Bool.false_and,Bool.true_and]
    all_goals (refine hK1 _ _ (Co.keep _ ?_) rfl;simp [x_upd,x_look])
   rintro _ rfl
   refine runC_cut 5 (· = T 89 b4) rfl (by intro h;cases h) (fun K1 hK1=>?_) ?_
   ·rw [h4] at hK1
    cases b3<;>simp only [T,Vw.ds,Cg.ds,xq,reduceIte,qE,qA,qL,qD,undefA,zE,Bool.false_and,Bool.true_and]
    all_goals (refine hK1 _ _ (Co.keep _ ?_) rfl;simp [x_upd,x_look])
   rintro _ rfl
   refine runC_cut 6 (· = T 95 b5) rfl (by intro h;cases h) (fun K1 hK1=>?_) ?_
   ·rw [h5] at hK1
    cases b4<;>simp only [T,Vw.ds,Cg.ds,xq,reduceIte,qE,qA,qL,qD,undefA,zE,Bool.false_and,Bool.true_and]
    all_goals (refine hK1 _ _ (Co.keep _ ?_) rfl;simp [x_upd,x_look])
   rintro _ rfl
   refine runC_end rfl ?_
   rw [← h6] at hK
   cases b5<;>simp only [T,Vw.ds,Cg.ds,xq,reduceIte,qE,qA,qL,qD,undefA,zE,Bool.false_and,Bool.true_and,← hnz]
   all_goals
    refine hK _ ?_
    exact ⟨rfl,_,Co.keep _ (by simp [x_upd,x_look]),rfl⟩
  ·have hk2:¬ c.kind=2:=by simpa using hk
   have hk4':c.kind=4:=by omega
   have hrg:rangeG v c=((btw c.row 0 (v.height-1)&&btw c.col 0 (v.width-1))&&btw c.count 0 1):=by rw [rangeG,if_neg hk1,if_neg hk2,if_neg hk3]
   have d4:decide (c.kind=4)=true:=decide_eq_true hk4'
   refine wR ?_;simp only [xq,reduceIte,qE,qA,qL,qD,d4]
   refine W_cond rfl (fun hk=>?_) (fun hk=>by cases hk)
   rw [hrg]
   have h1:=Hi c.row 0 (v.height-1)
   have h2:=Hi c.col 0 (v.width-1)
   have h3:=Hi c.count 0 1
   obtain ⟨b1,e1⟩:∃ z,z=btw c.row 0 (v.height-1):=⟨_,rfl⟩
   obtain ⟨b2,e2⟩:∃ z,z=(b1&&btw c.col 0 (v.width-1)):=⟨_,rfl⟩
   have e3:((btw c.row 0 (v.height-1)&&btw c.col 0 (v.width-1))&&btw c.count 0 1)=(b2&&btw c.count 0 1):=by rw [e2,e1]
   rw [e3]
   refine W_regCK fun K hK=>?_
   refine runC_cut 7 (· = S 110 b1) rfl (by intro h;cases h) (fun K1 hK1=>?_) ?_
   ·rw [e1] at hK1
    simp only [Vw.ds,Cg.ds,xq,reduceIte,qE,qA,qL,qD,w1]
    refine c_fn (h1) rfl ?_;simp only [xq,reduceIte,qE,qA,qL,qD]
    refine hK1 _ _ (Co.keep _ ?_) rfl
    simp [x_upd,x_look]
   rintro _ rfl
   refine runC_cut 8 (· = S 118 b2) rfl (by intro h;cases h) (fun K1 hK1=>?_) ?_
   ·rw [e2] at hK1
    cases b1
    ·simp only [S,Vw.ds,Cg.ds,xq,reduceIte,qE,qA,qL,qD,undefA,zE,Bool.false_and]
     refine hK1 _ _ (Co.keep _ ?_) rfl
     simp [x_upd,x_look]
    ·simp only [S,Vw.ds,Cg.ds,xq,reduceIte,qE,qA,qL,qD,w2,Bool.true_and]
     refine c_fn (h2) rfl ?_;simp only [xq,reduceIte,qE,qA,qL,qD]
     refine hK1 _ _ (Co.keep _ ?_) rfl
     simp [x_upd,x_look]
   rintro _ rfl
   refine runC_end rfl ?_
   cases b2
   ·simp only [S,Vw.ds,Cg.ds,xq,reduceIte,qE,qA,qL,qD,undefA,zE,Bool.false_and]
    refine hK _ ?_
    exact ⟨rfl,_,Co.keep _ (by simp [x_upd,x_look]),rfl⟩
   ·simp only [S,Vw.ds,Cg.ds,xq,reduceIte,qE,qA,qL,qD,Bool.true_and]
    refine c_fn (h3) rfl ?_;simp only [xq,reduceIte,qE,qA,qL,qD]
    refine hK _ ?_
    exact ⟨rfl,_,Co.keep _ (by simp [x_upd,x_look]),rfl⟩
 rintro _ rfl
 refine W_seq ?_
 refine wR ?_;simp only [xq,reduceIte,qE,qA,qL,qD,S]
 refine W_cond rfl (fun hd=>?_) (fun hd=>W_skip ?_)
 ·have hd:rangeG v c=false:=by simpa using hd
  refine wR ?_;simp only [xq,reduceIte,qE,qA,qL,qD]
  refine W_ret (.tmp ?_ rfl)
  simp only [x_upd,reduceIte,hchg,hd,Bool.false_eq_true]
 ·have hd:rangeG v c=true:=by simpa using hd
  simp only [xq,reduceIte,qE,qA,qL,qD]
  refine wR ?_;simp only [xq,reduceIte,qE,qA,qL,qD]
  refine W_ret (.tmp ?_ rfl)
  simp only [x_upd,reduceIte,hchg,hd]
end
section
variable {P:Program} {N:Nat} {Γ:Tabs}
abbrev FitsOk (Γ:Tabs) (P:Program) (f:FuncId):Prop:=∀ (v:Vw) (c:Cg),Ed v→Sm v 50000→(∀ g∈c.gl,g.text.size≤1000)→FnP Γ P f [vwA v,cgA c] (.int (chgC v c))
end
end Go.Proofs.YtlllnjhgjijnkaaGreatDoor.Nx

import Derived.Test.YtlllnjhgjijnkaaDoorNxJ4
set_option linter.unusedSimpArgs false
set_option linter.unusedVariables false
set_option linter.unnecessarySimpa false
open List renaming getElem?_eq_getElem → zB, getD_eq_getElem?_getD → zC, getElem?_set_ne → zM, getElem?_set_self → zN, map_cons → zU, map_nil → zV, mem_cons_self → zW, mem_cons_of_mem → zZ, length_cons → za, not_mem_nil → zc, mem_cons → zp, length_nil → zq, eq_nil_of_length_eq_zero → zx
open Bool renaming true_eq_false → zE
open Option.some renaming injEq → zH
open Nat renaming zero_le → zI
open Int renaming toNat_natCast → zQ
open Nat renaming reduceEqDiff → qE, reduceAdd → qA, reduceLT → qL, reduceLeDiff → qD
namespace Go.Proofs.YtlllnjhgjijnkaaDoor.Nx
open Go
variable {P:Program} {N:Nat} {Γ:Tabs}
abbrev TNewOk (Γ:Tabs) (P:Program) (f:FuncId):Prop:=∀ (v:Vw) (n:Int),Sm v 50000→FnP Γ P f [vwA v,.int n] (tlA (newT v n))
abbrev TLastOk (Γ:Tabs) (P:Program) (f:FuncId):Prop:=∀ t:Tl, -1000000000000≤t.first∧t.first≤1000000000000→t.steps.length≤1000000→FnP Γ P f [tlA t] (.int (lastT t))
theorem frz_tlN {k:Nat} {h:Heap} {t:Tl} (hs:t.steps=[]):FrzA k h (.agg (tlW t .nil)) (tlA t):=by
 have:tlA t = .agg [.int t.first,.int t.began,.int t.base.width,.int t.base.height,.d (.sl eRw (rwRows t.base.rows)),.int t.base.row,.int t.base.col,.bool t.base.vis,.d (.sl eSt [])]:=by
  simp only [tlA,Tl.ds,hs,zU,zV,stRows]
 rw [this]
 exact frzS rfl (frzS rfl (frzS rfl (frzS rfl (frzS rfl (frzS rfl (frzS rfl (frzS rfl (frzC (.d (.nil _)) frzNil))))))))
theorem frz_tlZ {k:Nat} {h:Heap}:FrzA k h (.agg [.int 0,.int 0,.int 0,.int 0,.nil,.int 0,.int 0,.bool false,.nil]) (tlA zeroT) :=
 frzS rfl (frzS rfl (frzS rfl (frzS rfl (frzC (.d (.nil _)) (frzS rfl (frzS rfl (frzS rfl (frzC (.d (.nil _)) frzNil))))))))
set_option maxHeartbeats 1000000 in
theorem tnew_fn {f fv fo:FuncId} (H:FnIs P f N [.c 4 9 true] (x_timeline_New fv fo)) (hN:2≤N) (Hv:VchkOk Γ P fv) (Ho:OwnOk Γ P fo):TNewOk Γ P f:=by
 intro v n sm
 refine .of_W H (by simpa using hN) ?_
 have hv:=Hv v sm
 have ho:=Ho v
 unfold x_timeline_New
 simp only [vwA,Vw.ds,zU,zV] at hv ho ⊢
 refine wR ?_;simp only [xq,reduceIte,qE,qA,qL,qD]
 let g:Bool:=(!decide (viewC v=0)||decide (n<0))||decide ((1099511627776:Int)<n)
 let S:St:=⟨look [(1,.int n),(2,.ptr 0 1 0 0),(4,.ptr 1 1 0 0),(15,.bool g)],[vwB v,ztl]⟩
 refine W_seq ?_
 refine W_cut (· = S) (W_reg ?_) ?_
 ·simp only [xq,reduceIte,qE,qA,qL,qD]
  refine c_fn (hv) rfl ?_;simp only [xq,reduceIte,qE,qA,qL,qD]
  cases e1:decide (viewC v=0)
  ·simp only [xq,reduceIte,qE,qA,qL,qD,e1,undefA,zE]
   exact ⟨_,Co.keep _ (by simp [x_upd,x_look,g,e1]),rfl⟩
  ·cases e2:decide (n<0)
   ·simp only [xq,reduceIte,qE,qA,qL,qD,e1,e2,undefA,zE]
    exact ⟨_,Co.keep _ (by simp [x_upd,x_look,g,e1,e2]),rfl⟩
   ·simp only [xq,reduceIte,qE,qA,qL,qD,e1,e2,undefA,zE]
    exact ⟨_,Co.keep _ (by simp [x_upd,x_look,g,e1,e2]),rfl⟩
 rintro _ rfl
 simp only [S]
 refine W_cond rfl (fun hg=>?_) (fun hg=>W_skip ?_)
 ·have hT:newT v n=zeroT:=by
   rw [newT,if_pos]
   simp only [g,Bool.or_eq_true,Bool.not_eq_true',decide_eq_true_eq,decide_eq_false_iff_not] at hg
   rcases hg with (h | h) | h
   ·exact .inl h
   ·exact .inr (.inl h)
   ·exact .inr (.inr h)
  rw [hT]
  refine wR ?_;simp only [xq,reduceIte,qE,qA,qL,qD]
  refine W_ret ⟨.inr rfl,?_⟩
  simp only [readRs,readR,single,x_upd,reduceIte,qE,x_look,argS,xq,reduceIte,qE,qA,qL,qD,loadsTo]
  exact frz_tlZ
 ·have hT:newT v n=⟨0,n,v,[]⟩:=by
   rw [newT,if_neg]
   simp only [g,Bool.or_eq_false_iff,Bool.not_eq_false',decide_eq_true_eq,decide_eq_false_iff_not] at hg
   rintro (h | h | h)
   ·exact h hg.1.1
   ·exact hg.1.2 h
   ·exact hg.2 h
  rw [hT]
  refine wR ?_;simp only [xq,reduceIte,qE,qA,qL,qD,Vw.ds]
  refine c_fn (ho) rfl ?_;simp only [xq,reduceIte,qE,qA,qL,qD]
  refine W_ret ⟨.inr rfl,?_⟩
  simp only [readRs,readR,single,x_upd,reduceIte,qE,x_look,argS,xq,reduceIte,qE,qA,qL,qD,loadsTo]
  exact frz_tlN (t:=⟨0,n,v,[]⟩) rfl
theorem tlast_fn {f:FuncId} (H:FnIs P f N [.t 2] x_timeline_Last) (hN:1≤N):TLastOk Γ P f:=by
 intro t hf hl
 refine .of_W H (by simpa using hN) ?_
 have w1:IntKind.i64.wrap (t.first+(t.steps.length:Int))=lastT t:=by rw [i64_of (by omega)];rfl
 unfold x_timeline_Last
 simp only [tlA,Tl.ds,zU,zV]
 refine wR ?_;simp only [xq,reduceIte,qE,qA,qL,qD]
 refine wR ?_;simp only [xq,reduceIte,qE,qA,qL,qD,stRows_len,w1]
 refine W_ret (.tmp ?_ rfl)
 simp only [x_upd,reduceIte]
theorem chkT_b {t:Tl} (h:chkT t=0):(0≤t.first∧t.first≤999999999)∧t.steps.length≤200:=by
 unfold chkT at h
 split at h
 ·cases h
 ·rename_i h1
  split at h
  ·rename_i h2;exact absurd h h2
  ·split at h
   ·cases h
   ·omega
set_option maxHeartbeats 2000000 in
theorem tcheck_fn {f fv fa:FuncId} (H:FnIs P f N [.t 2] (x_timeline_Check fv fa)) (hN:1≤N) (Hv:VchkOk Γ P fv) (Ha:ApOk Γ P fa):TCheckOk Γ P f:=by
 intro t hok
 refine .of_W H (by simpa using hN) ?_
 have hv:=Hv t.base hok.sm
 unfold x_timeline_Check
 simp only [tlA,Tl.ds,vwA,Vw.ds,zU,zV] at hv ⊢
 have fin:∀ (sl:Nat→A) (h:Heap) (r:Int),sl 2 = .int r→chkT t=r→RetQ [.t 2] (.int (chkT t)) .ret ⟨sl,h⟩:=fun sl h r h2 hr=>by
  rw [hr];exact .tmp h2 rfl
 refine wR ?_;simp only [xq,reduceIte,qE,qA,qL,qD]
 let g:Bool:=((decide (t.first<0)||decide (999999999<t.first))||decide (t.began<0))||decide ((1099511627776:Int)<t.began)
 refine W_seq ?_
 refine W_cut (· = ⟨look [(1,.ptr 0 1 0 0),(2,.int 0),(28,.bool g)],[tlB t]⟩) (W_reg ?_) ?_
 ·cases e1:decide (t.first<0)
  ·cases e2:decide (999999999<t.first)
   ·cases e3:decide (t.began<0)
    ·simp only [xq,reduceIte,qE,qA,qL,qD,e1,e2,e3,undefA,zE]
     exact ⟨_,Co.keep _ (by simp [x_upd,x_look,g,e1,e2,e3]),rfl⟩
    ·simp only [xq,reduceIte,qE,qA,qL,qD,e1,e2,e3,undefA,zE]
     exact ⟨_,Co.keep _ (by simp [x_upd,x_look,g,e1,e2,e3]),rfl⟩
   ·simp only [xq,reduceIte,qE,qA,qL,qD,e1,e2,undefA,zE]
    exact ⟨_,Co.keep _ (by simp [x_upd,x_look,g,e1,e2]),rfl⟩
  ·simp only [xq,reduceIte,qE,qA,qL,qD,e1,undefA,zE]
   exact ⟨_,Co.keep _ (by simp [x_upd,x_look,g,e1]),rfl⟩
 rintro _ rfl
 have hg0:(t.first<0∨999999999<t.first∨t.began<0∨maxT<t.began)↔g=true:=by
  simp only [g,Bool.or_eq_true,decide_eq_true_eq]
  constructor
  ·rintro (h | h | h | h)
   ·exact .inl (.inl (.inl h))
   ·exact .inl (.inl (.inr h))
   ·exact .inl (.inr h)
   ·exact .inr h
  ·rintro (((h | h) | h) | h)
   ·exact .inl h
   ·exact .inr (.inl h)
   ·exact .inr (.inr (.inl h))
   ·exact .inr (.inr (.inr h))
 refine W_cond rfl (fun hg=>?_) (fun hg=>W_skip ?_)
 ·refine wR ?_;simp only [xq,reduceIte,qE,qA,qL,qD]
  exact W_ret (fin _ _ 2 rfl (by rw [chkT,if_pos (hg0.2 hg)]))
 have hg1:¬ (t.first<0∨999999999<t.first∨t.began<0∨maxT<t.began):=fun h=>by rw [hg0.1 h] at hg;cases hg
 simp only [xq,reduceIte,qE,qA,qL,qD]
 refine W_seq ?_
 refine wR ?_;simp only [xq,reduceIte,qE,qA,qL,qD,Tl.ds]
 refine c_fn (hv) rfl ?_;simp only [xq,reduceIte,qE,qA,qL,qD]
 refine wR ?_;simp only [xq,reduceIte,qE,qA,qL,qD]
 refine W_cond rfl (fun hk=>?_) (fun hk=>W_skip ?_)
 ·have hk:viewC t.base≠0:=by simpa using hk
  refine wR ?_;simp only [xq,reduceIte,qE,qA,qL,qD]
  exact W_ret (fin _ _ (viewC t.base) rfl (by rw [chkT,if_neg hg1,if_pos hk]))
 have hk:¬ viewC t.base≠0:=by simpa using hk
 simp only [xq,reduceIte,qE,qA,qL,qD]
 refine W_seq ?_
 refine wR ?_;simp only [xq,reduceIte,qE,qA,qL,qD,Tl.ds,stRows_len]
 refine W_cond rfl (fun hl=>?_) (fun hl=>W_skip ?_)
 ·refine wR ?_;simp only [xq,reduceIte,qE,qA,qL,qD]
  exact W_ret (fin _ _ 5 rfl (by rw [chkT,if_neg hg1,if_neg hk,if_pos (by have:=of_decide_eq_true hl;omega)]))
 have hl:¬ 200<t.steps.length:=by have:=of_decide_eq_false hl;omega
 have hchk:chkT t=chkS t.began t.base t.steps:=by rw [chkT,if_neg hg1,if_neg hk,if_neg hl]
 simp only [xq,reduceIte,qE,qA,qL,qD]
 refine W_seq (W_drw (by simp [x_upd,x_look,look,A.touch]) ?_)
 simp only [xq,reduceIte,qE,qA,qL,qD,Tl.ds]
 refine W_seq ?_
 refine wR ?_;simp only [xq,reduceIte,qE,qA,qL,qD,stRows_len,Tl.ds]
 refine W_block ?_
 let S:Nat→Vw→Int→St:=fun i w last=>⟨look [(1,.ptr 0 1 0 0),(4,.ptr 1 1 0 0),(5,.int last),(44,stsA t.steps),(45,.int t.steps.length),(46,.int i)],[tlB t,vwB w]⟩
 refine W_co (s':=S 0 t.base t.began) (Co.keep _ (by simp [x_upd,x_look,Tl.ds])) ?_
 refine W_loop (fun m s=>∃ i w last,m=t.steps.length-i∧s=S i w last∧TWalk t.base t.steps i w∧chkS last w (t.steps.drop i)=chkT t) ⟨0,t.base,t.began,rfl,rfl,.zero hok,by rw [hchk];rfl⟩ ?_
 rintro m s ⟨i,w,last,rfl,rfl,tw,hch⟩
 have hile:=tw.le
 simp only [S]
 refine wR ?_;simp only [xq,reduceIte,qE,qA,qL,qD]
 refine W_seq (W_cond rfl (fun hc=>W_skip ?_) (fun hc=>W_exit ?_))
 ·have hlt:i<t.steps.length:=by simpa using hc
  have w1:IntKind.i64.wrap ((i:Int)+1)=((i+1:Nat):Int):=by rw [i64_of (by omega)];omega
  obtain ⟨s,hs⟩:∃ s,s=t.steps[i]:=⟨_,rfl⟩
  have hrun:=tw.run hlt
  have hstep:=tw.step hlt
  have hsg:(stRows t.steps).getD i []=s.ds:=by rw [stRows_get hlt,← hs]
  rw [List.drop_eq_getElem_cons hlt,chkS] at hch
  rw [← hs] at hrun hstep hch
  have hap:=Ha w s.chs hrun.1 hrun.2
  obtain ⟨w',i',e',hq'⟩:∃ w' i' e',applyV w s.chs=(w',i',e'):=⟨_,_,_,rfl⟩
  rw [hq'] at hap hstep hch
  simp only at hstep hch
  simp only [apA,vwA,Vw.ds,zU,zV] at hap
  simp only [xq,reduceIte,qE,qA,qL,qD]
  refine W_seq (W_block ?_)
  refine wR ?_;simp only [xq,reduceIte,qE,qA,qL,qD,stRows_len,hsg,Stp.ds,zQ]
  repeat refine And.intro (by omega) ?_
  refine W_seq (W_block ?_)
  refine wR ?_;simp only [xq,reduceIte,qE,qA,qL,qD]
  refine W_cond rfl (fun h1=>?_) (fun h1=>?_)
  ·have h1:s.time<last:=by simpa using h1
   rw [if_pos h1] at hch
   refine wR ?_;simp only [xq,reduceIte,qE,qA,qL,qD]
   exact W_ret (fin _ _ 10 rfl hch.symm)
  have h1:¬ s.time<last:=by simpa using h1
  rw [if_neg h1] at hch
  refine wR ?_;simp only [xq,reduceIte,qE,qA,qL,qD]
  refine W_cond rfl (fun h2=>?_) (fun h2=>W_skip ?_)
  ·have h2:maxT<s.time:=by simpa [maxT] using h2
   rw [if_pos h2] at hch
   refine wR ?_;simp only [xq,reduceIte,qE,qA,qL,qD]
   exact W_ret (fin _ _ 2 rfl hch.symm)
  have h2:¬ maxT<s.time:=by simpa [maxT] using h2
  rw [if_neg h2] at hch
  simp only [xq,reduceIte,qE,qA,qL,qD]
  refine wR ?_;simp only [xq,reduceIte,qE,qA,qL,qD,Vw.ds]
  refine c_fn (hap) rfl ?_;simp only [xq,reduceIte,qE,qA,qL,qD]
  refine W_seq ?_
  refine W_seq ?_
  refine W_reg ?_;simp only [xq,reduceIte,qE,qA,qL,qD,Vw.ds]
  refine W_cond rfl (fun h3=>?_) (fun h3=>W_skip ?_)
  ·have h3:e'≠0:=by simpa using h3
   rw [if_pos h3] at hch
   refine wR ?_;simp only [xq,reduceIte,qE,qA,qL,qD]
   exact W_ret (fin _ _ e' rfl hch.symm)
  have h3:¬ e'≠0:=by simpa using h3
  rw [if_neg h3] at hch
  have h3:e'=0:=by simpa using h3
  subst h3
  have hw:=hstep rfl
  simp only [xq,reduceIte,qE,qA,qL,qD]
  refine W_drw2 2 1 (by decide) (by simp) (by simp) rfl (by simp [x_upd,x_look,x_look0,A.touch]) ?_
  simp only [xq,reduceIte,qE,qA,qL,qD,List.replicate_zero,Vw.ds,Stp.ds]
  refine W_reg ?_;simp only [xq,reduceIte,qE,qA,qL,qD,w1]
  refine ⟨t.steps.length-(i+1),S (i+1) w' s.time,by omega,Co.to (s:=⟨_,[tlB t,vwB w',.cells eSt [s.ds.map .d],vwB w']⟩) [(1,.ptr 0 1 0 0),(4,.ptr 1 1 0 0),(5,.int s.time),(44,stsA t.steps),(45,.int t.steps.length),(46,.int ((i+1:Nat):Int))] 2 ?_ (zI _) (by simp) ?_,i+1,w',s.time,rfl,rfl,hw,hch⟩
  ·simp [x_upd,x_look,A.under]
  ·intro B hB
   simp only [List.take_succ_cons,List.take_zero,zp,zc,or_false] at hB
   rcases hB with rfl | rfl
   ·exact under_data (rows:=[t.ds])
   ·exact under_data (rows:=[w'.ds])
 ·have hie:i=t.steps.length:=by simp at hc;omega
  subst hie
  rw [List.drop_length,chkS] at hch
  simp only [xq,reduceIte,qE,qA,qL,qD]
  refine wR ?_;simp only [xq,reduceIte,qE,qA,qL,qD]
  exact W_ret (fin _ _ 0 rfl hch.symm)
abbrev TWhenOk (Γ:Tabs) (P:Program) (f:FuncId):Prop:=∀ (t:Tl) (n:Int),TOk t.base t.steps→FnP Γ P f [tlA t,.int n] (.tup [.int (whenT t n).1,.int (whenT t n).2])
def cntT (n:Int) (l:List Stp):Nat:=(l.filter fun s=>decide (s.time≤n)).length
theorem cntT_succ {n:Int} {l:List Stp} {i:Nat} (hi:i<l.length):cntT n (l.take (i+1))=cntT n (l.take i)+if l[i].time≤n then 1 else 0:=by
 rw [List.take_add_one,zB hi,cntT,List.filter_append,List.length_append]
 simp only [Option.toList_some,List.filter_cons,List.filter_nil]
 by_cases h:l[i].time≤n<;>simp [h,cntT]
theorem cntT_le {n:Int} {l:List Stp}:cntT n l≤l.length:=List.length_filter_le _ _
set_option maxHeartbeats 1000000 in
theorem twhen_fn {f fc:FuncId} (H:FnIs P f N [.t 4,.t 5] (x_timeline_When fc)) (hN:2≤N) (Hc:TCheckOk Γ P fc):TWhenOk Γ P f:=by
 intro t n hok
 refine .of_W H (by simpa using hN) ?_
 have hc:=Hc t hok
 unfold x_timeline_When
 simp only [tlA,Tl.ds,zU,zV] at hc ⊢
 have fin:∀ (sl:Nat→A) (h:Heap) (a b:Int),sl 4 = .int a→sl 5 = .int b→whenT t n=(a,b)→RetQ [.t 4,.t 5] (.tup [.int (whenT t n).1,.int (whenT t n).2]) .ret ⟨sl,h⟩:=fun sl h a b h1 h2 hr=>by
  rw [hr]
  refine ⟨.inr rfl,?_⟩
  simp only [readRs,readR,single,h1,h2]
  exact .same rfl
 refine wR ?_;simp only [xq,reduceIte,qE,qA,qL,qD]
 refine W_seq ?_
 refine wR ?_;simp only [xq,reduceIte,qE,qA,qL,qD,Tl.ds]
 refine c_fn (hc) rfl ?_;simp only [xq,reduceIte,qE,qA,qL,qD]
 refine wR ?_;simp only [xq,reduceIte,qE,qA,qL,qD]
 refine W_cond rfl (fun hk=>?_) (fun hk=>W_skip ?_)
 ·have hk:chkT t≠0:=by simpa using hk
  refine wR ?_;simp only [xq,reduceIte,qE,qA,qL,qD]
  exact W_ret (fin _ _ 0 (chkT t) rfl rfl (by rw [whenT,if_pos hk]))
 have hk:chkT t=0:=by simpa using hk
 obtain ⟨hf,hl⟩:=chkT_b hk
 simp only [xq,reduceIte,qE,qA,qL,qD]
 refine W_seq ?_
 refine wR ?_;simp only [xq,reduceIte,qE,qA,qL,qD,Tl.ds]
 refine W_cond rfl (fun h1=>?_) (fun h1=>W_skip ?_)
 ·have h1:n<t.began:=by simpa using h1
  refine wR ?_;simp only [xq,reduceIte,qE,qA,qL,qD]
  exact W_ret (fin _ _ 0 2 rfl rfl (by rw [whenT,if_neg (by simpa using hk),if_pos h1]))
 have h1:¬ n<t.began:=by simpa using h1
 have hend:whenT t n=(t.first+(cntT n t.steps:Int),0):=by rw [whenT,if_neg (by simpa using hk),if_neg h1];rfl
 simp only [xq,reduceIte,qE,qA,qL,qD]
 refine wR ?_;simp only [xq,reduceIte,qE,qA,qL,qD,Tl.ds]
 refine W_seq ?_
 refine wR ?_;simp only [xq,reduceIte,qE,qA,qL,qD,Tl.ds,stRows_len]
 refine W_block ?_
 let S:Nat→Heap→St:=fun i hp=>⟨look [(1,.int n),(7,.int (t.first+(cntT n (t.steps.take i):Int))),(22,stsA t.steps),(23,.int t.steps.length),(24,.int i)],hp⟩
 refine W_co (s':=S 0 [tlB t]) (Co.keep _ (by simp [x_upd,x_look,Tl.ds,cntT])) ?_
 refine W_loop (fun m s=>∃ i hp,i≤t.steps.length∧m=t.steps.length-i∧s=S i hp) ⟨0,_,zI _,rfl,rfl⟩ ?_
 rintro m s ⟨i,hp,hi,rfl,rfl⟩
 simp only [S]
 refine wR ?_;simp only [xq,reduceIte,qE,qA,qL,qD]
 refine W_seq (W_cond rfl (fun hc=>W_skip ?_) (fun hc=>W_exit ?_))
 ·have hlt:i<t.steps.length:=by simpa using hc
  have w1:IntKind.i64.wrap ((i:Int)+1)=((i+1:Nat):Int):=by rw [i64_of (by omega)];omega
  have hcl:=cntT_le (n:=n) (l:=t.steps.take i)
  have hcl2:cntT n (t.steps.take i)≤200:=by rw [List.length_take] at hcl;omega
  have hcs:=cntT_succ (n:=n) hlt
  obtain ⟨s,hs⟩:∃ s,s=t.steps[i]:=⟨_,rfl⟩
  have hsg:(stRows t.steps).getD i []=s.ds:=by rw [stRows_get hlt,← hs]
  rw [← hs] at hcs
  generalize cntT n (t.steps.take i)=c at *
  have w2:IntKind.i64.wrap (t.first+(c:Int)+1)=t.first+(c:Int)+1:=i64_of (by omega)
  simp only [xq,reduceIte,qE,qA,qL,qD]
  refine W_seq (W_block ?_)
  refine wR ?_;simp only [xq,reduceIte,qE,qA,qL,qD,stRows_len,hsg,Stp.ds,zQ,hp_g0,hp_s0]
  repeat refine And.intro (by omega) ?_
  refine wR ?_;simp only [xq,reduceIte,qE,qA,qL,qD,hp_g0,Stp.ds]
  refine W_cond rfl (fun h2=>?_) (fun h2=>W_skip ?_)
  ·have h2:s.time≤n:=by simpa using h2
   rw [if_pos h2] at hcs
   refine W_reg ?_;simp only [xq,reduceIte,qE,qA,qL,qD,w2]
   refine W_reg ?_;simp only [xq,reduceIte,qE,qA,qL,qD,w1]
   exact ⟨t.steps.length-(i+1),S (i+1) _,by omega,Co.keep _ (by simp [x_upd,x_look,hcs];omega),i+1,_,hlt,rfl,rfl⟩
  ·have h2:¬ s.time≤n:=by simpa using h2
   rw [if_neg h2] at hcs
   simp only [xq,reduceIte,qE,qA,qL,qD]
   refine W_reg ?_;simp only [xq,reduceIte,qE,qA,qL,qD,w1]
   exact ⟨t.steps.length-(i+1),S (i+1) _,by omega,Co.keep _ (by simp [x_upd,x_look,hcs]),i+1,_,hlt,rfl,rfl⟩
 ·have hie:i=t.steps.length:=by simp at hc;omega
  subst hie
  rw [List.take_length]
  simp only [xq,reduceIte,qE,qA,qL,qD]
  refine wR ?_;simp only [xq,reduceIte,qE,qA,qL,qD]
  exact W_ret (fin _ _ _ _ rfl rfl hend)
end Go.Proofs.YtlllnjhgjijnkaaDoor.Nx
namespace Go.Proofs.YtlllnjhgjijnkaaDoor.Nx
open Go
variable {P:Program} {N:Nat} {Γ:Tabs}
def VatT (t:Tl) (k:Nat):Vw:=(viewsT t.base t.steps).getD k zeroV
theorem tlXs_inv {f:Int} {v:Vw} {l:List Stp} {k:Nat} {xa:List A} (h:(tlXs f v l)[k]? = some xa):∃ w,(viewsT v l)[k]? = some w∧xa=[.int (f+(k:Int)),vwA w]:=by
 rw [tlXs,List.getElem?_mapIdx,Option.map_eq_some_iff] at h
 obtain ⟨w,h1,h2⟩:=h
 exact ⟨w,h1,h2.symm⟩
theorem vat_of {t:Tl} {k:Nat} {w:Vw} (h:(viewsT t.base t.steps)[k]? = some w):VatT t k=w:=by rw [VatT,zC,h];rfl
theorem vat_last {t:Tl}:VatT t (stepsV t.base t.steps).length=finV t.base t.steps:=by
 rw [VatT,viewsT,finV]
 generalize stepsV t.base t.steps=l
 generalize t.base=v
 induction l generalizing v with
 | nil=>rfl
 | cons x l ih=>rw [za,List.getD_cons_succ,List.getLastD_cons];exact ih x
theorem Turn.one {H:Heap} {q:Nat} {B B':HB} (hq:q<H.length):Turn [(q,B)] [(q,B')] H (H.set q B') :=
 ⟨fun p hp=>by simp only [zp,zc,or_false] at hp;subst hp;exact zN hq,by simp,
  fun p _ hn=>by rw [zM];rintro rfl;exact hn (by simp [ids]),fun p hp=>.inl hp⟩
abbrev TViewsOk (Γ:Tabs) (P:Program) (f f1:FuncId):Prop:=(∀ t:Tl,FnP Γ P f [tlA t] (.fn f1 [.iptr t.ds])) ∧
 ∀ t:Tl,TOk t.base t.steps → -1000000000000≤t.first∧t.first≤1000000000000→t.steps.length≤1000000→GenD Γ P f1 [.iptr t.ds] (tlXs t.first t.base t.steps)
abbrev TFinalOk (Γ:Tabs) (P:Program) (f:FuncId):Prop:=∀ t:Tl,TOk t.base t.steps → -1000000000000≤t.first∧t.first≤1000000000000→t.steps.length≤1000000 →
 FnP Γ P f [tlA t] (.tup [vwA (finV t.base t.steps),.int (finN t.began t.steps)])
def finI (t:Tl) (k:Nat) (L:List (Nat × HB)):Prop:=(k=0∧L=[(2,zeroB)])∨(0<k∧L=[(2,vwB (VatT t (k-1)))])
set_option maxHeartbeats 2000000 in
theorem final_fn {f fv f1:FuncId} (H:FnIs P f N [.c 2 6 true,.t 3] (x_timeline_final fv)) (hN:1≤N) (Hv:TViewsOk Γ P fv f1):TFinalOk Γ P f:=by
 intro t hok hf hl
 refine .of_W H (by simpa using hN) ?_
 have hv:=Hv.1 t
 have HG:=Hv.2 t hok hf hl
 unfold x_timeline_final
 simp only [tlA,Tl.ds,zU,zV] at hv ⊢
 refine wR ?_;simp only [xq,reduceIte,qE,qA,qL,qD]
 refine wR ?_;simp only [xq,reduceIte,qE,qA,qL,qD]
 refine W_seq ?_
 refine wR ?_;simp only [xq,reduceIte,qE,qA,qL,qD,Tl.ds]
 refine c_fn (hv) rfl ?_;simp only [xq,reduceIte,qE,qA,qL,qD]
 let sl0:Nat→A:=look [(1,.ptr 0 1 0 0),(2,.ptr 1 1 0 0),(3,.int 0),(4,.ptr 2 1 0 0),(9,.fn f1 [.iptr t.ds])]
 refine W_co (s':=⟨sl0,[tlB t,zeroB,zeroB]⟩) (by simp only [sl0];exact Co.keep _ (by simp [x_upd,x_look,Tl.ds])) ?_
 refine W_block (W_range (Γ:=Γ.ctx) (xs:=tlXs t.first t.base t.steps) (f:=f1) (caps:=[.iptr t.ds]) rfl HG (finI t) (fun _ _=>False) [(2,zeroB)] (.inl ⟨rfl,rfl⟩) ?_
  (fun k n=>upd (upd (upd sl0 10 (.int (t.first+(k:Int)))) 11 (vwA (VatT t k))) 6 (.ptr n 1 0 0)) (fun k=>[vwB (VatT t k)]) ?_ ?_ ?_ ?_ ?_)
 ·intro p hp
  simp only [zp,zc,or_false] at hp
  subst hp;rfl
 ·intro k xa hk
  obtain ⟨w,_,rfl⟩:=tlXs_inv hk
  rfl
 ·intro k xa h rl hk hlt
  obtain ⟨w,hw,rfl⟩:=tlXs_inv hk
  refine W_reg ?_
  simp only [xq,reduceIte,qE,qA,qL,qD,setAll,hp_g0,hp_s0,vwA,Vw.ds,vat_of hw]
  rfl
 ·intro k xa L h hk hI hL hlt
  obtain ⟨w,hw,rfl⟩:=tlXs_inv hk
  simp only [vat_of hw]
  simp only [za,zq] at hlt
  have hst:∃ B,L=[(2,B)]∧∃ r,B = .cells eVw [r]∧r.length=6:=by
   rcases hI with ⟨_,rfl⟩ | ⟨_,rfl⟩
   ·exact ⟨_,rfl,_,rfl,rfl⟩
   ·exact ⟨_,rfl,_,rfl,by simp [Vw.ds]⟩
  obtain ⟨B,rfl,r,rfl,hr⟩:=hst
  have hb2:h[2]? = some (.cells eVw [r]):=hL _ (zW ..)
  have e0:∀ tt:Heap,(h++tt)[2]? = some (.cells eVw [r]):=fun tt=>hp_gl hb2
  obtain ⟨r0,r1,r2,r3,r4,r5,rfl⟩:∃ a b c d e g,r=[a,b,c,d,e,g]:=by
   match r,hr with
   | [a,b,c,d,e,g],_=>exact ⟨a,b,c,d,e,g,rfl⟩
  refine ⟨.normal,[(2,vwB w)],(h++[vwB w]).set 2 (vwB w),Turn.one (by simp;omega),fun rl=>?_,.inl ⟨rfl,.inr ⟨Nat.succ_pos _,by rw [Nat.add_sub_cancel,vat_of hw]⟩⟩⟩
  refine W_block (W_reg ?_)
  simp only [xq,reduceIte,qE,qA,qL,qD,sl0,e0,hp_g0,Vw.ds]
  rfl
 ·intro L' h' T hI
  rw [tlXs_len] at hI
  have hL':L'=[(2,vwB (finV t.base t.steps))]:=by
   rcases hI with ⟨h0,_⟩ | ⟨_,h1⟩
   ·omega
   ·rw [h1,Nat.add_sub_cancel,vat_last]
  subst hL'
  have b0:h'[0]? = some (tlB t):=T.keep 0 (by simp) (by simp [ids])
  have b1:h'[1]? = some zeroB:=T.keep 1 (by simp) (by simp [ids])
  have b2:h'[2]? = some (vwB (finV t.base t.steps)):=T.has _ (zW ..)
  have hlen:3≤h'.length:=T.len
  have s1:∀ X,(h'.set 1 X)[1]? = some X:=fun X=>zN (by omega)
  generalize finV t.base t.steps=w at *
  simp only [xq,reduceIte,qE,qA,qL,qD,sl0]
  refine W_seq ?_
  refine wR ?_;simp only [xq,reduceIte,qE,qA,qL,qD,b0,Tl.ds,stRows_len]
  refine wR ?_;simp only [xq,reduceIte,qE,qA,qL,qD]
  refine W_cond rfl (fun hc=>?_) (fun hc=>W_skip ?_)
  ·have hpos:0<t.steps.length:=by have:=of_decide_eq_true hc;omega
   have w1:IntKind.i64.wrap ((t.steps.length:Int)-1)=((t.steps.length-1:Nat):Int):=by rw [i64_of (by omega)];omega
   have hlt:t.steps.length-1<t.steps.length:=by omega
   have hsg:=stRows_get hlt
   have hfn:finN t.began t.steps=t.steps[t.steps.length-1].time:=by
    rw [finN,List.getLastD_eq_getLast?,List.getLast?_eq_getElem?,List.length_map,List.getElem?_map,zB hlt];rfl
   rw [hfn]
   refine W_seq (W_drw2 0 1 (by decide) (by simp;omega) (by simp;omega) rfl (by simp [x_upd,x_look,x_look0,A.touch]) ?_)
   simp only [xq,reduceIte,qE,qA,qL,qD,b0,b1,b2,s1,Tl.ds,Vw.ds,stRows_len,w1,hsg,Stp.ds]
   repeat refine And.intro (by omega) ?_
   refine W_ret ⟨.inr rfl,?_⟩
   simp only [readRs,readR,single,x_upd,reduceIte,qE,x_look,argS,xq,reduceIte,qE,qA,qL,qD,loadsTo,s1]
   exact .same rfl
  ·have hnil:t.steps=[]:=by have:=of_decide_eq_false hc;exact zx (by omega)
   have hfn:finN t.began t.steps=t.began:=by rw [hnil];rfl
   rw [hfn]
   simp only [xq,reduceIte,qE,qA,qL,qD]
   refine W_seq (W_drw2 0 1 (by decide) (by simp;omega) (by simp;omega) rfl (by simp [x_upd,x_look,x_look0,A.touch]) ?_)
   simp only [xq,reduceIte,qE,qA,qL,qD,b0,b1,b2,s1,Tl.ds,Vw.ds]
   refine W_ret ⟨.inr rfl,?_⟩
   simp only [readRs,readR,single,x_upd,reduceIte,qE,x_look,argS,xq,reduceIte,qE,qA,qL,qD,loadsTo,s1]
   exact .same rfl
 ·intro e0 L' h' T hE;exact hE.elim
theorem take2 {h:Heap} {a b:HB} (h0:h[0]? = some a) (h1:h[1]? = some b):h.take 2=[a,b]:=by
 match h,h0,h1 with
 | x::y::l,h0,h1 =>
  simp only [List.getElem?_cons_zero,zH] at h0
  simp only [List.getElem?_cons_succ,List.getElem?_cons_zero,zH] at h1
  subst h0 h1;rfl
 | [x],_,h1=>cases h1
 | [],h0,_=>cases h0
theorem under_ztl {n:Nat}:HB.under n ztl:=by
 intro r hr y hy
 simp only [zp,zc,or_false] at hr
 subst hr
 simp only [zp,zc,or_false] at hy
 rcases hy with rfl | rfl | rfl | rfl | rfl | rfl | rfl | rfl | rfl<;>rfl
abbrev TDropOk (Γ:Tabs) (P:Program) (f:FuncId):Prop:=∀ t:Tl,TOk t.base t.steps → -1000000000000≤t.first∧t.first≤1000000000000→t.steps.length≤1000000→t.steps≠[]→FnP Γ P f [tlA t] (tlA (dropT t))
def dropB (t:Tl):Tl:={ t with base:=(stepsV t.base t.steps).headD t.base }
def drI (t:Tl) (k:Nat) (L:List (Nat × HB)):Prop:=k≤1∧L=[(0,tlB t)]
def drE (t:Tl) (e:Exit) (L:List (Nat × HB)):Prop:=e = .exit 0∧L=[(0,tlB (dropB t))]
set_option maxHeartbeats 2000000 in
theorem drop_fn {f fv f1:FuncId} (H:FnIs P f N [.c 2 9 true] (x_timeline_drop fv)) (hN:1≤N) (Hv:TViewsOk Γ P fv f1):TDropOk Γ P f:=by
 intro t hok hf hl hne
 refine .of_W H (by simpa using hN) ?_
 have hv:=Hv.1 t
 have HG:=Hv.2 t hok hf hl
 have hpos:0<t.steps.length:=List.length_pos_iff.2 hne
 unfold x_timeline_drop
 simp only [tlA,Tl.ds,zU,zV] at hv ⊢
 refine wR ?_;simp only [xq,reduceIte,qE,qA,qL,qD]
 let sl0:Nat→A:=look [(1,.ptr 0 1 0 0),(2,.ptr 1 1 0 0),(6,.fn f1 [.iptr t.ds])]
 have hfin:∀ h':Heap,2≤h'.length→h'[0]? = some (tlB (dropB t))→h'[1]? = some ztl→∃ s1,Co 0 ⟨sl0,h'⟩ s1∧s1=⟨look [(1,.ptr 0 1 0 0),(2,.ptr 1 1 0 0)],[tlB (dropB t),ztl]⟩:=by
  intro h' h2 b0 b1
  have ht:=take2 b0 b1
  refine ⟨_,Co.to (s:=⟨sl0,h'⟩) [(1,.ptr 0 1 0 0),(2,.ptr 1 1 0 0)] 2 (by simp [sl0,x_look,A.under]) (zI _) h2 ?_,by simp only [ht]⟩
  simp only [ht]
  intro B hB
  simp only [zp,zc,or_false] at hB
  rcases hB with rfl | rfl
  ·exact under_data (rows:=[(dropB t).ds])
  ·exact under_ztl
 refine W_cut (· = ⟨look [(1,.ptr 0 1 0 0),(2,.ptr 1 1 0 0)],[tlB (dropB t),ztl]⟩) ?_ ?_
 ·refine wR ?_;simp only [xq,reduceIte,qE,qA,qL,qD,Tl.ds]
  refine c_fn (hv) rfl ?_;simp only [xq,reduceIte,qE,qA,qL,qD]
  refine W_co (s':=⟨sl0,[tlB t,ztl]⟩) (by simp only [sl0];exact Co.keep _ (by simp [x_upd,x_look,Tl.ds])) ?_
  refine W_block (W_range (Γ:=Γ.ctx) (xs:=tlXs t.first t.base t.steps) (f:=f1) (caps:=[.iptr t.ds]) rfl HG (drI t) (drE t) [(0,tlB t)] ⟨zI _,rfl⟩ ?_
   (fun k n=>upd (upd (upd (upd sl0 7 (.int (t.first+(k:Int)))) 8 (vwA (VatT t k))) 3 (.int (t.first+(k:Int)))) 4 (.ptr n 1 0 0)) (fun k=>[vwB (VatT t k)]) ?_ ?_ ?_ ?_ ?_)
  ·intro p hp
   simp only [zp,zc,or_false] at hp
   subst hp;rfl
  ·intro k xa hk
   obtain ⟨w,_,rfl⟩:=tlXs_inv hk
   rfl
  ·intro k xa h rl hk hlt
   obtain ⟨w,hw,rfl⟩:=tlXs_inv hk
   refine wR ?_;simp only [xq,reduceIte,qE,qA,qL,qD,setAll]
   refine W_reg ?_;simp only [xq,reduceIte,qE,qA,qL,qD,hp_g0,hp_s0,vwA,Vw.ds,vat_of hw]
   rfl
  ·intro k xa L h hk hI hL hlt
   obtain ⟨w,hw,rfl⟩:=tlXs_inv hk
   obtain ⟨hk1,rfl⟩:=hI
   simp only [vat_of hw]
   simp only [za,zq] at hlt
   have hb0:h[0]? = some (tlB t):=hL _ (zW ..)
   have e0:∀ tt:Heap,(h++tt)[0]? = some (tlB t):=fun tt=>hp_gl hb0
   rcases Nat.le_one_iff_eq_zero_or_eq_one.1 hk1 with rfl | rfl
   ·have hd:decide (t.first<t.first+((0:Nat):Int))=false:=decide_eq_false (by omega)
    refine ⟨.normal,[(0,tlB t)],h++[vwB w],Turn.refl (hL.app _),fun rl=>?_,.inl ⟨rfl,Nat.le_refl _,rfl⟩⟩
    refine W_block ?_
    refine wR ?_;simp only [xq,reduceIte,qE,qA,qL,qD,sl0,e0,Tl.ds,hd]
    refine W_cond rfl (fun hd=>by cases hd) (fun _=>W_skip ?_)
    simp only [xq,reduceIte,qE,qA,qL,qD]
   ·have hd:decide (t.first<t.first+((1:Nat):Int))=true:=decide_eq_true (by omega)
    have hbase:w=(dropB t).base:=by
     have h1:(stepsV t.base t.steps)[0]? = some w:=hw
     show w=(stepsV t.base t.steps).headD t.base
     cases hs:stepsV t.base t.steps with
     | nil=>rw [hs] at h1;cases h1
     | cons x l=>rw [hs] at h1;cases h1;rfl
    refine ⟨.exit 0,[(0,tlB (dropB t))],(h++[vwB w]).set 0 (tlB (dropB t)),Turn.one (by simp),fun rl=>?_,.inr ⟨.inr ⟨_,rfl⟩,rfl,rfl⟩⟩
    refine W_block ?_
    refine wR ?_;simp only [xq,reduceIte,qE,qA,qL,qD,sl0,e0,Tl.ds,hd]
    refine W_cond rfl (fun _=>?_) (fun hd=>by cases hd)
    refine wR ?_;simp only [xq,reduceIte,qE,qA,qL,qD,hp_g0,e0,Vw.ds,Tl.ds]
    refine W_exit ?_
    simp only [xq,reduceIte,qE,qA,qL,qD,hbase]
    rfl
  ·intro L' h' T hI
   rw [tlXs_len] at hI
   obtain ⟨hk,rfl⟩:=hI
   have hdb:dropB t=t:=by
    have:stepsV t.base t.steps=[]:=zx (by omega)
    unfold dropB;rw [this];rfl
   have b0:h'[0]? = some (tlB t):=T.has _ (zW ..)
   have b1:h'[1]? = some ztl:=T.keep 1 (by simp) (by simp [ids])
   simp only [xq,reduceIte,qE,qA,qL,qD]
   exact hfin h' T.len (by rw [hdb];exact b0) b1
  ·rintro e0 L' h' T ⟨rfl,rfl⟩
   have b0:h'[0]? = some (tlB (dropB t)):=T.has _ (zW ..)
   have b1:h'[1]? = some ztl:=T.keep 1 (by simp) (by simp [ids])
   simp only [xq,reduceIte,qE,qA,qL,qD]
   exact hfin h' T.len b0 b1
 rintro _ rfl
 obtain ⟨s,l,hsl⟩:∃ s l,t.steps=s::l:=by
  cases hs:t.steps with
  | nil=>exact absurd hs hne
  | cons s l=>exact ⟨s,l,rfl⟩
 have hdt:dropT t=⟨t.first+1,s.time,(dropB t).base,l⟩:=by rw [dropT,dropB,hsl];rfl
 have w1:IntKind.i64.wrap ((dropB t).first+1)=(dropB t).first+1:=i64_of (by show _≤t.first+1∧t.first+1≤_;omega)
 have hds:stRows (dropB t).steps=s.ds::stRows l:=by show stRows t.steps=_;rw [hsl];rfl
 refine W_seq (W_drw (by simp [x_upd,x_look,look,A.touch]) ?_)
 simp only [xq,reduceIte,qE,qA,qL,qD,Tl.ds,hds,w1,Stp.ds]
 repeat refine And.intro (by omega) ?_
 refine wR ?_;simp only [xq,reduceIte,qE,qA,qL,qD]
 refine W_ret ⟨.inr rfl,?_⟩
 simp only [readRs,readR,single,x_upd,reduceIte,qE,x_look,argS,xq,reduceIte,qE,qA,qL,qD,loadsTo]
 rw [hdt]
 have ht:∀ x:List D,List.take ((((stRows l).length+1:Nat):Int)-1).toNat (List.drop (Int.toNat 1) (x::stRows l))=stRows l:=fun x=>by
  show List.take _ (stRows l)=_
  exact List.take_of_length_le (by omega)
 simp only [ht]
 exact .same rfl
end Go.Proofs.YtlllnjhgjijnkaaDoor.Nx
namespace Go.Proofs.YtlllnjhgjijnkaaDoor.Nx
open Go
variable {P:Program} {N:Nat} {Γ:Tabs}
abbrev errB (n:Int):HB:=.cells ⟨1,8⟩ [[.int n]]
def vwE (x:Vw × Int):A:=.tup [vwA x.1,.int x.2]
abbrev TAtOk (Γ:Tabs) (P:Program) (f:FuncId):Prop:=∀ (t:Tl) (n:Int),TOk t.base t.steps→FnP Γ P f [tlA t,.int n] (vwE (atT t n))
theorem Turn.two {H:Heap} {o p q:Nat} {X B B' C C':HB} (ho:H[o]? = some X) (hp:p<H.length) (hq:q<H.length) (h1:o≠p) (h2:o≠q) (hne:p≠q):Turn [(o,X),(p,B),(q,C)] [(o,X),(p,B'),(q,C')] H ((H.set p B').set q C') :=
 ⟨fun x hx=>by
  simp only [zp,zc,or_false] at hx
  rcases hx with rfl | rfl | rfl
  ·rw [zM (Ne.symm h2),zM (Ne.symm h1)];exact ho
  ·rw [zM (Ne.symm hne),zN hp]
  ·exact zN (by simpa using hq),by simp,
  fun x _ hn=>by
   have h1:x≠p:=by rintro rfl;exact hn (by simp [ids])
   have h2:x≠q:=by rintro rfl;exact hn (by simp [ids])
   rw [zM (Ne.symm h2),zM (Ne.symm h1)],fun x hx=>.inl hx⟩
def atI (t:Tl) (n:Int) (k:Nat) (L:List (Nat × HB)):Prop:=(∀ j:Nat,j<k→t.first+(j:Int)≠n)∧L=[(1,errB n),(2,zeroB),(3,errB 0)]
def atE (t:Tl) (n:Int) (e:Exit) (L:List (Nat × HB)):Prop:=e = .ret∧∃ (k:Nat) (w:Vw),(viewsT t.base t.steps)[k]? = some w∧t.first+(k:Int)=n∧L=[(1,errB n),(2,vwB w),(3,errB 0)]
theorem frzT2' {k:Nat} {h:Heap} {x y x' y':A} (h1:FrzA k h x x') (h2:FrzA k h y y'):FrzA k h (.tup [x,y]) (.tup [x',y']):=by
 refine .tup rfl fun j z hj=>?_
 rcases j with _ | _ | j
 ·cases hj;exact h1
 ·cases hj;exact h2
 ·simp at hj
theorem frz_vwZ {k:Nat} {h:Heap}:FrzA k h (.agg zrow) (vwA zeroV) :=
 frzS rfl (frzS rfl (frzC (.d (.nil _)) (frzS rfl (frzS rfl (frzS rfl frzNil)))))
set_option maxHeartbeats 2000000 in
theorem tat_fn {f fc fv fo f1:FuncId} (H:FnIs P f N [.c 4 6 true,.c 5 1 false] (x_timeline_At fc fv fo)) (hN:2≤N) (Hc:TCheckOk Γ P fc) (Hv:TViewsOk Γ P fv f1) (Ho:OwnOk Γ P fo):TAtOk Γ P f:=by
 intro t n hok
 refine .of_W H (by simpa using hN) ?_
 have hc:=Hc t hok
 have hv:=Hv.1 t
 unfold x_timeline_At
 simp only [tlA,Tl.ds,zU,zV] at hc hv ⊢
 refine wR ?_;simp only [xq,reduceIte,qE,qA,qL,qD]
 refine W_seq ?_
 refine wR ?_;simp only [xq,reduceIte,qE,qA,qL,qD,Tl.ds]
 refine c_fn (hc) rfl ?_;simp only [xq,reduceIte,qE,qA,qL,qD]
 refine wR ?_;simp only [xq,reduceIte,qE,qA,qL,qD]
 refine W_cond rfl (fun hk=>?_) (fun hk=>W_skip ?_)
 ·have hk:chkT t≠0:=by simpa using hk
  have hat:atT t n=(zeroV,chkT t):=by rw [atT,if_pos hk]
  rw [hat]
  refine wR ?_;simp only [xq,reduceIte,qE,qA,qL,qD]
  refine W_ret ⟨.inr rfl,?_⟩
  simp only [readRs,readR,single,x_upd,reduceIte,qE,x_look,argS,xq,reduceIte,qE,qA,qL,qD,loadsTo]
  exact frzT2' frz_vwZ (.same rfl)
 have hk:chkT t=0:=by simpa using hk
 obtain ⟨hf,hl⟩:=chkT_b hk
 have HG:=Hv.2 t hok (by omega) (by omega)
 have hat:atT t n=if t.first≤n∧n-t.first≤((stepsV t.base t.steps).length:Int) then ((viewsT t.base t.steps).getD (n-t.first).toNat zeroV,0) else (zeroV,2):=by
  rw [atT,if_neg (by simpa using hk)];rfl
 simp only [xq,reduceIte,qE,qA,qL,qD]
 refine W_seq ?_
 refine wR ?_;simp only [xq,reduceIte,qE,qA,qL,qD,Tl.ds]
 refine c_fn (hv) rfl ?_;simp only [xq,reduceIte,qE,qA,qL,qD]
 let sl0:Nat→A:=look [(2,.ptr 0 1 0 0),(3,.ptr 1 1 0 0),(4,.ptr 2 1 0 0),(5,.ptr 3 1 0 0),(16,.fn f1 [.iptr t.ds])]
 refine W_co (s':=⟨sl0,[tlB t,errB n,zeroB,errB 0]⟩) (by simp only [sl0];exact Co.keep _ (by simp [x_upd,x_look,Tl.ds])) ?_
 refine W_block (W_range (Γ:=Γ.ctx) (xs:=tlXs t.first t.base t.steps) (f:=f1) (caps:=[.iptr t.ds]) rfl HG (atI t n) (atE t n) [(1,errB n),(2,zeroB),(3,errB 0)] ⟨fun j hj=>absurd hj (Nat.not_lt_zero _),rfl⟩ ?_
  (fun k m=>upd (upd (upd (upd sl0 17 (.int (t.first+(k:Int)))) 18 (vwA (VatT t k))) 7 (.int (t.first+(k:Int)))) 8 (.ptr m 1 0 0)) (fun k=>[vwB (VatT t k)]) ?_ ?_ ?_ ?_ ?_)
 ·intro p hp
  simp only [zp,zc,or_false] at hp
  rcases hp with rfl | rfl | rfl<;>rfl
 ·intro k xa hk
  obtain ⟨w,_,rfl⟩:=tlXs_inv hk
  rfl
 ·intro k xa h rl hk hlt
  obtain ⟨w,hw,rfl⟩:=tlXs_inv hk
  refine wR ?_;simp only [xq,reduceIte,qE,qA,qL,qD,setAll]
  refine W_reg ?_;simp only [xq,reduceIte,qE,qA,qL,qD,hp_g0,hp_s0,vwA,Vw.ds,vat_of hw]
  rfl
 ·intro k xa L h hk hI hL hlt
  obtain ⟨w,hw,rfl⟩:=tlXs_inv hk
  obtain ⟨hk1,rfl⟩:=hI
  simp only [vat_of hw]
  simp only [za,zq] at hlt
  have e1:h[1]? = some (errB n):=hL _ (zW ..)
  have e2:h[2]? = some zeroB:=hL _ (zZ _ (zW ..))
  have e3:h[3]? = some (errB 0):=hL _ (zZ _ (zZ _ (zW ..)))
  have g1:∀ tt:Heap,(h++tt)[1]? = some (errB n):=fun tt=>hp_gl e1
  have g2:∀ tt:Heap,(h++tt)[2]? = some zeroB:=fun tt=>hp_gl e2
  have g3:∀ (tt:Heap) X,((h++tt).set 2 X)[3]? = some (errB 0):=fun tt X=>by rw [zM (by decide)];exact hp_gl e3
  have ho:=Ho w
  simp only [vwA,Vw.ds,zU,zV] at ho
  by_cases hn:t.first+(k:Int)=n
  ·have hd:decide (t.first+(k:Int)=n)=true:=decide_eq_true hn
   refine ⟨.ret,[(1,errB n),(2,vwB w),(3,errB 0)],((h++[vwB w]).set 2 (vwB w)).set 3 (errB 0),Turn.two (g1 _) (by simp;omega) (by simp;omega) (by decide) (by decide) (by decide),fun rl=>?_,.inr ⟨.inl rfl,rfl,k,w,hw,hn,rfl⟩⟩
   refine W_block ?_
   refine wR ?_;simp only [xq,reduceIte,qE,qA,qL,qD,sl0,g1,hd]
   refine W_cond rfl (fun _=>?_) (fun hd=>by cases hd)
   refine wR ?_;simp only [xq,reduceIte,qE,qA,qL,qD,sl0,hp_g0,g2,g3,Vw.ds]
   refine c_fn (ho) rfl ?_;simp only [xq,reduceIte,qE,qA,qL,qD,g2,g3]
   refine W_ret ?_
   simp only [xq,reduceIte,qE,qA,qL,qD]
   rfl
  ·have hd:decide (t.first+(k:Int)=n)=false:=decide_eq_false hn
   refine ⟨.normal,[(1,errB n),(2,zeroB),(3,errB 0)],h++[vwB w],Turn.refl (hL.app _),fun rl=>?_,.inl ⟨rfl,fun j hj=>?_,rfl⟩⟩
   ·refine W_block ?_
    refine wR ?_;simp only [xq,reduceIte,qE,qA,qL,qD,sl0,g1,hd]
    refine W_cond rfl (fun hd=>by cases hd) (fun _=>W_skip ?_)
    simp only [xq,reduceIte,qE,qA,qL,qD]
   ·rcases Nat.lt_succ_iff_lt_or_eq.1 hj with hj | rfl
    ·exact hk1 j hj
    ·exact hn
 ·intro L' h' T hI
  rw [tlXs_len] at hI
  obtain ⟨hk1,rfl⟩:=hI
  have hres:atT t n=(zeroV,2):=by
   rw [hat,if_neg]
   rintro ⟨q1,q2⟩
   exact hk1 (n-t.first).toNat (by omega) (by omega)
  have b2:h'[2]? = some zeroB:=T.has _ (zZ _ (zW ..))
  have b3:h'[3]? = some (errB 0):=T.has _ (zZ _ (zZ _ (zW ..)))
  have hlen:4≤h'.length:=T.len
  have s2:∀ X,(h'.set 2 X)[3]? = some (errB 0):=fun X=>by rw [zM (by decide)];exact b3
  have s3:∀ X Y,((h'.set 2 X).set 3 Y)[3]? = some Y:=fun X Y=>zN (by simp;omega)
  have s4:∀ X Y,((h'.set 2 X).set 3 Y)[2]? = some X:=fun X Y=>by rw [zM (by decide),zN (by omega)]
  rw [hres]
  simp only [xq,reduceIte,qE,qA,qL,qD,sl0]
  refine wR ?_;simp only [xq,reduceIte,qE,qA,qL,qD,b2,b3,s2]
  refine W_ret ⟨.inr rfl,?_⟩
  simp only [readRs,readR,single,x_upd,reduceIte,qE,x_look,argS,xq,reduceIte,qE,qA,qL,qD,loadsTo,s3,s4]
  exact frzT2' frz_vwZ (.same rfl)
 ·rintro e0 L' h' T ⟨rfl,k,w,hw,hn,rfl⟩
  have hklt:=(List.getElem?_eq_some_iff.1 hw).1
  simp only [viewsT,za] at hklt
  have hres:atT t n=(w,0):=by
   rw [hat,if_pos (by omega),show (n-t.first).toNat=k by omega,zC,hw];rfl
  have b2:h'[2]? = some (vwB w):=T.has _ (zZ _ (zW ..))
  have b3:h'[3]? = some (errB 0):=T.has _ (zZ _ (zZ _ (zW ..)))
  rw [hres]
  simp only [xq,reduceIte,qE,qA,qL,qD]
  refine ⟨.inr rfl,?_⟩
  simp only [sl0]
  simp only [readRs,readR,single,x_upd,reduceIte,qE,x_look,argS,xq,reduceIte,qE,qA,qL,qD,loadsTo,b2,b3,Vw.ds]
  exact .same rfl
end Go.Proofs.YtlllnjhgjijnkaaDoor.Nx

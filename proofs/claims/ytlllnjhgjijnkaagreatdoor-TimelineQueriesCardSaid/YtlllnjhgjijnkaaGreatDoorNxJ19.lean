import Derived.Test.YtlllnjhgjijnkaaGreatDoorNxJ9
import Derived.Test.YtlllnjhgjijnkaaGreatDoorNxJ15
import Derived.Test.YtlllnjhgjijnkaaGreatDoorNxDL
set_option linter.unusedSimpArgs false
set_option linter.unusedVariables false
set_option linter.unnecessarySimpa false
open List renaming getD_eq_getElem?_getD → zC, getElem?_append_left → zF, getElem?_map → zK, append_assoc → zS, map_cons → zU, map_nil → zV, length_cons → za, drop_eq_getElem_cons → zd, replicate_zero → zr
open Bool renaming true_eq_false → zE
open Nat renaming zero_le → zI
open Int renaming toNat_natCast → zQ
open Nat renaming reduceEqDiff → qE, reduceAdd → qA, reduceLT → qL, reduceLeDiff → qD
namespace Go.Proofs.YtlllnjhgjijnkaaGreatDoor.Nx
open Go
section
variable {P:Program} {N:Nat} {Γ:Tabs}
theorem sm_proper {v:Vw} {n:Nat} (h:Sm v n) (hv:viewC v=0):Sm v 140:=by
 obtain ⟨ed,hw⟩:=viewC_zero.1 hv
 have hz:=(szOk_iff.1 ed.sz).1
 exact ⟨fun r hr=>by have:=wide_row hw hr;have:=row_len (r:=r);omega,h.txt⟩
theorem tok_great:∀ {l:List Stp} {v:Vw},Sm v 140→(∀ s∈l,greatL s.chs=false)→TOk v l
 | [],v,h,_=>h.mono (by omega)
 | s::l,v,h,hl=>by
  obtain ⟨h3,h4⟩:=greatL_small (hl s (List.mem_cons_self ..))
  refine ⟨runOk_of h h4 (by omega),fun c hc=>(h4 c hc).ok,fun h5=>tok_great (sm_proper (applyV_sm h h4 h5) ((applyV_ends v s.chs).1 h5).2.2) fun x hx=>hl x (List.mem_cons_of_mem _ hx)⟩
def greatT (t:Tl):Bool:=(greatV t.base||decide (8<t.steps.length))||t.steps.any fun s=>greatL s.chs
theorem greatT_tok {t:Tl} (h:greatT t=false):TOk t.base t.steps:=by
 simp only [greatT,Bool.or_eq_false_iff,List.any_eq_false] at h
 exact tok_great (greatV_sm h.1.1).1 fun s hs=>by simpa using h.2 s hs
set_option maxHeartbeats 2000000 in
theorem tgreat_fn {f fv fl:FuncId} (H:FnIs P f N [.t 2] (x_ref21_Great fv fl)) (hN:1≤N) (Hv:∀ v:Vw,FnP Γ P fv [vwA v] (.bool (greatV v))) (Hl:∀ l:List Cg,FnP Γ P fl [cgsA l] (.bool (greatL l))) (t:Tl) :
  FnP Γ P f [tlA t] (.bool (greatT t)):=by
 refine .of_W H (by simpa using hN) ?_
 have hv:=Hv t.base
 unfold x_ref21_Great
 simp only [tlA,Tl.ds,vwA,Vw.ds,zU,zV] at hv ⊢
 have fin:∀ (sl:Nat→A) (h:Heap) (r:Bool),sl 2 = .bool r→greatT t=r→RetQ [.t 2] (.bool (greatT t)) .ret ⟨sl,h⟩:=fun sl h r h2 hr=>by
  rw [hr];exact .tmp h2 rfl
 refine wR ?_;simp only [xq,reduceIte,qE,qA,qL,qD]
 obtain ⟨g,hg⟩:∃ g,g=(greatV t.base||decide (8<t.steps.length)):=⟨_,rfl⟩
 have hdl:decide ((8:Int)<((t.steps.length:Nat):Int))=decide (8<t.steps.length):=by rw [Bool.eq_iff_iff];simp;omega
 refine W_seq ?_
 refine W_cut (· = ⟨look [(1,.ptr 0 1 0 0),(12,.bool g)],[tlB t]⟩) (W_reg ?_) ?_
 ·simp only [xq,reduceIte,qE,qA,qL,qD,Tl.ds]
  refine c_fn (hv) rfl ?_;simp only [xq,reduceIte,qE,qA,qL,qD]
  cases e1:greatV t.base
  ·simp only [xq,reduceIte,qE,qA,qL,qD,Tl.ds,stRows_len,hdl,undefA,zE]
   exact ⟨_,Co.keep _ (by simp [x_upd,x_look,hg,e1]),rfl⟩
  ·simp only [xq,reduceIte,qE,qA,qL,qD,undefA,zE]
   exact ⟨_,Co.keep _ (by simp [x_upd,x_look,hg,e1]),rfl⟩
 rintro _ rfl
 refine W_cond rfl (fun hc=>?_) (fun hc=>W_skip ?_)
 ·refine wR ?_;simp only [xq,reduceIte,qE,qA,qL,qD]
  exact W_ret (fin _ _ true rfl (by rw [greatT,← hg,hc];rfl))
 have hgt:greatT t=t.steps.any fun s=>greatL s.chs:=by rw [greatT,← hg,hc,Bool.false_or]
 have hl8:t.steps.length≤8:=by
  rw [hc] at hg
  have:=(Bool.or_eq_false_iff.1 hg.symm).2
  have:=of_decide_eq_false this;omega
 simp only [xq,reduceIte,qE,qA,qL,qD]
 refine W_seq ?_
 refine wR ?_;simp only [xq,reduceIte,qE,qA,qL,qD]
 refine W_block ?_
 let S:Nat→St:=fun i=>⟨look [(1,.ptr 0 1 0 0),(3,.int i)],[tlB t]⟩
 refine W_co (s':=S 0) (Co.keep _ (by simp [x_upd,x_look])) ?_
 refine W_loop (fun m s=>∃ i,m=t.steps.length-i∧s=S i∧i≤t.steps.length∧((t.steps.drop i).any fun s=>greatL s.chs)=greatT t) ⟨0,rfl,rfl,zI _,by rw [hgt];rfl⟩ ?_
 rintro m s ⟨i,rfl,rfl,hi,hany⟩
 simp only [S]
 refine W_seq (W_seq ?_)
 refine W_reg ?_;simp only [xq,reduceIte,qE,qA,qL,qD,stRows_len,Tl.ds]
 refine W_cond rfl (fun hd=>W_skip ?_) (fun hd=>W_exit ?_)
 ·have hlt:i<t.steps.length:=by simpa using hd
  have w1:IntKind.i64.wrap ((i:Int)+1)=((i+1:Nat):Int):=by rw [i64_of (by omega)];omega
  obtain ⟨s,hs⟩:∃ s,s=t.steps[i]:=⟨_,rfl⟩
  have hsg:(stRows t.steps).getD i []=s.ds:=by rw [stRows_get hlt,← hs]
  rw [zd hlt,List.any_cons,← hs] at hany
  have hgl:=Hl s.chs
  simp only [xq,reduceIte,qE,qA,qL,qD]
  refine W_seq (W_block ?_)
  refine wR ?_;simp only [xq,reduceIte,qE,qA,qL,qD,stRows_len,hsg,Tl.ds,Stp.ds,zQ]
  repeat refine And.intro (by omega) ?_
  refine c_fn (hgl) rfl ?_;simp only [xq,reduceIte,qE,qA,qL,qD]
  refine W_cond rfl (fun h1=>?_) (fun h1=>W_skip ?_)
  ·rw [h1,Bool.true_or] at hany
   refine wR ?_;simp only [xq,reduceIte,qE,qA,qL,qD]
   exact W_ret (fin _ _ true rfl hany.symm)
  ·rw [h1,Bool.false_or] at hany
   simp only [xq,reduceIte,qE,qA,qL,qD]
   refine W_reg ?_;simp only [xq,reduceIte,qE,qA,qL,qD,w1]
   exact ⟨t.steps.length-(i+1),S (i+1),by omega,Co.keep _ (by simp [x_upd,x_look]),i+1,rfl,rfl,hlt,hany⟩
 ·have hie:i=t.steps.length:=by have:=of_decide_eq_false hd;omega
  subst hie
  rw [List.drop_length] at hany
  simp only [xq,reduceIte,qE,qA,qL,qD]
  refine wR ?_;simp only [xq,reduceIte,qE,qA,qL,qD]
  exact W_ret (fin _ _ false rfl hany.symm)
abbrev RTimeOk (Γ:Tabs) (P:Program) (f:FuncId):Prop:=∀ n:Int,FnP Γ P f [.int n] (.bool (decide (0≤n)&&decide (n≤maxT)))
theorem rtime_fn {f:FuncId} (H:FnIs P f N [.t 2] x_ref21_time) (hN:1≤N):RTimeOk Γ P f:=by
 intro n
 refine .of_W H (by simpa using hN) ?_
 unfold x_ref21_time
 refine wR ?_;simp only [xq,reduceIte,qE,qA,qL,qD]
 refine W_sreg fun K hK=>?_
 cases e:decide (0≤n)
 ·simp only [xq,reduceIte,qE,qA,qL,qD,e,undefA,zE]
  exact hK _ (W_ret (.tmp (by simp only [x_upd,reduceIte,e,Bool.false_and]) rfl))
 ·simp only [xq,reduceIte,qE,qA,qL,qD,e,undefA,zE]
  exact hK _ (W_ret (.tmp (by simp only [x_upd,reduceIte,e,Bool.true_and];rfl) rfl))
theorem rlast_fn {f:FuncId} (H:FnIs P f N [.t 2] x_ref21_Last) (hN:1≤N):TLastOk Γ P f:=by
 intro t hf hl
 refine .of_W H (by simpa using hN) ?_
 have w1:IntKind.i64.wrap (t.first+(t.steps.length:Int))=lastT t:=by rw [i64_of (by omega)];rfl
 unfold x_ref21_Last
 simp only [tlA,Tl.ds,zU,zV]
 refine wR ?_;simp only [xq,reduceIte,qE,qA,qL,qD]
 refine wR ?_;simp only [xq,reduceIte,qE,qA,qL,qD,stRows_len,w1]
 refine W_ret (.tmp ?_ rfl)
 simp only [x_upd,reduceIte]
def vwRows (l:List Vw):List (List D):=l.map Vw.ds
theorem vwRows_len {l:List Vw}:(vwRows l).length=l.length:=by simp [vwRows]
abbrev vwLB (l:List Vw):HB:=.cells eVw ((vwRows l).map fun r=>r.map A.d)
def rvA (t:Tl):A:=if chkT t=0 then .tup [.d (.sl eVw (vwRows (viewsT t.base t.steps))),.int 0] else .tup [.nil,.int (chkT t)]
abbrev RViewsOk (Γ:Tabs) (P:Program) (f:FuncId):Prop:=∀ t:Tl,TOk t.base t.steps→FnP Γ P f [tlA t] (rvA t)
theorem frz_vwL {k q:Nat} {h:Heap} {l:List Vw} (hk:k≤q) (hq:h[q]? = some (vwLB l)):FrzA k h (.ref q l.length 0 l.length true) (.d (.sl eVw (vwRows l))):=by
 have:=frzD_rows (k:=k) (id:=q) (off:=0) (len:=l.length) (full:=true) (e:=eVw) (rows:=vwRows l) hk hq (by rw [vwRows_len];omega)
 rw [vwRows_len,List.drop_zero,List.take_of_length_le (by rw [vwRows_len];exact Nat.le_refl _)] at this
 exact .d this
theorem TWalk.take {v w:Vw} {l:List Stp} {i:Nat} (t:TWalk v l i w):((viewsT v l).take (i+1)).length=i+1:=by
 have:=t.len
 rw [List.length_take,viewsT,za];omega
theorem TWalk.takeS {v w w':Vw} {l:List Stp} {i:Nat} (t:TWalk v l (i+1) w'):(viewsT v l).take (i+1+1)=(viewsT v l).take (i+1)++[w']:=by
 rw [List.take_add_one,t.at'];rfl
theorem TWalk.getT {v w:Vw} {l:List Stp} {i:Nat} (t:TWalk v l i w):((vwRows ((viewsT v l).take (i+1))).map fun r=>r.map A.d)[i]? = some (w.ds.map .d):=by
 rw [zK,vwRows,zK,List.getElem?_take,if_pos (Nat.lt_succ_self i),t.at'];rfl
set_option maxHeartbeats 4000000 in
theorem rviews_fn {f ft fv fa:FuncId} (H:FnIs P f N [.t 2,.t 3] (x_ref21_views ft fv fa)) (hN:1≤N) (Ht:RTimeOk Γ P ft) (Hv:VchkOk Γ P fv) (Ha:ApOk Γ P fa):RViewsOk Γ P f:=by
 intro t hok
 refine .of_W H (by simpa using hN) ?_
 have hv:=Hv t.base hok.sm
 have ht:=Ht t.began
 unfold x_ref21_views
 simp only [tlA,Tl.ds,vwA,Vw.ds,zU,zV] at hv ⊢
 have fin:∀ (sl:Nat→A) (h:Heap) (r:Int),sl 2 = .nil→sl 3 = .int r→chkT t=r→r≠0→RetQ [.t 2,.t 3] (rvA t) .ret ⟨sl,h⟩:=fun sl h r h2 h3 hr hn=>by
  rw [rvA,if_neg (by rw [hr];exact hn),hr]
  refine ⟨.inr rfl,?_⟩
  simp only [readRs,readR,single,h2,h3]
  exact .same rfl
 refine wR ?_;simp only [xq,reduceIte,qE,qA,qL,qD]
 obtain ⟨g,hgd⟩:∃ g,g=((decide (t.first<0)||decide (999999999<t.first)) || !(decide (0≤t.began)&&decide (t.began≤maxT))):=⟨_,rfl⟩
 refine W_seq ?_
 refine W_cut (· = ⟨look [(1,.ptr 0 1 0 0),(25,.bool g)],[tlB t]⟩) (W_reg ?_) ?_
 ·refine run_take 8 fun K1 hK1=>?_
  have q1:∀ a:Int,decide ((999999999:Int)<a)=decide (999999999<a):=fun _=>rfl
  cases e1:decide (t.first<0)
  ·simp only [xq,reduceIte,qE,qA,qL,qD,Tl.ds,e1,undefA,zE]
   refine hK1 _ ?_
   clear hK1 K1
   cases e2:decide (999999999<t.first)
   ·simp only [xq,reduceIte,qE,qA,qL,qD,Tl.ds,undefA,zE]
    refine c_fn (ht) rfl ?_;simp only [xq,reduceIte,qE,qA,qL,qD]
    exact ⟨_,Co.keep _ (by simp [x_upd,x_look,hgd,e1,e2]),rfl⟩
   ·simp only [xq,reduceIte,qE,qA,qL,qD,Tl.ds,undefA,zE]
    exact ⟨_,Co.keep _ (by simp [x_upd,x_look,hgd,e1,e2]),rfl⟩
  ·simp only [xq,reduceIte,qE,qA,qL,qD,Tl.ds,e1,undefA,zE]
   refine hK1 _ ?_
   clear hK1 K1
   simp only [xq,reduceIte,qE,qA,qL,qD,undefA,zE]
   exact ⟨_,Co.keep _ (by simp [x_upd,x_look,hgd,e1]),rfl⟩
 rintro _ rfl
 have hg0:(t.first<0∨999999999<t.first∨t.began<0∨maxT<t.began)↔g=true:=by
  rw [hgd]
  simp only [Bool.or_eq_true,decide_eq_true_eq,Bool.not_eq_true',Bool.and_eq_false_iff,decide_eq_false_iff_not]
  omega
 refine W_cond rfl (fun hg=>?_) (fun hg=>W_skip ?_)
 ·refine wR ?_;simp only [xq,reduceIte,qE,qA,qL,qD]
  exact W_ret (fin _ _ 2 rfl rfl (by rw [chkT,if_pos (hg0.2 hg)]) (by decide))
 have hg1:¬ (t.first<0∨999999999<t.first∨t.began<0∨maxT<t.began):=fun h=>by rw [hg0.1 h] at hg;cases hg
 simp only [xq,reduceIte,qE,qA,qL,qD]
 refine wR ?_;simp only [xq,reduceIte,qE,qA,qL,qD,Tl.ds]
 refine c_fn (hv) rfl ?_;simp only [xq,reduceIte,qE,qA,qL,qD]
 refine W_seq ?_
 refine wR ?_;simp only [xq,reduceIte,qE,qA,qL,qD]
 refine W_cond rfl (fun hk=>?_) (fun hk=>W_skip ?_)
 ·have hk:viewC t.base≠0:=by simpa using hk
  refine wR ?_;simp only [xq,reduceIte,qE,qA,qL,qD]
  exact W_ret (fin _ _ (viewC t.base) rfl rfl (by rw [chkT,if_neg hg1,if_pos hk]) hk)
 have hk:¬ viewC t.base≠0:=by simpa using hk
 simp only [xq,reduceIte,qE,qA,qL,qD]
 refine W_seq ?_
 refine wR ?_;simp only [xq,reduceIte,qE,qA,qL,qD,Tl.ds,stRows_len]
 refine W_cond rfl (fun hl=>?_) (fun hl=>W_skip ?_)
 ·refine wR ?_;simp only [xq,reduceIte,qE,qA,qL,qD]
  exact W_ret (fin _ _ 5 rfl rfl (by rw [chkT,if_neg hg1,if_neg hk,if_pos (by have:=of_decide_eq_true hl;omega)]) (by decide))
 have hl:¬ 200<t.steps.length:=by have:=of_decide_eq_false hl;omega
 have hchk:chkT t=chkS t.began t.base t.steps:=by rw [chkT,if_neg hg1,if_neg hk,if_neg hl]
 simp only [xq,reduceIte,qE,qA,qL,qD]
 refine wR ?_;simp only [xq,reduceIte,qE,qA,qL,qD,Tl.ds]
 refine wR ?_;simp only [xq,reduceIte,qE,qA,qL,qD,Tl.ds]
 refine W_seq ?_
 refine wR ?_;simp only [xq,reduceIte,qE,qA,qL,qD]
 refine W_block ?_
 let S:Nat→Int→Heap→St:=fun i last hp=>⟨look [(1,.ptr 0 1 0 0),(5,.ref 1 (i+1) 0 (i+1) true),(6,.int last),(7,.int i)],hp⟩
 refine W_co (s':=S 0 t.began [tlB t,vwLB [t.base]]) (Co.keep _ (by simp [x_upd,x_look,Tl.ds])) ?_
 refine W_loop (fun m s=>∃ i w last hp,m=t.steps.length-i∧s=S i last hp∧TWalk t.base t.steps i w∧0≤last∧chkS last w (t.steps.drop i)=chkT t∧hp[0]? = some (tlB t)∧hp[1]? = some (vwLB ((viewsT t.base t.steps).take (i+1))))
  ⟨0,t.base,t.began,_,rfl,rfl,.zero hok,by omega,by rw [hchk];rfl,rfl,rfl⟩ ?_
 rintro m s ⟨i,w,last,hp,rfl,rfl,tw,hl0,hch,hp0,hp1⟩
 have hile:=tw.le
 have g0:∀ tt:Heap,(hp++tt)[0]? = some (tlB t):=fun tt=>hp_gl hp0
 have g1:∀ tt:Heap,(hp++tt)[1]? = some (vwLB ((viewsT t.base t.steps).take (i+1))):=fun tt=>hp_gl hp1
 have hpl:2≤hp.length:=(List.getElem?_eq_some_iff.1 hp1).1
 simp only [S]
 refine W_seq (W_seq ?_)
 refine W_reg ?_;simp only [xq,reduceIte,qE,qA,qL,qD,hp0,Tl.ds,stRows_len]
 refine W_cond rfl (fun hc=>W_skip ?_) (fun hc=>W_exit ?_)
 ·have hlt:i<t.steps.length:=by simpa using hc
  have w1:IntKind.i64.wrap ((i:Int)+1)=((i+1:Nat):Int):=by rw [i64_of (by omega)];omega
  obtain ⟨s,hs⟩:∃ s,s=t.steps[i]:=⟨_,rfl⟩
  have hrun:=tw.run hlt
  have hstep:=tw.step hlt
  have hsg:(stRows t.steps).getD i []=s.ds:=by rw [stRows_get hlt,← hs]
  rw [zd hlt,chkS] at hch
  rw [← hs] at hrun hstep hch
  have hap:=Ha w s.chs hrun.1 hrun.2
  have hts:=Ht s.time
  have hgw:=tw.getT
  have hgl:=tw.take
  generalize hvs:(viewsT t.base t.steps).take (i+1)=vs at *
  have hvl:(vwRows vs).length=i+1:=by rw [vwRows_len,hgl]
  obtain ⟨w',i',e',hq'⟩:∃ w' i' e',applyV w s.chs=(w',i',e'):=⟨_,_,_,rfl⟩
  rw [hq'] at hap hstep hch
  simp only at hstep hch
  simp only [apA,vwA,Vw.ds,zU,zV] at hap
  simp only [xq,reduceIte,qE,qA,qL,qD]
  refine W_seq (W_block ?_)
  refine wR ?_;simp only [xq,reduceIte,qE,qA,qL,qD,hp0,stRows_len,hsg,Tl.ds,Stp.ds,zQ,hp_g0,hp_s0]
  repeat refine And.intro (by omega) ?_
  refine W_seq ?_
  refine wR ?_;simp only [xq,reduceIte,qE,qA,qL,qD,hp_g0]
  refine W_cond rfl (fun h1=>?_) (fun h1=>W_skip ?_)
  ·have h1:s.time<last:=by simpa using h1
   rw [if_pos h1] at hch
   refine wR ?_;simp only [xq,reduceIte,qE,qA,qL,qD]
   exact W_ret (fin _ _ 10 rfl rfl hch.symm (by decide))
  have h1:¬ s.time<last:=by simpa using h1
  rw [if_neg h1] at hch
  simp only [xq,reduceIte,qE,qA,qL,qD]
  refine W_seq ?_
  refine wR ?_;simp only [xq,reduceIte,qE,qA,qL,qD,hp_g0]
  refine c_fn (hts) rfl ?_;simp only [xq,reduceIte,qE,qA,qL,qD]
  refine W_cond rfl (fun h2=>?_) (fun h2=>W_skip ?_)
  ·have h2:maxT<s.time:=by
    simp only [Bool.not_eq_true',Bool.and_eq_false_iff,decide_eq_false_iff_not] at h2
    omega
   rw [if_pos h2] at hch
   refine wR ?_;simp only [xq,reduceIte,qE,qA,qL,qD]
   exact W_ret (fin _ _ 2 rfl rfl hch.symm (by decide))
  have h2:¬ maxT<s.time:=by
   simp only [Bool.not_eq_false',Bool.and_eq_true,decide_eq_true_eq] at h2
   omega
  rw [if_neg h2] at hch
  simp only [xq,reduceIte,qE,qA,qL,qD]
  refine wR ?_;simp only [xq,reduceIte,qE,qA,qL,qD,hp_g0]
  refine W_seq (W_drw (by simp) ?_)
  have g1':∀ (tt u:Heap),((hp++tt)++u)[1]? = some (vwLB vs):=fun tt u=>by rw [zS];exact g1 _
  simp only [xq,reduceIte,qE,qA,qL,qD,hp_g0,hp_g1,hp_gk,hp_s0,hp_sk,g1,g1',hgw,Vw.ds,zQ,zS]
  repeat refine And.intro (by omega) ?_
  refine c_fn (hap) rfl ?_;simp only [xq,reduceIte,qE,qA,qL,qD,hp_g0,hp_g1,hp_gk,hp_s0,hp_sk,zS]
  refine W_seq (W_seq ?_)
  refine W_reg ?_;simp only [xq,reduceIte,qE,qA,qL,qD]
  refine W_cond rfl (fun h3=>?_) (fun h3=>W_skip ?_)
  ·have h3:e'≠0:=by simpa using h3
   rw [if_pos h3] at hch
   refine wR ?_;simp only [xq,reduceIte,qE,qA,qL,qD]
   exact W_ret (fin _ _ e' rfl rfl hch.symm h3)
  have h3:¬ e'≠0:=by simpa using h3
  rw [if_neg h3] at hch
  have h3:e'=0:=by simpa using h3
  subst h3
  have hw:=hstep rfl
  simp only [xq,reduceIte,qE,qA,qL,qD]
  have e1:∀ (tt:Heap) X,(hp++tt).set 1 X=hp.set 1 X++tt:=fun tt X=>List.set_append_left _ _ (by omega)
  refine W_reg ?_;simp only [xq,reduceIte,qE,qA,qL,qD,hp_g0,hp_g1,hp_gk,g1,e1,zS,hvl]
  have hts2:=hw.takeS (w:=w')
  rw [hvs] at hts2
  refine ⟨by simp only [room];omega,by simp only [maxLen];omega,?_⟩
  refine W_reg ?_;simp only [xq,reduceIte,qE,qA,qL,qD,w1]
  refine ⟨t.steps.length-(i+1),S (i+1) s.time _,by omega,Co.keep [(1,.ptr 0 1 0 0),(5,.ref 1 (i+1+1) 0 (i+1+1) true),(6,.int s.time),(7,.int ((i+1:Nat):Int))] (by simp [x_upd,x_look]),i+1,w',s.time,_,rfl,rfl,hw,by omega,hch,?_,?_⟩
  ·rw [zF (by simp;omega),List.getElem?_set_ne (by omega)];exact hp0
  ·rw [zF (by simp;omega),List.getElem?_set_self (by omega),hts2]
   show some (HB.cells eVw _)=some (HB.cells eVw ((vwRows (vs++[w'])).map fun r=>r.map A.d))
   simp only [vwRows,List.map_append];rfl
 ·have hie:i=t.steps.length:=by have:=of_decide_eq_false hc;omega
  subst hie
  rw [List.drop_length,chkS] at hch
  have hz:(viewsT t.base t.steps).take (t.steps.length+1)=viewsT t.base t.steps:=List.take_of_length_le (by rw [viewsT,za,tw.fin];exact Nat.le_refl _)
  have hvl:(viewsT t.base t.steps).length=t.steps.length+1:=by rw [viewsT,za,tw.fin]
  rw [hz] at hp1
  rw [rvA,if_pos hch.symm]
  simp only [xq,reduceIte,qE,qA,qL,qD]
  refine wR ?_;simp only [xq,reduceIte,qE,qA,qL,qD]
  refine W_ret ⟨.inr rfl,?_⟩
  simp only [readRs,readR,single,x_upd,reduceIte,qE,x_look,argS,xq,reduceIte,qE,qA,qL,qD,loadsTo]
  refine frzT2' ?_ (.same rfl)
  rw [← hvl]
  exact frz_vwL (zI _) hp1
theorem rtcheck_fn {f fv:FuncId} (H:FnIs P f N [.t 2] (x_ref21_Check fv)) (hN:1≤N) (Hv:RViewsOk Γ P fv):TCheckOk Γ P f:=by
 intro t hok
 refine .of_W H (by simpa using hN) ?_
 have hv:=Hv t hok
 obtain ⟨x,hx⟩:∃ x:A,rvA t = .tup [x,.int (chkT t)]∧x.under 0=true:=by
  rw [rvA]
  by_cases h:chkT t=0
  ·rw [if_pos h,h];exact ⟨_,rfl,rfl⟩
  ·rw [if_neg h];exact ⟨_,rfl,rfl⟩
 rw [hx.1] at hv
 unfold x_ref21_Check
 simp only [tlA,Tl.ds,zU,zV] at hv ⊢
 refine wR ?_;simp only [xq,reduceIte,qE,qA,qL,qD]
 refine wR ?_;simp only [xq,reduceIte,qE,qA,qL,qD,Tl.ds]
 refine c_fn (hv) rfl ?_;simp only [xq,reduceIte,qE,qA,qL,qD]
 refine wR ?_;simp only [xq,reduceIte,qE,qA,qL,qD]
 refine W_ret (.tmp ?_ rfl)
 simp only [x_upd,reduceIte]
end
section
variable {P:Program} {N:Nat} {Γ:Tabs}
theorem chkS_cons {b:Int} {v:Vw} {s:Stp} {l:List Stp} (hc:chkS b v (s::l)=0):b≤s.time∧(applyV v s.chs).2.2=0∧chkS s.time (applyV v s.chs).1 l=0:=by
 rw [chkS] at hc
 split at hc
 ·cases hc
 ·split at hc
  ·cases hc
  ·split at hc
   ·rename_i h1;exact absurd hc h1
   ·rename_i h1 _ h2
    exact ⟨by omega,by simpa using h2,hc⟩
theorem chkS_len:∀ {l:List Stp} {b:Int} {v:Vw},chkS b v l=0→(stepsV v l).length=l.length
 | [],_,_,_=>rfl
 | s::l,b,v,h=>by
  obtain ⟨_,h2,h3⟩:=chkS_cons h
  rw [stepsV,if_pos h2,za,za,chkS_len h3]
theorem chkS_ge:∀ {l:List Stp} {b:Int} {v:Vw},chkS b v l=0→∀ s∈l,b≤s.time
 | [],_,_,_,s,hs=>by cases hs
 | x::l,b,v,h,s,hs=>by
  obtain ⟨h1,_,h3⟩:=chkS_cons h
  rcases List.mem_cons.1 hs with rfl | hs
  ·exact h1
  ·exact Int.le_trans h1 (chkS_ge h3 s hs)
theorem cnt_pre:∀ {l:List Stp} {b n:Int} {v:Vw} {i:Nat} (hi:i<l.length),chkS b v l=0→l[i].time≤n→cntT n (l.take i)=i
 | [],_,_,_,_,hi,_,_=>by simp at hi
 | s::l,b,n,v,0,_,_,_=>rfl
 | s::l,b,n,v,i+1,hi,h,hn=>by
  obtain ⟨_,_,h3⟩:=chkS_cons h
  have hi':i<l.length:=by simpa using hi
  have hn':l[i].time≤n:=hn
  have hs:s.time≤n:=Int.le_trans (chkS_ge h3 l[i] (List.getElem_mem hi')) hn'
  have ih:=cnt_pre hi' h3 hn'
  rw [cntT] at ih ⊢
  rw [List.take_succ_cons,List.filter_cons,if_pos (by simpa using hs),za,ih]
theorem rvA_ok {t:Tl} (h:chkT t=0):rvA t = .tup [.d (.sl eVw (vwRows (viewsT t.base t.steps))),.int 0]:=by rw [rvA,if_pos h]
theorem rvA_err {t:Tl} (h:chkT t≠0):rvA t = .tup [.nil,.int (chkT t)]:=by rw [rvA,if_neg h]
theorem vwRows_get {l:List Vw} {i:Nat} {v:Vw} (h:l[i]? = some v):(vwRows l).getD i []=v.ds:=by
 rw [zC,vwRows,zK,h];rfl
set_option maxHeartbeats 2000000 in
theorem rtat_fn {f fv fl:FuncId} (H:FnIs P f N [.c 4 6 true,.t 5] (x_ref21_At fv fl)) (hN:2≤N) (Hv:RViewsOk Γ P fv) (Hl:TLastOk Γ P fl):TAtOk Γ P f:=by
 intro t n hok
 refine .of_W H (by simpa using hN) ?_
 have hv:=Hv t hok
 unfold x_ref21_At
 by_cases hk:chkT t=0
 case neg =>
  rw [rvA_err hk] at hv
  have hat:atT t n=(zeroV,chkT t):=by rw [atT,if_pos hk]
  rw [hat]
  have hd:decide (chkT t=0)=false:=decide_eq_false hk
  simp only [tlA,Tl.ds,zU,zV] at hv ⊢
  refine wR ?_;simp only [xq,reduceIte,qE,qA,qL,qD]
  refine wR ?_;simp only [xq,reduceIte,qE,qA,qL,qD,Tl.ds]
  refine c_fn (hv) rfl ?_;simp only [xq,reduceIte,qE,qA,qL,qD]
  refine W_seq ?_
  refine wR ?_;simp only [xq,reduceIte,qE,qA,qL,qD,hd]
  refine W_cond rfl (fun _=>?_) (fun h=>by cases h)
  refine wR ?_;simp only [xq,reduceIte,qE,qA,qL,qD]
  refine W_ret ⟨.inr rfl,?_⟩
  simp only [readRs,readR,single,x_upd,reduceIte,qE,x_look,argS,xq,reduceIte,qE,qA,qL,qD,loadsTo]
  exact frzT2' frz_vwZ (.same rfl)
 obtain ⟨hf,hl⟩:=chkT_b hk
 obtain ⟨_,hcs⟩:=chkT_chk hk
 have hsl:=chkS_len hcs
 have hlast:=Hl t (by omega) (by omega)
 rw [rvA_ok hk] at hv
 have hat:atT t n=if t.first≤n∧n-t.first≤((stepsV t.base t.steps).length:Int) then ((viewsT t.base t.steps).getD (n-t.first).toNat zeroV,0) else (zeroV,2):=by
  rw [atT,if_neg (by simpa using hk)];rfl
 rw [hsl] at hat
 have hvl:(viewsT t.base t.steps).length=t.steps.length+1:=by rw [viewsT,za,hsl]
 have hlt:lastT t=t.first+(t.steps.length:Int):=rfl
 rw [hlt] at hlast
 have d0:decide ((0:Int)=0)=true:=by decide
 simp only [tlA,Tl.ds,zU,zV] at hv hlast ⊢
 refine wR ?_;simp only [xq,reduceIte,qE,qA,qL,qD]
 refine wR ?_;simp only [xq,reduceIte,qE,qA,qL,qD,Tl.ds]
 refine c_fn (hv) rfl ?_;simp only [xq,reduceIte,qE,qA,qL,qD]
 refine W_seq ?_
 refine wR ?_;simp only [xq,reduceIte,qE,qA,qL,qD,d0]
 refine W_cond rfl (fun h=>by cases h) (fun _=>W_skip ?_)
 simp only [xq,reduceIte,qE,qA,qL,qD]
 obtain ⟨g,hg⟩:∃ g,g=(decide (n<t.first)||decide (t.first+(t.steps.length:Int)<n)):=⟨_,rfl⟩
 refine W_seq ?_
 refine W_cut (· = ⟨look [(1,.int n),(2,.ptr 0 1 0 0),(4,.ptr 1 1 0 0),(6,.d (.sl eVw (vwRows (viewsT t.base t.steps)))),(26,.bool g)],[tlB t,zeroB]⟩) (W_reg ?_) ?_
 ·cases e1:decide (n<t.first)
  ·simp only [xq,reduceIte,qE,qA,qL,qD,Tl.ds,e1,undefA,zE]
   refine c_fn (hlast) rfl ?_;simp only [xq,reduceIte,qE,qA,qL,qD]
   exact ⟨_,Co.keep _ (by simp [x_upd,x_look,hg,e1]),rfl⟩
  ·simp only [xq,reduceIte,qE,qA,qL,qD,Tl.ds,e1,undefA,zE]
   exact ⟨_,Co.keep _ (by simp [x_upd,x_look,hg,e1]),rfl⟩
 rintro _ rfl
 refine W_cond rfl (fun hc=>?_) (fun hc=>W_skip ?_)
 ·rw [hc] at hg
  have:¬ (t.first≤n∧n-t.first≤(t.steps.length:Int)):=by
   rcases Bool.or_eq_true_iff.1 hg.symm with h | h
   ·have:=of_decide_eq_true h;omega
   ·have:=of_decide_eq_true h;omega
  rw [hat,if_neg this]
  refine wR ?_;simp only [xq,reduceIte,qE,qA,qL,qD]
  refine W_ret ⟨.inr rfl,?_⟩
  simp only [readRs,readR,single,x_upd,reduceIte,qE,x_look,argS,xq,reduceIte,qE,qA,qL,qD,loadsTo]
  exact frzT2' frz_vwZ (.same rfl)
 rw [hc] at hg
 have hin:t.first≤n∧n-t.first≤(t.steps.length:Int):=by
  obtain ⟨h1,h2⟩:=Bool.or_eq_false_iff.1 hg.symm
  have:=of_decide_eq_false h1
  have:=of_decide_eq_false h2
  omega
 rw [hat,if_pos hin]
 obtain ⟨k,hkn⟩:∃ k:Nat,n-t.first=(k:Int):=⟨(n-t.first).toNat,by omega⟩
 have w1:IntKind.i64.wrap (n-t.first)=(k:Int):=by rw [i64_of (by omega)];exact hkn
 rw [hkn,zQ]
 obtain ⟨v,hvk⟩:∃ v,(viewsT t.base t.steps)[k]? = some v:=⟨_,List.getElem?_eq_getElem (by omega)⟩
 have hvg:=vwRows_get hvk
 rw [zC,hvk]
 have hrl:(vwRows (viewsT t.base t.steps)).length=t.steps.length+1:=by rw [vwRows_len,hvl]
 simp only [xq,reduceIte,qE,qA,qL,qD]
 refine wR ?_;simp only [xq,reduceIte,qE,qA,qL,qD,Tl.ds,w1,hvg,hrl,zQ,Vw.ds]
 repeat refine And.intro (by omega) ?_
 refine W_ret ⟨.inr rfl,?_⟩
 simp only [readRs,readR,single,x_upd,reduceIte,qE,x_look,argS,xq,reduceIte,qE,qA,qL,qD,loadsTo]
 exact frzT2' (.same rfl) (.same rfl)
set_option maxHeartbeats 2000000 in
theorem rtwhen_fn {f fv:FuncId} (H:FnIs P f N [.t 4,.t 5] (x_ref21_When fv)) (hN:2≤N) (Hv:RViewsOk Γ P fv):TWhenOk Γ P f:=by
 intro t n hok
 refine .of_W H (by simpa using hN) ?_
 have hv:=Hv t hok
 unfold x_ref21_When
 have fin:∀ (sl:Nat→A) (h:Heap) (a b:Int),sl 4 = .int a→sl 5 = .int b→whenT t n=(a,b)→RetQ [.t 4,.t 5] (.tup [.int (whenT t n).1,.int (whenT t n).2]) .ret ⟨sl,h⟩:=fun sl h a b h1 h2 hr=>by
  rw [hr]
  refine ⟨.inr rfl,?_⟩
  simp only [readRs,readR,single,h1,h2]
  exact .same rfl
 by_cases hk:chkT t=0
 case neg =>
  rw [rvA_err hk] at hv
  have hd:decide (chkT t=0)=false:=decide_eq_false hk
  simp only [tlA,Tl.ds,zU,zV] at hv ⊢
  refine wR ?_;simp only [xq,reduceIte,qE,qA,qL,qD]
  refine wR ?_;simp only [xq,reduceIte,qE,qA,qL,qD,Tl.ds]
  refine c_fn (hv) rfl ?_;simp only [xq,reduceIte,qE,qA,qL,qD]
  refine W_seq ?_
  refine wR ?_;simp only [xq,reduceIte,qE,qA,qL,qD,hd]
  refine W_cond rfl (fun _=>?_) (fun h=>by cases h)
  refine wR ?_;simp only [xq,reduceIte,qE,qA,qL,qD]
  exact W_ret (fin _ _ 0 (chkT t) rfl rfl (by rw [whenT,if_pos hk]))
 obtain ⟨hf,hl⟩:=chkT_b hk
 obtain ⟨_,hcs⟩:=chkT_chk hk
 rw [rvA_ok hk] at hv
 have d0:decide ((0:Int)=0)=true:=by decide
 simp only [tlA,Tl.ds,zU,zV] at hv ⊢
 refine wR ?_;simp only [xq,reduceIte,qE,qA,qL,qD]
 refine wR ?_;simp only [xq,reduceIte,qE,qA,qL,qD,Tl.ds]
 refine c_fn (hv) rfl ?_;simp only [xq,reduceIte,qE,qA,qL,qD]
 refine W_seq ?_
 refine wR ?_;simp only [xq,reduceIte,qE,qA,qL,qD,d0]
 refine W_cond rfl (fun h=>by cases h) (fun _=>W_skip ?_)
 simp only [xq,reduceIte,qE,qA,qL,qD]
 refine W_seq ?_
 refine wR ?_;simp only [xq,reduceIte,qE,qA,qL,qD,Tl.ds]
 refine W_cond rfl (fun h1=>?_) (fun h1=>W_skip ?_)
 ·have h1:n<t.began:=by simpa using h1
  refine wR ?_;simp only [xq,reduceIte,qE,qA,qL,qD]
  exact W_ret (fin _ _ 0 2 rfl rfl (by rw [whenT,if_neg (by simpa using hk),if_pos h1]))
 have h1:¬ n<t.began:=by simpa using h1
 have hend:whenT t n=(t.first+(cntT n t.steps:Int),0):=by rw [whenT,if_neg (by simpa using hk),if_neg h1];rfl
 simp only [xq,reduceIte,qE,qA,qL,qD]
 refine wR ?_;simp only [xq,reduceIte,qE,qA,qL,qD,Tl.ds]
 refine W_seq ?_
 refine wR ?_;simp only [xq,reduceIte,qE,qA,qL,qD]
 refine W_block ?_
 let S:Nat→St:=fun i=>⟨look [(1,.int n),(2,.ptr 0 1 0 0),(8,.int (t.first+(cntT n (t.steps.take i):Int))),(9,.int i)],[tlB t]⟩
 refine W_co (s':=S 0) (Co.keep _ (by simp [x_upd,x_look,Tl.ds,cntT])) ?_
 refine W_loop (fun m s=>∃ i,i≤t.steps.length∧m=t.steps.length-i∧s=S i) ⟨0,zI _,rfl,rfl⟩ ?_
 rintro m s ⟨i,hi,rfl,rfl⟩
 simp only [S]
 refine W_seq (W_seq ?_)
 refine W_reg ?_;simp only [xq,reduceIte,qE,qA,qL,qD,Tl.ds,stRows_len]
 refine W_cond rfl (fun hc=>W_skip ?_) (fun hc=>W_exit ?_)
 ·have hlt:i<t.steps.length:=by simpa using hc
  have w1:IntKind.i64.wrap ((i:Int)+1)=((i+1:Nat):Int):=by rw [i64_of (by omega)];omega
  have hcn:=cntT_succ (n:=n) hlt
  have hpre:=cnt_pre (n:=n) hlt hcs
  obtain ⟨s,hs⟩:∃ s,s=t.steps[i]:=⟨_,rfl⟩
  have hsg:(stRows t.steps).getD i []=s.ds:=by rw [stRows_get hlt,← hs]
  rw [← hs] at hcn hpre
  have w2:IntKind.i64.wrap (t.first+(i:Int))=t.first+(i:Int):=i64_of (by omega)
  have w3:IntKind.i64.wrap (t.first+(i:Int)+1)=t.first+((i+1:Nat):Int):=by rw [i64_of (by omega)];omega
  simp only [xq,reduceIte,qE,qA,qL,qD]
  refine W_seq (W_block ?_)
  refine wR ?_;simp only [xq,reduceIte,qE,qA,qL,qD,stRows_len,hsg,Tl.ds,Stp.ds,zQ]
  repeat refine And.intro (by omega) ?_
  refine W_cond rfl (fun h2=>?_) (fun h2=>W_skip ?_)
  ·have h2:s.time≤n:=by simpa using h2
   rw [if_pos h2,hpre h2] at hcn
   refine W_reg ?_;simp only [xq,reduceIte,qE,qA,qL,qD,Tl.ds,w2,w3]
   refine W_reg ?_;simp only [xq,reduceIte,qE,qA,qL,qD,w1]
   exact ⟨t.steps.length-(i+1),S (i+1),by omega,Co.keep _ (by simp [x_upd,x_look,hcn]),i+1,hlt,rfl,rfl⟩
  ·have h2:¬ s.time≤n:=by simpa using h2
   rw [if_neg h2] at hcn
   simp only [xq,reduceIte,qE,qA,qL,qD]
   refine W_reg ?_;simp only [xq,reduceIte,qE,qA,qL,qD,w1]
   exact ⟨t.steps.length-(i+1),S (i+1),by omega,Co.keep _ (by simp [x_upd,x_look,hcn]),i+1,hlt,rfl,rfl⟩
 ·have hie:i=t.steps.length:=by have:=of_decide_eq_false hc;omega
  subst hie
  rw [List.take_length]
  simp only [xq,reduceIte,qE,qA,qL,qD]
  refine wR ?_;simp only [xq,reduceIte,qE,qA,qL,qD]
  exact W_ret (fin _ _ _ _ rfl rfl hend)
end
section
variable {P:Program} {N:Nat} {Γ:Tabs}
abbrev RDropOk (Γ:Tabs) (P:Program) (f:FuncId):Prop:=∀ (n b:Int) (u v:Vw) (s:Stp) (l:List Stp), -1000000000000≤n∧n≤1000000000000→l.length≤1000→FnP Γ P f [tlA ⟨n,b,u,s::l⟩,vwA v] (tlA ⟨n+1,s.time,v,l⟩)
set_option maxHeartbeats 2000000 in
theorem rdropped_fn {f:FuncId} (H:FnIs P f N [.c 4 9 true] x_ref21_dropped) (hN:2≤N):RDropOk Γ P f:=by
 intro n b u v s l hn hl
 refine .of_W H (by simpa using hN) ?_
 have w1:IntKind.i64.wrap (n+1)=n+1:=i64_of (by omega)
 have hds:stRows (s::l)=s.ds::stRows l:=rfl
 have ht:∀ x:List D,List.take ((((stRows l).length+1:Nat):Int)-1).toNat (List.drop (Int.toNat 1) (x::stRows l))=stRows l:=fun x=>by
  show List.take _ (stRows l)=_
  exact List.take_of_length_le (by omega)
 unfold x_ref21_dropped
 simp only [tlA,Tl.ds,vwA,Vw.ds,zU,zV]
 refine wR ?_;simp only [xq,reduceIte,qE,qA,qL,qD]
 refine W_seq (W_drw (by simp [x_upd,x_look,look,A.touch]) ?_)
 simp only [xq,reduceIte,qE,qA,qL,qD,Tl.ds,hds,w1,Stp.ds,Vw.ds,ht]
 repeat refine And.intro (by omega) ?_
 rw [stRows_len]
 refine ⟨by simp only [room];omega,by simp only [maxLen];omega,W_ret ⟨.inr rfl,?_⟩⟩
 simp only [readRs,readR,single,x_upd,reduceIte,qE,x_look,argS,xq,reduceIte,qE,qA,qL,qD,loadsTo]
 exact frz_tlO (t:=⟨n+1,s.time,v,l⟩) (q:=3) (zI _) rfl
theorem viewsT_cons {b:Int} {v:Vw} {s:Stp} {l:List Stp} (hc:chkS b v (s::l)=0):viewsT v (s::l)=v::viewsT (applyV v s.chs).1 l:=by
 rw [viewsT,stepsV,if_pos (chkS_cons hc).2.1,viewsT]
set_option maxHeartbeats 2000000 in
theorem rtkeep_fn {f fv fd:FuncId} (H:FnIs P f N [.c 4 9 true,.t 5] (x_ref21_Keep fv fd)) (hN:2≤N) (Hv:RViewsOk Γ P fv) (Hd:RDropOk Γ P fd):TKeepOk Γ P f:=by
 intro t n hok
 refine .of_W H (by simpa using hN) ?_
 have hv:=Hv t hok
 unfold x_ref21_Keep
 by_cases hk:chkT t=0
 case neg =>
  rw [rvA_err hk] at hv
  have hr:keepT t n=(zeroT,chkT t):=by rw [keepT,if_pos hk]
  rw [hr]
  have hd:decide (chkT t=0)=false:=decide_eq_false hk
  simp only [tlA,Tl.ds,zU,zV] at hv ⊢
  refine wR ?_;simp only [xq,reduceIte,qE,qA,qL,qD]
  refine wR ?_;simp only [xq,reduceIte,qE,qA,qL,qD,Tl.ds]
  refine c_fn (hv) rfl ?_;simp only [xq,reduceIte,qE,qA,qL,qD]
  refine W_seq ?_
  refine wR ?_;simp only [xq,reduceIte,qE,qA,qL,qD,hd]
  refine W_cond rfl (fun _=>?_) (fun h=>by cases h)
  refine wR ?_;simp only [xq,reduceIte,qE,qA,qL,qD]
  refine W_ret ⟨.inr rfl,?_⟩
  simp only [readRs,readR,single,x_upd,reduceIte,qE,x_look,argS,xq,reduceIte,qE,qA,qL,qD,loadsTo]
  exact frzT2' frz_tlZ (.same rfl)
 obtain ⟨hf,hl⟩:=chkT_b hk
 obtain ⟨_,hcs⟩:=chkT_chk hk
 have hsl:=chkS_len hcs
 have hvl:(viewsT t.base t.steps).length=t.steps.length+1:=by rw [viewsT,za,hsl]
 have hrl:(vwRows (viewsT t.base t.steps)).length=t.steps.length+1:=by rw [vwRows_len,hvl]
 rw [rvA_ok hk] at hv
 have d0:decide ((0:Int)=0)=true:=by decide
 simp only [tlA,Tl.ds,zU,zV] at hv ⊢
 refine wR ?_;simp only [xq,reduceIte,qE,qA,qL,qD]
 refine wR ?_;simp only [xq,reduceIte,qE,qA,qL,qD,Tl.ds]
 refine c_fn (hv) rfl ?_;simp only [xq,reduceIte,qE,qA,qL,qD]
 refine W_seq ?_
 refine wR ?_;simp only [xq,reduceIte,qE,qA,qL,qD,d0]
 refine W_cond rfl (fun h=>by cases h) (fun _=>W_skip ?_)
 simp only [xq,reduceIte,qE,qA,qL,qD]
 refine W_seq ?_
 refine wR ?_;simp only [xq,reduceIte,qE,qA,qL,qD]
 refine W_cond rfl (fun h1=>?_) (fun h1=>W_skip ?_)
 ·have h1:n<1:=by simpa using h1
  have hr:keepT t n=(zeroT,2):=by rw [keepT,if_neg (by simpa using hk),if_pos h1]
  rw [hr]
  refine wR ?_;simp only [xq,reduceIte,qE,qA,qL,qD]
  refine W_ret ⟨.inr rfl,?_⟩
  simp only [readRs,readR,single,x_upd,reduceIte,qE,x_look,argS,xq,reduceIte,qE,qA,qL,qD,loadsTo]
  exact frzT2' frz_tlZ (.same rfl)
 have h1:¬ n<1:=by simpa using h1
 obtain ⟨r,hr0⟩:∃ r,dropK ((t.steps.length:Int)+1-n).toNat t=r:=⟨_,rfl⟩
 have hr:keepT t n=(r,0):=by rw [keepT,if_neg (by simpa using hk),if_neg h1,hr0]
 rw [hr]
 generalize hvs:viewsT t.base t.steps=vs at *
 simp only [xq,reduceIte,qE,qA,qL,qD]
 refine W_seq ?_
 refine wR ?_;simp only [xq,reduceIte,qE,qA,qL,qD]
 let S:Nat→Tl→St:=fun k t'=>⟨look [(1,.int n),(2,.ptr 0 1 0 0),(4,.ptr 1 1 0 0),(6,.d (.sl eVw (vwRows vs))),(8,.int ((k+1:Nat):Int))],[tlB t',ztl]⟩
 refine W_co (s':=S 0 t) (Co.keep _ (by simp [x_upd,x_look])) ?_
 refine W_block ?_
 ·refine W_loop (fun m s=>∃ (k:Nat) (t':Tl),m=t'.steps.length∧s=S k t'∧chkS t'.began t'.base t'.steps=0∧t'.first+(t'.steps.length:Int)=t.first+(t.steps.length:Int)∧k+t'.steps.length=t.steps.length∧viewsT t'.base t'.steps=vs.drop k∧dropK ((t'.steps.length:Int)+1-n).toNat t'=r)
   ⟨0,t,rfl,rfl,hcs,rfl,by omega,hvs,hr0⟩ ?_
  rintro m s ⟨k,t',rfl,rfl,hcs',hfl,hkl,hvd,hr'⟩
  simp only [S]
  have w2:IntKind.i64.wrap ((t'.steps.length:Int)+1)=(t'.steps.length:Int)+1:=i64_of (by omega)
  refine W_seq (W_seq ?_)
  refine W_reg ?_;simp only [xq,reduceIte,qE,qA,qL,qD,Tl.ds,stRows_len,w2]
  refine W_cond rfl (fun hc=>W_skip ?_) (fun hc=>W_exit ?_)
  ·have hge:n≤(t'.steps.length:Int):=by have:=of_decide_eq_true hc;omega
   have w1:IntKind.i64.wrap (((k+1:Nat):Int)+1)=((k+1+1:Nat):Int):=by rw [i64_of (by omega)];omega
   obtain ⟨f',b',v',st'⟩:=t'
   cases st' with
   | nil=>simp at hge;omega
   | cons s l =>
    obtain ⟨_,ha0,hcs2⟩:=chkS_cons hcs'
    have hvc:=viewsT_cons hcs'
    simp only at hvd
    rw [hvc] at hvd
    have hvk:vs[k+1]? = some (applyV v' s.chs).1:=by
     have:(vs.drop k)[1]? = some (applyV v' s.chs).1:=by rw [← hvd];rfl
     rwa [List.getElem?_drop] at this
    have hvd2:viewsT (applyV v' s.chs).1 l=vs.drop (k+1):=by rw [← List.drop_drop,← hvd];rfl
    have hdr:dropT ⟨f',b',v',s::l⟩=⟨f'+1,s.time,(applyV v' s.chs).1,l⟩:=by
     rw [dropT]
     simp only [stepsV,if_pos ha0]
     rfl
    have hvg:=vwRows_get hvk
    simp only [za] at hge hfl hkl hr'
    have hd:=Hd f' b' v' (applyV v' s.chs).1 s l (by omega) (by omega)
    rw [show (((l.length+1:Nat):Int)+1-n).toNat=((l.length:Int)+1-n).toNat+1 by omega,dropK,hdr] at hr'
    simp only [tlA,Tl.ds,vwA,Vw.ds,zU,zV] at hd
    simp only [xq,reduceIte,qE,qA,qL,qD]
    refine W_seq (W_block (W_drw (by simp) ?_))
    simp only [xq,reduceIte,qE,qA,qL,qD,zr,Tl.ds,hrl,hvg,Vw.ds,zQ]
    repeat refine And.intro (by omega) ?_
    refine c_fn (hd) rfl ?_;simp only [xq,reduceIte,qE,qA,qL,qD,Tl.ds]
    refine W_reg ?_;simp only [xq,reduceIte,qE,qA,qL,qD,w1]
    exact ⟨l.length,S (k+1) ⟨f'+1,s.time,(applyV v' s.chs).1,l⟩,by simp,Co.keep _ (by simp [x_upd,x_look]),k+1,⟨f'+1,s.time,(applyV v' s.chs).1,l⟩,rfl,rfl,hcs2,by simp only;omega,by simp only;omega,hvd2,hr'⟩
  ·have hlt:¬ n≤(t'.steps.length:Int):=by have:=of_decide_eq_false hc;omega
   rw [show ((t'.steps.length:Int)+1-n).toNat=0 by omega,dropK] at hr'
   subst hr'
   simp only [xq,reduceIte,qE,qA,qL,qD]
   refine wR ?_;simp only [xq,reduceIte,qE,qA,qL,qD,Tl.ds]
   refine W_ret ⟨.inr rfl,?_⟩
   simp only [readRs,readR,single,x_upd,reduceIte,qE,x_look,argS,xq,reduceIte,qE,qA,qL,qD,loadsTo]
   exact .same rfl
end
section
variable {P:Program} {N:Nat} {Γ:Tabs}
def qDs (t:Tl) (a b c:Int):List D:=t.ds++[.sc (.int .i64 a),.sc (.int .i64 b),.sc (.int .i64 c)]
def qA (t:Tl) (a b c:Int):A:=.agg ((qDs t a b c).map .d)
abbrev qB (t:Tl) (a b c:Int):HB:=.cells ⟨12,128⟩ [(qDs t a b c).map .d]
set_option maxHeartbeats 4000000 in
theorem queriesLaw21_fn {f fg fa f1 r1 f2 r2 f3 r3 f4 r4 fs ft:FuncId} (H:FnIs P f N [.t 2] (x_law21_TimelineQueries fg fa f1 r1 f2 r2 f3 r3 f4 r4 fs ft)) (hN:1≤N) (Hg:∀ t:Tl,FnP Γ P fg [tlA t] (.bool (greatT t))) (Ha:FnP Γ P fa [] (.bool true))
  (H1:TAtOk Γ P f1) (R1:TAtOk Γ P r1) (H2:TWhenOk Γ P f2) (R2:TWhenOk Γ P r2) (H3:TKeepOk Γ P f3) (R3:TKeepOk Γ P r3) (H4:TCheckOk Γ P f4) (R4:TCheckOk Γ P r4) (Hs:SameOk Γ P fs) (Ht:TSameOk Γ P ft)
  (t:Tl) (a b c:Int):FnP Γ P f [qA t a b c] (.bool true):=by
 refine .of_W H (by simpa using hN) ?_
 have hg:=Hg t
 unfold x_law21_TimelineQueries
 simp only [qA,qDs,tlA,Tl.ds,zU,zV,List.cons_append,List.nil_append] at hg ⊢
 refine wR ?_;simp only [xq,reduceIte,qE,qA,qL,qD]
 refine W_seq (W_drw (by simp [x_upd,x_look,look,A.touch]) ?_)
 simp only [xq,reduceIte,qE,qA,qL,qD]
 refine W_co (s':=⟨look [(3,.ptr 1 1 0 0),(4,.int a),(5,.int b),(6,.int c)],[qB t a b c,tlB t]⟩) ?_ ?_
 ·exact Co.keep _ (by simp [x_upd,x_look])
 refine W_seq ?_
 refine wR ?_;simp only [xq,reduceIte,qE,qA,qL,qD,Tl.ds]
 refine c_fn (hg) rfl ?_;simp only [xq,reduceIte,qE,qA,qL,qD]
 refine W_cond rfl (fun hc=>?_) (fun hc=>W_skip ?_)
 ·refine wR ?_;simp only [xq,reduceIte,qE,qA,qL,qD]
  refine c_fn (Ha) rfl ?_;simp only [xq,reduceIte,qE,qA,qL,qD]
  refine W_ret (.tmp ?_ rfl)
  simp only [x_upd,reduceIte]
 have hok:=greatT_tok hc
 have h1:=H1 t a hok
 have q1:=R1 t a hok
 have h2:=H2 t b hok
 have q2:=R2 t b hok
 have h3:=H3 t c hok
 have q3:=R3 t c hok
 have h4:=H4 t hok
 have q4:=R4 t hok
 obtain ⟨v,e1,hve⟩:∃ v e1,atT t a=(v,e1):=⟨_,_,rfl⟩
 rw [hve] at h1 q1
 generalize whenT t b=w at *
 obtain ⟨u,e3,hue⟩:∃ u e3,keepT t c=(u,e3):=⟨_,_,rfl⟩
 rw [hue] at h3 q3
 have hs:=Hs v v
 rw [decide_eq_true rfl] at hs
 have ht:=Ht u u
 rw [decide_eq_true rfl] at ht
 have dc:∀ x:Int,decide (x=x)=true:=fun x=>decide_eq_true rfl
 simp only [vwE,vwA,Vw.ds,tlA,Tl.ds,zU,zV] at h1 q1 h2 q2 h3 q3 h4 q4 hs ht
 simp only [xq,reduceIte,qE,qA,qL,qD]
 refine wR ?_;simp only [xq,reduceIte,qE,qA,qL,qD,Tl.ds]
 refine c_fn (h1) rfl ?_;simp only [xq,reduceIte,qE,qA,qL,qD]
 refine wR ?_;simp only [xq,reduceIte,qE,qA,qL,qD,Tl.ds]
 refine c_fn (q1) rfl ?_;simp only [xq,reduceIte,qE,qA,qL,qD]
 refine wR ?_;simp only [xq,reduceIte,qE,qA,qL,qD,Tl.ds]
 refine c_fn (h2) rfl ?_;simp only [xq,reduceIte,qE,qA,qL,qD]
 refine wR ?_;simp only [xq,reduceIte,qE,qA,qL,qD,Tl.ds]
 refine c_fn (q2) rfl ?_;simp only [xq,reduceIte,qE,qA,qL,qD]
 refine wR ?_;simp only [xq,reduceIte,qE,qA,qL,qD,Tl.ds]
 refine c_fn (h3) rfl ?_;simp only [xq,reduceIte,qE,qA,qL,qD]
 refine wR ?_;simp only [xq,reduceIte,qE,qA,qL,qD,Tl.ds]
 refine c_fn (q3) rfl ?_;simp only [xq,reduceIte,qE,qA,qL,qD]
 refine W_co (s':=⟨look [(3,.ptr 1 1 0 0),(7,.ptr 2 1 0 0),(8,.int e1),(9,.ptr 3 1 0 0),(10,.int e1),(11,.int w.1),(12,.int w.2),(13,.int w.1),(14,.int w.2),(15,.ptr 4 1 0 0),(16,.int e3),(17,.ptr 5 1 0 0),(18,.int e3)],[qB t a b c,tlB t,vwB v,vwB v,tlB u,tlB u]⟩) (Co.keep _ (by simp [x_upd,x_look])) ?_
 refine W_seq (W_drw (by simp) ?_)
 refine run_take 10 fun K1 hK1=>?_
 simp only [xq,reduceIte,qE,qA,qL,qD,zr,Tl.ds,Vw.ds]
 refine c_fn (h4) rfl ?_;simp only [xq,reduceIte,qE,qA,qL,qD,Tl.ds,Vw.ds]
 refine c_fn (q4) rfl ?_;simp only [xq,reduceIte,qE,qA,qL,qD,dc,Vw.ds,Tl.ds]
 refine c_fn (hs) rfl ?_;simp only [xq,reduceIte,qE,qA,qL,qD]
 refine hK1 _ ?_
 clear hK1 K1
 refine run_take 16 fun K1 hK1=>?_
 simp only [xq,reduceIte,qE,qA,qL,qD,dc]
 refine hK1 _ ?_
 clear hK1 K1
 refine run_take 4 fun K1 hK1=>?_
 simp only [xq,reduceIte,qE,qA,qL,qD,Tl.ds]
 refine c_fn (ht) rfl ?_;simp only [xq,reduceIte,qE,qA,qL,qD]
 refine hK1 _ ?_
 clear hK1 K1
 simp only [xq,reduceIte,qE,qA,qL,qD,dc]
 refine c_fn (Ha) rfl ?_;simp only [xq,reduceIte,qE,qA,qL,qD]
 refine W_ret (.tmp ?_ rfl)
 simp only [x_upd,reduceIte]
end
end Go.Proofs.YtlllnjhgjijnkaaGreatDoor.Nx

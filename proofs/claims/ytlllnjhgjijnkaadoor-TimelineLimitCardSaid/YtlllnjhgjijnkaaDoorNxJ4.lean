import Derived.Test.YtlllnjhgjijnkaaDoorNxJ0
import Derived.Test.YtlllnjhgjijnkaaDoorNxD15
set_option linter.unusedSimpArgs false
set_option linter.unusedVariables false
set_option linter.unnecessarySimpa false
open List renaming getElem?_eq_some_iff → zA, append_assoc → zS, map_cons → zU, map_nil → zV, not_mem_nil → zc, mem_cons → zp
open Bool renaming true_eq_false → zE
open Nat renaming zero_le → zI, le_refl → zL
open Int renaming toNat_natCast → zQ
open Nat renaming reduceEqDiff → qE, reduceAdd → qA, reduceLT → qL, reduceLeDiff → qD
namespace Go.Proofs.YtlllnjhgjijnkaaDoor.Nx
open Go
variable {P:Program} {N:Nat} {Γ:Tabs}
abbrev rwLB (l:List (List Gl)):HB:=.cells eRw ((rwRows l).map fun r=>r.map A.d)
theorem cloneRwO_fn {f:FuncId} {Δ:Ctx} (H:FnIs P f N [.t 2] x_slices_Clone_164) (hN:1≤N) (l:List (List Gl)) (h:Heap) (hb:Δ.b≤h.length) :
  FnD Δ P f [.d (.sl eRw (rwRows l))] h (.ref h.length l.length 0 l.length true) (h++[.cells eRw ((rwRows l).map fun r=>r.map A.d)]):=by
 refine .of_W H (by simpa using hN) hb (W_sl 0 rfl fun ⟨hm,hroom,_⟩=>?_)
 rw [rwRows_len] at hm hroom
 unfold x_slices_Clone_164
 refine W_nil 0 rfl (fun h0=>?_) ?_
 ·have:l=[]:=List.map_eq_nil_iff.1 h0
  subst this
  refine wR ?_;simp only [xq,reduceIte,qE,qA,qL,qD]
  refine W_seq ?_
  refine wR ?_;simp only [xq,reduceIte,qE,qA,qL,qD,x_eqnil,EqNil]
  refine W_cond (t:=true) (by simp [ev,x_upd]) (fun _=>?_) (fun h=>by cases h)
  refine wR ?_;simp only [xq,reduceIte,qE,qA,qL,qD]
  refine W_co (Co.nil 2 eRw (by decide) (by simp [x_upd])) ?_
  refine W_ret ⟨.inr rfl,?_⟩
  simp only [readRs,readR,single,x_upd,reduceIte,qE,x_look,xq,reduceIte,qE,qA,qL,qD]
  rfl
 ·refine wR ?_;simp only [xq,reduceIte,qE,qA,qL,qD]
  refine W_seq ?_
  refine wR ?_;simp only [xq,reduceIte,qE,qA,qL,qD,x_eqnil,EqNil]
  refine W_cond (t:=false) (by simp [ev,x_upd]) (fun h=>by cases h) (fun _=>W_skip ?_)
  simp only [xq,reduceIte,qE,qA,qL,qD]
  refine wR ?_;simp only [xq,reduceIte,qE,qA,qL,qD,hp_g0,hp_s0,rwRows_len]
  refine ⟨hroom,hm,W_ret ⟨.inr rfl,?_⟩⟩
  simp only [readRs,readR,single,x_upd,reduceIte,qE,x_look,xq,reduceIte,qE,qA,qL,qD]
theorem cloneStO_fn {f:FuncId} {Δ:Ctx} (H:FnIs P f N [.t 2] x_slices_Clone_424) (hN:1≤N) (l:List Stp) (h:Heap) (hb:Δ.b≤h.length) :
  FnD Δ P f [.d (.sl eSt (stRows l))] h (.ref h.length l.length 0 l.length true) (h++[.cells eSt ((stRows l).map fun r=>r.map A.d)]):=by
 refine .of_W H (by simpa using hN) hb (W_sl 0 rfl fun ⟨hm,hroom,_⟩=>?_)
 rw [stRows_len] at hm hroom
 unfold x_slices_Clone_424
 refine W_nil 0 rfl (fun h0=>?_) ?_
 ·have:l=[]:=List.map_eq_nil_iff.1 h0
  subst this
  refine wR ?_;simp only [xq,reduceIte,qE,qA,qL,qD]
  refine W_seq ?_
  refine wR ?_;simp only [xq,reduceIte,qE,qA,qL,qD,x_eqnil,EqNil]
  refine W_cond (t:=true) (by simp [ev,x_upd]) (fun _=>?_) (fun h=>by cases h)
  refine wR ?_;simp only [xq,reduceIte,qE,qA,qL,qD]
  refine W_co (Co.nil 2 eSt (by decide) (by simp [x_upd])) ?_
  refine W_ret ⟨.inr rfl,?_⟩
  simp only [readRs,readR,single,x_upd,reduceIte,qE,x_look,xq,reduceIte,qE,qA,qL,qD]
  rfl
 ·refine wR ?_;simp only [xq,reduceIte,qE,qA,qL,qD]
  refine W_seq ?_
  refine wR ?_;simp only [xq,reduceIte,qE,qA,qL,qD,x_eqnil,EqNil]
  refine W_cond (t:=false) (by simp [ev,x_upd]) (fun h=>by cases h) (fun _=>W_skip ?_)
  simp only [xq,reduceIte,qE,qA,qL,qD]
  refine wR ?_;simp only [xq,reduceIte,qE,qA,qL,qD,hp_g0,hp_s0,stRows_len]
  refine ⟨hroom,hm,W_ret ⟨.inr rfl,?_⟩⟩
  simp only [readRs,readR,single,x_upd,reduceIte,qE,x_look,xq,reduceIte,qE,qA,qL,qD]
theorem cloneCgO_fn {f:FuncId} {Δ:Ctx} (H:FnIs P f N [.t 2] x_slices_Clone_772) (hN:1≤N) (l:List Cg) (h:Heap) (hb:Δ.b≤h.length) :
  FnD Δ P f [.d (.sl eCg (cgRows l))] h (.ref h.length l.length 0 l.length true) (h++[.cells eCg ((cgRows l).map fun r=>r.map A.d)]):=by
 refine .of_W H (by simpa using hN) hb (W_sl 0 rfl fun ⟨hm,hroom,_⟩=>?_)
 rw [cgRows_len] at hm hroom
 unfold x_slices_Clone_772
 refine W_nil 0 rfl (fun h0=>?_) ?_
 ·have:l=[]:=List.map_eq_nil_iff.1 h0
  subst this
  refine wR ?_;simp only [xq,reduceIte,qE,qA,qL,qD]
  refine W_seq ?_
  refine wR ?_;simp only [xq,reduceIte,qE,qA,qL,qD,x_eqnil,EqNil]
  refine W_cond (t:=true) (by simp [ev,x_upd]) (fun _=>?_) (fun h=>by cases h)
  refine wR ?_;simp only [xq,reduceIte,qE,qA,qL,qD]
  refine W_co (Co.nil 2 eCg (by decide) (by simp [x_upd])) ?_
  refine W_ret ⟨.inr rfl,?_⟩
  simp only [readRs,readR,single,x_upd,reduceIte,qE,x_look,xq,reduceIte,qE,qA,qL,qD]
  rfl
 ·refine wR ?_;simp only [xq,reduceIte,qE,qA,qL,qD]
  refine W_seq ?_
  refine wR ?_;simp only [xq,reduceIte,qE,qA,qL,qD,x_eqnil,EqNil]
  refine W_cond (t:=false) (by simp [ev,x_upd]) (fun h=>by cases h) (fun _=>W_skip ?_)
  simp only [xq,reduceIte,qE,qA,qL,qD]
  refine wR ?_;simp only [xq,reduceIte,qE,qA,qL,qD,hp_g0,hp_s0,cgRows_len]
  refine ⟨hroom,hm,W_ret ⟨.inr rfl,?_⟩⟩
  simp only [readRs,readR,single,x_upd,reduceIte,qE,x_look,xq,reduceIte,qE,qA,qL,qD]
theorem frzC {k:Nat} {h:Heap} {x y:A} {l l':List A} (hx:FrzA k h x y) (hl:FrzA k h (.agg l) (.agg l')):FrzA k h (.agg (x::l)) (.agg (y::l')):=by
 cases hl with
 | same hu =>
  refine .agg rfl fun j z hj=>?_
  rcases j with _ | j
  ·cases hj;exact hx
  ·simp only [List.getElem?_cons_succ] at hj
   rw [List.getD_cons_succ,List.getD_eq_getElem?_getD,hj]
   exact .same (A.underL_get (by simpa [A.under] using hu) hj)
 | agg hl hr =>
  refine .agg (by simp [hl]) fun j z hj=>?_
  rcases j with _ | j
  ·cases hj;exact hx
  ·simp only [List.getElem?_cons_succ] at hj
   rw [List.getD_cons_succ]
   exact hr j z hj
theorem frzS {k:Nat} {h:Heap} {x:A} {l l':List A} (hx:x.under k=true) (hl:FrzA k h (.agg l) (.agg l')):FrzA k h (.agg (x::l)) (.agg (x::l')):=frzC (.same hx) hl
theorem frzNil {k:Nat} {h:Heap}:FrzA k h (.agg []) (.agg []):=.same rfl
theorem put_same {rows:List (List D)} {i:Nat} {r:List A} (hr:(rows.map fun r=>r.map A.d)[i]? = some r):(rows.map fun r=>r.map A.d).set i r=rows.map fun r=>r.map A.d:=by
 obtain ⟨hlt,heq⟩:=zA.1 hr
 rw [← heq];exact List.set_getElem_self hlt
theorem rw_at {l:List (List Gl)} {i:Nat} (hi:i<l.length):((rwRows l).map fun r=>r.map A.d)[i]? = some [.d (.sl eGl (glRows l[i]))]:=by
 simp [rwRows,hi]
theorem st_at {l:List Stp} {i:Nat} (hi:i<l.length):((stRows l).map fun r=>r.map A.d)[i]? = some [.int l[i].time,cgsA l[i].chs]:=by
 simp [stRows,hi,Stp.ds]
theorem cg_at {l:List Cg} {i:Nat} (hi:i<l.length):((cgRows l).map fun r=>r.map A.d)[i]? = some (l[i].ds.map .d):=by
 simp [cgRows,hi]
theorem frz_rw {k q:Nat} {h:Heap} {l:List (List Gl)} (hk:k≤q) (hq:h[q]? = some (rwLB l)):FrzA k h (.ref q l.length 0 l.length true) (.d (.sl eRw (rwRows l))):=by
 have:=frzD_rows (k:=k) (id:=q) (off:=0) (len:=l.length) (full:=true) (e:=eRw) (rows:=rwRows l) hk hq (by rw [rwRows_len];omega)
 rw [rwRows_len,List.drop_zero,List.take_of_length_le (by rw [rwRows_len];exact zL _)] at this
 exact .d this
theorem frz_st {k q:Nat} {h:Heap} {l:List Stp} (hk:k≤q) (hq:h[q]? = some (stB l)):FrzA k h (.ref q l.length 0 l.length true) (stsA l):=by
 have:=frzD_rows (k:=k) (id:=q) (off:=0) (len:=l.length) (full:=true) (e:=eSt) (rows:=stRows l) hk hq (by rw [stRows_len];omega)
 rw [stRows_len,List.drop_zero,List.take_of_length_le (by rw [stRows_len];exact zL _)] at this
 exact .d this
theorem frz_vwO {k q:Nat} {h:Heap} {v:Vw} (hk:k≤q) (hq:h[q]? = some (rwLB v.rows)):FrzA k h (.agg [.int v.width,.int v.height,.ref q v.rows.length 0 v.rows.length true,.int v.row,.int v.col,.bool v.vis]) (vwA v) :=
 frzS rfl (frzS rfl (frzC (frz_rw hk hq) (frzS rfl (frzS rfl (frzS rfl frzNil)))))
set_option maxHeartbeats 1000000 in
theorem own_fn {f fc fg:FuncId} {Nc:Nat} (H:FnIs P f N [.c 2 6 true] (x_timeline_own fc fg)) (hN:1≤N) (Hc:FnIs P fc Nc [.t 2] x_slices_Clone_164) (hNc:1≤Nc)
  (Hg:∀ rows:List (List D),FnP Γ P fg [.d (.sl eGl rows)] (.d (.sl eGl rows))):OwnOk Γ P f:=by
 intro v
 refine .of_W H (by simpa using hN) ?_
 unfold x_timeline_own
 simp only [vwA,Vw.ds,zU,zV]
 refine W_aggsl 0 2 rfl rfl fun ⟨_,hmx,_⟩=>?_
 rw [rwRows_len] at hmx
 have hmx:=le_of_mul hmx
 simp only [room] at hmx
 refine wR ?_;simp only [xq,reduceIte,qE,qA,qL,qD]
 refine wR ?_;simp only [xq,reduceIte,qE,qA,qL,qD]
 refine ce_fn (cloneRwO_fn (Δ:=Γ.ctx) Hc hNc v.rows _ (zI _)) ?_
 simp only [xq,reduceIte,qE,qA,qL,qD]
 refine W_seq ?_
 refine wR ?_;simp only [xq,reduceIte,qE,qA,qL,qD,rwRows_len]
 refine W_block ?_
 let H0:Heap:=[.cells eVw [[.int v.width,.int v.height,.ref 2 v.rows.length 0 v.rows.length true,.int v.row,.int v.col,.bool v.vis]],zeroB,rwLB v.rows]
 let S:Nat→St:=fun i=>⟨look [(1,.ptr 0 1 0 0),(2,.ptr 1 1 0 0),(10,.int v.rows.length),(11,.int i)],H0⟩
 refine W_co (s':=S 0) (Co.keep _ (by simp [x_upd,x_look])) ?_
 refine W_loop (fun m s=>∃ i,i≤v.rows.length∧m=v.rows.length-i∧s=S i) ⟨0,zI _,rfl,rfl⟩ ?_
 rintro m s ⟨i,hi,rfl,rfl⟩
 simp only [S]
 refine wR ?_;simp only [xq,reduceIte,qE,qA,qL,qD]
 refine W_seq (W_cond rfl (fun hc=>W_skip ?_) (fun hc=>W_exit ?_))
 ·have hlt:i<v.rows.length:=by simpa using hc
  have w1:IntKind.i64.wrap ((i:Int)+1)=((i+1:Nat):Int):=by rw [i64_of (by omega)];omega
  simp only [xq,reduceIte,qE,qA,qL,qD]
  refine W_seq (W_block ?_)
  refine wR ?_;simp only [xq,reduceIte,qE,qA,qL,qD]
  refine W_drw (by simp) ?_
  simp only [xq,reduceIte,qE,qA,qL,qD,H0,rwRows_len,rw_at hlt,zQ]
  repeat refine And.intro (by omega) ?_
  refine c_fn (Hg (glRows v.rows[i])) rfl ?_;simp only [xq,reduceIte,qE,qA,qL,qD,rwRows_len,rw_at hlt,zQ]
  repeat refine And.intro (by omega) ?_
  simp only [put_same (rw_at hlt)]
  refine W_reg ?_;simp only [xq,reduceIte,qE,qA,qL,qD,w1]
  exact ⟨v.rows.length-(i+1),S (i+1),by omega,Co.keep _ (by simp [x_upd,x_look]),i+1,hlt,rfl,rfl⟩
 ·simp only [xq,reduceIte,qE,qA,qL,qD,H0]
  refine wR ?_;simp only [xq,reduceIte,qE,qA,qL,qD]
  refine W_ret ⟨.inr rfl,?_⟩
  simp only [readRs,readR,single,x_upd,reduceIte,qE,x_look,argS,xq,reduceIte,qE,qA,qL,qD,loadsTo]
  exact frz_vwO (q:=2) (zI _) rfl
theorem under_up {n m:Nat} {B:HB} (h:HB.under n B) (hm:n≤m):HB.under m B:=by
 cases B with
 | cells e rows=>exact fun r hr x hx=>A.under_mono (h r hr x hx) hm
 | _=>trivial
theorem under_data {n:Nat} {e:Elt} {rows:List (List D)}:HB.under n (.cells e (rows.map fun r=>r.map A.d)):=by
 intro r hr x hx
 obtain ⟨r',_,rfl⟩:=List.mem_map.1 hr
 obtain ⟨d,_,rfl⟩:=List.mem_map.1 hx
 rfl
theorem W_blk {Γ:Ctx} {rl:Option Nat} {n0:Nat} {c:XC} {Q:Exit→St→Prop} {s:St} (id:Nat) {e:Elt} {rows:List (List A)} (hh:s.heap[id]? = some (.cells e rows)) (h:rows.length * e.bytes≤room→W Γ P N rl n0 c Q s):W Γ P N rl n0 c Q s :=
 W_fact (fun z M ρ a w S=>(S.sim.cells id e rows hh).2.1) h
abbrev tlX (t:Tl) (x:A):HB:=.cells eTl [tlW t x]
abbrev ztl:HB:=.cells eTl [[.int 0,.int 0,.int 0,.int 0,.nil,.int 0,.int 0,.bool false,.nil]]
theorem frz_tlO {k q:Nat} {h:Heap} {t:Tl} (hk:k≤q) (hq:h[q]? = some (stB t.steps)):FrzA k h (.agg (tlW t (.ref q t.steps.length 0 t.steps.length true))) (tlA t) :=
 frzS rfl (frzS rfl (frzS rfl (frzS rfl (frzS rfl (frzS rfl (frzS rfl (frzS rfl (frzC (frz_st hk hq) frzNil))))))))
set_option maxHeartbeats 2000000 in
theorem copied_fn {f fo fs fc fg:FuncId} {Ns Nc:Nat} {Δ:Ctx} (H:FnIs P f N [.c 2 9 true] (x_timeline_copied fo fs fc fg)) (hN:1≤N) (Ho:OwnOk Δ.t P fo) (Hs:FnIs P fs Ns [.t 2] x_slices_Clone_424) (hNs:1≤Ns)
  (Hc:FnIs P fc Nc [.t 2] x_slices_Clone_772) (hNc:1≤Nc) (Hg:∀ rows:List (List D),FnP Δ.t P fg [.d (.sl eGl rows)] (.d (.sl eGl rows))) (t:Tl) (h:Heap) (hb:Δ.b≤h.length) :
  FnD Δ P f [tlA t] h (.agg (tlW t (.ref (h.length+2) t.steps.length 0 t.steps.length true))) (h++[tlX t (.ref (h.length+2) t.steps.length 0 t.steps.length true),tlX t (.ref (h.length+2) t.steps.length 0 t.steps.length true),stB t.steps]):=by
 refine .of_W H (by simpa using hN) hb (W_under fun hu=>?_)
 have ho:=Ho t.base
 unfold x_timeline_copied
 simp only [vwA,Vw.ds,tlA,Tl.ds,zU,zV] at ho ⊢
 refine W_aggsl 0 8 rfl rfl fun ⟨_,hmx,hel⟩=>?_
 rw [stRows_len] at hmx
 have hmx:=le_of_mul hmx
 simp only [room] at hmx
 refine wR ?_;simp only [xq,reduceIte,qE,qA,qL,qD]
 refine W_seq (W_drw (by simp) ?_)
 simp only [xq,reduceIte,qE,qA,qL,qD,hp_g0,hp_g1,hp_gk,hp_s0,hp_sk,zS]
 refine c_fn (ho) rfl ?_;simp only [xq,reduceIte,qE,qA,qL,qD,hp_g0,hp_g1,hp_gk,hp_s0,hp_sk,zS]
 refine cr_fn (cloneStO_fn Hs hNs t.steps _ (by simp;omega)) ?_
 simp only [xq,reduceIte,qE,qA,qL,qD,hp_g0,hp_g1,hp_gk,hp_s0,hp_sk,zS]
 let x:A:=.ref (h.length+2) t.steps.length 0 t.steps.length true
 let H0:Heap:=h++[tlX t x,ztl,stB t.steps]
 refine W_co (s':=⟨look [(1,.ptr h.length 1 0 0),(2,.ptr (h.length+1) 1 0 0)],H0⟩) (Co.keep _ (by simp [x_upd,x_look])) ?_
 simp only [H0,x]
 refine W_seq ?_
 refine wR ?_;simp only [xq,reduceIte,qE,qA,qL,qD,hp_g0,hp_g1,hp_gk,hp_s0,hp_sk,zS,stRows_len,tlW]
 refine W_block ?_
 let S:Nat→St:=fun i=>⟨look [(1,.ptr h.length 1 0 0),(2,.ptr (h.length+1) 1 0 0),(16,.int t.steps.length),(17,.int i)],H0⟩
 refine W_co (s':=S 0) (Co.keep _ (by simp [x_upd,x_look])) ?_
 refine W_loop (fun m s=>∃ i,i≤t.steps.length∧m=t.steps.length-i∧s=S i) ⟨0,zI _,rfl,rfl⟩ ?_
 rintro m s ⟨i,hi,rfl,rfl⟩
 simp only [S,H0,x]
 refine wR ?_;simp only [xq,reduceIte,qE,qA,qL,qD]
 refine W_seq (W_cond rfl (fun hc=>W_skip ?_) (fun hc=>W_exit ?_))
 ·have hlt:i<t.steps.length:=by simpa using hc
  have w1:IntKind.i64.wrap ((i:Int)+1)=((i+1:Nat):Int):=by rw [i64_of (by omega)];omega
  obtain ⟨s,hs⟩:∃ s,s=t.steps[i]:=⟨_,rfl⟩
  have hst:=st_at hlt
  rw [← hs] at hst
  simp only [xq,reduceIte,qE,qA,qL,qD]
  refine W_seq (W_block ?_)
  refine wR ?_;simp only [xq,reduceIte,qE,qA,qL,qD]
  refine wR ?_;simp only [xq,reduceIte,qE,qA,qL,qD,hp_g0,hp_g1,hp_gk,hp_s0,hp_sk,zS,stRows_len,tlW,hst,zQ]
  repeat refine And.intro (by omega) ?_
  refine ce_fn (cloneCgO_fn Hc hNc s.chs _ (by simp;omega)) ?_
  simp only [xq,reduceIte,qE,qA,qL,qD,zS]
  let H1:Heap:=h++[tlX t x,ztl,stB t.steps,cgLB s.chs]
  have e31:H1.take (h.length+3)=h++[tlX t x,ztl,stB t.steps]:=by simp [H1,List.take_append,List.take_of_length_le]
  refine W_co (s':=⟨look [(1,.ptr h.length 1 0 0),(2,.ptr (h.length+1) 1 0 0),(3,.int i),(4,.ref (h.length+3) s.chs.length 0 s.chs.length true),(16,.int t.steps.length),(17,.int i)],H1⟩) (Co.keep _ (by simp [x_upd,x_look])) ?_
  refine W_cut (· = ⟨look [(1,.ptr h.length 1 0 0),(2,.ptr (h.length+1) 1 0 0),(3,.int i),(4,cgsA s.chs),(16,.int t.steps.length),(17,.int i)],H0⟩) ?_ ?_
  ·simp only [H1]
   refine W_blk (h.length+3) (e:=eCg) (rows:=(cgRows s.chs).map fun r=>r.map A.d) hp_gk fun hcb=>?_
   rw [List.length_map,cgRows_len] at hcb
   have hcb:=le_of_mul hcb
   simp only [room] at hcb
   refine wR ?_;simp only [xq,reduceIte,qE,qA,qL,qD,hp_gk,cgRows_len]
   refine W_block ?_
   let S2:Nat→St:=fun j=>⟨look [(1,.ptr h.length 1 0 0),(2,.ptr (h.length+1) 1 0 0),(3,.int i),(4,.ref (h.length+3) s.chs.length 0 s.chs.length true),(16,.int t.steps.length),(17,.int i),(28,.int s.chs.length),(29,.int j)],H1⟩
   refine W_co (s':=S2 0) (Co.keep _ (by simp [x_upd,x_look])) ?_
   refine W_loop (fun m s'=>∃ j,j≤s.chs.length∧m=s.chs.length-j∧s'=S2 j) ⟨0,zI _,rfl,rfl⟩ ?_
   rintro m s' ⟨j,hj,rfl,rfl⟩
   simp only [S2,H1]
   refine wR ?_;simp only [xq,reduceIte,qE,qA,qL,qD]
   refine W_seq (W_cond rfl (fun hc=>W_skip ?_) (fun hc=>W_exit ?_))
   ·have hjl:j<s.chs.length:=by simpa using hc
    have w2:IntKind.i64.wrap ((j:Int)+1)=((j+1:Nat):Int):=by rw [i64_of (by omega)];omega
    obtain ⟨c,hcc⟩:∃ c,c=s.chs[j]:=⟨_,rfl⟩
    have hcg:=cg_at hjl
    rw [← hcc] at hcg
    have hcg2:=put_same hcg
    simp only [Cg.ds,zU,zV] at hcg hcg2
    simp only [xq,reduceIte,qE,qA,qL,qD]
    refine W_seq (W_block ?_)
    refine wR ?_;simp only [xq,reduceIte,qE,qA,qL,qD]
    refine W_reg ?_;simp only [xq,reduceIte,qE,qA,qL,qD,hp_gk,cgRows_len,hcg,zQ]
    repeat refine And.intro (by omega) ?_
    refine c_fn (Hg (glRows c.gl)) rfl ?_;simp only [xq,reduceIte,qE,qA,qL,qD,hp_gk,hp_sk,cgRows_len,hcg,zQ]
    repeat refine And.intro (by omega) ?_
    simp only [hcg2]
    refine W_reg ?_;simp only [xq,reduceIte,qE,qA,qL,qD,w2]
    exact ⟨s.chs.length-(j+1),S2 (j+1),by omega,Co.keep _ (by simp [x_upd,x_look]),j+1,hjl,rfl,rfl⟩
   ·simp only [xq,reduceIte,qE,qA,qL,qD]
    refine ⟨_,Co.frz (s:=⟨_,H1⟩) [(1,.ptr h.length 1 0 0),(2,.ptr (h.length+1) 1 0 0),(3,.int i),(4,cgsA s.chs),(16,.int t.steps.length),(17,.int i)] (h.length+3) ?_ (by omega) (by simp [H1]) ?_,?_⟩
    ·intro p hp
     simp only [zp,zc,or_false] at hp
     rcases hp with rfl | rfl | rfl | rfl | rfl | rfl
     ·exact .same (by simp [A.under,x_upd,x_look])
     ·exact .same (by simp [A.under,x_upd,x_look])
     ·exact .same rfl
     ·exact frz_cgs (by omega) hp_gk
     ·exact .same rfl
     ·exact .same rfl
    ·show ∀ B∈H1.take (h.length+3),HB.under (h.length+3) B
     rw [e31]
     intro B hB
     rcases List.mem_append.1 hB with hB | hB
     ·exact under_up (hu B hB) (Nat.le_add_right _ _)
     ·simp only [zp,zc,or_false] at hB
      rcases hB with rfl | rfl | rfl
      ·intro r hr y hy
       simp only [zp,zc,or_false] at hr
       subst hr
       simp only [tlW,zp,zc,or_false] at hy
       rcases hy with rfl | rfl | rfl | rfl | rfl | rfl | rfl | rfl | rfl<;>simp [A.under,x]
      ·intro r hr y hy
       simp only [zp,zc,or_false] at hr
       subst hr
       simp only [zp,zc,or_false] at hy
       rcases hy with rfl | rfl | rfl | rfl | rfl | rfl | rfl | rfl | rfl<;>rfl
      ·exact under_data
    ·show (⟨_,H1.take (h.length+3)⟩:St)=_
     rw [e31]
  rintro _ rfl
  simp only [H0,x]
  have hst2:=put_same hst
  refine W_reg ?_;simp only [xq,reduceIte,qE,qA,qL,qD,hp_g0,hp_g1,hp_gk,hp_s0,hp_sk,zS,stRows_len,tlW,hst,zQ]
  repeat refine And.intro (by omega) ?_
  simp only [hst2]
  refine W_reg ?_;simp only [xq,reduceIte,qE,qA,qL,qD,w1]
  exact ⟨t.steps.length-(i+1),S (i+1),by omega,Co.keep _ (by simp [x_upd,x_look]),i+1,hlt,rfl,rfl⟩
 ·have hle:i=t.steps.length:=by simp at hc;omega
  subst hle
  simp only [xq,reduceIte,qE,qA,qL,qD]
  refine wR ?_;simp only [xq,reduceIte,qE,qA,qL,qD,hp_g0,hp_g1,hp_gk,hp_s0,hp_sk,zS,tlW]
  refine W_ret ⟨.inr rfl,?_⟩
  simp only [readRs,readR,single,x_upd,reduceIte,qE,x_look,argS,xq,reduceIte,qE,qA,qL,qD,loadsTo,hp_g0,hp_g1,hp_gk]
  rfl
end Go.Proofs.YtlllnjhgjijnkaaDoor.Nx
namespace Go.Proofs.YtlllnjhgjijnkaaDoor.Nx
open Go
variable {P:Program} {N:Nat} {Γ:Tabs}
theorem views_fn {f f1:FuncId} (H:FnIs P f N [.t 2] (x_timeline_views f1)) (hN:1≤N) (t:Tl):FnP Γ P f [tlA t] (.fn f1 [.iptr t.ds]):=by
 refine .of_W H (by simpa using hN) ?_
 unfold x_timeline_views
 simp only [tlA,Tl.ds,zU,zV]
 refine wR ?_;simp only [xq,reduceIte,qE,qA,qL,qD]
 refine wR ?_;simp only [xq,reduceIte,qE,qA,qL,qD]
 refine W_ret (.frz ?_)
 simp only [xq,reduceIte,qE,qA,qL,qD]
 refine .fn rfl fun j y hj=>?_
 rcases j with _ | j
 ·cases hj;exact frz_box (zI _) (e:=eTl) (ds:=t.ds) rfl
 ·simp at hj
theorem Turn.setOwn {L L':List (Nat × HB)} {h h':Heap} (T:Turn L L' h h') {q:Nat} {X:HB} (hq:h.length≤q) (hn:q ∉ ids L'):Turn L L' h (h'.set q X) :=
 ⟨T.has.set hn X,by rw [List.length_set];exact T.len,fun p hp hnp=>by rw [List.getElem?_set_ne (by omega)];exact T.keep p hp hnp,T.new⟩
set_option maxHeartbeats 4000000 in
theorem views1_gen {f fa:FuncId} (H:FnIs P f N [] (x_timeline_views_1 fa)) (hN:2≤N) (Ha:ApOk Γ P fa) (t:Tl) (hok:TOk t.base t.steps) (hf : -1000000000000≤t.first∧t.first≤1000000000000) (hl:t.steps.length≤1000000) :
  GenD Γ P f [.iptr t.ds] (tlXs t.first t.base t.steps):=by
 refine ⟨H.enters,fun env bb id I E rounds L h hI hL hbb=>?_⟩
 refine .of_WT H (by simpa using hN) hbb (W_noTabs ?_)
 unfold x_timeline_views_1
 have hq:h.length ∉ ids L:=fun hm=>absurd (hL.lt _ hm) (Nat.lt_irrefl _)
 have Ta:=Turn.app hL [vwB t.base]
 have hlen2:bb≤(h++[vwB t.base]).length:=by simp;omega
 have hx0:=tlXs_get (f:=t.first) (v:=t.base) (l:=t.steps) (k:=0) rfl
 rw [show t.first+((0:Nat):Int)=t.first by omega] at hx0
 refine wR ?_;simp only [xq,reduceIte,qE,qA,qL,qD,Tl.ds,hp_g0,hp_s0]
 refine W_seq (W_seq ?_)
 rcases rounds _ _ L _ hx0 hI Ta.has hlen2 with ⟨L2,h2,hR,T2,hI2⟩ | ⟨L2,h2,hR,T2,hE2⟩
 ·simp only [vwA,Vw.ds,zU,zV] at hR
  refine W_reg ?_;simp only [xq,reduceIte,qE,qA,qL,qD,Tl.ds,hp_g0]
  refine ce_yld hR ?_
  simp only [xq,reduceIte,qE,qA,qL,qD]
  refine W_cond rfl (fun hd=>by cases hd) (fun _=>W_skip ?_)
  simp only [xq,reduceIte,qE,qA,qL,qD]
  refine W_seq ?_
  refine W_reg ?_;simp only [xq,reduceIte,qE,qA,qL,qD,Tl.ds,stRows_len]
  refine W_block ?_
  let S:Nat→Heap→St:=fun i hh=>⟨look [(0,.yld id),(1,.iptr t.ds),(3,.ptr h.length 1 0 0),(18,stsA t.steps),(19,.int t.steps.length),(20,.int i)],hh⟩
  refine W_co (s':=S 0 h2) (Co.keep _ (by simp [x_upd,x_look,Tl.ds])) ?_
  have hq2:h.length ∉ ids L2:=fun hm=>by
   rcases T2.new _ hm with h1 | h1
   ·exact hq h1
   ·simp at h1;omega
  have hv2:h2[h.length]? = some (vwB t.base):=by rw [T2.keep _ (by simp) hq];exact hp_g0
  refine W_loop (fun m s=>∃ i w L' hh,m=t.steps.length-i∧s=S i hh∧TWalk t.base t.steps i w∧Turn L L' h hh∧I (i+1) L'∧hh[h.length]? = some (vwB w)∧h.length ∉ ids L')
   ⟨0,t.base,L2,h2,rfl,rfl,.zero hok,Ta.trans T2,hI2,hv2,hq2⟩ ?_
  rintro m s ⟨i,w,L',hh,rfl,rfl,tw,T,hI',hv,hqn⟩
  have hile:=tw.le
  simp only [S]
  refine wR ?_;simp only [xq,reduceIte,qE,qA,qL,qD]
  refine W_seq (W_cond rfl (fun hc=>W_skip ?_) (fun hc=>W_exit ?_))
  ·have hlt:i<t.steps.length:=by simpa using hc
   have w1:IntKind.i64.wrap ((i:Int)+1)=((i+1:Nat):Int):=by rw [i64_of (by omega)];omega
   have w2:IntKind.i64.wrap (t.first+(i:Int))=t.first+(i:Int):=i64_of (by omega)
   have w3:IntKind.i64.wrap (t.first+(i:Int)+1)=t.first+((i+1:Nat):Int):=by rw [i64_of (by omega)];omega
   obtain ⟨s,hs⟩:∃ s,s=t.steps[i]:=⟨_,rfl⟩
   have hrun:=tw.run hlt
   have hstep:=tw.step hlt
   have hstop:=tw.stop hlt
   have hsg:(stRows t.steps).getD i []=s.ds:=by rw [stRows_get hlt,← hs]
   rw [← hs] at hrun hstep hstop
   have hap:=Ha w s.chs hrun.1 hrun.2
   obtain ⟨w',i',e',hq'⟩:∃ w' i' e',applyV w s.chs=(w',i',e'):=⟨_,_,_,rfl⟩
   rw [hq'] at hap hstep hstop
   simp only at hstep hstop
   have hhl:h.length<hh.length:=(zA.1 hv).1
   have gq:∀ tt:Heap,(hh++tt)[h.length]? = some (vwB w):=fun tt=>hp_gl hv
   simp only [apA,vwA,Vw.ds,zU,zV] at hap
   simp only [xq,reduceIte,qE,qA,qL,qD]
   refine W_seq (W_block ?_)
   refine wR ?_;simp only [xq,reduceIte,qE,qA,qL,qD,stRows_len,hsg,Stp.ds,zQ,hp_g0,hp_s0]
   repeat refine And.intro (by omega) ?_
   refine wR ?_;simp only [xq,reduceIte,qE,qA,qL,qD,gq,Vw.ds,hp_g0,hp_g1,hp_gk,hp_s0,hp_sk,zS]
   refine c_fn (hap) rfl ?_;simp only [xq,reduceIte,qE,qA,qL,qD,hp_g0,hp_g1,hp_gk,hp_s0,hp_sk,zS,Vw.ds]
   let hh2:Heap:=hh++[.cells eSt [s.ds.map .d],vwB w']
   refine W_co (s':=⟨look [(0,.yld id),(1,.iptr t.ds),(3,.ptr h.length 1 0 0),(4,.int i),(6,.ptr (hh.length+1) 1 0 0),(8,.int e'),(18,stsA t.steps),(19,.int t.steps.length),(20,.int i)],hh2⟩) (Co.keep _ (by simp [x_upd,x_look])) ?_
   have Tb:Turn L' L' hh hh2:=Turn.app T.has _
   have hlen3:bb≤hh2.length:=by simp [hh2];omega
   refine W_seq (W_seq ?_)
   by_cases he:e'=0
   ·have hw:=hstep he
    have hx1:=tlXs_get (f:=t.first) hw.at'
    rcases rounds _ _ L' _ hx1 hI' Tb.has hlen3 with ⟨L3,h3,hR3,T3,hI3⟩ | ⟨L3,h3,hR3,T3,hE3⟩
    ·simp only [vwA,Vw.ds,zU,zV] at hR3
     refine W_reg ?_;simp only [xq,reduceIte,qE,qA,qL,qD,he,hh2,Tl.ds,w2,w3,hp_g0,hp_g1,hp_gk,Vw.ds,undefA,zE,ne_eq,decide_true,decide_false,not_true_eq_false]
     refine ce_yld hR3 ?_
     simp only [xq,reduceIte,qE,qA,qL,qD]
     refine W_cond rfl (fun hd=>by cases hd) (fun _=>W_skip ?_)
     simp only [xq,reduceIte,qE,qA,qL,qD]
     have hn1:hh.length+1 ∉ ids L':=fun hm=>by have:=T.has.lt _ hm;omega
     have g6:h3[hh.length+1]? = some (vwB w'):=by rw [T3.keep _ (by simp [hh2]) hn1];exact hp_gk
     have g3:h3[h.length]? = some (vwB w):=by rw [T3.keep _ (by simp [hh2];omega) hqn];exact hp_gl hv
     have hq3:h.length ∉ ids L3:=fun hm=>by
      rcases T3.new _ hm with h1 | h1
      ·exact hqn h1
      ·simp [hh2] at h1;omega
     refine W_reg ?_;simp only [xq,reduceIte,qE,qA,qL,qD,g6,g3,Vw.ds]
     refine W_reg ?_;simp only [xq,reduceIte,qE,qA,qL,qD,w1]
     refine ⟨t.steps.length-(i+1),S (i+1) (h3.set h.length (vwB w')),by omega,Co.keep _ (by simp [x_upd,x_look,Tl.ds]),i+1,w',L3,_,rfl,rfl,hw,(T.trans (Tb.trans T3)).setOwn (zL _) hq3,hI3,?_,hq3⟩
     rw [List.getElem?_set_self (zA.1 g3).1]
    ·simp only [vwA,Vw.ds,zU,zV] at hR3
     refine W_reg ?_;simp only [xq,reduceIte,qE,qA,qL,qD,he,hh2,Tl.ds,w2,w3,hp_g0,hp_g1,hp_gk,Vw.ds,undefA,zE,ne_eq,decide_true,decide_false,not_true_eq_false]
     refine ce_yld hR3 ?_
     simp only [xq,reduceIte,qE,qA,qL,qD]
     refine W_cond rfl (fun _=>W_ret ?_) (fun hd=>by cases hd)
     simp only [xq,reduceIte,qE,qA,qL,qD]
     refine ⟨.inr trivial,?_⟩
     simp only [readRs]
     exact ⟨L3,T.trans (Tb.trans T3),.inr hE3⟩
   ·have hle:=hstop he
    have hd:decide (e'=0)=false:=by simpa using he
    refine W_reg ?_;simp only [xq,reduceIte,qE,qA,qL,qD,hd,hh2,undefA,zE]
    refine W_cond rfl (fun _=>W_ret ?_) (fun hd=>by cases hd)
    simp only [xq,reduceIte,qE,qA,qL,qD]
    refine ⟨.inr trivial,?_⟩
    simp only [readRs]
    exact ⟨L',T.trans Tb,.inl (by rw [tlXs_len,hle];exact hI')⟩
  ·have hie:i=t.steps.length:=by simp at hc;omega
   subst hie
   have hfin:=tw.fin
   simp only [xq,reduceIte,qE,qA,qL,qD]
   refine ⟨.inl trivial,?_⟩
   simp only [readRs]
   exact ⟨L',T,.inl (by rw [tlXs_len,hfin];exact hI')⟩
 ·simp only [vwA,Vw.ds,zU,zV] at hR
  refine W_reg ?_;simp only [xq,reduceIte,qE,qA,qL,qD,Tl.ds,hp_g0]
  refine ce_yld hR ?_
  simp only [xq,reduceIte,qE,qA,qL,qD]
  refine W_cond rfl (fun _=>W_ret ?_) (fun hd=>by cases hd)
  simp only [xq,reduceIte,qE,qA,qL,qD]
  refine ⟨.inr trivial,?_⟩
  simp only [readRs]
  exact ⟨L2,Ta.trans T2,.inr hE2⟩
end Go.Proofs.YtlllnjhgjijnkaaDoor.Nx

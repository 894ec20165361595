import Derived.Test.YtlllnjhgjijnkaaDoorNxJ6
set_option linter.unusedSimpArgs false
set_option linter.unusedVariables false
set_option linter.unnecessarySimpa false
open Nat renaming zero_le → zI
open List renaming map_cons → zU, map_nil → zV, mem_of_getElem? → zY, length_cons → za
open Nat renaming reduceEqDiff → qE, reduceAdd → qA, reduceLT → qL, reduceLeDiff → qD
namespace Go.Proofs.YtlllnjhgjijnkaaDoor.Nx
open Go
variable {P:Program} {N:Nat} {Γ:Tabs}
theorem FnD.toP {f:FuncId} {args:List A} {r r':A} {h':Heap} (hf:FnD Γ.ctx P f args [] r h') (hr:FrzA 0 h' r r'):FnP Γ P f args r':=by
 refine ⟨hf.ent,fun M w vs bnd T hargs=>?_⟩
 have S0:SimH w M [] []:=by
  refine ⟨rfl,fun id e rows hh=>?_,fun id o hh=>?_,fun id hh=>?_,fun i j b p q hi=>?_⟩<;>simp at *
 refine (hf.run M w [] vs bnd S0 (.of_t T) hargs).mono fun e w' he=>?_
 obtain ⟨v,ρ',rfl,q1,q2,q3⟩:=he
 have hrep:=hr.rep q2 (zI _) q1
 simp only [List.take_zero] at hrep
 have g':Evo 0 [] [] w [] [] w':=by
  have:=q3.trans (Evo.take (n0:=0) (k:=0) (h:=h') (ρ:=ρ') (w:=w') (Nat.le_refl _) (zI _))
  simpa using this
 exact ⟨v,rfl,hrep,g'⟩
theorem good_drop {f b:Int} {v:Vw} {s:Stp} {l:List Stp} (hok:TOk v (s::l)) (hc:chkS b v (s::l)=0) :
  dropT ⟨f,b,v,s::l⟩=⟨f+1,s.time,(applyV v s.chs).1,l⟩∧TOk (applyV v s.chs).1 l∧chkS s.time (applyV v s.chs).1 l=0:=by
 rw [chkS] at hc
 split at hc
 ·cases hc
 ·split at hc
  ·cases hc
  ·split at hc
   ·rename_i h1;exact absurd hc h1
   ·rename_i h1
    have h1:(applyV v s.chs).2.2=0:=by simpa using h1
    refine ⟨?_,hok.2.2 h1,hc⟩
    rw [dropT]
    simp only [stepsV,if_pos h1]
    rfl
theorem chkT_chk {t:Tl} (h:chkT t=0):viewC t.base=0∧chkS t.began t.base t.steps=0:=by
 unfold chkT at h
 split at h
 ·cases h
 ·split at h
  ·rename_i h2;exact absurd h h2
  ·rename_i h2
   split at h
   ·cases h
   ·exact ⟨by simpa using h2,h⟩
abbrev TKeepOk (Γ:Tabs) (P:Program) (f:FuncId):Prop:=∀ (t:Tl) (n:Int),TOk t.base t.steps→FnP Γ P f [tlA t,.int n] (.tup [tlA (keepT t n).1,.int (keepT t n).2])
abbrev TCopyOk (Γ:Tabs) (P:Program) (f:FuncId):Prop:=∀ t:Tl,FnP Γ P f [tlA t] (tlA t)
set_option maxHeartbeats 2000000 in
theorem tkeep_fn {f fc fy fd:FuncId} (H:FnIs P f N [.c 4 9 true,.t 5] (x_timeline_Keep fc fy fd)) (hN:2≤N) (Hc:TCheckOk Γ P fc) (Hy:TCopyOk Γ P fy) (Hd:TDropOk Γ P fd):TKeepOk Γ P f:=by
 intro t n hok
 refine .of_W H (by simpa using hN) ?_
 have hc:=Hc t hok
 have hy:=Hy t
 unfold x_timeline_Keep
 simp only [tlA,Tl.ds,zU,zV] at hc hy ⊢
 refine wR ?_;simp only [xq,reduceIte,qE,qA,qL,qD]
 refine W_seq ?_
 refine wR ?_;simp only [xq,reduceIte,qE,qA,qL,qD,Tl.ds]
 refine c_fn (hc) rfl ?_;simp only [xq,reduceIte,qE,qA,qL,qD]
 refine wR ?_;simp only [xq,reduceIte,qE,qA,qL,qD]
 refine W_cond rfl (fun hk=>?_) (fun hk=>W_skip ?_)
 ·have hk:chkT t≠0:=by simpa using hk
  have hr:keepT t n=(zeroT,chkT t):=by rw [keepT,if_pos hk]
  rw [hr]
  refine wR ?_;simp only [xq,reduceIte,qE,qA,qL,qD]
  refine W_ret ⟨.inr rfl,?_⟩
  simp only [readRs,readR,single,x_upd,reduceIte,qE,x_look,argS,xq,reduceIte,qE,qA,qL,qD,loadsTo]
  exact frzT2' frz_tlZ (.same rfl)
 have hk:chkT t=0:=by simpa using hk
 obtain ⟨hf,hl⟩:=chkT_b hk
 obtain ⟨hv,hcs⟩:=chkT_chk hk
 simp only [xq,reduceIte,qE,qA,qL,qD]
 refine W_seq ?_
 refine wR ?_;simp only [xq,reduceIte,qE,qA,qL,qD]
 refine W_cond rfl (fun h1=>?_) (fun h1=>W_skip ?_)
 ·have h1:n<1:=by simpa using h1
  have hr:keepT t n=(zeroT,2):=by rw [keepT,if_neg (by simpa using hk),if_pos h1]
  rw [hr]
  refine wR ?_;simp only [xq,reduceIte,qE,qA,qL,qD]
  refine W_ret ⟨.inr rfl,?_⟩
  simp only [readRs,readR,single,x_upd,reduceIte,qE,x_look,argS,xq,reduceIte,qE,qA,qL,qD,loadsTo]
  exact frzT2' frz_tlZ (.same rfl)
 have h1:¬ n<1:=by simpa using h1
 obtain ⟨r,hr0⟩:∃ r,dropK ((t.steps.length:Int)+1-n).toNat t=r:=⟨_,rfl⟩
 have hr:keepT t n=(r,0):=by rw [keepT,if_neg (by simpa using hk),if_neg h1,hr0]
 rw [hr]
 simp only [xq,reduceIte,qE,qA,qL,qD]
 refine wR ?_;simp only [xq,reduceIte,qE,qA,qL,qD,Tl.ds]
 refine c_fn (hy) rfl ?_;simp only [xq,reduceIte,qE,qA,qL,qD]
 let S:Tl→St:=fun t'=>⟨look [(1,.int n),(2,.ptr 0 1 0 0),(4,.ptr 1 1 0 0)],[tlB t',ztl]⟩
 refine W_co (s':=S t) (Co.keep _ (by simp [x_upd,x_look])) ?_
 refine W_cut (· = S r) ?_ ?_
 ·refine W_block ?_
  refine W_loop (fun m s=>∃ t':Tl,m=t'.steps.length∧s=S t'∧TOk t'.base t'.steps∧chkS t'.began t'.base t'.steps=0∧t'.first+(t'.steps.length:Int)=t.first+(t.steps.length:Int)∧t'.steps.length≤200∧dropK ((t'.steps.length:Int)+1-n).toNat t'=r)
   ⟨t,rfl,rfl,hok,hcs,rfl,hl,hr0⟩ ?_
  rintro m s ⟨t',rfl,rfl,hok',hcs',hfl,hl',hr'⟩
  simp only [S]
  refine W_seq (W_seq ?_)
  refine W_reg ?_;simp only [xq,reduceIte,qE,qA,qL,qD,Tl.ds,stRows_len]
  refine W_cond rfl (fun hc=>W_skip ?_) (fun hc=>W_exit ?_)
  ·have hge:n≤(t'.steps.length:Int):=by simpa using hc
   obtain ⟨f',b',v',st'⟩:=t'
   cases st' with
   | nil=>simp at hge;omega
   | cons s l =>
    have hd:=Hd ⟨f',b',v',s::l⟩ hok' (by simp only [za] at hfl hl' ⊢; omega) (by simp only [za] at hl' ⊢; omega) (by simp)
    obtain ⟨hdr,hok2,hcs2⟩:=good_drop (f:=f') hok' hcs'
    rw [hdr] at hd
    simp only [za] at hge hfl hl' hr'
    rw [show (((l.length+1:Nat):Int)+1-n).toNat=((l.length:Int)+1-n).toNat+1 by omega,dropK,hdr] at hr'
    simp only [tlA,Tl.ds,zU,zV] at hd
    simp only [xq,reduceIte,qE,qA,qL,qD]
    refine W_block ?_
    refine W_reg ?_;simp only [xq,reduceIte,qE,qA,qL,qD,Tl.ds]
    refine c_fn (hd) rfl ?_;simp only [xq,reduceIte,qE,qA,qL,qD,Tl.ds]
    exact ⟨l.length,S ⟨f'+1,s.time,(applyV v' s.chs).1,l⟩,by simp,Co.keep _ (by simp [x_upd,x_look]),⟨f'+1,s.time,(applyV v' s.chs).1,l⟩,rfl,rfl,hok2,hcs2,by simp only;omega,by simp only;omega,hr'⟩
  ·have hlt:¬ n≤(t'.steps.length:Int):=by simpa using hc
   rw [show ((t'.steps.length:Int)+1-n).toNat=0 by omega,dropK] at hr'
   subst hr'
   simp only [xq,reduceIte,qE,qA,qL,qD]
   exact ⟨_,Co.keep _ (by simp [x_upd,x_look]),rfl⟩
 rintro _ rfl
 simp only [S]
 refine wR ?_;simp only [xq,reduceIte,qE,qA,qL,qD,Tl.ds]
 refine W_ret ⟨.inr rfl,?_⟩
 simp only [readRs,readR,single,x_upd,reduceIte,qE,x_look,argS,xq,reduceIte,qE,qA,qL,qD,loadsTo]
 exact .same rfl
end Go.Proofs.YtlllnjhgjijnkaaDoor.Nx
namespace Go.Proofs.YtlllnjhgjijnkaaDoor.Nx
open Go
variable {P:Program} {N:Nat} {Γ:Tabs}
theorem finV_cons {v:Vw} {s:Stp} {l:List Stp} (h:(applyV v s.chs).2.2=0):finV v (s::l)=finV (applyV v s.chs).1 l:=by
 rw [finV,finV,stepsV,if_pos h,List.getLastD_cons]
theorem tok_snoc:∀ {l:List Stp} {v:Vw} {s:Stp},TOk v l→RunOk (finV v l) s.chs→(∀ c∈s.chs,CgOk c)→((applyV (finV v l) s.chs).2.2=0→Sm (applyV (finV v l) s.chs).1 50000)→TOk v (l++[s])
 | [],v,s,_,h1,h2,h3=>⟨h1,h2,h3⟩
 | x::l,v,s,h,h1,h2,h3=>⟨h.1,h.2.1,fun he=>by
  rw [finV_cons he] at h1 h3
  exact tok_snoc (h.2.2 he) h1 h2 h3⟩
theorem fin_ok:∀ {l:List Stp} {v:Vw} {b:Int},viewC v=0→chkS b v l=0→viewC (finV v l)=0∧(stepsV v l).length=l.length
 | [],v,b,hv,_=>⟨hv,rfl⟩
 | s::l,v,b,hv,hc=>by
  rw [chkS] at hc
  split at hc
  ·cases hc
  ·split at hc
   ·cases hc
   ·split at hc
    ·rename_i h1;exact absurd hc h1
    ·rename_i h1
     have h1:(applyV v s.chs).2.2=0:=by simpa using h1
     obtain ⟨a,b⟩:=fin_ok ((applyV_ends v s.chs).1 h1).2.2 hc
     rw [finV_cons h1,stepsV,if_pos h1,za,za,b]
     exact ⟨a,rfl⟩
theorem blkF_eq {k:Nat} {h h2:Heap} {id:Nat} {e:Elt} {rows:List (List A)} (h1:h[id]? = some (.cells e rows)) (h2':h2[id]? = some (.cells e rows)) (hu:HB.under k (.cells e rows)):BlkF k h h2 id :=
 ⟨e,rows,rows,h1,h2',rfl,fun q r r2 hq hq2=>by
  rw [hq] at hq2;cases hq2
  refine ⟨rfl,fun j y hj=>?_⟩
  have:=hu r (zY hq) y (zY hj)
  exact ⟨by rw [List.getD_eq_getElem?_getD,hj];exact .same this,this⟩⟩
def tlE (x:Tl × Int):A:=.tup [tlA x.1,.int x.2]
abbrev TAddOk (Γ:Tabs) (P:Program) (f:FuncId):Prop:=∀ (t:Tl) (v:Vw) (n:Int),TOk t.base t.steps→Sm v 140→Sm (finV t.base t.steps) 140→FnP Γ P f [tlA t,vwA v,.int n] (tlE (addT t v n))
abbrev TCopyDOk (Γ:Tabs) (P:Program) (f:FuncId):Prop:=∀ (t:Tl) (h:Heap),FnD Γ.ctx P f [tlA t] h (.agg (tlW t (.ref (h.length+2) t.steps.length 0 t.steps.length true)))
 (h++[tlX t (.ref (h.length+2) t.steps.length 0 t.steps.length true),tlX t (.ref (h.length+2) t.steps.length 0 t.steps.length true),stB t.steps])
theorem tcopy_of {f:FuncId} (H:TCopyDOk Γ P f):TCopyOk Γ P f:=fun t=>(H t []).toP (frz_tlO (q:=2) (zI _) rfl)
set_option maxHeartbeats 4000000 in
theorem tadd_fn {f fc fv ff fy fe fd fr:FuncId} (H:FnIs P f N [.c 6 9 true,.t 7] (x_timeline_Add fc fv ff fy fe fd fr)) (hN:3≤N) (Hc:TCheckOk Γ P fc) (Hv:VchkOk Γ P fv) (Hf:TFinalOk Γ P ff) (Hy:TCopyDOk Γ P fy) (He:SameOk Γ P fe)
  (Hd:DiffOk Γ P fd) (Hr:TDropOk Γ P fr):TAddOk Γ P f:=by
 intro t v n hok sv sw
 obtain ⟨r,hr⟩:∃ r,addT t v n=r:=⟨_,rfl⟩
 rw [hr]
 refine .of_W H (by simpa using hN) ?_
 have hc:=Hc t hok
 have hv:=Hv v (sv.mono (by omega))
 unfold x_timeline_Add
 simp only [tlA,vwA,Tl.ds,Vw.ds,zU,zV] at hc hv ⊢
 refine wR ?_;simp only [xq,reduceIte,qE,qA,qL,qD]
 refine W_seq ?_
 refine wR ?_;simp only [xq,reduceIte,qE,qA,qL,qD,Tl.ds]
 refine c_fn (hc) rfl ?_;simp only [xq,reduceIte,qE,qA,qL,qD]
 refine wR ?_;simp only [xq,reduceIte,qE,qA,qL,qD]
 refine W_cond rfl (fun hk=>?_) (fun hk=>W_skip ?_)
 ·have hk:chkT t≠0:=by simpa using hk
  rw [show r=(zeroT,chkT t) by rw [← hr,addT,if_pos hk]]
  refine wR ?_;simp only [xq,reduceIte,qE,qA,qL,qD]
  refine W_ret ⟨.inr rfl,?_⟩
  simp only [readRs,readR,single,x_upd,reduceIte,qE,x_look,argS,xq,reduceIte,qE,qA,qL,qD,loadsTo]
  exact frzT2' frz_tlZ (.same rfl)
 have hk:chkT t=0:=by simpa using hk
 obtain ⟨hf,hl⟩:=chkT_b hk
 obtain ⟨hbv,hcs⟩:=chkT_chk hk
 obtain ⟨hfv,hfl⟩:=fin_ok hbv hcs
 have hfin:=Hf t hok (by omega) (by omega)
 obtain ⟨w,hw⟩:∃ w,w=finV t.base t.steps:=⟨_,rfl⟩
 obtain ⟨last,hlast⟩:∃ last,last=finN t.began t.steps:=⟨_,rfl⟩
 rw [← hw,← hlast] at hfin
 rw [← hw] at sw hfv
 have hadd:r=if viewC v≠0 then (zeroT,viewC v) else if n<0∨maxT<n then (zeroT,2) else if n<last then (zeroT,10) else if w=v then (t,0)
   else if 200<(t.steps++[(⟨n,diffV w v⟩:Stp)]).length then (dropT { t with steps:=t.steps++[⟨n,diffV w v⟩] },0) else ({ t with steps:=t.steps++[⟨n,diffV w v⟩] },0):=by
  rw [← hr,addT,if_neg (by simpa using hk),hw,hlast]
 simp only [tlA,vwA,Tl.ds,Vw.ds,zU,zV] at hfin
 simp only [xq,reduceIte,qE,qA,qL,qD]
 refine W_seq ?_
 refine wR ?_;simp only [xq,reduceIte,qE,qA,qL,qD,Vw.ds]
 refine c_fn (hv) rfl ?_;simp only [xq,reduceIte,qE,qA,qL,qD]
 refine wR ?_;simp only [xq,reduceIte,qE,qA,qL,qD]
 refine W_cond rfl (fun h1=>?_) (fun h1=>W_skip ?_)
 ·have h1:viewC v≠0:=by simpa using h1
  rw [if_pos h1] at hadd
  rw [hadd]
  refine wR ?_;simp only [xq,reduceIte,qE,qA,qL,qD]
  refine W_ret ⟨.inr rfl,?_⟩
  simp only [readRs,readR,single,x_upd,reduceIte,qE,x_look,argS,xq,reduceIte,qE,qA,qL,qD,loadsTo]
  exact frzT2' frz_tlZ (.same rfl)
 have h1:¬ viewC v≠0:=by simpa using h1
 rw [if_neg h1] at hadd
 simp only [xq,reduceIte,qE,qA,qL,qD]
 refine wR ?_;simp only [xq,reduceIte,qE,qA,qL,qD,Tl.ds]
 refine c_fn (hfin) rfl ?_;simp only [xq,reduceIte,qE,qA,qL,qD]
 let H4:Heap:=[tlB t,vwB v,ztl,vwB w]
 let S1:Nat→Bool→St:=fun j b=>⟨look [(2,.int n),(3,.ptr 0 1 0 0),(4,.ptr 1 1 0 0),(6,.ptr 2 1 0 0),(10,.ptr 3 1 0 0),(11,.int last),(j,.bool b)],H4⟩
 refine W_seq (W_block ?_)
 refine W_cut (· = S1 29 (decide (n<0)||decide ((1099511627776:Int)<n))) ?_ ?_
 ·refine wR ?_;simp only [xq,reduceIte,qE,qA,qL,qD]
  refine W_cond rfl (fun h2=>W_skip ?_) (fun h2=>?_)
  ·exact ⟨rfl,_,Co.keep _ (by simp [x_upd,x_look,h2]),rfl⟩
  ·refine W_reg ?_;simp only [xq,reduceIte,qE,qA,qL,qD]
   exact ⟨_,Co.keep _ (by simp [x_upd,x_look,h2]),rfl⟩
 rintro _ rfl
 simp only [S1,H4]
 refine W_cond rfl (fun h2=>?_) (fun h2=>?_)
 ·have h2:n<0∨maxT<n:=by simpa [maxT] using h2
  rw [if_pos h2] at hadd
  rw [hadd]
  refine wR ?_;simp only [xq,reduceIte,qE,qA,qL,qD]
  refine W_ret ?_
  simp only [xq,reduceIte,qE,qA,qL,qD]
  refine ⟨.inr rfl,?_⟩
  simp only [readRs,readR,single,x_upd,reduceIte,qE,x_look,argS,xq,reduceIte,qE,qA,qL,qD,loadsTo]
  exact frzT2' frz_tlZ (.same rfl)
 have h2:¬ (n<0∨maxT<n):=by
  simp only [Bool.or_eq_false_iff,decide_eq_false_iff_not] at h2
  rintro (h | h)
  ·exact h2.1 h
  ·exact h2.2 h
 rw [if_neg h2] at hadd
 refine wR ?_;simp only [xq,reduceIte,qE,qA,qL,qD]
 refine W_cond rfl (fun h3=>?_) (fun h3=>W_skip ?_)
 ·have h3:n<last:=by simpa using h3
  rw [if_pos h3] at hadd
  rw [hadd]
  refine wR ?_;simp only [xq,reduceIte,qE,qA,qL,qD]
  refine W_ret ?_
  simp only [xq,reduceIte,qE,qA,qL,qD]
  refine ⟨.inr rfl,?_⟩
  simp only [readRs,readR,single,x_upd,reduceIte,qE,x_look,argS,xq,reduceIte,qE,qA,qL,qD,loadsTo]
  exact frzT2' frz_tlZ (.same rfl)
 have h3:¬ n<last:=by simpa using h3
 rw [if_neg h3] at hadd
 simp only [xq,reduceIte,qE,qA,qL,qD]
 refine wR ?_;simp only [xq,reduceIte,qE,qA,qL,qD,Tl.ds]
 refine ce_fn (Hy t _) ?_
 simp only [xq,reduceIte,qE,qA,qL,qD,tlW,Tl.ds]
 let x:A:=.ref 6 t.steps.length 0 t.steps.length true
 let H7:Heap:=[tlX t x,vwB v,ztl,vwB w,tlX t x,tlX t x,stB t.steps]
 refine W_co (s':=⟨look [(2,.int n),(3,.ptr 0 1 0 0),(4,.ptr 1 1 0 0),(6,.ptr 2 1 0 0),(10,.ptr 3 1 0 0)],H7⟩) (Co.keep _ (by simp [x_upd,x_look])) ?_
 have he:=He w v
 simp only [vwA,Vw.ds,zU,zV] at he
 simp only [H7,x]
 refine W_seq ?_
 refine wR ?_;simp only [xq,reduceIte,qE,qA,qL,qD,Vw.ds]
 refine c_fn (he) rfl ?_;simp only [xq,reduceIte,qE,qA,qL,qD]
 refine W_cond rfl (fun h4=>?_) (fun h4=>W_skip ?_)
 ·have h4:w=v:=by simpa using h4
  rw [if_pos h4] at hadd
  rw [hadd]
  refine wR ?_;simp only [xq,reduceIte,qE,qA,qL,qD,tlW]
  refine W_ret ⟨.inr rfl,?_⟩
  simp only [readRs,readR,single,x_upd,reduceIte,qE,x_look,argS,xq,reduceIte,qE,qA,qL,qD,loadsTo]
  exact frzT2' (frz_tlO (q:=6) (zI _) rfl) (.same rfl)
 have h4:¬ w=v:=by simpa using h4
 rw [if_neg h4] at hadd
 have h1':viewC v=0:=by simpa using h1
 have hd:=Hd w v sw sv
 obtain ⟨t2,ht2⟩:∃ t2:Tl,t2={ t with steps:=t.steps++[⟨n,diffV w v⟩] }:=⟨_,rfl⟩
 have ht2s:t2.steps=t.steps++[⟨n,diffV w v⟩]:=by rw [ht2]
 have ht2l:t2.steps.length=t.steps.length+1:=by rw [ht2s];simp
 have hok2:TOk t2.base t2.steps:=by
  rw [ht2]
  refine tok_snoc hok ?_ ?_ ?_
  ·rw [← hw];exact runOk_diff hfv h1' (sw.mono (by omega)) (sv.mono (by omega))
  ·exact diff_ok sv
  ·rw [← hw,run_diff hfv h1'];exact fun _=>sv.mono (by omega)
 rw [← ht2] at hadd
 simp only [vwA,Vw.ds,zU,zV] at hd
 simp only [xq,reduceIte,qE,qA,qL,qD]
 refine W_cut (· = ⟨look [(3,.ptr 0 1 0 0),(6,.ptr 2 1 0 0)],[tlB t2,vwB v,ztl]⟩) (W_drw (by simp) ?_) ?_
 ·simp only [xq,reduceIte,qE,qA,qL,qD,tlW,Vw.ds]
  refine c_fn (hd) rfl ?_;simp only [xq,reduceIte,qE,qA,qL,qD,tlW,Vw.ds]
  let x2:A:=.ref 6 (t.steps.length+1) 0 (t.steps.length+1) true
  let HX:Heap:=[tlX t x2,vwB v,ztl,vwB w,tlX t (.ref 6 t.steps.length 0 t.steps.length true),tlX t (.ref 6 t.steps.length 0 t.steps.length true),
   .cells eSt ((stRows t.steps).map (fun r=>r.map A.d)++[[.int n,cgsA (diffV w v)]]),.cells eSt [[.int n,cgsA (diffV w v)]],.res]
  have h6:HX[6]? = some (stB t2.steps):=by
   have e:(stRows t2.steps).map (fun r=>r.map A.d)=(stRows t.steps).map (fun r=>r.map A.d)++[[.int n,cgsA (diffV w v)]]:=by rw [ht2s,stRows_app,List.map_append];rfl
   show some (HB.cells eSt _)=some (HB.cells eSt ((stRows t2.steps).map fun r=>r.map A.d))
   rw [e]
  have hfz:=frz_st (k:=3) (by decide) h6
  rw [ht2l] at hfz
  refine ⟨stRows_len.symm,by simp only [room];omega,by simp only [maxLen];omega,_,Co.frzH (s:=⟨_,HX⟩) [(3,.ptr 0 1 0 0),(6,.ptr 2 1 0 0)] 3 [tlB t2,vwB v,ztl] ?_ (zI _) (by simp [HX]) rfl ?_,rfl⟩
  ·intro p hp
   simp only [List.mem_cons,List.not_mem_nil,or_false] at hp
   rcases hp with rfl | rfl
   ·exact ⟨.same rfl,rfl⟩
   ·exact ⟨.same rfl,rfl⟩
  ·intro id hid
   rcases (by omega:id=0∨id=1∨id=2) with rfl | rfl | rfl
   ·refine ⟨eTl,[tlW t x2],[t2.ds.map .d],rfl,rfl,rfl,fun q r r2 hq hq2=>?_⟩
    cases q with
    | succ q=>simp at hq
    | zero =>
     cases hq;cases hq2
     refine ⟨rfl,fun j y hj=>?_⟩
     rw [ht2] at hj
     rcases j with _ | _ | _ | _ | _ | _ | _ | _ | _ | j
     ·cases hj;exact ⟨.same rfl,rfl⟩
     ·cases hj;exact ⟨.same rfl,rfl⟩
     ·cases hj;exact ⟨.same rfl,rfl⟩
     ·cases hj;exact ⟨.same rfl,rfl⟩
     ·cases hj;exact ⟨.same rfl,rfl⟩
     ·cases hj;exact ⟨.same rfl,rfl⟩
     ·cases hj;exact ⟨.same rfl,rfl⟩
     ·cases hj;exact ⟨.same rfl,rfl⟩
     ·have hy:y=stsA t2.steps:=by rw [ht2];cases hj;rfl
      subst hy
      exact ⟨hfz,rfl⟩
     ·simp [Tl.ds] at hj
   ·exact blkF_eq rfl rfl (under_data (rows:=[v.ds]))
   ·exact blkF_eq rfl rfl under_ztl
 rintro _ rfl
 refine W_cut (· = ⟨look [(3,.ptr 0 1 0 0),(6,.ptr 2 1 0 0)],[tlB r.1,vwB v,ztl]⟩) ?_ ?_
 ·refine wR ?_;simp only [xq,reduceIte,qE,qA,qL,qD,Tl.ds,stRows_len,ht2l]
  refine W_cond rfl (fun h5=>?_) (fun h5=>W_skip ?_)
  ·have h5:200<t2.steps.length:=by have:=of_decide_eq_true h5;omega
   rw [← ht2s,if_pos h5] at hadd
   have hdr:=Hr t2 hok2 (by rw [ht2];simp only;omega) (by omega) (by intro h;rw [h] at h5;simp at h5)
   rw [hadd]
   simp only [tlA,Tl.ds,zU,zV] at hdr
   refine W_reg ?_;simp only [xq,reduceIte,qE,qA,qL,qD,Tl.ds]
   refine c_fn (hdr) rfl ?_;simp only [xq,reduceIte,qE,qA,qL,qD,Tl.ds]
   exact ⟨_,Co.keep _ (by simp [x_upd,x_look]),rfl⟩
  ·have h5:¬ 200<t2.steps.length:=by have:=of_decide_eq_false h5;omega
   rw [← ht2s,if_neg h5] at hadd
   rw [hadd]
   exact ⟨rfl,_,Co.keep _ (by simp [x_upd,x_look]),rfl⟩
 rintro _ rfl
 have hr2:r.2=0:=by
  rw [hadd];split<;>rfl
 refine wR ?_;simp only [xq,reduceIte,qE,qA,qL,qD,Tl.ds]
 refine W_ret ⟨.inr rfl,?_⟩
 simp only [readRs,readR,single,x_upd,reduceIte,qE,x_look,argS,xq,reduceIte,qE,qA,qL,qD,loadsTo]
 rw [tlE,hr2]
 exact .same rfl
end Go.Proofs.YtlllnjhgjijnkaaDoor.Nx

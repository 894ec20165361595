import Derived.Test.YtlllnjhgjijnkaaDoorNxD15
import Derived.Test.YtlllnjhgjijnkaaDoorNxH0
import Derived.Test.YtlllnjhgjijnkaaDoorNxWalk
set_option linter.unusedSimpArgs false
set_option linter.unusedVariables false
set_option linter.unnecessarySimpa false
open List renaming getElem?_eq_some_iff → zA, getElem?_eq_getElem → zB, map_cons → zU, map_nil → zV, length_append → zb
open Bool renaming true_eq_false → zE
open Nat renaming zero_le → zI, le_refl → zL
open Nat renaming reduceEqDiff → qE, reduceAdd → qA, reduceLT → qL, reduceLeDiff → qD
namespace Go.Proofs.YtlllnjhgjijnkaaDoor.Nx
open Go
variable {P:Program} {N:Nat} {Γ:Tabs}
abbrev rowB (l:List Gl):HB:=.cells eGl ((glRows l).map fun r=>r.map A.d)
theorem rowB_len {l:List Gl}:((glRows l).map fun r=>r.map A.d).length=l.length:=by simp [glRows]
theorem FnD.nil0 {Δ:Ctx} {f:FuncId} {args:List A} {h:Heap} {e:Elt} (he:0<e.sz) (hf:FnD Δ P f args h .nil h):FnD Δ P f args h (.ref h.length 0 0 0 true) (h++[.cells e []]):=by
 refine ⟨hf.ent,fun M w ρ vs bnd S T hargs=>(hf.run M w ρ vs bnd S T hargs).mono fun ex w' hp=>?_⟩
 obtain ⟨v,ρ',rfl,q1,q2,q3⟩:=hp
 have nw:NewAt h ρ' (.cells e []) none none h.length (h++[.cells e []]) (ρ'++[none]):=.push
 have g:Evo h.length h ρ' w' (h++[.cells e []]) (ρ'++[none]) w':=.atNew nw q2.len rfl rfl rfl (zL _) (fun _ _=>rfl) (fun b p h=>by cases h)
 have S2:SimH w' M (ρ'++[none]) (h++[.cells e []]):=q2.newAny nw g (fun _ _=>rfl) (fun b p h=>by cases h)
  (fun e' rows' h=>by
   cases h
   exact ⟨he,by simp,by simp,by simp,.inl ⟨nw.phys q2.len,rfl⟩⟩)
  (fun o' h=>by cases h) (by simp)
 refine ⟨v,ρ'++[none],rfl,?_,S2,q3.trans g⟩
 cases q1
 exact .ref0 nw.heap (nw.phys q2.len)
abbrev RowO (P:Program) (f:FuncId) (y:A) (l:List Gl):Prop:=∀ (Δ:Ctx) (h:Heap),Δ.b≤h.length→FnD Δ P f [y] h (.ref h.length l.length 0 l.length true) (h++[rowB l])
theorem flat_gl {l:List Gl} {r:List A} (hr:r∈(glRows l).map fun r=>r.map A.d) {x:A} (hx:x∈r):FlatA x:=by
 simp only [glRows,List.map_map,List.mem_map,Function.comp] at hr
 obtain ⟨g,_,rfl⟩:=hr
 simp only [Gl.row,zU,zV,List.mem_cons,List.not_mem_nil,or_false] at hx
 rcases hx with rfl | rfl | rfl<;>exact flat_sc
theorem new_row {n:Nat} {l:List Gl}:NewB n (rowB l):=fun r hr x hx=>.inl (flat_gl hr hx)
theorem RowO.lend {Γ:Ctx} {f:FuncId} {y:A} {l:List Gl} (H:RowO P f y l) {h:Heap} {x:A} (hx:FrzA 0 h x y) (hy:y.under 0=true):FnD Γ P f [x] h (.ref h.length l.length 0 l.length true) (h++[rowB l]):=by
 have h0:=H Γ.t.ctx (List.replicate h.length .res) (zI _)
 rw [List.length_replicate] at h0
 refine FnD.lend h0 (.inl (.inr ⟨_,_,_,_,_,rfl,zL _⟩)) (fun B hB=>?_) (.cons hx .nil) (by simp [A.underL,hy])
 have:B=rowB l:=by simpa using hB
 subst this;exact new_row
theorem cloneO_fn {f:FuncId} (H:FnIs P f N [.t 2] x_slices_Clone_675) (hN:1≤N) (l:List Gl):RowO P f (.d (.sl eGl (glRows l))) l:=by
 intro Δ h hb
 refine .of_W H (by simpa using hN) hb (W_sl 0 rfl fun ⟨hm,hroom,_⟩=>?_)
 rw [glRows_len] at hm hroom
 unfold x_slices_Clone_675
 refine W_nil 0 rfl (fun h0=>?_) ?_
 ·have:l=[]:=List.map_eq_nil_iff.1 h0
  subst this
  refine wR ?_;simp only [xq,reduceIte,qE,qA,qL,qD]
  refine W_seq ?_
  refine wR ?_;simp only [xq,reduceIte,qE,qA,qL,qD,x_eqnil,EqNil]
  refine W_cond (t:=true) (by simp [ev,x_upd]) (fun _=>?_) (fun h=>by cases h)
  refine wR ?_;simp only [xq,reduceIte,qE,qA,qL,qD]
  refine W_co (Co.nil 2 eGl (by decide) (by simp [x_upd])) ?_
  refine W_ret ⟨.inr rfl,?_⟩
  simp only [readRs,readR,single,x_upd,reduceIte,qE,x_look,xq,reduceIte,qE,qA,qL,qD]
  rfl
 ·refine wR ?_;simp only [xq,reduceIte,qE,qA,qL,qD]
  refine W_seq ?_
  refine wR ?_;simp only [xq,reduceIte,qE,qA,qL,qD,x_eqnil,EqNil]
  refine W_cond (t:=false) (by simp [ev,x_upd]) (fun h=>by cases h) (fun _=>W_skip ?_)
  simp only [xq,reduceIte,qE,qA,qL,qD]
  refine wR ?_;simp only [xq,reduceIte,qE,qA,qL,qD,hp_g0,hp_s0,glRows_len]
  refine ⟨hroom,hm,W_ret ⟨.inr rfl,?_⟩⟩
  simp only [readRs,readR,single,x_upd,reduceIte,qE,x_look,xq,reduceIte,qE,qA,qL,qD]
def catG (ls:List (List Gl)) (i:Nat):List Gl:=(ls.take i).flatten
theorem catG_succ {ls:List (List Gl)} {i:Nat} (hi:i<ls.length):catG ls (i+1)=catG ls i++ls[i]:=by
 simp only [catG]
 rw [List.take_add_one,zB hi,Option.toList_some,List.flatten_append,List.flatten_cons,List.flatten_nil,List.append_nil]
theorem catG_le {ls:List (List Gl)} {i:Nat}:(catG ls i).length≤ls.flatten.length:=by
 have:ls.flatten=catG ls i++(ls.drop i).flatten:=by rw [catG,← List.flatten_append,List.take_append_drop]
 rw [this,zb];omega
theorem concatO_fn {f fg:FuncId} {Δ:Ctx} (H:FnIs P f N [.t 2] (x_slices_Concat_675 fg)) (hN:1≤N) (Hg:∀ n:Nat,n≤100000→∀ h:Heap,Δ.b≤h.length→FnD Δ P fg [.nil,.int n] h (.ref h.length 0 0 0 true) (h++[.cells eGl []]))
  (ls:List (List Gl)) (hl:ls.length≤1000) (hlf:ls.flatten.length≤100000) (h:Heap) (hb:Δ.b≤h.length):FnD Δ P f [.d (.sl eRw (rwRows ls))] h (.ref h.length ls.flatten.length 0 ls.flatten.length true) (h++[rowB ls.flatten]):=by
 refine .of_W H (by simpa using hN) hb ?_
 have hfl:catG ls ls.length=ls.flatten:=by simp [catG]
 unfold x_slices_Concat_675
 refine wR ?_
 simp only [xq,reduceIte,qE,qA,qL,qD]
 refine wR ?_
 simp only [xq,reduceIte,qE,qA,qL,qD]
 let S1:Nat→St:=fun i=>⟨look [(0,.d (.sl eRw (rwRows ls))),(3,.int (catG ls i).length),(9,.d (.sl eRw (rwRows ls))),(10,.int ls.length),(11,.int i)],h⟩
 let T1:St:=⟨look [(0,.d (.sl eRw (rwRows ls))),(3,.int ls.flatten.length)],h⟩
 refine W_cut (· = T1) ?_ ?_
 ·refine wR ?_
  simp only [xq,reduceIte,qE,qA,qL,qD,rwRows_len]
  refine W_block ?_
  refine W_co (s':=S1 0) (Co.keep _ (by simp [x_upd,x_look,catG])) ?_
  refine W_loop (fun m s=>∃ i,i≤ls.length∧m=ls.length-i∧s=S1 i) ⟨0,zI _,rfl,rfl⟩ ?_
  rintro m s ⟨i,hi,rfl,rfl⟩
  refine wR ?_
  simp only [S1,xq,reduceIte,qE,qA,qL,qD]
  refine W_seq (W_cond rfl (fun hc=>W_skip ?_) (fun hc=>W_exit ?_))
  ·have hlt:i<ls.length:=by simpa using hc
   have hsz:=catG_succ hlt
   have hle:=catG_le (ls:=ls) (i:=i+1)
   have e1:IntKind.i64.wrap (((catG ls i).length:Int)+(ls[i].length:Int))=((catG ls (i+1)).length:Int):=by
    rw [hsz,zb] at *
    rw [i64_of (by omega)];omega
   have e2:decide (((catG ls (i+1)).length:Int)<0)=false:=decide_eq_false (by omega)
   simp only [xq,reduceIte,qE,qA,qL,qD]
   refine W_seq (W_block (wR ?_))
   simp only [xq,reduceIte,qE,qA,qL,qD,rwRows_get hlt,rwRows_len]
   refine ⟨by omega,by omega,?_⟩
   refine wR ?_
   simp only [xq,reduceIte,qE,qA,qL,qD,glRows_len,e1]
   refine wR ?_
   simp only [xq,reduceIte,qE,qA,qL,qD,e2]
   refine W_cond rfl (fun hd=>by cases hd) (fun _=>W_skip ?_)
   simp only [xq,reduceIte,qE,qA,qL,qD]
   refine W_reg ?_
   simp only [xq,reduceIte,qE,qA,qL,qD]
   refine ⟨ls.length-(i+1),S1 (i+1),by omega,Co.keep _ ?_,i+1,hlt,rfl,rfl⟩
   simp [x_upd,x_look,i64_succ hlt (show ls.length≤room by simp only [room];omega)]
  ·have hle:i=ls.length:=by simp at hc;omega
   subst hle
   simp only [xq,reduceIte,qE,qA,qL,qD]
   refine ⟨T1,?_,rfl⟩
   simp only [T1,hfl]
   exact Co.keep _ (by simp [x_upd,x_look])
 rintro _ rfl
 simp only [T1]
 refine wR ?_
 simp only [xq,reduceIte,qE,qA,qL,qD]
 refine ce_fn (Hg _ hlf _ hb) ?_
 simp only [xq,reduceIte,qE,qA,qL,qD]
 let cB:List Gl→List (List A):=fun o=>(glRows o).map fun r=>r.map A.d
 have hcl:∀ o,(cB o).length=o.length:=fun o=>by simp [cB,glRows]
 let S2:Nat→St:=fun i=>⟨look [(6,.ref h.length (catG ls i).length 0 (catG ls i).length true),(25,.d (.sl eRw (rwRows ls))),(26,.int ls.length),(27,.int i)],h++[.cells eGl (cB (catG ls i))]⟩
 have hc0:catG ls 0=[]:=by simp [catG]
 refine W_seq (wR ?_)
 simp only [xq,reduceIte,qE,qA,qL,qD,rwRows_len]
 refine W_block ?_
 refine W_co (s':=S2 0) (by simp only [S2,hc0];exact Co.keep _ (by simp [x_upd,x_look])) ?_
 refine W_loop (fun m s=>∃ i,i≤ls.length∧m=ls.length-i∧s=S2 i) ⟨0,zI _,rfl,rfl⟩ ?_
 rintro m s ⟨i,hi,rfl,rfl⟩
 refine wR ?_
 simp only [S2,xq,reduceIte,qE,qA,qL,qD]
 refine W_seq (W_cond rfl (fun hc=>W_skip ?_) (fun hc=>W_exit ?_))
 ·have hlt:i<ls.length:=by simpa using hc
  have hsz:=catG_succ hlt
  have hle:=catG_le (ls:=ls) (i:=i+1)
  have hcs:cB (catG ls i)++((glRows ls[i]).map fun r=>r.map A.d)=cB (catG ls (i+1)):=by rw [hsz];simp [cB,glRows]
  have hll:(catG ls i).length+ls[i].length=(catG ls (i+1)).length:=by rw [hsz,zb]
  simp only [xq,reduceIte,qE,qA,qL,qD]
  refine W_seq (W_block (wR ?_))
  simp only [xq,reduceIte,qE,qA,qL,qD,rwRows_get hlt,rwRows_len]
  refine ⟨by omega,by omega,?_⟩
  refine W_reg ?_
  simp only [xq,reduceIte,qE,qA,qL,qD,hp_g0,hp_s0,glRows_len,hcl,hcs,hll]
  refine ⟨by simp only [room];omega,by simp only [maxLen];omega,?_⟩
  refine W_reg ?_
  simp only [xq,reduceIte,qE,qA,qL,qD]
  refine ⟨ls.length-(i+1),S2 (i+1),by omega,Co.keep _ ?_,i+1,hlt,rfl,rfl⟩
  simp [x_upd,x_look,i64_succ hlt (show ls.length≤room by simp only [room];omega)]
 ·have hle:i=ls.length:=by simp at hc;omega
  subst hle
  simp only [xq,reduceIte,qE,qA,qL,qD,hfl]
  refine wR ?_
  simp only [xq,reduceIte,qE,qA,qL,qD]
  refine W_ret ⟨.inr rfl,?_⟩
  simp only [readRs,readR,single,x_upd,reduceIte,qE,x_look,xq,reduceIte,qE,qA,qL,qD]
  rfl
set_option maxHeartbeats 400000 in
theorem trimO_fn {f fb fc:FuncId} {Nb Nc:Nat} (H:FnIs P f N [.t 2] (x_view_Trim_r fb fc)) (hN:1≤N) (Hb:FnIs P fb Nb [.c 0 3 true] x_view_blank) (Hc:FnIs P fc Nc [.t 2] x_slices_Clone_675) (hNc:1≤Nc) (l:List Gl) :
  RowO P f (.d (.sl eGl (glRows l))) (trimGl l):=by
 intro Δ h hb
 refine .of_W H (by simpa using hN) hb (W_sl 0 rfl fun ⟨_,hroom,_⟩=>?_)
 have hlr:l.length≤room:=le_of_mul (by rw [glRows_len] at hroom;exact hroom)
 unfold x_view_Trim_r
 refine wR ?_;simp only [xq,reduceIte,qE,qA,qL,qD]
 refine wR ?_;simp only [xq,reduceIte,qE,qA,qL,qD,glRows_len]
 refine W_seq (W_block ?_)
 let S:Nat→St:=fun i=>⟨look [(0,.d (.sl eGl (glRows l))),(3,.int i)],h⟩
 refine W_co (s':=S l.length) (Co.keep _ (by simp [x_upd,x_look])) ?_
 refine W_loop (fun m s=>m≤l.length∧s=S m∧trimN l l.length=trimN l m) ⟨zL _,rfl,rfl⟩ ?_
 rintro m s ⟨hm,rfl,htr⟩
 have fin:∀ (sl:Nat→A) (n:Nat),sl 0 = .d (.sl eGl (glRows l))→sl 3 = .int n→n=trimN l l.length→W Δ P N none h.length (.seq (.reg [
  { dst:=some 19,op:=.mov (.t 0) },
  { dst:=some 20,op:=.mov (.t 3) },
  { dst:=some 21,op:=.slice ⟨3,32⟩ (.t 19) none (some (.t 20)) none },
  { dst:=some 22,op:=.callr (.f fc) [(.t 21)] },
  { dst:=some 2,op:=.mov (.t 22) }]) .ret) (RetD [.t 2] (.ref h.length (trimGl l).length 0 (trimGl l).length true) (h++[rowB (trimGl l)])) ⟨sl,h⟩:=by
  intro sl n h0 h3 hn
  have hnl:n≤l.length:=by rw [hn];exact trimN_le l _
  refine wR ?_;simp only [xq,reduceIte,qE,qA,qL,qD,h0,h3,glRows_len,Int.natCast_zero,Int.sub_zero,glRows_take]
  refine ⟨by omega,by omega,by omega,by omega,?_⟩
  have hn':l.take n=trimGl l:=by rw [hn];rfl
  rw [hn']
  refine cr_fn (cloneO_fn Hc hNc (trimGl l) Δ h hb) ?_
  simp only [xq,reduceIte,qE,qA,qL,qD]
  refine W_ret ⟨.inr rfl,?_⟩
  simp only [readRs,readR,single,x_upd,reduceIte,qE,x_look,xq,reduceIte,qE,qA,qL,qD]
 cases m with
 | zero =>
  refine W_seq (W_seq (W_drw (by simp) ?_))
  simp only [xq,reduceIte,qE,qA,qL,qD,S,Int.natCast_zero,Int.lt_irrefl,decide_false]
  refine W_cond rfl (fun hc=>by cases hc) (fun _=>W_exit ?_)
  simp only [xq,reduceIte,qE,qA,qL,qD]
  exact fin _ 0 rfl rfl htr.symm
 | succ n =>
  have hpos:decide ((0:Int)<((n+1:Nat):Int))=true:=decide_eq_true (by omega)
  have hlt:n<l.length:=by omega
  refine W_seq (W_seq (W_drw (by simp) ?_))
  simp only [xq,reduceIte,qE,qA,qL,qD,S,hpos,i64_pred (show n≤room by omega),glRows_get hlt,Gl.row,glRows_len]
  refine ⟨by omega,by omega,?_⟩
  refine c_fn (blank_fn Hb) rfl ?_
  simp only [xq,reduceIte,qE,qA,qL,qD,glA,Gl.row,gl_eq]
  refine W_cond rfl (fun hc=>W_skip ?_) (fun hc=>W_exit ?_)
  ·have he:l[n]=spaceGl:=by simpa using hc
   simp only [xq,reduceIte,qE,qA,qL,qD]
   refine W_block (W_reg ?_)
   simp only [xq,reduceIte,qE,qA,qL,qD]
   refine ⟨n,S n,Nat.lt_succ_self _,Co.keep _ ?_,by omega,rfl,?_⟩
   ·simp [x_upd,x_look,i64_nat (show n≤room by omega)]
   ·rw [htr];simp [trimN,zB hlt,he]
  ·have he:l[n]≠spaceGl:=by simpa using hc
   simp only [xq,reduceIte,qE,qA,qL,qD]
   refine fin _ (n+1) rfl rfl ?_
   rw [htr];simp [trimN,zB hlt,he]
end Go.Proofs.YtlllnjhgjijnkaaDoor.Nx
namespace Go.Proofs.YtlllnjhgjijnkaaDoor.Nx
open Go
variable {P:Program} {N:Nat} {Γ:Tabs}
abbrev eCg:Elt:=⟨6,64⟩
def Cg.ds (c:Cg):List D:=[.sc (.int .i64 c.kind),.sc (.int .i64 c.row),.sc (.int .i64 c.col),.sc (.int .i64 c.count),.sc (.int .i64 c.upto),.sl eGl (glRows c.gl)]
def cgA (c:Cg):A:=.agg (c.ds.map .d)
abbrev cgB (c:Cg):HB:=.cells eCg [c.ds.map .d]
theorem between_fn {f:FuncId} (H:FnIs P f N [.t 6] x_change_between) (hN:3≤N) (n a b:Int):FnP Γ P f [.int n,.int a,.int b] (.bool (btw n a b)):=by
 refine .of_W H (by simpa using hN) ?_
 unfold x_change_between
 refine wR ?_;simp only [xq,reduceIte,qE,qA,qL,qD]
 unfold btw
 cases e:decide (a≤n)
 ·refine wR ?_;simp only [xq,reduceIte,qE,qA,qL,qD,e,undefA,zE,Bool.false_and]
  refine W_ret (.tmp ?_ rfl)
  simp only [x_upd,reduceIte]
 ·refine wR ?_;simp only [xq,reduceIte,qE,qA,qL,qD,e,undefA,zE]
  refine W_ret (.tmp ?_ rfl)
  simp only [x_upd,reduceIte]
theorem len0 {l:List Gl}:decide ((l.length:Int)=0)=decide (l=[]):=by
 rw [Bool.eq_iff_iff]
 simp only [decide_eq_true_eq]
 constructor
 ·intro h;exact List.eq_nil_of_length_eq_zero (by omega)
 ·intro h;rw [h];rfl
theorem blank19_fn {f:FuncId} (H:FnIs P f N [.t 2] x_change_blank) (hN:1≤N) (c:Cg):FnP Γ P f [cgA c] (.bool (blankG c)):=by
 refine .of_W H (by simpa using hN) ?_
 unfold x_change_blank blankG
 simp only [cgA,Cg.ds,zU,zV]
 refine wR ?_;simp only [xq,reduceIte,qE,qA,qL,qD]
 refine W_seq ?_
 refine wR ?_;simp only [xq,reduceIte,qE,qA,qL,qD]
 refine W_block ?_
 refine wR ?_;simp only [xq,reduceIte,qE,qA,qL,qD]
 refine W_cond rfl (fun hk=>?_) (fun hk=>?_)
 ·have hk:c.kind=1:=by simpa using hk
  rw [if_pos hk]
  cases e1:decide (c.count=0)
  ·refine wR ?_;simp only [xq,reduceIte,qE,qA,qL,qD,e1,undefA,zE,Bool.false_and]
   refine W_ret ?_
   simp only [xq,reduceIte,qE,qA,qL,qD]
   refine .tmp ?_ rfl
   simp only [x_upd,reduceIte]
  cases e2:decide (c.upto=0)
  ·refine wR ?_;simp only [xq,reduceIte,qE,qA,qL,qD,e1,e2,undefA,zE,Bool.false_and,Bool.true_and]
   refine W_ret ?_
   simp only [xq,reduceIte,qE,qA,qL,qD]
   refine .tmp ?_ rfl
   simp only [x_upd,reduceIte]
  refine wR ?_;simp only [xq,reduceIte,qE,qA,qL,qD,e1,e2,undefA,zE,Bool.true_and,glRows_len,len0]
  refine W_ret ?_
  simp only [xq,reduceIte,qE,qA,qL,qD]
  refine .tmp ?_ rfl
  simp only [x_upd,reduceIte]
 have hk1:¬ c.kind=1:=by simpa using hk
 rw [if_neg hk1]
 refine wR ?_;simp only [xq,reduceIte,qE,qA,qL,qD]
 refine W_cond rfl (fun hk=>?_) (fun hk=>?_)
 ·have hk:c.kind=2:=by simpa using hk
  rw [if_pos hk]
  cases e1:decide (c.col=0)
  ·refine wR ?_;simp only [xq,reduceIte,qE,qA,qL,qD,e1,undefA,zE,Bool.false_and]
   refine W_ret ?_
   simp only [xq,reduceIte,qE,qA,qL,qD]
   refine .tmp ?_ rfl
   simp only [x_upd,reduceIte]
  refine wR ?_;simp only [xq,reduceIte,qE,qA,qL,qD,e1,undefA,zE,Bool.true_and,glRows_len,len0]
  refine W_ret ?_
  simp only [xq,reduceIte,qE,qA,qL,qD]
  refine .tmp ?_ rfl
  simp only [x_upd,reduceIte]
 have hk2:¬ c.kind=2:=by simpa using hk
 rw [if_neg hk2]
 refine wR ?_;simp only [xq,reduceIte,qE,qA,qL,qD]
 refine W_cond rfl (fun hk=>?_) (fun hk=>?_)
 ·have hk:c.kind=3:=by simpa using hk
  rw [if_pos hk]
  refine wR ?_;simp only [xq,reduceIte,qE,qA,qL,qD]
  refine W_ret ?_
  simp only [xq,reduceIte,qE,qA,qL,qD]
  refine .tmp ?_ rfl
  simp only [x_upd,reduceIte]
 have hk3:¬ c.kind=3:=by simpa using hk
 rw [if_neg hk3]
 refine W_skip ?_
 simp only [xq,reduceIte,qE,qA,qL,qD]
 cases e1:decide (c.upto=0)
 ·refine wR ?_;simp only [xq,reduceIte,qE,qA,qL,qD,e1,undefA,zE,Bool.false_and]
  refine W_ret (.tmp ?_ rfl)
  simp only [x_upd,reduceIte]
 refine wR ?_;simp only [xq,reduceIte,qE,qA,qL,qD,e1,undefA,zE,Bool.true_and,glRows_len,len0]
 refine W_ret (.tmp ?_ rfl)
 simp only [x_upd,reduceIte]
set_option maxHeartbeats 400000 in
theorem proper_fn {f fc fw fb:FuncId} (H:FnIs P f N [.t 2] (x_change_proper fc fw fb)) (hN:1≤N) (Hc:∀ s:ByteArray,s.size≤1000→FnP Γ P fc [.str s] (.int (chkC s))) (Hw:∀ s:ByteArray,s.size≤1000→FnP Γ P fw [.str s] (.int (widC s)))
  (Hb:∀ n a b,FnP Γ P fb [.int n,.int a,.int b] (.bool (btw n a b))) (g:Gl) (hg:g.text.size≤1000):FnP Γ P f [glA g] (.int (glyphC g)):=by
 refine .of_W H (by simpa using hN) ?_
 unfold x_change_proper
 simp only [glA,Gl.row,zU,zV]
 refine wR ?_;simp only [xq,reduceIte,qE,qA,qL,qD]
 refine W_seq ?_
 refine wR ?_;simp only [xq,reduceIte,qE,qA,qL,qD]
 refine c_fn (Hc g.text hg) rfl ?_;simp only [xq,reduceIte,qE,qA,qL,qD]
 refine W_cond rfl (fun hc=>?_) (fun hc=>W_skip ?_)
 ·have hc:¬ chkC g.text=0:=by simpa using hc
  refine wR ?_;simp only [xq,reduceIte,qE,qA,qL,qD]
  refine W_ret (.tmp ?_ rfl)
  simp only [x_upd,reduceIte,glyphC,if_neg hc]
 have hc:chkC g.text=0:=by simpa using hc
 simp only [xq,reduceIte,qE,qA,qL,qD]
 obtain ⟨B,hB⟩:∃ B,B=badG g:=⟨_,rfl⟩
 let U:St:=⟨look [(29,.bool B)],[]⟩
 refine W_seq (W_cut (· = U) (W_drw (by simp) ?_) ?_)
 ·have hbt:btw g.style 0 3 = !(decide (g.style<0)||decide (3<g.style)):=by
   rw [Bool.eq_iff_iff];simp [btw]
  have fin:∀ (sl:Nat→A) (h:Heap) (b:Bool),sl 29 = .bool b→b=badG g→∃ s1,Co 0 ⟨sl,h⟩ s1∧s1=U:=by
   intro sl h b h1 h2
   refine ⟨U,?_,rfl⟩
   have:=Co.to (n0:=0) (s:=⟨sl,h⟩) [(29,.bool B)] 0 (by simp [h1,h2,hB,A.under]) (zL _) (zI _) (by simp)
   simpa [U] using this
  have hbad:badG g=(((g.wide != decide (widC g.text=2)) || !btw g.style 0 3)||(decide (g.style=3) && !decide (g.text=⟨#[42]⟩))):=by
   rw [hbt];unfold badG
   cases (g.wide != decide (widC g.text=2))<;>cases decide (g.style<0)<;>cases decide (3<g.style)<;>rfl
  cases e1:(g.wide != decide (widC g.text=2))
  ·cases e2:btw g.style 0 3
   ·have hb:=Hb g.style 0 3
    rw [e2] at hb
    simp only [xq,reduceIte,qE,qA,qL,qD]
    refine c_fn (Hw g.text hg) rfl ?_;simp only [xq,reduceIte,qE,qA,qL,qD,e1,undefA,zE]
    refine c_fn (hb) rfl ?_;simp only [xq,reduceIte,qE,qA,qL,qD,undefA,zE]
    exact fin _ _ true rfl (by rw [hbad,e1,e2];rfl)
   ·have hb:=Hb g.style 0 3
    rw [e2] at hb
    cases e3:decide (g.style=3)
    ·simp only [xq,reduceIte,qE,qA,qL,qD]
     refine c_fn (Hw g.text hg) rfl ?_;simp only [xq,reduceIte,qE,qA,qL,qD,e1,undefA,zE]
     refine c_fn (hb) rfl ?_;simp only [xq,reduceIte,qE,qA,qL,qD,undefA,zE,e3]
     exact fin _ _ false rfl (by rw [hbad,e1,e2,e3];rfl)
    ·simp only [xq,reduceIte,qE,qA,qL,qD]
     refine c_fn (Hw g.text hg) rfl ?_;simp only [xq,reduceIte,qE,qA,qL,qD,e1,undefA,zE]
     refine c_fn (hb) rfl ?_;simp only [xq,reduceIte,qE,qA,qL,qD,undefA,zE,e3]
     exact fin _ _ (!decide (g.text=⟨#[42]⟩)) rfl (by rw [hbad,e1,e2,e3];rfl)
  ·simp only [xq,reduceIte,qE,qA,qL,qD]
   refine c_fn (Hw g.text hg) rfl ?_;simp only [xq,reduceIte,qE,qA,qL,qD,e1,undefA,zE]
   exact fin _ _ true rfl (by rw [hbad,e1];rfl)
 rintro _ rfl
 simp only [U]
 refine W_cond rfl (fun hd=>?_) (fun hd=>W_skip ?_)
 ·refine wR ?_;simp only [xq,reduceIte,qE,qA,qL,qD]
  refine W_ret (.tmp ?_ rfl)
  rw [hB] at hd
  simp only [x_upd,reduceIte,glyphC,if_pos hc,hd]
 ·simp only [xq,reduceIte,qE,qA,qL,qD]
  refine wR ?_;simp only [xq,reduceIte,qE,qA,qL,qD]
  refine W_ret (.tmp ?_ rfl)
  rw [hB] at hd
  simp only [x_upd,reduceIte,glyphC,if_pos hc,hd,Bool.false_eq_true]
def RowAt (h:Heap) (x:A) (r:List Gl):Prop:=(x = .nil∧r=[])∨∃ q,x = .ref q r.length 0 r.length true∧h[q]? = some (rowB r)
def edRow (v:Vw) (k M:Nat):List A:=[.int v.width,.int v.height,.ref k M 0 v.rows.length true,.int v.row,.int v.col,.bool v.vis]
structure EdIs (h:Heap) (id:Nat) (v:Vw) (k:Nat) (R:List (List A)):Prop where
 hid:h[id]? = some (.cells eVw [edRow v k R.length])
 hk:h[k]? = some (.cells eRw R)
 len:v.rows.length≤R.length
 row:∀ (i:Nat) (r:List Gl),v.rows[i]? = some r→∃ x,R[i]? = some [x]∧RowAt h x r
 dis:∀ (i j q n m:Nat),i<v.rows.length→j<v.rows.length→R[i]? = some [.ref q n 0 n true]→R[j]? = some [.ref q m 0 m true]→i=j
theorem EdIs.app {h:Heap} {id:Nat} {v:Vw} {k:Nat} {R:List (List A)} (e:EdIs h id v k R) (t:Heap):EdIs (h++t) id v k R:=by
 have up:∀ {q:Nat} {B:HB},h[q]? = some B→(h++t)[q]? = some B:=fun hq=>by
  rw [List.getElem?_append_left (zA.1 hq).1];exact hq
 refine ⟨up e.hid,up e.hk,e.len,fun i r hr=>?_,e.dis⟩
 obtain ⟨x,h1,h2⟩:=e.row i r hr
 refine ⟨x,h1,?_⟩
 rcases h2 with h2 | ⟨q,h2,h3⟩
 ·exact .inl h2
 ·exact .inr ⟨q,h2,up h3⟩
theorem EdIs.id_lt {h:Heap} {id:Nat} {v:Vw} {k:Nat} {R:List (List A)} (e:EdIs h id v k R):id<h.length:=(zA.1 e.hid).1
theorem EdIs.k_lt {h:Heap} {id:Nat} {v:Vw} {k:Nat} {R:List (List A)} (e:EdIs h id v k R):k<h.length:=(zA.1 e.hk).1
end Go.Proofs.YtlllnjhgjijnkaaDoor.Nx

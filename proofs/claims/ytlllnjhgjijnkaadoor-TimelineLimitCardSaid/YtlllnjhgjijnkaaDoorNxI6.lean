import Derived.Test.YtlllnjhgjijnkaaDoorNxI2
import Derived.Test.YtlllnjhgjijnkaaDoorNxE21
import Derived.Test.YtlllnjhgjijnkaaDoorNxW8
set_option linter.unusedSimpArgs false
set_option linter.unusedVariables false
set_option linter.unnecessarySimpa false
open List renaming getElem?_eq_some_iff → zA, getElem?_eq_getElem → zB, getD_eq_getElem?_getD → zC, getElem?_map → zK, getElem?_set_self → zN, append_nil → zP, append_assoc → zS, map_cons → zU, map_nil → zV, mem_of_getElem? → zY, length_cons → za, length_append → zb, not_mem_nil → zc, drop_eq_getElem_cons → zd, getElem_mem → zi, mem_cons → zp
open Bool renaming true_eq_false → zE
open Nat renaming zero_le → zI
open Int renaming toNat_natCast → zQ
open Nat renaming reduceEqDiff → qE, reduceAdd → qA, reduceLT → qL, reduceLeDiff → qD
namespace Go.Proofs.YtlllnjhgjijnkaaDoor.Nx
open Go
variable {P:Program} {N:Nat} {Γ:Tabs}
theorem cgRows_one {l:List Cg} {i:Nat} (hi:i<l.length):((cgRows l).drop i).take 1=cgRows [l[i]]:=by
 rw [cgRows,← List.map_drop,← List.map_take,zd hi];rfl
theorem costG_one (c:Cg):costG [c]=cost1 c:=by rw [costG_cons,costG,Int.add_zero]
def costC (c:Cg):Int:=if c.kind=1∨c.kind=4 then 1 else if c.kind=2 then 3 else if c.kind=3 then cost1 c else 0
theorem cost20_succ {l:List Cg} {i:Nat} (hi:i<l.length):cost20 (l.take (i+1))=cost20 (l.take i)+costC l[i]:=by
 rw [List.take_add_one,zB hi,Option.toList_some,cost20_app,cost20,cost20,Int.add_zero];rfl
theorem costC_bnd {c:Cg} {n:Nat} (h:c.gl.length≤n):0≤costC c∧costC c≤1002+n:=by
 unfold costC cost1
 split
 ·omega
 ·split
  ·omega
  ·split<;>omega
theorem cost20_bnd:∀ {l:List Cg} {n:Nat},(∀ c∈l,c.gl.length≤n)→0≤cost20 l∧cost20 l≤l.length * (1002+n)
 | [],n,_=>by simp [cost20]
 | c::l,n,h=>by
  have ih:=cost20_bnd (l:=l) (n:=n) fun c hc=>h c (List.mem_cons_of_mem _ hc)
  have h1:=costC_bnd (h c (List.mem_cons_self ..))
  have e:((c::l).length:Int) * (1002+n)=(l.length:Int) * (1002+n)+(1002+n):=by
   rw [za];push_cast;rw [Int.add_mul];omega
  have e2:cost20 (c::l)=costC c+cost20 l:=rfl
  rw [e2,e]
  omega
structure Few (l:List Cg):Prop where
 len:l.length≤20000000
 gl:∀ c∈l,c.gl.length≤1000000
abbrev CostOk (Γ:Tabs) (P:Program) (f:FuncId):Prop:=∀ l:List Cg,Few l→FnP Γ P f [cgsA l] (.int (cost20 l))
theorem Few.bnd {l:List Cg} (h:Few l) (i:Nat):0≤cost20 (l.take i)∧cost20 (l.take i)≤20040000000000:=by
 have:=cost20_bnd (l:=l.take i) (n:=1000000) fun c hc=>h.gl c (List.mem_of_mem_take hc)
 have h1:(l.take i).length≤20000000:=by have:=h.len;rw [List.length_take];omega
 have h2:((l.take i).length:Int) * (1002+(1000000:Nat))≤20000000 * (1002+(1000000:Nat)):=Int.mul_le_mul_of_nonneg_right (by omega) (by omega)
 omega
abbrev Cost1Ok (Γ:Tabs) (P:Program) (f:FuncId):Prop:=∀ c:Cg,c.gl.length≤1000000→FnP Γ P f [cgsA [c]] (.int (cost1 c))
set_option maxHeartbeats 1000000 in
theorem cost20_fn {f fc:FuncId} (H:FnIs P f N [.t 2] (x_viewdiff_Cost fc)) (hN:1≤N) (Hc:Cost1Ok Γ P fc):CostOk Γ P f:=by
 intro l hl
 refine .of_W H (by simpa using hN) ?_
 have hll:=hl.len
 unfold x_viewdiff_Cost
 refine wR ?_;simp only [xq,reduceIte,qE,qA,qL,qD]
 refine wR ?_;simp only [xq,reduceIte,qE,qA,qL,qD]
 refine W_seq ?_
 refine wR ?_;simp only [xq,reduceIte,qE,qA,qL,qD,cgRows_len]
 refine W_block ?_
 let S:Nat→St:=fun i=>⟨look [(0,cgsA l),(3,.int (cost20 (l.take i))),(6,cgsA l),(7,.int l.length),(8,.int i)],[]⟩
 refine W_co (s':=S 0) (Co.keep _ (by simp [x_upd,x_look,cost20])) ?_
 refine W_loop (fun m s=>∃ i,i≤l.length∧m=l.length-i∧s=S i) ⟨0,zI _,rfl,rfl⟩ ?_
 rintro m s ⟨i,hi,rfl,rfl⟩
 simp only [S]
 refine wR ?_;simp only [xq,reduceIte,qE,qA,qL,qD]
 refine W_seq (W_cond rfl (fun hc=>W_skip ?_) (fun hc=>W_exit ?_))
 ·have hlt:i<l.length:=by simpa using hc
  have w1:IntKind.i64.wrap ((i:Int)+1)=((i+1:Nat):Int):=by rw [i64_of (by omega)];omega
  have hb:=hl.bnd i
  have hgl:=hl.gl _ (zi hlt)
  have hsu:=cost20_succ hlt
  have hone:=cgRows_one hlt
  have hcc:costC l[i]=if l[i].kind=1∨l[i].kind=4 then 1 else if l[i].kind=2 then 3 else if l[i].kind=3 then cost1 l[i] else 0:=rfl
  obtain ⟨c,hcd⟩:∃ c,c=l[i]:=⟨_,rfl⟩
  have hcg:(cgRows l).getD i []=c.ds:=by rw [cgRows_get hlt,← hcd]
  rw [← hcd] at hgl hsu hone hcc
  have hC:=Hc c hgl
  have hcb:=costC_bnd hgl
  obtain ⟨n0,hn0⟩:∃ n,n=cost20 (l.take i):=⟨_,rfl⟩
  rw [← hn0] at hb hsu
  simp only [← hn0]
  simp only [xq,reduceIte,qE,qA,qL,qD]
  let T:Int→St:=fun n=>⟨look [(0,cgsA l),(3,.int n),(6,cgsA l),(7,.int l.length),(8,.int i)],[]⟩
  refine W_cut (· = T (n0+costC c)) ?_ ?_
  ·refine W_block ?_
   refine wR ?_;simp only [xq,reduceIte,qE,qA,qL,qD,cgRows_len,hcg,Cg.ds,zQ]
   refine ⟨by omega,by omega,?_⟩
   let V:St:=⟨look [(0,cgsA l),(3,.int n0),(4,.int i),(6,cgsA l),(7,.int l.length),(8,.int i),(14,.int c.kind)],[]⟩
   refine wR ?_;simp only [xq,reduceIte,qE,qA,qL,qD,Cg.ds]
   refine W_co (s':=V) (Co.to _ 0 (by simp [x_upd,x_look,A.under]) (zI _) (zI _) u0) ?_
   have fin:∀ (sl:Nat→A) (h:Heap) (n:Int),sl 0=cgsA l→sl 3 = .int n→sl 6=cgsA l→sl 7 = .int l.length→sl 8 = .int i→n=n0+costC c→∃ s1,Co 0 ⟨sl,h⟩ s1∧s1=T (n0+costC c):=by
    intro sl h n q0 q3 q6 q7 q8 hn
    refine ⟨_,Co.to (s:=⟨sl,h⟩) [(0,cgsA l),(3,.int n),(6,cgsA l),(7,.int l.length),(8,.int i)] 0 ?_ (zI _) (zI _) u0,?_⟩
    ·simp [q0,q3,q6,q7,q8,A.under]
    ·rw [hn];rfl
   simp only [V]
   refine W_block ?_
   refine W_cut (· = ⟨look [(0,cgsA l),(3,.int n0),(4,.int i),(6,cgsA l),(7,.int l.length),(8,.int i),(14,.int c.kind),(15,.bool (decide (c.kind=1)||decide (c.kind=4)))],[]⟩) ?_ ?_
   ·refine wR ?_;simp only [xq,reduceIte,qE,qA,qL,qD]
    refine W_cond rfl (fun hd=>W_skip ?_) (fun hd=>W_reg ?_)
    ·exact ⟨rfl,_,Co.keep _ (by simp [x_upd,x_look,hd]),rfl⟩
    ·simp only [xq,reduceIte,qE,qA,qL,qD]
     exact ⟨_,Co.keep _ (by simp [x_upd,x_look,hd]),rfl⟩
   rintro _ rfl
   refine W_cond rfl (fun hd=>?_) (fun hd=>?_)
   ·have hd:c.kind=1∨c.kind=4:=by simpa using hd
    rw [if_pos hd] at hcc
    have w2:IntKind.i64.wrap (n0+1)=n0+1:=i64_of (by omega)
    refine W_reg ?_;simp only [xq,reduceIte,qE,qA,qL,qD,w2]
    exact fin _ _ (n0+1) rfl rfl rfl rfl rfl (by rw [hcc])
   have hd:¬ (c.kind=1∨c.kind=4):=by simpa using hd
   rw [if_neg hd] at hcc
   refine wR ?_;simp only [xq,reduceIte,qE,qA,qL,qD]
   refine W_cond rfl (fun hd2=>?_) (fun hd2=>?_)
   ·have hd2:=of_decide_eq_true hd2
    rw [if_pos hd2] at hcc
    have w2:IntKind.i64.wrap (n0+3)=n0+3:=i64_of (by omega)
    refine W_reg ?_;simp only [xq,reduceIte,qE,qA,qL,qD,w2]
    exact fin _ _ (n0+3) rfl rfl rfl rfl rfl (by rw [hcc])
   have hd2:=of_decide_eq_false hd2
   rw [if_neg hd2] at hcc
   refine wR ?_;simp only [xq,reduceIte,qE,qA,qL,qD]
   refine W_cond rfl (fun hd3=>?_) (fun hd3=>W_skip ?_)
   ·have hd3:=of_decide_eq_true hd3
    rw [if_pos hd3] at hcc
    have w2:IntKind.i64.wrap (n0+cost1 c)=n0+cost1 c:=by rw [← hcc];exact i64_of (by omega)
    refine W_reg ?_;simp only [xq,reduceIte,qE,qA,qL,qD,w1,zQ,show (((i+1:Nat):Int)-(i:Int)).toNat=1 by omega,hone,cgRows_len]
    repeat refine And.intro (by omega) ?_
    refine c_fn (hC) rfl ?_;simp only [xq,reduceIte,qE,qA,qL,qD,w2]
    exact fin _ _ (n0+cost1 c) rfl rfl rfl rfl rfl (by rw [hcc])
   ·have hd3:=of_decide_eq_false hd3
    rw [if_neg hd3] at hcc
    simp only [xq,reduceIte,qE,qA,qL,qD]
    exact fin _ _ n0 rfl rfl rfl rfl rfl (by rw [hcc,Int.add_zero])
  rintro _ rfl
  simp only [T]
  refine W_reg ?_;simp only [xq,reduceIte,qE,qA,qL,qD,w1]
  exact ⟨l.length-(i+1),S (i+1),by omega,Co.keep _ (by simp [x_upd,x_look,hsu]),i+1,hlt,rfl,rfl⟩
 ·have hle:i=l.length:=by simp at hc;omega
  subst hle
  simp only [xq,reduceIte,qE,qA,qL,qD]
  refine wR ?_;simp only [xq,reduceIte,qE,qA,qL,qD]
  refine W_ret (.tmp ?_ rfl)
  simp only [x_upd,reduceIte,List.take_length,xq,reduceIte,qE,qA,qL,qD]
end Go.Proofs.YtlllnjhgjijnkaaDoor.Nx
namespace Go.Proofs.YtlllnjhgjijnkaaDoor.Nx
open Go
variable {P:Program} {N:Nat} {Γ:Tabs}
theorem frz_boxes {sl:Nat→A} {h t:Heap} {a b:Vw} (l:List (Nat × A)) (h2:sl 2 = .ptr 0 1 0 0) (h3:sl 3 = .ptr 1 1 0 0) (hl:∀ p∈l,p.2.under 0=true∧sl p.1=p.2):Co 0 ⟨sl,vwB a::vwB b::t⟩ ⟨look ((2,.iptr a.ds)::(3,.iptr b.ds)::l),[]⟩:=by
 refine Co.frz (s:=⟨sl,vwB a::vwB b::t⟩) _ 0 ?_ (zI _) (zI _) u0
 intro p hp
 simp only [zp] at hp
 rcases hp with rfl | rfl | hp
 ·simp only;rw [h2];exact frz_box (zI _) (e:=eVw) rfl
 ·simp only;rw [h3];exact frz_box (zI _) (e:=eVw) rfl
 ·obtain ⟨q1,q2⟩:=hl p hp
  show FrzA 0 _ (sl p.1) p.2
  rw [q2];exact .same q1
end Go.Proofs.YtlllnjhgjijnkaaDoor.Nx
namespace Go.Proofs.YtlllnjhgjijnkaaDoor.Nx
open Go
variable {P:Program} {N:Nat} {Γ:Tabs}
theorem frzN_rows {h:Heap} {q:Nat} {e:Elt} {rows:List (List D)} (hs:∀ r∈rows,∀ d∈r,∃ v,d = .sc v) (hq:h[q]? = some (.cells e (rows.map fun r=>r.map .d))):FrzN h (.ref q rows.length 0 rows.length true) (.sl e rows):=by
 have hlen:(rows.map fun r=>r.map A.d).length=rows.length:=by simp
 rw [← hlen]
 have get:∀ i r,rows[i]? = some r→(rows.map fun r=>r.map A.d).getD (0+i) []=r.map .d:=by
  intro i r hi
  rw [Nat.zero_add,zC,zK,hi];rfl
 refine .ref hq hlen.symm (fun i r hi=>?_) (fun i r j d hi hj=>?_)
 ·rw [get i r hi];simp
 ·rw [get i r hi]
  obtain ⟨v,rfl⟩:=hs r (zY hi) d (zY hj)
  have:(r.map A.d).getD j .any = .d (.sc v):=by rw [zC,zK,hj];rfl
  rw [this];exact .sc v
theorem glRows_sc {l:List Gl}:∀ r∈glRows l,∀ d∈r,∃ v,d = .sc v:=by
 intro r hr d hd
 obtain ⟨g,_,rfl⟩:=List.mem_map.1 hr
 simp only [Gl.row,zp,zc,or_false] at hd
 rcases hd with rfl | rfl | rfl<;>exact ⟨_,rfl⟩
theorem rowAt_frzN {h:Heap} {x:A} {r:List Gl} (hr:RowAt h x r):FrzN h x (.sl eGl (glRows r)):=by
 rcases hr with ⟨rfl,rfl⟩ | ⟨q,rfl,hq⟩
 ·exact .nil _
 ·have:=frzN_rows (e:=eGl) glRows_sc hq
  rw [glRows_len] at this
  exact this
theorem EdIs.frzN {h:Heap} {id:Nat} {v:Vw} {k:Nat} {R:List (List A)} (e:EdIs h id v k R):FrzN h (.ref k R.length 0 v.rows.length true) (.sl eRw (rwRows v.rows)):=by
 have get:∀ {i:Nat} {r:List D},(rwRows v.rows)[i]? = some r→∃ (hi:i<v.rows.length) (x:A),r=[.sl eGl (glRows v.rows[i])]∧R.getD (0+i) []=[x]∧RowAt h x v.rows[i]:=by
  intro i r hi
  have hlt:i<v.rows.length:=by have:=(zA.1 hi).1;rwa [rwRows_len] at this
  obtain ⟨x,h1,h2⟩:=e.row i _ (zB hlt)
  refine ⟨hlt,x,?_,?_,h2⟩
  ·rw [rwRows,zK,zB hlt] at hi
   simpa using hi.symm
  ·rw [Nat.zero_add,zC,h1];rfl
 refine .ref e.hk (rwRows_len) (fun i r hi=>?_) (fun i r j d hi hj=>?_)
 ·obtain ⟨_,x,rfl,h2,_⟩:=get hi
  rw [h2];rfl
 ·obtain ⟨_,x,rfl,h2,h3⟩:=get hi
  rw [h2]
  match j,hj with
  | 0,hj=>simp at hj;subst hj;exact rowAt_frzN h3
  | j+1,hj=>simp at hj
theorem EdIs.frzVN {h:Heap} {id:Nat} {v:Vw} {k:Nat} {R:List (List A)} (e:EdIs h id v k R):FrzNA h (.agg (edRow v k R.length)) (vwA v):=by
 refine .agg rfl fun j y hj=>?_
 rcases j with _ | _ | _ | _ | _ | _ | j
 ·cases hj;exact .d (.sc _)
 ·cases hj;exact .d (.sc _)
 ·cases hj;exact .d e.frzN
 ·cases hj;exact .d (.sc _)
 ·cases hj;exact .d (.sc _)
 ·cases hj;exact .d (.sc _)
 ·simp [Vw.ds] at hj
theorem frzN_zero {h:Heap}:FrzNA h (.agg zrow) (vwA zeroV):=by
 refine .agg rfl fun j y hj=>?_
 rcases j with _ | _ | _ | _ | _ | _ | j
 ·cases hj;exact .d (.sc _)
 ·cases hj;exact .d (.sc _)
 ·cases hj;exact .d (.nil _)
 ·cases hj;exact .d (.sc _)
 ·cases hj;exact .d (.sc _)
 ·cases hj;exact .d (.sc _)
 ·simp [zeroV,Vw.ds] at hj
theorem frzNT3 {h:Heap} {x y z x' y' z':A} (h1:FrzNA h x x') (h2:FrzNA h y y') (h3:FrzNA h z z'):FrzNA h (.tup [x,y,z]) (.tup [x',y',z']):=by
 refine .tup rfl fun j u hj=>?_
 rcases j with _ | _ | _ | j
 ·cases hj;exact h1
 ·cases hj;exact h2
 ·cases hj;exact h3
 ·simp at hj
theorem retApN {sl:Nat→A} {h:Heap} {x:Vw × Int × Int} {row:List A} (h4:sl 4 = .ptr 1 1 0 0) (h1:h[1]? = some (.cells eVw [row])) (hl:row.length=6) (hf:FrzNA h (.agg row) (vwA x.1)) (h5:sl 5 = .int x.2.1) (h6:sl 6 = .int x.2.2) :
  RetN [.c 4 6 true,.t 5,.t 6] (apA x) .ret ⟨sl,h⟩:=by
 obtain ⟨a,b,c,d,e,g,rfl⟩:∃ a b c d e g,row=[a,b,c,d,e,g]:=by
  match row,hl with
  | [a,b,c,d,e,g],_=>exact ⟨a,b,c,d,e,g,rfl⟩
 refine ⟨.inr rfl,?_⟩
 simp only [readRs,readR,single,h4,h5,h6,h1,xq,reduceIte,qE,qA,qL,qD]
 simp only [loadsTo,if_true,List.take,xq,reduceIte,qE,qA,qL,qD]
 exact frzNT3 (y:=.int x.2.1) (y':=.int x.2.1) (z:=.int x.2.2) (z':=.int x.2.2) hf (.d (.sc _)) (.d (.sc _))
set_option maxHeartbeats 2000000 in
theorem applyN_fn {f fv fo fc fa fw:FuncId} {Δ:Ctx} (H:FnIs P f N [.c 4 6 true,.t 5,.t 6] (x_change_Apply fv fo fc fa fw)) (hN:2≤N) (v:Vw) (l:List Cg) (hrun:RunOk v l) (hl:∀ c∈l,CgOk c) (Hv:FnP Γ P fv [vwA v] (.int (viewC v)))
  (Ho:v.rows≠[]→v.rows.length≤1000→∀ h:Heap,∃ h' id k R,FnD Γ.ctx P fo [vwA v] h (.ptr id 1 0 0) h'∧EdIs h' id v k R∧h.length≤id∧h.length≤h'.length∧Keep6 h h' id)
  (Hc:∀ {v:Vw} (c:Cg),Ed v→∀ {m:Nat},Sm v m→m≤100000→(∀ g∈c.gl,g.text.size≤1000)→∀ {h:Heap} {id k:Nat} {R:List (List A)},EdIs h id v k R→FnD Γ.ctx P fc [.ptr id 1 0 0,cgA c] h (.int (chgC v c)) h)
  (Ha:EdStep Γ.ctx P fa StepPre stepV) (Hw:∀ l,FnP Γ P fw [.d (.sl eGl (glRows l))] (.int (widthN l))):FnN Γ P f [vwA v,cgsA l] (apA (applyV v l)):=by
 refine FnN.of_W H (by simpa using hN) (W_sl 1 rfl fun ⟨hmx,hroom,_⟩=>?_)
 rw [cgRows_len] at hroom hmx
 have hlr:l.length≤room:=le_of_mul hroom
 simp only [room] at hlr
 unfold x_change_Apply
 have hv0:=Hv
 simp only [vwA,Vw.ds,zU,zV] at hv0 ⊢
 refine wR ?_;simp only [xq,reduceIte,qE,qA,qL,qD]
 refine W_seq ?_
 refine wR ?_;simp only [xq,reduceIte,qE,qA,qL,qD]
 refine c_fn (hv0) rfl ?_;simp only [xq,reduceIte,qE,qA,qL,qD]
 refine W_cond rfl (fun hk=>?_) (fun hk=>W_skip ?_)
 ·have hk:¬ viewC v=0:=by simpa using hk
  refine wR ?_;simp only [xq,reduceIte,qE,qA,qL,qD]
  refine W_ret ?_
  simp only [xq,reduceIte,qE,qA,qL,qD]
  refine retApN (row:=zrow) rfl rfl rfl ?_ ?_ ?_<;>simp only [applyV,if_neg hk]
  ·exact frzN_zero
  ·rfl
  ·rfl
 have hk:viewC v=0:=by simpa using hk
 obtain ⟨hed,_⟩:=viewC_zero.1 hk
 have hsz:=szOk_iff.1 hed.sz
 have hlen:=hed.len
 have hap:applyV v l=runV v 0 l:=by rw [applyV,if_pos hk]
 rw [hap]
 obtain ⟨h0,id,k0,R0,hF,he0,hid,hle,hkeep⟩:=Ho (by intro h;rw [h] at hlen;simp at hlen;omega) (by omega) [vwB v,zeroB]
 simp only [vwA,Vw.ds,zU,zV] at hF
 simp only [xq,reduceIte,qE,qA,qL,qD]
 have hF':FnD Γ.ctx P fo [vwA v] [vwB v,zeroB] (.ptr id 1 0 0) h0:=hF
 simp only [vwA,Vw.ds,zU,zV] at hF'
 have h1z:h0[1]? = some zeroB:=hkeep 1 eVw [zrow] rfl rfl (by simp at hid;omega)
 have hid1:id≠1:=by simp at hid;omega
 refine wR ?_;simp only [xq,reduceIte,qE,qA,qL,qD]
 refine ce_fn hF' ?_
 simp only [xq,reduceIte,qE,qA,qL,qD]
 refine W_seq ?_
 refine wR ?_;simp only [xq,reduceIte,qE,qA,qL,qD,cgRows_len]
 refine W_block ?_
 let S:Heap→Nat→St:=fun hp i=>⟨look [(1,cgsA l),(4,.ptr 1 1 0 0),(7,.ptr id 1 0 0),(19,cgsA l),(20,.int l.length),(21,.int i)],hp⟩
 refine W_co (s':=S h0 0) (Co.keep _ (by simp [x_upd,x_look])) ?_
 refine W_loop (fun m s=>∃ (i:Nat) (w:Vw) (hp:Heap) (k:Nat) (R:List (List A)),i≤l.length∧m=l.length-i∧s=S hp i∧runV w i (l.drop i)=runV v 0 l∧Ed w∧RunOk w (l.drop i)∧EdIs hp id w k R∧hp[1]? = some zeroB)
  ⟨0,v,h0,k0,R0,zI _,rfl,rfl,rfl,hed,hrun,he0,h1z⟩ ?_
 rintro m s ⟨i,w,hp,k,R,hi,rfl,rfl,hrw,hew,hrk,he,hz⟩
 have hp1:1<hp.length:=(zA.1 hz).1
 simp only [S]
 refine wR ?_;simp only [xq,reduceIte,qE,qA,qL,qD]
 refine W_seq (W_cond rfl (fun hc=>W_skip ?_) (fun hc=>W_exit ?_))
 ·have hlt:i<l.length:=by simpa using hc
  have w1:IntKind.i64.wrap ((i:Int)+1)=((i+1:Nat):Int):=by rw [i64_of (by omega)];omega
  obtain ⟨c,hcd⟩:∃ c,c=l[i]:=⟨_,rfl⟩
  have hcm:c∈l:=by rw [hcd];exact zi hlt
  have hok:=hl c hcm
  rw [zd hlt,← hcd] at hrw hrk
  have hC:=Hc c hew hrk.1 (by omega) hok.txt (he.app [cgB c])
  simp only [xq,reduceIte,qE,qA,qL,qD]
  have hcd':l[i]=c:=hcd.symm
  have hcg:(cgRows l).getD i []=c.ds:=by rw [cgRows_get hlt,← hcd]
  simp only [cgA,Cg.ds,zU,zV] at hC
  refine W_seq (W_block ?_)
  refine wR ?_;simp only [xq,reduceIte,qE,qA,qL,qD,cgRows_len,hcg,Cg.ds,zQ,hp_g0,hp_s0]
  refine ⟨by omega,by omega,?_⟩
  refine W_seq ?_
  refine wR ?_;simp only [xq,reduceIte,qE,qA,qL,qD,hp_g0]
  refine ce_fn hC ?_
  simp only [xq,reduceIte,qE,qA,qL,qD]
  refine wR ?_;simp only [xq,reduceIte,qE,qA,qL,qD]
  refine W_cond rfl (fun hd=>?_) (fun hd=>W_skip ?_)
  ·have hd:¬ chgC w c=0:=by simpa using hd
   rw [runV,if_neg hd] at hrw
   have z1:(hp++[cgB c])[1]? = some zeroB:=hp_gl hz
   refine wR ?_;simp only [xq,reduceIte,qE,qA,qL,qD,z1]
   refine W_ret ?_
   simp only [xq,reduceIte,qE,qA,qL,qD]
   rw [← hrw]
   refine retApN (row:=zrow) rfl ?_ rfl frzN_zero rfl rfl
   rw [zN (by simp;omega)]
  ·have hd:chgC w c=0:=by simpa using hd
   rw [runV,if_pos hd] at hrw
   obtain ⟨h',k',R',hA,hl',he',hk6⟩:=Ha (v:=w) (c:=c) ⟨hew,hd,fun r hr=>hrk.1.row r hr,hok.len⟩ (h:=hp++[cgB c]) (zI _) (he.app _)
   simp only [cgA,Cg.ds,zU,zV] at hA
   simp only [xq,reduceIte,qE,qA,qL,qD]
   refine W_reg ?_;simp only [xq,reduceIte,qE,qA,qL,qD,hp_g0,Cg.ds]
   refine ce_fn hA ?_
   simp only [xq,reduceIte,qE,qA,qL,qD]
   refine W_reg ?_;simp only [xq,reduceIte,qE,qA,qL,qD,w1]
   exact ⟨l.length-(i+1),S h' (i+1),by omega,Co.keep _ (by simp [x_upd,x_look]),i+1,stepV w c,h',k',R',hlt,rfl,rfl,hrw,hew.step hd,hrk.2 hd,he',hk6 1 eVw [zrow] (by rw [List.getElem?_append_left hp1];exact hz) rfl (Ne.symm hid1)⟩
 ·have hle:i=l.length:=by simp at hc;omega
  subst hle
  rw [List.drop_length,runV] at hrw
  simp only [xq,reduceIte,qE,qA,qL,qD]
  refine W_seq ?_
  refine wR ?_;simp only [xq,reduceIte,qE,qA,qL,qD,he.hid,he.hk,edRow]
  refine W_block ?_
  let T:Nat→St:=fun j=>⟨look [(1,cgsA l),(4,.ptr 1 1 0 0),(7,.ptr id 1 0 0),(42,.ref k R.length 0 w.rows.length true),(43,.int w.rows.length),(44,.int j)],hp⟩
  refine W_co (s':=T 0) (Co.keep _ (by simp [x_upd,x_look])) ?_
  have hwl:=hew.len
  have hws:=szOk_iff.1 hew.sz
  refine W_loop (fun m s=>∃ j:Nat,j≤w.rows.length∧m=w.rows.length-j∧s=T j∧((w.rows.take j).any fun r=>decide (w.width<(widthN r:Int)))=false) ⟨0,zI _,rfl,rfl,by simp⟩ ?_
  rintro m s ⟨j,hj,rfl,rfl,hwide⟩
  simp only [T]
  refine wR ?_;simp only [xq,reduceIte,qE,qA,qL,qD]
  refine W_seq (W_cond rfl (fun hc=>W_skip ?_) (fun hc=>W_exit ?_))
  ·have hlt:j<w.rows.length:=by simpa using hc
   have w1:IntKind.i64.wrap ((j:Int)+1)=((j+1:Nat):Int):=by rw [i64_of (by omega)];omega
   obtain ⟨x,hx1,hx2⟩:=he.row j _ (zB hlt)
   have hjR:j<R.length:=(zA.1 hx1).1
   have hW:FnD Γ.ctx P fw [x] hp (.int (widthN w.rows[j])) hp:=(Hw w.rows[j]).lend flat_sc' (.cons (.d (rowAt_frz hx2)) .nil)
   simp only [xq,reduceIte,qE,qA,qL,qD]
   refine W_seq (W_block ?_)
   refine wR ?_;simp only [xq,reduceIte,qE,qA,qL,qD,he.hk,hx1,zQ]
   repeat refine And.intro (by omega) ?_
   refine W_seq (W_drw (by simp) ?_)
   simp only [xq,reduceIte,qE,qA,qL,qD]
   refine cr_fn (t:=[]) (by rw [zP];exact hW) ?_
   simp only [xq,reduceIte,qE,qA,qL,qD,he.hid,edRow,zP]
   refine W_cond rfl (fun hd=>?_) (fun hd=>W_skip ?_)
   ·have hd:w.width<(widthN w.rows[j]:Int):=by simpa using hd
    have hwd:wideV w=true:=by
     rw [wideV,List.any_eq_true]
     exact ⟨_,zi hlt,by simpa using hd⟩
    rw [hwd,if_pos rfl] at hrw
    refine wR ?_;simp only [xq,reduceIte,qE,qA,qL,qD,hz,cgRows_len]
    refine W_ret ?_
    simp only [xq,reduceIte,qE,qA,qL,qD]
    rw [← hrw]
    refine retApN (row:=zrow) rfl ?_ rfl frzN_zero rfl rfl
    rw [zN hp1]
   ·have hd:¬ w.width<(widthN w.rows[j]:Int):=by simpa using hd
    simp only [xq,reduceIte,qE,qA,qL,qD]
    refine W_reg ?_;simp only [xq,reduceIte,qE,qA,qL,qD,w1]
    refine ⟨w.rows.length-(j+1),T (j+1),by omega,Co.keep _ (by simp [x_upd,x_look]),j+1,hlt,rfl,rfl,?_⟩
    rw [List.take_add_one,zB hlt,Option.toList_some,List.any_append,hwide]
    simpa using hd
  ·have hje:j=w.rows.length:=by simp at hc;omega
   subst hje
   rw [List.take_length] at hwide
   have hwd:wideV w=false:=hwide
   rw [hwd,if_neg Bool.false_ne_true] at hrw
   simp only [xq,reduceIte,qE,qA,qL,qD]
   refine wR ?_;simp only [xq,reduceIte,qE,qA,qL,qD,he.hid,hz,edRow]
   refine W_ret ?_
   rw [← hrw]
   exact retApN (row:=edRow w k R.length) rfl (by rw [zN hp1];rfl) rfl (he.setOther hz hid1).frzVN rfl rfl
abbrev ApNOk (Γ:Tabs) (P:Program) (f:FuncId):Prop:=∀ (v:Vw) (l:List Cg),RunOk v l→(∀ c∈l,CgOk c)→FnN Γ P f [vwA v,cgsA l] (apA (applyV v l))
theorem ApNOk.lend {f:FuncId} (H:ApNOk Γ P f) {v:Vw} {l:List Cg} (h1:RunOk v l) (h2:∀ c∈l,CgOk c) {h:Heap} {x y:A} (hx:FrzA 0 h x (vwA v)) (hy:FrzA 0 h y (cgsA l)):FnD Γ.ctx P f [x,y] h (apA (applyV v l)) h :=
 FnN.lend (Γ:=Γ.ctx) (H v l h1 h2) (.cons hx (.cons hy .nil))
end Go.Proofs.YtlllnjhgjijnkaaDoor.Nx
namespace Go.Proofs.YtlllnjhgjijnkaaDoor.Nx
open Go
variable {P:Program} {N:Nat} {Γ:Tabs}
theorem ce_clo {g:FuncId} {Δ:Ctx} {h h':Heap} {K:A→Heap→Prop} {args caps:List A} {r:A} (hf:FnD Δ P g (args++caps) h r h') (hK:K r h'):Calle (.all Δ P) h K args (.fn g caps):=⟨r,h',hf,hK⟩
theorem getD_sm {v:Vw} {n i:Nat} (s:Sm v n):(v.rows.getD i []).length≤n:=by
 rcases getD_mem (rows:=v.rows) (n:=i) with h | h
 ·rw [h];exact zI _
 ·exact s.row _ h
theorem splicesTo_len {x b:Vw} (sx:Sm x 50000) (sb:Sm b 50000):∀ n,(splicesTo x b n).length≤200001 * n
 | 0=>by simp [splicesTo]
 | n+1=>by
  have ih:=splicesTo_len sx sb n
  have:=splices_len (row:=n) (getD_sm (i:=n) sx) (getD_sm (i:=n) sb)
  rw [splicesTo,zb]
  omega
theorem cursorV_len (x b:Vw):(cursorV x b).length≤1:=by unfold cursorV;split<;>simp
theorem rest_len {x b:Vw} (sx:Sm x 50000) (sb:Sm b 50000):(restV x b).length≤200001 * b.rows.length+1:=by
 have:=splicesTo_len sx sb b.rows.length
 have:=cursorV_len x b
 rw [restV,zb];omega
theorem rest_few {x b:Vw} (sx:Sm x 140) (sb:Sm b 140) (hb:b.rows.length≤60):Few (restV x b) :=
 ⟨by have:=rest_len (sx.mono (by omega:140≤50000)) (sb.mono (by omega:140≤50000));omega,fun c hc=>by have:=(rest_ok (x:=x) sb c hc).len;omega⟩
theorem scroll_sm {v:Vw} {c:Cg} {n:Nat} (hk:c.kind=2) (s:Sm v n):Sm (stepV v c) n:=by
 have hst:stepV v c={ v with rows:=scrollL v.rows c.row c.upto c.count }:=by unfold stepV;rw [if_neg (by omega),if_pos hk]
 rw [hst]
 refine ⟨fun r hr=>?_,fun r hr g hg=>?_⟩
 ·rcases scrollL_mem hr with rfl | hr
  ·exact zI _
  ·exact s.row r hr
 ·rcases scrollL_mem hr with rfl | hr
  ·simp at hg
  ·exact s.txt r hr g hg
theorem scroll_rows {v:Vw} {c:Cg} (hk:c.kind=2):(stepV v c).rows.length=v.rows.length:=by
 have hst:stepV v c={ v with rows:=scrollL v.rows c.row c.upto c.count }:=by unfold stepV;rw [if_neg (by omega),if_pos hk]
 rw [hst];exact scrollL_len
theorem diff1_fn {f fc:FuncId} (H:FnIs P f N [.t 3] (x_viewdiff_Diff_1 fc)) (hN:2≤N) (Hc:CostOk Γ P fc) (l w:List Cg) (hl:Few l) (hw:Few w) (h:Heap) (q:Nat) (hq:h[q]? = some (.cells eRw [[cgsA w]])) :
  FnD Γ.ctx P f [cgsA l,.ptr q 1 0 0] h (.bool (decide (cost20 l<cost20 w))) h:=by
 refine .of_W H (by simpa using hN) (zI _) ?_
 unfold x_viewdiff_Diff_1
 refine wR ?_;simp only [xq,reduceIte,qE,qA,qL,qD]
 refine W_seq (W_drw (by simp) ?_);simp only [xq,reduceIte,qE,qA,qL,qD,List.replicate_zero,zP,hq]
 refine c_fn (Hc l hl) rfl ?_;simp only [xq,reduceIte,qE,qA,qL,qD,hq]
 refine c_fn (Hc w hw) rfl ?_;simp only [xq,reduceIte,qE,qA,qL,qD,hq]
 refine W_ret ⟨.inr rfl,?_⟩
 simp only [readRs,readR,single,x_upd,reduceIte,qE,x_look,argS,xq,reduceIte,qE,qA,qL,qD,loadsTo]
abbrev FindOk (Γ:Tabs) (P:Program) (f:FuncId):Prop:=∀ m b:Vw,m.rows.length≤1000→b.rows.length≤1000→FnP Γ P f [vwA m,vwA b] (fndA (findV m b))
abbrev CollOk (Γ:Tabs) (P:Program) (f f1:FuncId):Prop:=∀ x b:Vw,x.rows.length=b.rows.length→b.rows.length≤1000→Sm x 50000→Sm b 50000→FnP Γ P f [.fn f1 [.iptr b.ds,.iptr x.ds]] (cgsA (restV x b))
abbrev SplOk (Γ:Tabs) (P:Program) (f:FuncId):Prop:=∀ (row:Int) (a b:List Gl),a.length≤50000→b.length≤50000→FnP Γ P f [.int row,.d (.sl eGl (glRows a)),.d (.sl eGl (glRows b))] (cgsA (splicesV row a b))
theorem coll_ok {fc fA f1 fs:FuncId} {Nc NA N1:Nat} (H:FnIs P fc Nc [.t 2] (x_slices_Collect_706 fA)) (hN:1≤Nc) (HA:FnIs P fA NA [.t 4] x_slices_AppendSeq_772) (hNA:2≤NA) (H1:FnIs P f1 N1 [] (x_viewdiff_rest_1 fs)) (hN1:3≤N1) (Hs:SplOk Γ P fs):CollOk Γ P fc f1:=by
 intro x b hlen hbl sx sb
 have hl:=rest_len sx sb
 exact collectC_fn H hN HA hNA (restV x b) (rest1_gen H1 hN1 x b (by omega) hbl sx sb Hs) rfl (by simp only [room];omega)
theorem find_ok {ff fm fg fb f1 f2 fc fe fs:FuncId} {Nf Nm Ng Nb N1 N2 Nc Ne:Nat} (H:FnIs P ff Nf [.c 4 6 true,.t 5] (x_scrolldiff_Find fm fg fb)) (hN:2≤Nf) (Hm:FnIs P fm Nm [.t 4] x_scrolldiff_match) (hNm:2≤Nm) (Hg:FnIs P fg Ng [.t 10] (x_scrolldiff_gain f1 fc f2)) (hNg:5≤Ng)
  (Hb:FnIs P fb Nb [.t 4] x_scrolldiff_candidate_better) (hNb:2≤Nb) (H1:FnIs P f1 N1 [.t 7] (x_scrolldiff_gain_1 fe)) (hN1:6≤N1) (H2:FnIs P f2 N2 [.t 4] (x_scrolldiff_gain_2 fe)) (hN2:3≤N2) (Hc:FnIs P fc Nc [.t 6] x_scrolldiff_count) (hNc:3≤Nc)
  (He:FnIs P fe Ne [.t 4] (x_scrolldiff_equal fs)) (hNe:2≤Ne) (Hs:RowEqOk Γ P fs):FindOk Γ P ff:=by
 intro m b hm hb
 have he:RowEqOk Γ P fe:=sequal_fn He hNe Hs
 refine find_fn H hN m b hm (match_fn Hm hNm m b) (fun hk top bot y htb hbo hy=>?_) (fun c d hc hd=>better_fn Hb hNb c d hc hd)
 have hab:m.rows.length=b.rows.length:=by
  simp only [matchV,Bool.and_eq_true,decide_eq_true_eq] at hk
  omega
 exact gain_fn Hg hNg m b top bot y hb hab htb hbo hy (fun i hi=>gain1_fn H1 hN1 he m b top bot y i hi (by omega) (by omega) hb hy) (fun i hi=>gain2_fn H2 hN2 he m b i (by omega) hi)
  (fun g caps p h0 hp=>count_fn Hc hNc top bot (by omega) htb p h0 hp)
abbrev DiffOk (Γ:Tabs) (P:Program) (f:FuncId):Prop:=∀ a b:Vw,Sm a 140→Sm b 140→FnP Γ P f [vwA a,vwA b] (cgsA (diffV a b))
theorem frz_cgs {k:Nat} {h:Heap} {q:Nat} {l:List Cg} (hk:k≤q) (hq:h[q]? = some (cgLB l)):FrzA k h (.ref q l.length 0 l.length true) (cgsA l):=by
 have:=frzD_rows (k:=k) (id:=q) (off:=0) (len:=l.length) (full:=true) (e:=eCg) (rows:=cgRows l) hk hq (by rw [cgRows_len];omega)
 rw [cgRows_len,List.drop_zero,List.take_of_length_le (by rw [cgRows_len];exact Nat.le_refl _)] at this
 exact .d this
theorem under_cgLB {k:Nat} {l:List Cg}:HB.under k (cgLB l):=by
 intro r hr x hx
 obtain ⟨r',_,rfl⟩:=List.mem_map.1 hr
 obtain ⟨d,_,rfl⟩:=List.mem_map.1 hx
 rfl
structure DfI (a b:Vw) (x:A) (h:Heap):Prop where
 out:OutIs h (pre20 a b) x
 und:∀ k,∀ B∈h,HB.under k B
end Go.Proofs.YtlllnjhgjijnkaaDoor.Nx
namespace Go.Proofs.YtlllnjhgjijnkaaDoor.Nx
open Go
variable {P:Program} {N:Nat} {Γ:Tabs}
theorem und_onlyB {q:Nat} {l:List Cg} {h:Heap} (hq:h[q]? = some (cgLB l)):∀ k,∀ B∈onlyB q h,HB.under k B:=by
 intro k B hB
 obtain ⟨i,hi⟩:=List.mem_iff_getElem?.1 hB
 simp only [onlyB,List.getElem?_mapIdx,Option.map_eq_some_iff] at hi
 obtain ⟨B0,h0,rfl⟩:=hi
 split
 ·rename_i h1
  subst h1
  rw [hq] at h0
  cases h0
  exact under_cgLB
 ·trivial
set_option maxHeartbeats 4000000 in
theorem diff20_fn {f fv fp fr fcol fd ff f1:FuncId} (H:FnIs P f N [.t 4] (x_viewdiff_Diff fv fp fr fcol fd ff)) (hN:2≤N) (Hv:VchkOk Γ P fv) (Hp:ApNOk Γ P fp) (Hr:∀ x b:Vw,FnP Γ P fr [vwA x,vwA b] (.fn f1 [.iptr b.ds,.iptr x.ds])) (Hcol:CollOk Γ P fcol f1)
  (Hd:∀ l w:List Cg,Few l→Few w→∀ (h:Heap) (q:Nat),h[q]? = some (.cells eRw [[cgsA w]])→FnD Γ.ctx P fd [cgsA l,.ptr q 1 0 0] h (.bool (decide (cost20 l<cost20 w))) h) (Hf:FindOk Γ P ff):DiffOk Γ P f:=by
 intro a b sa sb
 refine .of_W H (by simpa using hN) ?_
 have hva:=Hv a (sa.mono (by omega))
 have hvb:=Hv b (sb.mono (by omega))
 simp only [vwA,Vw.ds,zU,zV] at hva hvb
 unfold x_viewdiff_Diff
 simp only [vwA,Vw.ds,zU,zV]
 refine wR ?_;simp only [xq,reduceIte,qE,qA,qL,qD]
 refine W_co (frz_boxes (a:=a) (b:=b) (t:=[]) (h:=[]) [] (by simp [x_upd,x_look]) (by simp [x_upd,x_look]) (by simp)) ?_
 refine W_seq (W_cut (· = ⟨look [(2,.iptr a.ds),(3,.iptr b.ds),(22,.bool (!(decide (viewC a=0)&&decide (viewC b=0))))],[]⟩) (W_reg ?_) ?_)
 ·cases e1:decide (viewC a=0)
  ·simp only [xq,reduceIte,qE,qA,qL,qD,Vw.ds]
   refine c_fn (hva) rfl ?_;simp only [xq,reduceIte,qE,qA,qL,qD,e1,undefA,zE]
   exact ⟨_,Co.keep _ (by simp [x_upd,x_look,Vw.ds]),rfl⟩
  ·simp only [xq,reduceIte,qE,qA,qL,qD,Vw.ds]
   refine c_fn (hva) rfl ?_;simp only [xq,reduceIte,qE,qA,qL,qD,e1,undefA,zE]
   refine c_fn (hvb) rfl ?_;simp only [xq,reduceIte,qE,qA,qL,qD,undefA,zE]
   exact ⟨_,Co.keep _ (by simp [x_upd,x_look,Vw.ds]),rfl⟩
 rintro _ rfl
 refine W_cond rfl (fun hd=>?_) (fun hd=>W_skip ?_)
 ·have hd:¬ (viewC a=0∧viewC b=0):=by simp at hd;omega
  refine wR ?_;simp only [xq,reduceIte,qE,qA,qL,qD]
  refine W_ret ?_
  simp only [xq,reduceIte,qE,qA,qL,qD]
  rw [diffV,if_neg hd]
  exact .frz (.d (.nil _))
 obtain ⟨ha,hb⟩:viewC a=0∧viewC b=0:=by simpa using hd
 have hdv:diffV a b=pre20 a b++way20 (m20 a b) b:=by rw [diffV,if_pos ⟨ha,hb⟩]
 rw [hdv]
 obtain ⟨hm,hmw,hmh⟩:=m20_ok ha hb
 obtain ⟨ea,_⟩:=viewC_zero.1 ha
 obtain ⟨eb,_⟩:=viewC_zero.1 hb
 obtain ⟨em,_⟩:=viewC_zero.1 hm
 have sza:=szOk_iff.1 ea.sz
 have szb:=szOk_iff.1 eb.sz
 have lb:=eb.len
 have lm:=em.len
 have sm:Sm (m20 a b) 140:=m20_sm sa
 have hsa:=sized_apply ha hb
 have hpre:pre20 a b=if a.width=b.width∧a.height=b.height then [] else [sizeCg b]:=rfl
 have hm20:m20 a b=if a.width=b.width∧a.height=b.height then a else sizeV a b.height b.width:=rfl
 simp only [xq,reduceIte,qE,qA,qL,qD]
 refine wR ?_;simp only [xq,reduceIte,qE,qA,qL,qD]
 refine wR ?_;simp only [xq,reduceIte,qE,qA,qL,qD,Vw.ds]
 let R1:St→Prop:=fun s=>∃ x h,s=⟨look [(3,.iptr b.ds),(5,x),(6,.iptr (m20 a b).ds)],h⟩∧DfI a b x h
 refine W_cut R1 ?_ ?_
 ·refine W_cut (· = ⟨look [(2,.iptr a.ds),(3,.iptr b.ds),(5,.nil),(6,.ptr 0 1 0 0),(35,.bool (!(decide (a.width=b.width)&&decide (a.height=b.height))))],[vwB a]⟩) (W_reg ?_) ?_
  ·cases e1:decide (a.width=b.width)
   ·simp only [xq,reduceIte,qE,qA,qL,qD,Vw.ds,e1,undefA,zE]
    exact ⟨_,Co.keep _ (by simp [x_upd,x_look,Vw.ds]),rfl⟩
   ·simp only [xq,reduceIte,qE,qA,qL,qD,Vw.ds,e1,undefA,zE]
    exact ⟨_,Co.keep _ (by simp [x_upd,x_look,Vw.ds]),rfl⟩
  rintro _ rfl
  refine W_cond rfl (fun hd=>?_) (fun hd=>W_skip ?_)
  ·have hd:¬ (a.width=b.width∧a.height=b.height):=by simp at hd;omega
   rw [if_neg hd] at hpre hm20
   let L0:HB:=.cells eCg [[.int 1,.int b.height,.int b.width,.int 0,.int 0,.nil]]
   refine wR ?_;simp only [xq,reduceIte,qE,qA,qL,qD,Vw.ds]
   rw [if_neg (by simp)]
   refine ⟨by decide,by decide,?_⟩
   refine W_co (Co.viewLast (h:=[vwB a,L0]) (e:=eCg) (r:=[.int 1,.int b.height,.int b.width,.int 0,.int 0,.nil]) (r2:=(sizeCg b).ds.map .d) [(2,.iptr a.ds),(3,.iptr b.ds),(5,.ref 2 1 0 1 true),(6,.ptr 0 1 0 0)] (by simp [x_upd,x_look,Vw.ds]) rfl ?_) ?_
   ·intro j y hj
    rcases j with _ | _ | _ | _ | _ | _ | j
    ·cases hj;exact .inl rfl
    ·cases hj;exact .inl rfl
    ·cases hj;exact .inl rfl
    ·cases hj;exact .inl rfl
    ·cases hj;exact .inl rfl
    ·cases hj;exact .inr ⟨.nil _,_,rfl⟩
    ·simp [sizeCg,Cg.ds] at hj
   have hA:FnD Γ.ctx P fp [vwA a,.ref 2 1 0 1 true] [vwB a,L0,cgLB [sizeCg b]] (apA (applyV a [sizeCg b])) [vwB a,L0,cgLB [sizeCg b]] :=
    Hp.lend (v:=a) (l:=[sizeCg b]) ⟨sa.mono (by omega),fun _=>by rw [sizeCg_step];exact sizeV_sm (sa.mono (by omega))⟩ (fun c hc=>by rw [List.mem_singleton] at hc;subst hc;exact ⟨by simp [sizeCg],by simp [sizeCg]⟩) (.same rfl) (frz_cgs (l:=[sizeCg b]) (zI _) rfl)
   rw [hsa,← hm20] at hA
   obtain ⟨m,hmx⟩:∃ m,m=m20 a b:=⟨_,rfl⟩
   rw [← hmx] at hA
   simp only [apA,vwA,Vw.ds,zU,zV] at hA
   refine W_reg ?_;simp only [xq,reduceIte,qE,qA,qL,qD,Vw.ds]
   refine ce_fn hA ?_
   simp only [xq,reduceIte,qE,qA,qL,qD,Vw.ds]
   have hq:([vwB m,L0,cgLB [sizeCg b]]:Heap)[2]? = some (cgLB [sizeCg b]):=rfl
   refine ⟨_,Co.gc1 (h:=[vwB m,L0,cgLB [sizeCg b]]) 2 hq (fun r hr x hx=>?_) [(3,.iptr b.ds),(5,.ref 2 1 0 1 true),(6,.iptr m.ds)] ?_,.ref 2 1 0 1 true,onlyB 2 [vwB m,L0,cgLB [sizeCg b]],by rw [hmx],⟨.inr ⟨2,by rw [hpre];rfl,by rw [hpre];exact onlyB_get hq,by rw [hpre];simp⟩,und_onlyB hq⟩⟩
   ·obtain ⟨r',_,rfl⟩:=List.mem_map.1 hr
    obtain ⟨d,_,rfl⟩:=List.mem_map.1 hx
    rfl
   ·intro p hp
    simp only [zp,zc,or_false] at hp
    rcases hp with rfl | rfl | rfl
    ·left;simp [x_upd,x_look,A.keptIn,Vw.ds]
    ·left;simp [x_upd,x_look,A.keptIn]
    ·right;simp only [x_upd,x_look];exact frz_box (zI _) (e:=eVw) rfl
  ·have hd:a.width=b.width∧a.height=b.height:=by simpa using hd
   rw [if_pos hd] at hpre hm20
   refine ⟨rfl,_,Co.frz (s:=⟨_,[vwB a]⟩) [(3,.iptr b.ds),(5,.nil),(6,.iptr (m20 a b).ds)] 0 ?_ (zI _) (zI _) u0,.nil,[],rfl,⟨.inl ⟨rfl,hpre⟩,by simp⟩⟩
   intro p hp
   simp only [zp,zc,or_false] at hp
   rcases hp with rfl | rfl | rfl
   ·exact .same rfl
   ·exact .same rfl
   ·rw [hm20];exact frz_box (zI _) (e:=eVw) rfl
 rintro _ ⟨x,h,rfl,hI⟩
 clear hva hvb hsa hpre hm20 hdv
 have hmr:(m20 a b).rows.length=b.rows.length:=by omega
 have hb60:b.rows.length≤60:=by omega
 generalize m20 a b=m at *
 have smb:=sm.mono (show 140≤50000 by omega)
 have sbb:=sb.mono (show 140≤50000 by omega)
 have hway:way20 m b=if (findV m b).2=true∧(applyV m [(findV m b).1]).2.2=0∧cost20 (oth20 m b)<cost20 (restV m b) then oth20 m b else restV m b:=rfl
 have hoth:oth20 m b=(findV m b).1::restV (applyV m [(findV m b).1]).1 b:=rfl
 have hform:=findV_form (a:=m) (b:=b)
 obtain ⟨c,ok,hfd⟩:∃ c ok,findV m b=(c,ok):=⟨_,_,rfl⟩
 have hR:=Hr m b
 have hC:=Hcol m b hmr (by omega) smb sbb
 have hF:=Hf m b (by omega) (by omega)
 have fw:=rest_few sm sb hb60
 rw [hfd] at hway hoth hform hF
 simp only at hway hoth hform
 simp only [fndA,vwA,cgA,Vw.ds,Cg.ds,zU,zV] at hR hC hF
 obtain ⟨w,hw⟩:∃ w,w=restV m b:=⟨_,rfl⟩
 rw [← hw] at hC hway fw
 let wB:List Cg→HB:=fun w=>.cells eRw [[cgsA w]]
 have uW:∀ (w:List Cg) (k:Nat),∀ B∈h++[wB w],HB.under k B:=by
  intro w k B hB
  rcases List.mem_append.1 hB with hB | hB
  ·exact hI.und k B hB
  ·simp only [List.mem_singleton] at hB
   subst hB
   intro r hr x hx
   simp only [List.mem_singleton] at hr
   subst hr
   simp only [List.mem_singleton] at hx
   subst hx;rfl
 have xu:x.under (h.length+1)=true:=by
  rcases hI.out with ⟨rfl,_⟩ | ⟨q,rfl,hq,_⟩
  ·rfl
  ·have:=(zA.1 hq).1
   simp only [A.under,decide_eq_true_eq];omega
 refine wR ?_;simp only [xq,reduceIte,qE,qA,qL,qD,Vw.ds]
 refine c_fn (hR) rfl ?_;simp only [xq,reduceIte,qE,qA,qL,qD]
 refine c_fn hC rfl ?_
 simp only [xq,reduceIte,qE,qA,qL,qD,hp_g0,hp_s0]
 refine wR ?_;simp only [xq,reduceIte,qE,qA,qL,qD]
 let R2:St→Prop:=fun s=>∃ w',w'=way20 m b∧s=⟨look [(5,x),(7,.ptr h.length 1 0 0)],h++[wB w']⟩
 have trim:∀ (sl:Nat→A) (t:Heap) (w':List Cg),sl 5=x→sl 7 = .ptr h.length 1 0 0→w'=way20 m b→∃ s1,Co 0 ⟨sl,h++wB w'::t⟩ s1∧R2 s1:=by
  intro sl t w' h5 h7 hw'
  have e:(h++wB w'::t).take (h.length+1)=h++[wB w']:=by
   rw [show h++wB w'::t=(h++[wB w'])++t by simp,List.take_append_of_le_length (by simp)];exact List.take_of_length_le (by simp)
  have:=Co.to (n0:=0) (s:=⟨sl,h++wB w'::t⟩) [(5,x),(7,.ptr h.length 1 0 0)] (h.length+1) (by
   intro p hp
   simp only [zp,zc,or_false] at hp
   rcases hp with rfl | rfl
   ·exact ⟨h5,xu⟩
   ·exact ⟨h7,by simp [A.under]⟩) (zI _) (by show h.length+1≤(h++wB w'::t).length;simp) (by
   show ∀ B∈(h++wB w'::t).take (h.length+1),HB.under (h.length+1) B
   rw [e];exact uW w' _)
  simp only [e] at this
  exact ⟨_,this,w',hw',rfl⟩
 refine W_cut R2 ?_ ?_
 ·refine wR ?_;simp only [xq,reduceIte,qE,qA,qL,qD,Vw.ds]
  refine c_fn (hF) rfl ?_;simp only [xq,reduceIte,qE,qA,qL,qD]
  simp only [hp_g0,hp_g1,hp_gk,hp_s0,hp_s1,zS,xq,reduceIte,qE,qA,qL,qD]
  refine wR ?_;simp only [xq,reduceIte,qE,qA,qL,qD]
  cases ok with
  | false =>
   refine W_cond rfl (fun hd=>by cases hd) (fun hd=>W_skip ?_)
   rw [if_neg (by simp)] at hway
   refine ⟨rfl,?_⟩
   refine trim _ _ w ?_ ?_ hway.symm<;>simp [x_upd,x_look]
  | true =>
   refine W_cond rfl (fun hd=>?_) (fun hd=>by cases hd)
   obtain ⟨hk,_,hgl⟩:=hform rfl
   obtain ⟨n,i,e,hap⟩:∃ n i e,applyV m [c]=(n,i,e):=⟨_,_,_,rfl⟩
   have hok:CgOk c:=⟨by rw [hgl];simp,by rw [hgl];simp⟩
   have hA:FnD Γ.ctx P fp [vwA m,.ref (h.length+2) 1 0 1 true] (h++[wB w,cgB c,cgLB [c]]) (apA (applyV m [c])) (h++[wB w,cgB c,cgLB [c]]) :=
    Hp.lend (v:=m) (l:=[c]) ⟨smb,fun _=>scroll_sm hk smb⟩ (fun d hd=>by rw [List.mem_singleton] at hd;subst hd;exact hok) (.same rfl) (frz_cgs (l:=[c]) (zI _) hp_gk)
   have hend:=(applyV_ends m [c]).1
   rw [hap] at hA hend hway hoth
   simp only at hend hway hoth
   simp only [apA,vwA,Vw.ds,zU,zV] at hA
   refine W_co (s':=⟨look [(3,.iptr b.ds),(5,x),(6,.iptr m.ds),(7,.ptr h.length 1 0 0),(8,.fn fd [.ptr h.length 1 0 0]),(9,.ptr (h.length+1) 1 0 0)],h++[wB w,cgB c]⟩) (Co.keep _ (by simp [x_upd,x_look,Vw.ds])) ?_
   refine wR ?_;simp only [xq,reduceIte,qE,qA,qL,qD,Vw.ds,Cg.ds,hp_g0,hp_g1,hp_gk,zS]
   refine ce_fn hA ?_
   simp only [xq,reduceIte,qE,qA,qL,qD,hp_g0,hp_g1,hp_gk,hp_s0,hp_s1,hp_sk,zS]
   refine wR ?_;simp only [xq,reduceIte,qE,qA,qL,qD]
   refine W_cond rfl (fun hd=>?_) (fun hd=>W_skip ?_)
   ·have he:e=0:=by simpa using hd
    subst he
    obtain ⟨_,_,hn⟩:=hend rfl
    have hc:chgC m c=0:=by
     rw [applyV,if_pos hm,runV] at hap
     split at hap
     ·assumption
     ·rename_i hc
      simp only [Prod.mk.injEq] at hap
      exact absurd hap.2.2 hc
    have hst:n=stepV m c:=by
     have:=apply_one hm hc
     rw [wide_step hm hc (by omega),hap] at this
     exact (Prod.mk.inj this).1
    have sn:Sm n 140:=by rw [hst];exact scroll_sm hk sm
    have hnr:n.rows.length=b.rows.length:=by rw [hst,scroll_rows hk];exact hmr
    have hR2:=Hr n b
    have hC2:=Hcol n b hnr (by omega) (sn.mono (by omega)) sbb
    simp only [vwA,Vw.ds,zU,zV] at hR2 hC2
    have fr:=rest_few sn sb hb60
    obtain ⟨r,hr⟩:∃ r,r=restV n b:=⟨_,rfl⟩
    rw [← hr] at hC2 fr hoth
    have hrl:=fr.len
    have fo:Few (c::r):=by
     have e1:=rest_len (sn.mono (show 140≤50000 by omega)) sbb
     rw [← hr] at e1
     refine ⟨by rw [za];omega,fun d hd=>?_⟩
     rcases zp.1 hd with rfl | hd
     ·have:=hok.len;omega
     ·exact fr.gl d hd
    rw [hoth] at hway
    refine W_co (s':=⟨look [(3,.iptr b.ds),(5,x),(7,.ptr h.length 1 0 0),(8,.fn fd [.ptr h.length 1 0 0]),(9,.ptr (h.length+1) 1 0 0),(11,.ptr (h.length+3) 1 0 0)],h++[wB w,cgB c,cgLB [c],vwB n]⟩) (Co.keep _ (by simp [x_upd,x_look,Vw.ds])) ?_
    refine W_cut (· = ⟨look [(5,x),(7,.ptr h.length 1 0 0),(8,.fn fd [.ptr h.length 1 0 0]),(14,cgsA (c::r))],h++[wB w]⟩) (W_drw (by simp) ?_) ?_
    ·simp only [xq,reduceIte,qE,qA,qL,qD,Vw.ds,Cg.ds,hp_g0,hp_g1,hp_gk,hp_s0,hp_s1,hp_sk,zS,cgRows_len]
     refine c_fn (hR2) rfl ?_;simp only [xq,reduceIte,qE,qA,qL,qD,Vw.ds,Cg.ds,hp_g0,hp_g1,hp_gk,hp_s0,hp_s1,hp_sk,zS,cgRows_len]
     refine c_fn hC2 rfl ?_
     simp only [xq,reduceIte,qE,qA,qL,qD,Vw.ds,Cg.ds,hp_g0,hp_g1,hp_gk,hp_s0,hp_s1,hp_sk,zS,cgRows_len]
     rw [show 1+r.length=(c::r).length by rw [za];omega]
     refine ⟨by rw [za];simp only [room];omega,by rw [za];simp only [maxLen];omega,?_⟩
     have e1:∀ t:Heap,(h++wB w::t).take (h.length+1)=h++[wB w]:=fun t=>by
      rw [show h++wB w::t=(h++[wB w])++t by simp,List.take_append_of_le_length (by simp)];exact List.take_of_length_le (by simp)
     refine ⟨_,Co.frz (s:=⟨_,h++wB w::[cgB c,cgLB [c],vwB n,cgLB (c::r),.res]⟩) [(5,x),(7,.ptr h.length 1 0 0),(8,.fn fd [.ptr h.length 1 0 0]),(14,cgsA (c::r))] (h.length+1) ?_ (zI _) (by simp) ?_,?_⟩
     ·intro p hp
      simp only [zp,zc,or_false] at hp
      rcases hp with rfl | rfl | rfl | rfl
      ·exact .same xu
      ·exact .same (by simp [A.under,x_upd,x_look])
      ·exact .same (by simp [A.under,A.underL,x_upd,x_look])
      ·exact frz_cgs (l:=c::r) (by omega) hp_gk
     ·show ∀ B∈(h++wB w::[cgB c,cgLB [c],vwB n,cgLB (c::r),.res]).take (h.length+1),HB.under (h.length+1) B
      rw [e1];exact uW w _
     ·simp only [e1]
    rintro _ rfl
    refine wR ?_;simp only [xq,reduceIte,qE,qA,qL,qD]
    refine ce_clo (Hd (c::r) w fo fw (h++[wB w]) h.length hp_g0) ?_
    simp only [xq,reduceIte,qE,qA,qL,qD]
    refine W_cond rfl (fun hd2=>?_) (fun hd2=>W_skip ?_)
    ·have hd2:=of_decide_eq_true hd2
     rw [if_pos ⟨trivial,rfl,hd2⟩] at hway
     refine W_reg ?_;simp only [xq,reduceIte,qE,qA,qL,qD,hp_g0,hp_s0,wB]
     exact trim _ [] (c::r) rfl rfl hway.symm
    ·have hd2:=of_decide_eq_false hd2
     rw [if_neg (by rintro ⟨_,_,h3⟩;exact hd2 h3)] at hway
     refine ⟨rfl,?_⟩
     exact trim _ [] w rfl rfl hway.symm
   ·have he:¬ e=0:=by simpa using hd
    rw [if_neg (by rintro ⟨_,h2,_⟩;exact he h2)] at hway
    refine ⟨rfl,?_⟩
    refine trim _ _ w ?_ ?_ hway.symm<;>simp [x_upd,x_look]
 rintro _ ⟨w',rfl,rfl⟩
 have hwl:(way20 m b).length≤20000001:=by
  rw [hway]
  split
  ·rename_i hcd
   have hk:=(hform hcd.1).1
   have hst:(applyV m [c]).1=stepV m c:=by
    have he:=hcd.2.1
    have hc:chgC m c=0:=by
     rw [applyV,if_pos hm,runV] at he
     split at he
     ·assumption
     ·rename_i hc;exact absurd he hc
    rw [apply_one hm hc,wide_step hm hc (by omega)];rfl
   rw [hoth,hst,za]
   have:=(rest_few (scroll_sm hk sm) sb hb60).len
   omega
  ·have:=fw.len;omega
 have hgl:=hI.out
 obtain ⟨p0,hp0⟩:∃ p0,p0=pre20 a b:=⟨_,rfl⟩
 have hpl:p0.length≤1:=by rw [hp0];unfold pre20;split<;>simp
 rw [← hp0] at hgl ⊢
 generalize way20 m b=w2 at *
 have fin:∀ (sl:Nat→A) (x2:A) (h2:Heap),sl 4=x2→OutIs h2 (p0++w2) x2→W Γ.ctx P N none 0 .ret (RetQ [.t 4] (cgsA (p0++w2))) ⟨sl,h2⟩:=by
  intro sl x2 h2 h4 ho2
  refine W_ret ⟨.inr rfl,?_⟩
  simp only [readRs,readR,single,h4]
  exact ho2.frz
 rcases hgl with ⟨rfl,hnil⟩ | ⟨q,rfl,hq,hne⟩
 ·by_cases hn0:w2=[]
  ·subst hn0
   rw [zP] at fin
   refine wR ?_;simp only [xq,reduceIte,qE,qA,qL,qD,hp_g0,wB,cgRows,zV]
   exact fin _ .nil _ rfl (.inl ⟨rfl,hnil⟩)
  ·refine wR ?_;simp only [xq,reduceIte,qE,qA,qL,qD,hp_g0,wB]
   rw [if_neg (by simpa [cgRows] using hn0)]
   simp only [cgRows_len]
   refine ⟨by simp only [room];omega,by simp only [maxLen];omega,?_⟩
   exact fin _ (.ref (h.length+1) w2.length 0 w2.length true) _ (by simp [x_upd]) (.inr ⟨h.length+1,by rw [hnil];rfl,by rw [hnil];simp [hp_g1],by rw [hnil];simpa using hn0⟩)
 ·have hql:=(zA.1 hq).1
  have gq:∀ t':Heap,(h++t')[q]? = some (cgLB p0):=fun t'=>hp_gl hq
  refine wR ?_;simp only [xq,reduceIte,qE,qA,qL,qD,hp_g0,gq,wB,cgLB_len,cgRows_len]
  refine ⟨by simp only [room];omega,by simp only [maxLen];omega,?_⟩
  refine fin _ (.ref q (p0.length+w2.length) 0 (p0.length+w2.length) true) _ (by simp [x_upd]) (.inr ⟨q,by rw [zb],?_,by simp [hne]⟩)
  rw [zN (by simp;omega)]
  simp only [cgLB,cgRows_app,List.map_append]
end Go.Proofs.YtlllnjhgjijnkaaDoor.Nx

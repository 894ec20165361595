import Derived.Test.YtlllnjhgjijnkaaDoorNxE15
import Derived.Test.YtlllnjhgjijnkaaDoorNxW8
set_option linter.unusedSimpArgs false
set_option linter.unusedVariables false
set_option linter.unnecessarySimpa false
open List renaming getElem?_eq_getElem → zB, getElem?_append_right → zG, append_assoc → zS, mem_cons_self → zW, mem_cons_of_mem → zZ, length_cons → za, cons_append → zo, length_nil → zq, length_take → zs
open Bool renaming true_eq_false → zE
open Nat renaming zero_le → zI
open Int renaming toNat_natCast → zQ
open Nat renaming reduceEqDiff → qE, reduceAdd → qA, reduceLT → qL, reduceLeDiff → qD
namespace Go.Proofs.YtlllnjhgjijnkaaDoor.Nx
open Go
variable {P:Program} {N:Nat} {Γ:Tabs}
theorem hs_g0 {h t:Heap} {q:Nat} {X B:HB}:(h.set q X++B::t)[h.length]? = some B:=by rw [zG (by simp)];simp
theorem hs_gk {h t:Heap} {q k:Nat} {X:HB}:(h.set q X++t)[h.length+k]? = t[k]? := by rw [zG (by simp)];simp
theorem u0 {h:Heap}:∀ B∈h.take 0,HB.under 0 B:=by simp
def cost1 (c:Cg):Int:=2+max 0 (min c.count 1000)+c.gl.length
theorem costG_cons {c:Cg} {l:List Cg}:costG (c::l)=cost1 c+costG l:=rfl
theorem costG_app:∀ (a b:List Cg),costG (a++b)=costG a+costG b
 | [],b=>by simp [costG]
 | c::a,b=>by rw [zo,costG_cons,costG_cons,costG_app a b];omega
theorem costG_succ {l:List Cg} {i:Nat} (hi:i<l.length):costG (l.take (i+1))=costG (l.take i)+cost1 l[i]:=by
 rw [List.take_add_one,zB hi,Option.toList_some,costG_app,costG_cons,costG,Int.add_zero]
theorem costG_bnd:∀ {l:List Cg} {n:Nat},(∀ c∈l,c.gl.length≤n)→0≤costG l∧costG l≤l.length * (1002+n)
 | [],n,_=>by simp [costG]
 | c::l,n,h=>by
  have ih:=costG_bnd (l:=l) (n:=n) fun c hc=>h c (zZ _ hc)
  have h1:=h c (zW ..)
  have e:((c::l).length:Int) * (1002+n)=(l.length:Int) * (1002+n)+(1002+n):=by
   rw [za];push_cast;rw [Int.add_mul];omega
  rw [costG_cons,e]
  unfold cost1
  omega
theorem cost_fn {f:FuncId} (H:FnIs P f N [.t 2] x_rowdiff_Cost) (hN:1≤N) (l:List Cg) (hl:l.length≤1000000) (hg:∀ c∈l,c.gl.length≤1000000):FnP Γ P f [cgsA l] (.int (costG l)):=by
 refine .of_W H (by simpa using hN) ?_
 have hbnd:∀ i,0≤costG (l.take i)∧costG (l.take i)≤1002000000000:=fun i=>by
  have:=costG_bnd (l:=l.take i) (n:=1000000) fun c hc=>hg c (List.mem_of_mem_take hc)
  have h1:(l.take i).length≤1000000:=by rw [zs];omega
  have h2:((l.take i).length:Int) * (1002+(1000000:Nat))≤1000000 * (1002+(1000000:Nat)):=Int.mul_le_mul_of_nonneg_right (by omega) (by omega)
  omega
 unfold x_rowdiff_Cost
 refine wR ?_;simp only [xq,reduceIte,qE,qA,qL,qD]
 refine wR ?_;simp only [xq,reduceIte,qE,qA,qL,qD]
 refine W_seq ?_
 refine wR ?_;simp only [xq,reduceIte,qE,qA,qL,qD,cgRows_len]
 refine W_block ?_
 let S:Nat→St:=fun i=>⟨look [(3,.int (costG (l.take i))),(6,cgsA l),(7,.int l.length),(8,.int i)],[]⟩
 refine W_co (s':=S 0) (Co.keep _ (by simp [x_upd,x_look,costG])) ?_
 refine W_loop (fun m s=>∃ i,i≤l.length∧m=l.length-i∧s=S i) ⟨0,zI _,rfl,rfl⟩ ?_
 rintro m s ⟨i,hi,rfl,rfl⟩
 simp only [S]
 refine wR ?_;simp only [xq,reduceIte,qE,qA,qL,qD]
 refine W_seq (W_cond rfl (fun hc=>W_skip ?_) (fun hc=>W_exit ?_))
 ·have hlt:i<l.length:=by simpa using hc
  have w1:IntKind.i64.wrap ((i:Int)+1)=((i+1:Nat):Int):=by rw [i64_of (by omega)];omega
  have hb:=hbnd i
  have hgl:=hg _ (List.getElem_mem hlt)
  have hm1:minmaxInt false l[i].count 1000=min l[i].count 1000:=by unfold minmaxInt;simp only [Bool.false_eq_true,if_false];split<;>omega
  have hm2:minmaxInt true 0 (min l[i].count 1000)=max 0 (min l[i].count 1000):=by unfold minmaxInt;simp only [if_true];split<;>omega
  have w2:IntKind.i64.wrap (2+max 0 (min l[i].count 1000))=2+max 0 (min l[i].count 1000):=i64_of (by omega)
  have w3:IntKind.i64.wrap (2+max 0 (min l[i].count 1000)+l[i].gl.length)=cost1 l[i]:=by rw [i64_of (by omega)];rfl
  have w4:IntKind.i64.wrap (costG (l.take i)+cost1 l[i])=costG (l.take (i+1)):=by rw [costG_succ hlt,i64_of (by unfold cost1;omega)]
  simp only [xq,reduceIte,qE,qA,qL,qD]
  refine W_seq (W_block ?_)
  refine wR ?_;simp only [xq,reduceIte,qE,qA,qL,qD,cgRows_len,cgRows_get hlt,Cg.ds,zQ]
  refine ⟨by omega,by omega,?_⟩
  refine W_reg ?_;simp only [xq,reduceIte,qE,qA,qL,qD,hm1,hm2,w2,w3,w4,glRows_len]
  refine W_reg ?_;simp only [xq,reduceIte,qE,qA,qL,qD,w1]
  exact ⟨l.length-(i+1),S (i+1),by omega,Co.to _ 0 (by simp [x_upd,x_look,A.under]) (zI _) (zI _) u0,i+1,hlt,rfl,rfl⟩
 ·have hle:i=l.length:=by simp at hc;omega
  subst hle
  simp only [xq,reduceIte,qE,qA,qL,qD]
  refine wR ?_;simp only [xq,reduceIte,qE,qA,qL,qD]
  refine W_ret (.tmp ?_ rfl)
  simp only [x_upd,reduceIte,List.take_length,xq,reduceIte,qE,qA,qL,qD]
theorem replace_fn {f ft:FuncId} (H:FnIs P f N [.c 6 6 true] (x_rowdiff_Replace ft)) (hN:3≤N) (Ht:∀ l:List Gl,FnP Γ P ft [.d (.sl eGl (glRows l))] (.d (.sl eGl (glRows (trimGl l))))) (row:Int) (a b:List Gl) :
  FnP Γ P f [.int row,.d (.sl eGl (glRows a)),.d (.sl eGl (glRows b))] (cgA (wholeG row a b)):=by
 refine .of_W H (by simpa using hN) ?_
 unfold x_rowdiff_Replace
 refine wR ?_;simp only [xq,reduceIte,qE,qA,qL,qD]
 refine wR ?_;simp only [xq,reduceIte,qE,qA,qL,qD]
 refine c_fn (Ht a) rfl ?_;simp only [xq,reduceIte,qE,qA,qL,qD,glRows_len]
 refine c_fn (Ht b) rfl ?_;simp only [xq,reduceIte,qE,qA,qL,qD]
 refine W_ret ⟨.inr rfl,?_⟩
 simp only [readRs,readR,single,xq,reduceIte,qE,qA,qL,qD,loadsTo]
 exact .same rfl
theorem cgRows_app {a b:List Cg}:cgRows (a++b)=cgRows a++cgRows b:=by simp [cgRows]
abbrev cgLB (l:List Cg):HB:=.cells eCg ((cgRows l).map fun r=>r.map A.d)
theorem cgLB_len {l:List Cg}:((cgRows l).map fun r=>r.map A.d).length=l.length:=by simp [cgRows]
theorem cgsE_app (row:Int):∀ (m:Int) (a b:List Edt),cgsE row m (a++b)=cgsE row m a++cgsE row (m+(a.map fun e=>(e.ins.length:Int)-e.del).sum) b
 | m,[],b=>by simp [cgsE]
 | m,e::a,b=>by
  rw [zo,cgsE,cgsE_app row _ a b,cgsE,zo]
  congr 3
  simp only [List.map_cons,List.sum_cons];omega
def mvd (es:List Edt):Int:=(es.map fun e=>(e.ins.length:Int)-e.del).sum
theorem mvd_succ {es:List Edt} {i:Nat} (hi:i<es.length):mvd (es.take (i+1))=mvd (es.take i)+((es[i].ins.length:Int)-es[i].del):=by
 simp only [mvd]
 rw [List.take_add_one,zB hi,Option.toList_some,List.map_append,List.sum_append];simp
theorem cgsE_succ {row:Int} {es:List Edt} {i:Nat} (hi:i<es.length):cgsE row 0 (es.take (i+1))=cgsE row 0 (es.take i)++[⟨3,row,(es[i].at':Int)+mvd (es.take i),es[i].del,0,es[i].ins⟩]:=by
 rw [List.take_add_one,zB hi,Option.toList_some,cgsE_app,Int.zero_add]
 rfl
theorem cgsE_len {row:Int}:∀ {es:List Edt} {m:Int},(cgsE row m es).length=es.length
 | [],_=>rfl
 | e::es,m=>by rw [cgsE,za,cgsE_len,za]
structure EdsOk (n:Nat) (es:List Edt):Prop where
 len:es.length≤n
 at':∀ e∈es,e.at'≤n
 del:∀ e∈es,e.del≤n
 ins:∀ e∈es,e.ins.length≤n
theorem mvd_bnd {n:Nat}:∀ {es:List Edt},(∀ e∈es,e.del≤n)→(∀ e∈es,e.ins.length≤n) → -((es.length:Int) * n)≤mvd es∧mvd es≤es.length * n
 | [],_,_=>by simp [mvd]
 | e::es,h1,h2=>by
  have ih:=mvd_bnd (es:=es) (fun x hx=>h1 x (zZ _ hx)) (fun x hx=>h2 x (zZ _ hx))
  have a:=h1 e (zW ..)
  have b:=h2 e (zW ..)
  have e1:mvd (e::es)=((e.ins.length:Int)-e.del)+mvd es:=by simp [mvd]
  have e2:((e::es).length:Int) * n=(es.length:Int) * n+n:=by rw [za];push_cast;rw [Int.add_mul];omega
  rw [e1,e2];omega
theorem cgsE_gl {row:Int}:∀ {es:List Edt} {m:Int} {c:Cg},c∈cgsE row m es→∃ e∈es,c.gl=e.ins
 | [],_,c,h=>by simp [cgsE] at h
 | e::es,m,c,h=>by
  rw [cgsE,List.mem_cons] at h
  rcases h with rfl | h
  ·exact ⟨e,zW .., rfl⟩
  ·obtain ⟨e',h1,h2⟩:=cgsE_gl h
   exact ⟨e',zZ _ h1,h2⟩
def OutIs (h:Heap) (l:List Cg) (x:A):Prop:=(x = .nil∧l=[])∨∃ q,x = .ref q l.length 0 l.length true∧h[q]? = some (cgLB l)∧l≠[]
theorem OutIs.frz {h:Heap} {l:List Cg} {x:A} (o:OutIs h l x):FrzA 0 h x (cgsA l):=by
 rcases o with ⟨rfl,rfl⟩ | ⟨q,rfl,hq,_⟩
 ·exact .d (.nil _)
 ·have:=frz_all (id:=q) (full:=true) (e:=eCg) hq
  rw [cgRows_len] at this
  exact this
set_option maxHeartbeats 1000000 in
theorem splices_fn {f ft fs fc fr fk:FuncId} (H:FnIs P f N [.t 6] (x_rowdiff_Splices ft fs fc fr fk)) (hN:3≤N) (Ht:∀ l:List Gl,FnP Γ P ft [.d (.sl eGl (glRows l))] (.d (.sl eGl (glRows (trimGl l)))))
  (row:Int) (a b:List Gl) (hes:EdsOk 200000 (scriptE (trimGl a) (trimGl b))) (hb:b.length≤1000000)
  (Hs:FnP Γ P fs [.d (.sl eGl (glRows (trimGl a))),.d (.sl eGl (glRows (trimGl b)))] (.d (.sl eEd (edsRows (scriptE (trimGl a) (trimGl b))))))
  (Hc:∀ l:List Gl,FnP Γ P fc [.d (.sl eGl (glRows l))] (.d (.sl eGl (glRows l)))) (Hr:∀ a b,FnP Γ P fr [.int row,.d (.sl eGl (glRows a)),.d (.sl eGl (glRows b))] (cgA (wholeG row a b)))
  (Hk:∀ l:List Cg,l.length≤1000000→(∀ c∈l,c.gl.length≤1000000)→FnP Γ P fk [cgsA l] (.int (costG l))):FnP Γ P f [.int row,.d (.sl eGl (glRows a)),.d (.sl eGl (glRows b))] (cgsA (splicesV row a b)):=by
 refine .of_W H (by simpa using hN) ?_
 obtain ⟨es,hesd⟩:∃ es,es=scriptE (trimGl a) (trimGl b):=⟨_,rfl⟩
 rw [← hesd] at hes Hs
 have hmv:∀ i, -40000000000≤mvd (es.take i)∧mvd (es.take i)≤40000000000:=fun i=>by
  have:=mvd_bnd (n:=200000) (es:=es.take i) (fun e he=>hes.del e (List.mem_of_mem_take he)) (fun e he=>hes.ins e (List.mem_of_mem_take he))
  have h1:(es.take i).length≤200000:=by have:=hes.len;rw [zs];omega
  have h2:((es.take i).length:Int) * ((200000:Nat):Int)≤200000 * ((200000:Nat):Int):=Int.mul_le_mul_of_nonneg_right (by omega) (by omega)
  omega
 unfold x_rowdiff_Splices
 refine wR ?_;simp only [xq,reduceIte,qE,qA,qL,qD]
 refine wR ?_;simp only [xq,reduceIte,qE,qA,qL,qD]
 refine c_fn (Ht a) rfl ?_;simp only [xq,reduceIte,qE,qA,qL,qD]
 refine c_fn (Ht b) rfl ?_;simp only [xq,reduceIte,qE,qA,qL,qD]
 refine wR ?_;simp only [xq,reduceIte,qE,qA,qL,qD]
 refine wR ?_;simp only [xq,reduceIte,qE,qA,qL,qD]
 refine W_seq ?_
 refine wR ?_;simp only [xq,reduceIte,qE,qA,qL,qD]
 refine c_fn (Hs) rfl ?_;simp only [xq,reduceIte,qE,qA,qL,qD]
 simp only [edsRows_len]
 refine W_block ?_
 let S:A→Heap→Nat→St:=fun x h i=>⟨look [(0,.int row),(1,.d (.sl eGl (glRows (trimGl a)))),(2,.d (.sl eGl (glRows (trimGl b)))),(7,x),(8,.int (mvd (es.take i))),(18,.d (.sl eEd (edsRows es))),(19,.int es.length),(20,.int i)],h⟩
 refine W_co (s':=S .nil [] 0) (Co.keep _ (by simp [x_upd,x_look,mvd])) ?_
 refine W_loop (fun m s=>∃ i x h,i≤es.length∧m=es.length-i∧s=S x h i∧OutIs h (cgsE row 0 (es.take i)) x) ⟨0,.nil,[],zI _,rfl,rfl,.inl ⟨rfl,rfl⟩⟩ ?_
 rintro m s ⟨i,x,h,hi,rfl,rfl,ho⟩
 simp only [S]
 refine wR ?_;simp only [xq,reduceIte,qE,qA,qL,qD]
 refine W_seq (W_cond rfl (fun hc=>W_skip ?_) (fun hc=>W_exit ?_))
 ·have hlt:i<es.length:=by simpa using hc
  have hme:=List.getElem_mem hlt
  have h1:=hes.len
  have h2:=hes.at' _ hme
  have h3:=hes.del _ hme
  have h4:=hes.ins _ hme
  have hm:=hmv i
  have w1:IntKind.i64.wrap ((i:Int)+1)=((i+1:Nat):Int):=by rw [i64_of (by omega)];omega
  have w2:IntKind.i64.wrap ((es[i].at':Int)+mvd (es.take i))=(es[i].at':Int)+mvd (es.take i):=i64_of (by omega)
  have w3:IntKind.i64.wrap ((es[i].ins.length:Int)-(es[i].del:Int))=(es[i].ins.length:Int)-(es[i].del:Int):=i64_of (by omega)
  have w4:IntKind.i64.wrap (mvd (es.take i)+((es[i].ins.length:Int)-(es[i].del:Int)))=mvd (es.take (i+1)):=by rw [mvd_succ hlt];exact i64_of (by omega)
  simp only [xq,reduceIte,qE,qA,qL,qD]
  refine W_seq (W_block ?_)
  refine wR ?_;simp only [xq,reduceIte,qE,qA,qL,qD,edsRows_len,edsRows_get hlt,edDs,zQ,hp_g0,hp_s0]
  refine ⟨by omega,by omega,?_⟩
  let c:Cg:=⟨3,row,(es[i].at':Int)+mvd (es.take i),es[i].del,0,es[i].ins⟩
  have hcl:cgsE row 0 (es.take (i+1))=cgsE row 0 (es.take i)++[c]:=cgsE_succ hlt
  have hcn:cgsE row 0 (es.take (i+1))≠[]:=by rw [hcl];simp
  have htl:(es.take i).length=i:=by rw [zs];omega
  rcases ho with ⟨rfl,hnil⟩ | ⟨q,rfl,hq,hne⟩
  ·have hcl1:cgsE row 0 (es.take (i+1))=[c]:=by rw [hcl,hnil];rfl
   refine W_seq (W_drw (by simp) ?_);simp only [xq,reduceIte,qE,qA,qL,qD,hp_g0,hp_gk,hp_sk,zS,Nat.add_assoc,w2]
   refine c_fn (Hc es[i].ins) rfl ?_;simp only [xq,reduceIte,qE,qA,qL,qD,hp_g0,hp_gk,hp_sk,zS,Nat.add_assoc]
   rw [if_neg (by simp)]
   refine ⟨by decide,by decide,?_⟩
   refine W_reg ?_;simp only [xq,reduceIte,qE,qA,qL,qD,hp_g0,hp_gk,glRows_len,w3,w4]
   refine W_reg ?_;simp only [xq,reduceIte,qE,qA,qL,qD,w1]
   refine ⟨es.length-(i+1),S (.ref (h.length+2) 1 0 1 true) _ (i+1),by omega,Co.keep _ (by simp [x_upd,x_look]),i+1,_,_,hlt,rfl,rfl,.inr ⟨h.length+2,?_,?_,hcn⟩⟩
   ·rw [hcl1];rfl
   ·rw [hcl1,hp_gk];rfl
  ·have gq:∀ t:Heap,(h++t)[q]? = some (cgLB (cgsE row 0 (es.take i))):=fun t=>hp_gl hq
   have hql:=(List.getElem?_eq_some_iff.1 hq).1
   have sq:∀ (t:Heap) X,(h++t).set q X=h.set q X++t:=fun t X=>List.set_append_left _ _ hql
   refine W_seq (W_drw (by simp) ?_);simp only [xq,reduceIte,qE,qA,qL,qD,hp_g0,hp_gk,hp_sk,zS,Nat.add_assoc,w2]
   refine c_fn (Hc es[i].ins) rfl ?_;simp only [xq,reduceIte,qE,qA,qL,qD,hp_g0,hp_gk,hp_sk,zS,Nat.add_assoc,gq,sq,cgLB_len,cgRows_len,cgsE_len,htl]
   refine ⟨by simp only [room];omega,by simp only [maxLen];omega,?_⟩
   refine W_reg ?_;simp only [xq,reduceIte,qE,qA,qL,qD,hs_g0,hs_gk,glRows_len,w3,w4]
   refine W_reg ?_;simp only [xq,reduceIte,qE,qA,qL,qD,w1]
   refine ⟨es.length-(i+1),S (.ref q (i+1) 0 (i+1) true) _ (i+1),by omega,Co.keep _ (by simp [x_upd,x_look]),i+1,_,_,hlt,rfl,rfl,.inr ⟨q,?_,?_,hcn⟩⟩
   ·rw [cgsE_len,zs];congr 1<;>omega
   ·show (h.set q _++_)[q]? = _
    rw [List.getElem?_append_left (by simpa using hql),List.getElem?_set_self hql,hcl]
    simp only [cgLB,cgRows_app,List.map_append];rfl
 ·have hle:i=es.length:=by simp at hc;omega
  subst hle
  simp only [xq,reduceIte,qE,qA,qL,qD]
  rw [List.take_length] at ho
  obtain ⟨out,hout⟩:∃ out,out=cgsE row 0 es:=⟨_,rfl⟩
  rw [← hout] at ho
  have hol:out.length=es.length:=by rw [hout,cgsE_len]
  have hle:=hes.len
  have hog:∀ c∈out,c.gl.length≤1000000:=fun c hc'=>by
   rw [hout] at hc'
   obtain ⟨e,h1,h2⟩:=cgsE_gl hc'
   have:=hes.ins e h1
   rw [h2];omega
  have hwg:(wholeG row (trimGl a) (trimGl b)).gl.length≤1000000:=by
   have h1:=trim_len (trimGl b)
   have h2:=trim_len b
   show (trimGl (trimGl b)).length≤_
   omega
  obtain ⟨wg,hwd⟩:∃ wg,wg=wholeG row (trimGl a) (trimGl b):=⟨_,rfl⟩
  have hR:=Hr (trimGl a) (trimGl b)
  have hsp:splicesV row a b=if out≠[]∧costG [wg]<costG out then [wg] else out:=by
   unfold splicesV
   rw [hout,hesd,hwd]
  have hK1:FnD Γ.ctx P fk [.ref h.length 1 0 1 true] (h++[cgLB [wg]]) (.int (costG [wg])) (h++[cgLB [wg]]) :=
   (Hk [wg] (by simp) (by simp;rw [hwd];exact hwg)).lend flat_sc' (.cons (frz_all (id:=h.length) (full:=true) (e:=eCg) (rows:=cgRows [wg]) (by rw [hp_g0])) .nil)
  have hK2:FnD Γ.ctx P fk [x] (h++[cgLB [wg]]) (.int (costG out)) (h++[cgLB [wg]]) :=
   (Hk out (by omega) hog).lend flat_sc' (.cons (OutIs.frz (by
    rcases ho with ho | ⟨q,h1,h2,h3⟩
    ·exact .inl ho
    ·exact .inr ⟨q,h1,hp_gl h2,h3⟩)) .nil)
  rw [hsp]
  rw [← hwd] at hR
  simp only [cgA,Cg.ds,List.map_cons,List.map_nil] at hR
  refine wR ?_;simp only [xq,reduceIte,qE,qA,qL,qD]
  refine c_fn (hR) rfl ?_;simp only [xq,reduceIte,qE,qA,qL,qD]
  have fin:∀ sl:Nat→A,sl 7=x→W Γ.ctx P N none 0 (.seq (.reg [
   { dst:=some 63,op:=.mov (.t 7) },
   { dst:=some 6,op:=.mov (.t 63) }]) .ret) (RetQ [.t 6] (cgsA out)) ⟨sl,h++[cgLB [wg]]⟩:=fun sl h7=>by
   refine wR ?_;simp only [xq,reduceIte,qE,qA,qL,qD,h7]
   refine W_ret (.frz ?_)
   simp only [xq,reduceIte,qE,qA,qL,qD]
   refine OutIs.frz (h:=h++[cgLB [wg]]) ?_
   rcases ho with ho | ⟨q,h1,h2,h3⟩
   ·exact .inl ho
   ·exact .inr ⟨q,h1,hp_gl h2,h3⟩
  rcases ho with ⟨rfl,hnil⟩ | ⟨q,rfl,hq,hne⟩
  ·rw [hnil,if_neg (by simp),← hnil]
   refine W_seq ?_
   refine wR ?_;simp only [xq,reduceIte,qE,qA,qL,qD,undefA,zE,hp_g0]
   refine W_cond rfl (fun hd=>by cases hd) (fun _=>W_skip ?_)
   simp only [xq,reduceIte,qE,qA,qL,qD]
   exact fin _ rfl
  ·have hpos:decide (0<(out.length:Int))=true:=by
    have:out.length≠0:=fun h=>hne (List.eq_nil_of_length_eq_zero h)
    exact decide_eq_true (by omega)
   have gq:∀ t:Heap,(h++t)[q]? = some (cgLB out):=fun t=>hp_gl hq
   refine W_seq ?_
   refine wR ?_;simp only [xq,reduceIte,qE,qA,qL,qD,undefA,zE,gq,cgRows_len,hpos]
   refine ce_fn hK1 ?_
   simp only [xq,reduceIte,qE,qA,qL,qD,hpos]
   refine ce_fn hK2 ?_
   simp only [xq,reduceIte,qE,qA,qL,qD,hpos]
   refine W_cond rfl (fun hd=>?_) (fun hd=>W_skip ?_)
   ·have hd:costG [wg]<costG out:=by simpa using hd
    rw [if_pos ⟨hne,hd⟩]
    refine wR ?_;simp only [xq,reduceIte,qE,qA,qL,qD]
    refine W_ret (.frz ?_)
    simp only [xq,reduceIte,qE,qA,qL,qD]
    exact frz_all (id:=h.length) (full:=true) (e:=eCg) (rows:=cgRows [wg]) (by rw [hp_g0])
   ·have hd:¬ costG [wg]<costG out:=by simpa using hd
    rw [if_neg (fun h=>hd h.2)]
    simp only [xq,reduceIte,qE,qA,qL,qD]
    exact fin _ rfl
end Go.Proofs.YtlllnjhgjijnkaaDoor.Nx
namespace Go.Proofs.YtlllnjhgjijnkaaDoor.Nx
open Go
variable {P:Program} {N:Nat} {Γ:Tabs}
theorem edG_len:∀ (s:List (Nat × Nat)) (b:List Gl) (cur:Option Edt),(edG s b cur).length≤s.length+cur.toList.length
 | [],b,cur=>by simp [edG]
 | (k,i)::s,b,cur=>by
  rw [edG]
  split
  ·have:=edG_len s (b.drop 1) none
   simp only [List.length_append,za,Option.toList_none,zq] at this ⊢
   omega
  ·split
   ·have:=edG_len s b (some (edDel i cur))
    simp only [za,Option.toList_some,zq] at this ⊢
    omega
   ·have:=edG_len s (b.drop 1) (some (edIns i (b.take 1) cur))
    simp only [za,Option.toList_some,zq] at this ⊢
    omega
theorem okE_mem {A B:List Gl}:∀ {es:List Edt} {i j:Nat},okE A B i j es→∀ e∈es,e.at'+e.del≤A.length∧e.ins.length≤B.length
 | [],_,_,_,e,he=>by simp at he
 | e0::es,i,j,h,e,he=>by
  rw [okE] at h
  obtain ⟨j1,h1,h2,h3,h4,h5,h6,h7,h8⟩:=h
  rcases List.mem_cons.1 he with rfl | he
  ·exact ⟨h4,by omega⟩
  ·exact okE_mem h8 e he
theorem eds_ok {A B:List Gl} (hA:A.length≤50000) (hB:B.length≤50000):EdsOk 200000 (scriptE A B):=by
 have hs:=script_ok (A:=A) (B:=B) _ A B 0 0 none (Nat.le_refl _) rfl rfl (zI _) (zI _) trivial
 have hm:=okE_mem hs
 have hl:=edG_len (wlk A B 0) B none
 have hw:=wlk_len A B 0
 simp only [Option.toList_none,zq] at hl
 refine ⟨?_,fun e he=>?_,fun e he=>?_,fun e he=>?_⟩
 ·show (edG (wlk A B 0) B none).length≤_
  omega
 ·have:=(hm e he).1;omega
 ·have:=(hm e he).1;omega
 ·have:=(hm e he).2;omega
theorem splices_len {row:Int} {a b:List Gl} (ha:a.length≤50000) (hb:b.length≤50000):(splicesV row a b).length≤200001:=by
 have h1:=trim_len a
 have h2:=trim_len b
 have:=(eds_ok (A:=trimGl a) (B:=trimGl b) (by omega) (by omega)).len
 unfold splicesV
 simp only
 split
 ·simp
 ·rw [cgsE_len];omega
theorem frzT2 {h:Heap} {x y x' y':A} (h1:FrzA 0 h x x') (h2:FrzA 0 h y y'):FrzA 0 h (.tup [x,y]) (.tup [x',y']):=by
 refine .tup rfl fun j u hj=>?_
 rcases j with _ | _ | j
 ·cases hj;exact h1
 ·cases hj;exact h2
 ·simp at hj
abbrev OpenTOk (Δ:Ctx) (P:Program) (f:FuncId):Prop:=∀ w:Vw,w.rows≠[]→w.rows.length≤1000→∀ h:Heap,∃ t id k R,FnD Δ P f [vwA w] h (.ptr id 1 0 0) (h++t)∧EdIs (h++t) id w k R∧h.length≤id∧h.length≤(h++t).length∧Keep6 h (h++t) id
abbrev OpenOk (Δ:Ctx) (P:Program) (f:FuncId):Prop:=∀ w:Vw,w.rows≠[]→w.rows.length≤1000→∀ h:Heap,∃ h' id k R,FnD Δ P f [vwA w] h (.ptr id 1 0 0) h'∧EdIs h' id w k R∧h.length≤id∧h.length≤h'.length∧Keep6 h h' id
end Go.Proofs.YtlllnjhgjijnkaaDoor.Nx

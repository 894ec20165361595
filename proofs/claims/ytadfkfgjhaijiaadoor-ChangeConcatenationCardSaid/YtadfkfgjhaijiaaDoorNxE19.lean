import Derived.Test.YtadfkfgjhaijiaaDoorNxE15
import Derived.Test.YtadfkfgjhaijiaaDoorNxW8
set_option linter.unusedSimpArgs false
set_option linter.unusedVariables false
set_option linter.unnecessarySimpa false
open List renaming getElem?_eq_some_iff → zA, getElem?_eq_getElem → zB, getD_eq_getElem?_getD → zC, getElem?_append_left → zF, getElem?_append_right → zG, getElem?_set_self → zN, append_nil → zP, append_assoc → zS, map_cons → zU, map_nil → zV, mem_cons_self → zW, mem_cons_of_mem → zZ, length_cons → za, length_append → zb, getElem_mem → zi, cons_append → zo, mem_cons → zp, length_nil → zq, length_take → zs, set_append_left → zu
open Bool renaming true_eq_false → zE
open Option.some renaming injEq → zH
open Nat renaming zero_le → zI
open Int renaming toNat_natCast → zQ
open Nat renaming reduceEqDiff → qE, reduceAdd → qA, reduceLT → qL, reduceLeDiff → qD
namespace Go.Proofs.YtadfkfgjhaijiaaDoor.Nx
open Go
variable {P:Program} {N:Nat} {Γ:Tabs}
theorem hs_g0 {h t:Heap} {q:Nat} {X B:HB}:(h.set q X++B::t)[h.length]? = some B:=by rw [zG (by simp)];simp
theorem hs_gk {h t:Heap} {q k:Nat} {X:HB}:(h.set q X++t)[h.length+k]? = t[k]? := by rw [zG (by simp)];simp
theorem u0 {h:Heap}:∀ B∈h.take 0,HB.under 0 B:=by simp
def cost1 (c:Cg):Int:=2+max 0 (min c.count 1000)+c.gl.length
theorem costG_cons {c:Cg} {l:List Cg}:costG (c::l)=cost1 c+costG l:=rfl
theorem costG_app:∀ (a b:List Cg),costG (a++b)=costG a+costG b
  | [],b=>by simp [costG]
  | c::a,b=>by rw [zo,costG_cons,costG_cons,costG_app a b];omega
theorem costG_succ {l:List Cg} {i:Nat} (hi:i<l.length):costG (l.take (i+1))=costG (l.take i)+cost1 l[i]:=by
  rw [List.take_add_one,zB hi,Option.toList_some,costG_app,costG_cons,costG,Int.add_zero]
theorem costG_bnd:∀ {l:List Cg} {n:Nat},(∀ c∈l,c.gl.length≤n)→0≤costG l∧costG l≤l.length * (1002+n)
  | [],n,_=>by simp [costG]
  | c::l,n,h=>by
    have ih:=costG_bnd (l:=l) (n:=n) fun c hc=>h c (zZ _ hc)
    have h1:=h c (zW ..)
    have e:((c::l).length:Int) * (1002+n)=(l.length:Int) * (1002+n)+(1002+n):=by
      rw [za];push_cast;rw [Int.add_mul];omega
    rw [costG_cons,e]
    unfold cost1
    omega
theorem cost_fn {f:FuncId} (H:FnIs P f N [.t 2] x_rowdiff_Cost) (hN:1≤N) (l:List Cg) (hl:l.length≤1000000) (hg:∀ c∈l,c.gl.length≤1000000):FnP Γ P f [cgsA l] (.int (costG l)):=by
  refine .of_W H (by simpa using hN) ?_
  have hbnd:∀ i,0≤costG (l.take i)∧costG (l.take i)≤1002000000000:=fun i=>by
    have:=costG_bnd (l:=l.take i) (n:=1000000) fun c hc=>hg c (List.mem_of_mem_take hc)
    have h1:(l.take i).length≤1000000:=by rw [zs];omega
    have h2:((l.take i).length:Int) * (1002+(1000000:Nat))≤1000000 * (1002+(1000000:Nat)):=Int.mul_le_mul_of_nonneg_right (by omega) (by omega)
    omega
  unfold x_rowdiff_Cost
  refine W_seq (W_reg ?_);simp only [xq,reduceIte,qE,qA,qL,qD]
  refine W_seq (W_reg ?_);simp only [xq,reduceIte,qE,qA,qL,qD]
  refine W_seq ?_
  refine W_seq (W_reg ?_);simp only [xq,reduceIte,qE,qA,qL,qD,cgRows_len]
  refine W_block ?_
  let S:Nat→St:=fun i=>⟨look [(3,.int (costG (l.take i))),(6,cgsA l),(7,.int l.length),(8,.int i)],[]⟩
  refine W_co (s':=S 0) (Co.keep _ (by simp [x_upd,x_look,costG])) ?_
  refine W_loop (fun m s=>∃ i,i≤l.length∧m=l.length-i∧s=S i) ⟨0,zI _,rfl,rfl⟩ ?_
  rintro m s ⟨i,hi,rfl,rfl⟩
  simp only [S]
  refine W_seq (W_reg ?_);simp only [xq,reduceIte,qE,qA,qL,qD]
  refine W_seq (W_cond rfl (fun hc=>W_skip ?_) (fun hc=>W_exit ?_))
  · have hlt:i<l.length:=by simpa using hc
    have w1:IntKind.i64.wrap ((i:Int)+1)=((i+1:Nat):Int):=by rw [i64_of (by omega)];omega
    have hb:=hbnd i
    have hgl:=hg _ (zi hlt)
    have hm1:minmaxInt false l[i].count 1000=min l[i].count 1000:=by unfold minmaxInt;simp only [Bool.false_eq_true,if_false];split<;>omega
    have hm2:minmaxInt true 0 (min l[i].count 1000)=max 0 (min l[i].count 1000):=by unfold minmaxInt;simp only [if_true];split<;>omega
    have w2:IntKind.i64.wrap (2+max 0 (min l[i].count 1000))=2+max 0 (min l[i].count 1000):=i64_of (by omega)
    have w3:IntKind.i64.wrap (2+max 0 (min l[i].count 1000)+l[i].gl.length)=cost1 l[i]:=by rw [i64_of (by omega)];rfl
    have w4:IntKind.i64.wrap (costG (l.take i)+cost1 l[i])=costG (l.take (i+1)):=by rw [costG_succ hlt,i64_of (by unfold cost1;omega)]
    simp only [xq,reduceIte,qE,qA,qL,qD]
    refine W_seq (W_block ?_)
    refine W_seq (W_reg ?_);simp only [xq,reduceIte,qE,qA,qL,qD,cgRows_len,cgRows_get hlt,Cg.ds,zQ]
    refine ⟨by omega,by omega,?_⟩
    refine W_reg ?_;simp only [xq,reduceIte,qE,qA,qL,qD,hm1,hm2,w2,w3,w4,glRows_len]
    refine W_reg ?_;simp only [xq,reduceIte,qE,qA,qL,qD,w1]
    exact ⟨l.length-(i+1),S (i+1),by omega,Co.to _ 0 (by simp [x_upd,x_look,A.under]) (zI _) (zI _) u0,i+1,hlt,rfl,rfl⟩
  · have hle:i=l.length:=by simp at hc;omega
    subst hle
    simp only [xq,reduceIte,qE,qA,qL,qD]
    refine W_seq (W_reg ?_);simp only [xq,reduceIte,qE,qA,qL,qD]
    refine W_ret (.tmp ?_ rfl)
    simp only [x_upd,reduceIte,List.take_length,xq,reduceIte,qE,qA,qL,qD]
theorem replace_fn {f ft:FuncId} (H:FnIs P f N [.c 6 6 true] (x_rowdiff_Replace ft)) (hN:3≤N) (Ht:∀ l:List Gl,FnP Γ P ft [.d (.sl eGl (glRows l))] (.d (.sl eGl (glRows (trimGl l))))) (row:Int) (a b:List Gl) :
    FnP Γ P f [.int row,.d (.sl eGl (glRows a)),.d (.sl eGl (glRows b))] (cgA (wholeG row a b)):=by
  refine .of_W H (by simpa using hN) ?_
  unfold x_rowdiff_Replace
  refine W_seq (W_reg ?_);simp only [xq,reduceIte,qE,qA,qL,qD]
  refine W_seq (W_reg ?_);simp only [xq,reduceIte,qE,qA,qL,qD]
  refine c_fn (Ht a) rfl ?_;simp only [xq,reduceIte,qE,qA,qL,qD,glRows_len]
  refine c_fn (Ht b) rfl ?_;simp only [xq,reduceIte,qE,qA,qL,qD]
  refine W_ret ⟨.inr rfl,?_⟩
  simp only [readRs,readR,single,xq,reduceIte,qE,qA,qL,qD,loadsTo]
  exact .same rfl
theorem cgRows_app {a b:List Cg}:cgRows (a++b)=cgRows a++cgRows b:=by simp [cgRows]
abbrev cgLB (l:List Cg):HB:=.cells eCg ((cgRows l).map fun r=>r.map A.d)
theorem cgLB_len {l:List Cg}:((cgRows l).map fun r=>r.map A.d).length=l.length:=by simp [cgRows]
theorem cgsE_app (row:Int):∀ (m:Int) (a b:List Edt),cgsE row m (a++b)=cgsE row m a++cgsE row (m+(a.map fun e=>(e.ins.length:Int)-e.del).sum) b
  | m,[],b=>by simp [cgsE]
  | m,e::a,b=>by
    rw [zo,cgsE,cgsE_app row _ a b,cgsE,zo]
    congr 3
    simp only [zU,List.sum_cons];omega
def mvd (es:List Edt):Int:=(es.map fun e=>(e.ins.length:Int)-e.del).sum
theorem mvd_succ {es:List Edt} {i:Nat} (hi:i<es.length):mvd (es.take (i+1))=mvd (es.take i)+((es[i].ins.length:Int)-es[i].del):=by
  simp only [mvd]
  rw [List.take_add_one,zB hi,Option.toList_some,List.map_append,List.sum_append];simp
theorem cgsE_succ {row:Int} {es:List Edt} {i:Nat} (hi:i<es.length):cgsE row 0 (es.take (i+1))=cgsE row 0 (es.take i)++[⟨3,row,(es[i].at':Int)+mvd (es.take i),es[i].del,0,es[i].ins⟩]:=by
  rw [List.take_add_one,zB hi,Option.toList_some,cgsE_app,Int.zero_add]
  rfl
theorem cgsE_len {row:Int}:∀ {es:List Edt} {m:Int},(cgsE row m es).length=es.length
  | [],_=>rfl
  | e::es,m=>by rw [cgsE,za,cgsE_len,za]
structure EdsOk (n:Nat) (es:List Edt):Prop where
  len:es.length≤n
  at':∀ e∈es,e.at'≤n
  del:∀ e∈es,e.del≤n
  ins:∀ e∈es,e.ins.length≤n
theorem mvd_bnd {n:Nat}:∀ {es:List Edt},(∀ e∈es,e.del≤n)→(∀ e∈es,e.ins.length≤n) → -((es.length:Int) * n)≤mvd es∧mvd es≤es.length * n
  | [],_,_=>by simp [mvd]
  | e::es,h1,h2=>by
    have ih:=mvd_bnd (es:=es) (fun x hx=>h1 x (zZ _ hx)) (fun x hx=>h2 x (zZ _ hx))
    have a:=h1 e (zW ..)
    have b:=h2 e (zW ..)
    have e1:mvd (e::es)=((e.ins.length:Int)-e.del)+mvd es:=by simp [mvd]
    have e2:((e::es).length:Int) * n=(es.length:Int) * n+n:=by rw [za];push_cast;rw [Int.add_mul];omega
    rw [e1,e2];omega
theorem cgsE_gl {row:Int}:∀ {es:List Edt} {m:Int} {c:Cg},c∈cgsE row m es→∃ e∈es,c.gl=e.ins
  | [],_,c,h=>by simp [cgsE] at h
  | e::es,m,c,h=>by
    rw [cgsE,zp] at h
    rcases h with rfl | h
    · exact ⟨e,zW .., rfl⟩
    · obtain ⟨e',h1,h2⟩:=cgsE_gl h
      exact ⟨e',zZ _ h1,h2⟩
def OutIs (h:Heap) (l:List Cg) (x:A):Prop:=(x = .nil∧l=[])∨∃ q,x = .ref q l.length 0 l.length true∧h[q]? = some (cgLB l)∧l≠[]
theorem OutIs.frz {h:Heap} {l:List Cg} {x:A} (o:OutIs h l x):FrzA 0 h x (cgsA l):=by
  rcases o with ⟨rfl,rfl⟩ | ⟨q,rfl,hq,_⟩
  · exact .d (.nil _)
  · have:=frz_all (id:=q) (full:=true) (e:=eCg) hq
    rw [cgRows_len] at this
    exact this
set_option maxHeartbeats 1000000 in
theorem splices_fn {f ft fs fc fr fk:FuncId} (H:FnIs P f N [.t 6] (x_rowdiff_Splices ft fs fc fr fk)) (hN:3≤N) (Ht:∀ l:List Gl,FnP Γ P ft [.d (.sl eGl (glRows l))] (.d (.sl eGl (glRows (trimGl l)))))
    (row:Int) (a b:List Gl) (hes:EdsOk 200000 (scriptE (trimGl a) (trimGl b))) (hb:b.length≤1000000)
    (Hs:FnP Γ P fs [.d (.sl eGl (glRows (trimGl a))),.d (.sl eGl (glRows (trimGl b)))] (.d (.sl eEd (edsRows (scriptE (trimGl a) (trimGl b))))))
    (Hc:∀ l:List Gl,FnP Γ P fc [.d (.sl eGl (glRows l))] (.d (.sl eGl (glRows l)))) (Hr:∀ a b,FnP Γ P fr [.int row,.d (.sl eGl (glRows a)),.d (.sl eGl (glRows b))] (cgA (wholeG row a b)))
    (Hk:∀ l:List Cg,l.length≤1000000→(∀ c∈l,c.gl.length≤1000000)→FnP Γ P fk [cgsA l] (.int (costG l))):FnP Γ P f [.int row,.d (.sl eGl (glRows a)),.d (.sl eGl (glRows b))] (cgsA (splicesV row a b)):=by
  refine .of_W H (by simpa using hN) ?_
  obtain ⟨es,hesd⟩:∃ es,es=scriptE (trimGl a) (trimGl b):=⟨_,rfl⟩
  rw [← hesd] at hes Hs
  have hmv:∀ i, -40000000000≤mvd (es.take i)∧mvd (es.take i)≤40000000000:=fun i=>by
    have:=mvd_bnd (n:=200000) (es:=es.take i) (fun e he=>hes.del e (List.mem_of_mem_take he)) (fun e he=>hes.ins e (List.mem_of_mem_take he))
    have h1:(es.take i).length≤200000:=by have:=hes.len;rw [zs];omega
    have h2:((es.take i).length:Int) * ((200000:Nat):Int)≤200000 * ((200000:Nat):Int):=Int.mul_le_mul_of_nonneg_right (by omega) (by omega)
    omega
  unfold x_rowdiff_Splices
  refine W_seq (W_reg ?_);simp only [xq,reduceIte,qE,qA,qL,qD]
  refine W_seq (W_reg ?_);simp only [xq,reduceIte,qE,qA,qL,qD]
  refine c_fn (Ht a) rfl ?_;simp only [xq,reduceIte,qE,qA,qL,qD]
  refine c_fn (Ht b) rfl ?_;simp only [xq,reduceIte,qE,qA,qL,qD]
  refine W_seq (W_reg ?_);simp only [xq,reduceIte,qE,qA,qL,qD]
  refine W_seq (W_reg ?_);simp only [xq,reduceIte,qE,qA,qL,qD]
  refine W_seq ?_
  refine W_seq (W_reg ?_);simp only [xq,reduceIte,qE,qA,qL,qD]
  refine c_fn (Hs) rfl ?_;simp only [xq,reduceIte,qE,qA,qL,qD]
  simp only [edsRows_len]
  refine W_block ?_
  let S:A→Heap→Nat→St:=fun x h i=>⟨look [(0,.int row),(1,.d (.sl eGl (glRows (trimGl a)))),(2,.d (.sl eGl (glRows (trimGl b)))),(7,x),(8,.int (mvd (es.take i))),(18,.d (.sl eEd (edsRows es))),(19,.int es.length),(20,.int i)],h⟩
  refine W_co (s':=S .nil [] 0) (Co.keep _ (by simp [x_upd,x_look,mvd])) ?_
  refine W_loop (fun m s=>∃ i x h,i≤es.length∧m=es.length-i∧s=S x h i∧OutIs h (cgsE row 0 (es.take i)) x) ⟨0,.nil,[],zI _,rfl,rfl,.inl ⟨rfl,rfl⟩⟩ ?_
  rintro m s ⟨i,x,h,hi,rfl,rfl,ho⟩
  simp only [S]
  refine W_seq (W_reg ?_);simp only [xq,reduceIte,qE,qA,qL,qD]
  refine W_seq (W_cond rfl (fun hc=>W_skip ?_) (fun hc=>W_exit ?_))
  · have hlt:i<es.length:=by simpa using hc
    have hme:=zi hlt
    have h1:=hes.len
    have h2:=hes.at' _ hme
    have h3:=hes.del _ hme
    have h4:=hes.ins _ hme
    have hm:=hmv i
    have w1:IntKind.i64.wrap ((i:Int)+1)=((i+1:Nat):Int):=by rw [i64_of (by omega)];omega
    have w2:IntKind.i64.wrap ((es[i].at':Int)+mvd (es.take i))=(es[i].at':Int)+mvd (es.take i):=i64_of (by omega)
    have w3:IntKind.i64.wrap ((es[i].ins.length:Int)-(es[i].del:Int))=(es[i].ins.length:Int)-(es[i].del:Int):=i64_of (by omega)
    have w4:IntKind.i64.wrap (mvd (es.take i)+((es[i].ins.length:Int)-(es[i].del:Int)))=mvd (es.take (i+1)):=by rw [mvd_succ hlt];exact i64_of (by omega)
    simp only [xq,reduceIte,qE,qA,qL,qD]
    refine W_seq (W_block ?_)
    refine W_seq (W_reg ?_);simp only [xq,reduceIte,qE,qA,qL,qD,edsRows_len,edsRows_get hlt,edDs,zQ,hp_g0,hp_s0]
    refine ⟨by omega,by omega,?_⟩
    let c:Cg:=⟨3,row,(es[i].at':Int)+mvd (es.take i),es[i].del,0,es[i].ins⟩
    have hcl:cgsE row 0 (es.take (i+1))=cgsE row 0 (es.take i)++[c]:=cgsE_succ hlt
    have hcn:cgsE row 0 (es.take (i+1))≠[]:=by rw [hcl];simp
    have htl:(es.take i).length=i:=by rw [zs];omega
    rcases ho with ⟨rfl,hnil⟩ | ⟨q,rfl,hq,hne⟩
    · have hcl1:cgsE row 0 (es.take (i+1))=[c]:=by rw [hcl,hnil];rfl
      refine W_seq (W_drw (by simp) ?_);simp only [xq,reduceIte,qE,qA,qL,qD,hp_g0,hp_gk,hp_sk,zS,Nat.add_assoc,w2]
      refine c_fn (Hc es[i].ins) rfl ?_;simp only [xq,reduceIte,qE,qA,qL,qD,hp_g0,hp_gk,hp_sk,zS,Nat.add_assoc]
      rw [if_neg (by simp)]
      refine ⟨by decide,by decide,?_⟩
      refine W_reg ?_;simp only [xq,reduceIte,qE,qA,qL,qD,hp_g0,hp_gk,glRows_len,w3,w4]
      refine W_reg ?_;simp only [xq,reduceIte,qE,qA,qL,qD,w1]
      refine ⟨es.length-(i+1),S (.ref (h.length+2) 1 0 1 true) _ (i+1),by omega,Co.keep _ (by simp [x_upd,x_look]),i+1,_,_,hlt,rfl,rfl,.inr ⟨h.length+2,?_,?_,hcn⟩⟩
      · rw [hcl1];rfl
      · rw [hcl1,hp_gk];rfl
    · have gq:∀ t:Heap,(h++t)[q]? = some (cgLB (cgsE row 0 (es.take i))):=fun t=>hp_gl hq
      have hql:=(zA.1 hq).1
      have sq:∀ (t:Heap) X,(h++t).set q X=h.set q X++t:=fun t X=>zu _ _ hql
      refine W_seq (W_drw (by simp) ?_);simp only [xq,reduceIte,qE,qA,qL,qD,hp_g0,hp_gk,hp_sk,zS,Nat.add_assoc,w2]
      refine c_fn (Hc es[i].ins) rfl ?_;simp only [xq,reduceIte,qE,qA,qL,qD,hp_g0,hp_gk,hp_sk,zS,Nat.add_assoc,gq,sq,cgLB_len,cgRows_len,cgsE_len,htl]
      refine ⟨by simp only [room];omega,by simp only [maxLen];omega,?_⟩
      refine W_reg ?_;simp only [xq,reduceIte,qE,qA,qL,qD,hs_g0,hs_gk,glRows_len,w3,w4]
      refine W_reg ?_;simp only [xq,reduceIte,qE,qA,qL,qD,w1]
      refine ⟨es.length-(i+1),S (.ref q (i+1) 0 (i+1) true) _ (i+1),by omega,Co.keep _ (by simp [x_upd,x_look]),i+1,_,_,hlt,rfl,rfl,.inr ⟨q,?_,?_,hcn⟩⟩
      · rw [cgsE_len,zs];congr 1<;>omega
      · show (h.set q _++_)[q]? = _
        rw [zF (by simpa using hql),zN hql,hcl]
        simp only [cgLB,cgRows_app,List.map_append];rfl
  · have hle:i=es.length:=by simp at hc;omega
    subst hle
    simp only [xq,reduceIte,qE,qA,qL,qD]
    rw [List.take_length] at ho
    obtain ⟨out,hout⟩:∃ out,out=cgsE row 0 es:=⟨_,rfl⟩
    rw [← hout] at ho
    have hol:out.length=es.length:=by rw [hout,cgsE_len]
    have hle:=hes.len
    have hog:∀ c∈out,c.gl.length≤1000000:=fun c hc'=>by
      rw [hout] at hc'
      obtain ⟨e,h1,h2⟩:=cgsE_gl hc'
      have:=hes.ins e h1
      rw [h2];omega
    have hwg:(wholeG row (trimGl a) (trimGl b)).gl.length≤1000000:=by
      have h1:=trim_len (trimGl b)
      have h2:=trim_len b
      show (trimGl (trimGl b)).length≤_
      omega
    obtain ⟨wg,hwd⟩:∃ wg,wg=wholeG row (trimGl a) (trimGl b):=⟨_,rfl⟩
    have hR:=Hr (trimGl a) (trimGl b)
    have hsp:splicesV row a b=if out≠[]∧costG [wg]<costG out then [wg] else out:=by
      unfold splicesV
      rw [hout,hesd,hwd]
    have hK1:FnD Γ.ctx P fk [.ref h.length 1 0 1 true] (h++[cgLB [wg]]) (.int (costG [wg])) (h++[cgLB [wg]]) :=
      (Hk [wg] (by simp) (by simp;rw [hwd];exact hwg)).lend flat_sc' (.cons (frz_all (id:=h.length) (full:=true) (e:=eCg) (rows:=cgRows [wg]) (by rw [hp_g0])) .nil)
    have hK2:FnD Γ.ctx P fk [x] (h++[cgLB [wg]]) (.int (costG out)) (h++[cgLB [wg]]) :=
      (Hk out (by omega) hog).lend flat_sc' (.cons (OutIs.frz (by
        rcases ho with ho | ⟨q,h1,h2,h3⟩
        · exact .inl ho
        · exact .inr ⟨q,h1,hp_gl h2,h3⟩)) .nil)
    rw [hsp]
    rw [← hwd] at hR
    simp only [cgA,Cg.ds,zU,zV] at hR
    refine W_seq (W_reg ?_);simp only [xq,reduceIte,qE,qA,qL,qD]
    refine c_fn (hR) rfl ?_;simp only [xq,reduceIte,qE,qA,qL,qD]
    have fin:∀ sl:Nat→A,sl 7=x→W Γ.ctx P N none 0 (.seq (.reg [
      { dst:=some 63,op:=.mov (.t 7) },
      { dst:=some 6,op:=.mov (.t 63) }]) .ret) (RetQ [.t 6] (cgsA out)) ⟨sl,h++[cgLB [wg]]⟩:=fun sl h7=>by
      refine W_seq (W_reg ?_);simp only [xq,reduceIte,qE,qA,qL,qD,h7]
      refine W_ret (.frz ?_)
      simp only [xq,reduceIte,qE,qA,qL,qD]
      refine OutIs.frz (h:=h++[cgLB [wg]]) ?_
      rcases ho with ho | ⟨q,h1,h2,h3⟩
      · exact .inl ho
      · exact .inr ⟨q,h1,hp_gl h2,h3⟩
    rcases ho with ⟨rfl,hnil⟩ | ⟨q,rfl,hq,hne⟩
    · rw [hnil,if_neg (by simp),← hnil]
      refine W_seq ?_
      refine W_seq (W_reg ?_);simp only [xq,reduceIte,qE,qA,qL,qD,undefA,zE,hp_g0]
      refine W_cond rfl (fun hd=>by cases hd) (fun _=>W_skip ?_)
      simp only [xq,reduceIte,qE,qA,qL,qD]
      exact fin _ rfl
    · have hpos:decide (0<(out.length:Int))=true:=by
        have:out.length≠0:=fun h=>hne (List.eq_nil_of_length_eq_zero h)
        exact decide_eq_true (by omega)
      have gq:∀ t:Heap,(h++t)[q]? = some (cgLB out):=fun t=>hp_gl hq
      refine W_seq ?_
      refine W_seq (W_reg ?_);simp only [xq,reduceIte,qE,qA,qL,qD,undefA,zE,gq,cgRows_len,hpos]
      refine ce_fn hK1 ?_
      simp only [xq,reduceIte,qE,qA,qL,qD,hpos]
      refine ce_fn hK2 ?_
      simp only [xq,reduceIte,qE,qA,qL,qD,hpos]
      refine W_cond rfl (fun hd=>?_) (fun hd=>W_skip ?_)
      · have hd:costG [wg]<costG out:=by simpa using hd
        rw [if_pos ⟨hne,hd⟩]
        refine W_seq (W_reg ?_);simp only [xq,reduceIte,qE,qA,qL,qD]
        refine W_ret (.frz ?_)
        simp only [xq,reduceIte,qE,qA,qL,qD]
        exact frz_all (id:=h.length) (full:=true) (e:=eCg) (rows:=cgRows [wg]) (by rw [hp_g0])
      · have hd:¬ costG [wg]<costG out:=by simpa using hd
        rw [if_neg (fun h=>hd h.2)]
        simp only [xq,reduceIte,qE,qA,qL,qD]
        exact fin _ rfl
end Go.Proofs.YtadfkfgjhaijiaaDoor.Nx
namespace Go.Proofs.YtadfkfgjhaijiaaDoor.Nx
open Go
variable {P:Program} {N:Nat} {Γ:Tabs}
theorem edG_len:∀ (s:List (Nat × Nat)) (b:List Gl) (cur:Option Edt),(edG s b cur).length≤s.length+cur.toList.length
  | [],b,cur=>by simp [edG]
  | (k,i)::s,b,cur=>by
    rw [edG]
    split
    · have:=edG_len s (b.drop 1) none
      simp only [zb,za,Option.toList_none,zq] at this ⊢
      omega
    · split
      · have:=edG_len s b (some (edDel i cur))
        simp only [za,Option.toList_some,zq] at this ⊢
        omega
      · have:=edG_len s (b.drop 1) (some (edIns i (b.take 1) cur))
        simp only [za,Option.toList_some,zq] at this ⊢
        omega
theorem okE_mem {A B:List Gl}:∀ {es:List Edt} {i j:Nat},okE A B i j es→∀ e∈es,e.at'+e.del≤A.length∧e.ins.length≤B.length
  | [],_,_,_,e,he=>by simp at he
  | e0::es,i,j,h,e,he=>by
    rw [okE] at h
    obtain ⟨j1,h1,h2,h3,h4,h5,h6,h7,h8⟩:=h
    rcases zp.1 he with rfl | he
    · exact ⟨h4,by omega⟩
    · exact okE_mem h8 e he
theorem eds_ok {A B:List Gl} (hA:A.length≤50000) (hB:B.length≤50000):EdsOk 200000 (scriptE A B):=by
  have hs:=script_ok (A:=A) (B:=B) _ A B 0 0 none (Nat.le_refl _) rfl rfl (zI _) (zI _) trivial
  have hm:=okE_mem hs
  have hl:=edG_len (wlk A B 0) B none
  have hw:=wlk_len A B 0
  simp only [Option.toList_none,zq] at hl
  refine ⟨?_,fun e he=>?_,fun e he=>?_,fun e he=>?_⟩
  · show (edG (wlk A B 0) B none).length≤_
    omega
  · have:=(hm e he).1;omega
  · have:=(hm e he).1;omega
  · have:=(hm e he).2;omega
theorem splices_len {row:Int} {a b:List Gl} (ha:a.length≤50000) (hb:b.length≤50000):(splicesV row a b).length≤200001:=by
  have h1:=trim_len a
  have h2:=trim_len b
  have:=(eds_ok (A:=trimGl a) (B:=trimGl b) (by omega) (by omega)).len
  unfold splicesV
  simp only
  split
  · simp
  · rw [cgsE_len];omega
def iv2 (x:List Cg × Int):A:=.tup [cgsA x.1,.int x.2]
theorem frzT2 {h:Heap} {x y x' y':A} (h1:FrzA 0 h x x') (h2:FrzA 0 h y y'):FrzA 0 h (.tup [x,y]) (.tup [x',y']):=by
  refine .tup rfl fun j u hj=>?_
  rcases j with _ | _ | j
  · cases hj;exact h1
  · cases hj;exact h2
  · simp at hj
theorem OutIs.ne {h:Heap} {l:List Cg} {q id k:Nat} {v:Vw} {R:List (List A)} (hq:h[q]? = some (cgLB l)) (hl:l≠[]) (e:EdIs h id v k R):id≠q:=by
  rintro rfl
  have:=e.hid.symm.trans hq
  cases l with
  | nil=>exact hl rfl
  | cons c l =>
    simp only [zH,HB.cells.injEq,cgRows,Cg.ds,zU,edRow,List.cons.injEq] at this
    obtain ⟨_,⟨_,_,h3,_⟩,_⟩:=this
    cases h3
theorem inv_gc {h:Heap} {sl:Nat→A} {v w:Vw} {id k:Nat} {R:List (List A)} {x:A} {l:List Cg} (e:EdIs h id w k R) (ho:OutIs h l x) (h2:sl 2 = .ptr 0 1 0 0) (h9:sl 9=x) (h10:sl 10 = .ptr id 1 0 0) (hv:h[0]? = some (vwB v)) (hne:∀ q,h[q]? = some (cgLB l)→l≠[]→q≠0) :
    ∃ h',Co 0 ⟨sl,h⟩ ⟨look [(2,.iptr v.ds),(9,x),(10,.iptr w.ds)],h'⟩∧OutIs h' l x:=by
  have fv:∀ {h1:Heap},h1[0]? = some (vwB v)→FrzA 0 h1 (.ptr 0 1 0 0) (.iptr v.ds):=fun {h1} hv=>by
    refine FrzA.iptr (e:=eVw) (rows:=[v.ds.map .d]) (i:=0) (off:=0) (zI 0) hv rfl fun j d hj=>?_
    have hlt:=(zA.1 hj).1
    refine ⟨by simpa using hlt,?_⟩
    rw [Nat.zero_add,zC,List.getElem?_map,hj]
    exact .d d
  have fe:∀ {h1:Heap} {k1:Nat} {R1:List (List A)},EdIs h1 id w k1 R1→FrzA 0 h1 (.ptr id 1 0 0) (.iptr w.ds):=fun {h1 k1 R1} e=>by
    refine FrzA.iptr (rows:=[edRow w k1 R1.length]) (i:=0) (off:=0) (zI id) e.hid rfl fun j d hj=>?_
    have hlt:=(zA.1 hj).1
    refine ⟨by simpa [edRow,Vw.ds] using hlt,?_⟩
    rw [Nat.zero_add]
    simp only [Vw.ds,edRow] at hj ⊢
    rcases j with _ | _ | _ | _ | _ | _ | j
    · cases hj;exact .d _
    · cases hj;exact .d _
    · cases hj;exact e.frz
    · cases hj;exact .d _
    · cases hj;exact .d _
    · cases hj;exact .d _
    · simp at hj
  rcases ho with ⟨rfl,rfl⟩ | ⟨q,rfl,hq,hl⟩
  · refine ⟨h.take 0,Co.frz (s:=⟨sl,h⟩) _ 0 ?_ (zI _) (zI _) u0,.inl ⟨rfl,rfl⟩⟩
    intro p hp
    simp only [zp,List.not_mem_nil,or_false] at hp
    rcases hp with rfl | rfl | rfl
    · simp only;rw [h2];exact fv hv
    · simp only;rw [h9];exact .same rfl
    · simp only;rw [h10];exact fe e
  · have hq0:=hne q hq hl
    have hid:=OutIs.ne hq hl e
    refine ⟨onlyB q h,Co.gc1 q hq (fun r hr x hx=>?_) _ ?_,.inr ⟨q,rfl,onlyB_get hq,hl⟩⟩
    · obtain ⟨r',_,rfl⟩:=List.mem_map.1 hr
      obtain ⟨d,_,rfl⟩:=List.mem_map.1 hx
      rfl
    intro p hp
    simp only [zp,List.not_mem_nil,or_false] at hp
    rcases hp with rfl | rfl | rfl
    · right;simp only;rw [h2];exact fv (by rw [List.getElem?_set_ne hq0];exact hv)
    · left;simp only;exact ⟨h9,by simp [A.keptIn]⟩
    · right;simp only;rw [h10];exact fe (e.setOther hq hid)
def LenLe (l:List Cg) (n:Nat):Prop:=l.length≤n
abbrev OpenTOk (Δ:Ctx) (P:Program) (f:FuncId):Prop:=∀ w:Vw,w.rows≠[]→w.rows.length≤1000→∀ h:Heap,∃ t id k R,FnD Δ P f [vwA w] h (.ptr id 1 0 0) (h++t)∧EdIs (h++t) id w k R∧h.length≤id∧h.length≤(h++t).length∧Keep6 h (h++t) id
abbrev OpenOk (Δ:Ctx) (P:Program) (f:FuncId):Prop:=∀ w:Vw,w.rows≠[]→w.rows.length≤1000→∀ h:Heap,∃ h' id k R,FnD Δ P f [vwA w] h (.ptr id 1 0 0) h'∧EdIs h' id w k R∧h.length≤id∧h.length≤h'.length∧Keep6 h h' id
set_option maxHeartbeats 2000000 in
theorem inverse_fn {f fp fo fa fs:FuncId} (H:FnIs P f N [.t 4,.t 5] (x_change_Inverse fp fo fa fs)) (hN:2≤N) (v:Vw) (l:List Cg) (hsv:Sm v 50000) (hsw:(applyV v l).2.2=0→Sm (applyV v l).1 50000) (Hp:FnP Γ P fp [vwA v,cgsA l] (apA (applyV v l)))
    (Ho:OpenOk Γ.ctx P fo) (Ha:EdStep Γ.ctx P fa StepPre stepV) (Hs:∀ (row:Int) (a b:List Gl),a.length≤50000→b.length≤50000→FnP Γ P fs [.int row,.d (.sl eGl (glRows a)),.d (.sl eGl (glRows b))] (cgsA (splicesV row a b))) :
    FnP Γ P f [vwA v,cgsA l] (iv2 (invV v l)):=by
  refine .of_W H (by simpa using hN) ?_
  obtain ⟨w,i0,er,hap⟩:∃ w i e,applyV v l=(w,i,e):=⟨_,_,_,rfl⟩
  have hend:=(applyV_ends v l).1
  rw [hap] at Hp hend hsw
  unfold x_change_Inverse
  simp only [apA,vwA,Vw.ds,zU,zV] at Hp ⊢
  refine W_seq (W_reg ?_);simp only [xq,reduceIte,qE,qA,qL,qD]
  refine W_seq (W_reg ?_);simp only [xq,reduceIte,qE,qA,qL,qD]
  refine c_fn (Hp) rfl ?_;simp only [xq,reduceIte,qE,qA,qL,qD]
  refine W_seq ?_
  refine W_seq (W_reg ?_);simp only [xq,reduceIte,qE,qA,qL,qD]
  refine W_cond rfl (fun hk=>?_) (fun hk=>W_skip ?_)
  · have hk:¬ er=0:=by simpa using hk
    refine W_seq (W_reg ?_);simp only [xq,reduceIte,qE,qA,qL,qD]
    refine W_ret ⟨.inr rfl,?_⟩
    simp only [readRs,readR,single,xq,reduceIte,qE,qA,qL,qD]
    rw [invV,hap,if_neg hk]
    exact frzT2 (.d (.nil _)) (.same rfl)
  have hk:er=0:=by simpa using hk
  subst hk
  obtain ⟨hv,_,hw⟩:=hend rfl
  simp only at hw hsw
  have hsw:=hsw trivial
  rw [invV,hap,if_pos rfl]
  simp only
  obtain ⟨ev,hwv⟩:=viewC_zero.1 hv
  obtain ⟨ew,hww⟩:=viewC_zero.1 hw
  have sv:=szOk_iff.1 ev.sz
  have sw:=szOk_iff.1 ew.sz
  have lv:=ev.len
  have lw:=ew.len
  simp only [xq,reduceIte,qE,qA,qL,qD]
  refine W_seq (W_reg ?_);simp only [xq,reduceIte,qE,qA,qL,qD]
  obtain ⟨h0,id,k0,R0,hF,he0,hid,hle,hkeep⟩:=Ho w (by intro h;rw [h] at lw;simp at lw;omega) (by omega) [vwB v,vwB w]
  simp only [vwA,Vw.ds,zU,zV] at hF
  have h0v:h0[0]? = some (vwB v):=hkeep 0 eVw [v.ds.map .d] rfl rfl (by simp at hid;omega)
  have h0w:h0[1]? = some (vwB w):=hkeep 1 eVw [w.ds.map .d] rfl rfl (by simp at hid;omega)
  refine W_seq (W_reg ?_);simp only [xq,reduceIte,qE,qA,qL,qD]
  refine ce_fn hF ?_
  simp only [xq,reduceIte,qE,qA,qL,qD]
  let R1:St→Prop:=fun s=>∃ x h w' pre,s=⟨look [(2,.iptr v.ds),(9,x),(10,.iptr w'.ds)],h⟩∧OutIs h pre x∧Ed w'∧w'.height=v.height∧w'.width=v.width∧invL w v=pre++restV w' v∧Sm w' 50000∧pre.length≤1
  refine W_cut R1 ?_ ?_
  · refine W_cut (· = ⟨look [(2,.ptr 0 1 0 0),(9,.nil),(10,.ptr id 1 0 0),(38,.bool (!(decide (w.width=v.width)&&decide (w.height=v.height))))],h0⟩) (W_reg ?_) ?_
    · cases e1:decide (w.width=v.width)
      · simp only [xq,reduceIte,qE,qA,qL,qD,h0v,h0w,Vw.ds,e1,undefA,zE]
        exact ⟨_,Co.keep _ (by simp [x_upd,x_look]),rfl⟩
      · simp only [xq,reduceIte,qE,qA,qL,qD,h0v,h0w,Vw.ds,e1,undefA,zE]
        exact ⟨_,Co.keep _ (by simp [x_upd,x_look]),rfl⟩
    rintro _ rfl
    refine W_cond rfl (fun hd=>?_) (fun hd=>W_skip ?_)
    · have hd:¬ (w.width=v.width∧w.height=v.height):=by simp at hd;omega
      have hinv:invL w v=[sizeCg v]++restV (sizeV w v.height v.width) v:=by rw [invL,if_neg hd];rfl
      have hc:chgC w (sizeCg v)=0:=by
        unfold chgC sizeCg
        rw [if_pos (btw_iff.2 (by simp)),if_pos (by simp [blankG]),if_pos]
        · rfl
        · simp only [rangeG,if_true,Bool.and_eq_true,btw_iff]
          omega
      have hst:stepV w (sizeCg v)=sizeV w v.height v.width:=by simp [stepV,sizeCg]
      obtain ⟨h',k',R',hA,hl',he',hk6⟩:=Ha (v:=w) (c:=sizeCg v) ⟨ew,hc,hsw.row,by simp [sizeCg]⟩ (h:=h0++[cgB (sizeCg v)]) (zI _) (he0.app _)
      have eS:=ew.step hc
      rw [hst] at he' eS
      simp only [cgA,Cg.ds,sizeCg,zU,zV] at hA
      have g0:∀ t:Heap,(h0++t)[0]? = some (vwB v):=fun t=>hp_gl h0v
      have hidl:id<h0.length:=he0.id_lt
      have hcg:h'[h0.length]? = some (cgB (sizeCg v)):=hk6 h0.length eCg _ hp_g0 rfl (by omega)
      have hv':h'[0]? = some (vwB v):=hk6 0 eVw [v.ds.map .d] (g0 _) rfl (by simp at hid;omega)
      simp only [cgB,Cg.ds,sizeCg,zU,zV] at hcg
      refine W_seq (W_reg ?_);simp only [xq,reduceIte,qE,qA,qL,qD,h0v,g0,Vw.ds,hp_g0,hp_s0]
      refine W_co (Co.viewLast (r2:=(sizeCg v).ds.map .d) [(2,.ptr 0 1 0 0),(9,.nil),(10,.ptr id 1 0 0),(11,.ptr h0.length 1 0 0)] (by simp [x_upd,x_look]) rfl ?_) ?_
      · intro j y hj
        rcases j with _ | _ | _ | _ | _ | _ | j
        · cases hj;exact .inl rfl
        · cases hj;exact .inl rfl
        · cases hj;exact .inl rfl
        · cases hj;exact .inl rfl
        · cases hj;exact .inl rfl
        · cases hj;exact .inr ⟨.nil _,_,rfl⟩
        · simp [sizeCg,Cg.ds] at hj
      refine W_seq (W_reg ?_);simp only [xq,reduceIte,qE,qA,qL,qD,hp_g0,sizeCg,Cg.ds]
      refine ce_fn hA ?_
      simp only [xq,reduceIte,qE,qA,qL,qD]
      refine W_reg ?_;simp only [xq,reduceIte,qE,qA,qL,qD,hcg,hp_g0,zS]
      rw [if_neg (by simp)]
      refine ⟨by decide,by decide,?_⟩
      have ho2:OutIs (h'++[cgLB [sizeCg v],cgLB [sizeCg v]]) [sizeCg v] (.ref (h'.length+1) 1 0 1 true):=.inr ⟨h'.length+1,rfl,hp_g1,by simp⟩
      obtain ⟨h2,hco,ho'⟩:=inv_gc (v:=v) (sl:=look [(2,.ptr 0 1 0 0),(9,.ref (h'.length+1) 1 0 1 true),(10,.ptr id 1 0 0)]) (he'.app [cgLB [sizeCg v],cgLB [sizeCg v]]) ho2 rfl rfl rfl (hp_gl hv') (fun q h1 h2 h3=>by
        subst h3
        rw [hp_gl hv'] at h1
        simp only [zH,HB.cells.injEq,cgRows,Cg.ds,Vw.ds,sizeCg,zU,zV,List.cons.injEq,A.d.injEq] at h1
        obtain ⟨_,⟨_,_,h3,_⟩,_⟩:=h1
        cases h3)
      refine ⟨_,Co.trans (Co.keep [(2,.ptr 0 1 0 0),(9,.ref (h'.length+1) 1 0 1 true),(10,.ptr id 1 0 0)] (by simp [x_upd,x_look])) hco,_,_,_,_,rfl,ho',eS,rfl,rfl,hinv,?_,by simp⟩
      have hrs:∀ r∈(sizeV w v.height v.width).rows,∃ r0,(r0=[]∨r0∈w.rows)∧r=sizeR v.width r0:=fun r hr=>sizeV_rows hr
      refine ⟨fun r hr=>?_,fun r hr g hg=>?_⟩
      · obtain ⟨r0,h1,rfl⟩:=hrs r hr
        have h2:(sizeR v.width r0).length≤r0.length:=by
          unfold sizeR
          obtain ⟨n,hn⟩:=cutW_pre v.width r0
          have:=trim_len (cutW v.width r0)
          rw [hn,zs] at this
          rw [hn];omega
        rcases h1 with rfl | h1
        · rw [zq] at h2;omega
        · have:=hsw.row r0 h1;omega
      · obtain ⟨r0,h1,rfl⟩:=hrs r hr
        have:=sizeR_mem hg
        rcases h1 with rfl | h1
        · simp at this
        · exact hsw.txt r0 h1 g this
    · have hd:w.width=v.width∧w.height=v.height:=by simpa using hd
      obtain ⟨h',hco,ho'⟩:=inv_gc (sl:=look [(2,.ptr 0 1 0 0),(9,.nil),(10,.ptr id 1 0 0),(38,.bool (!(decide (w.width=v.width)&&decide (w.height=v.height))))]) (l:=[]) (x:=.nil) he0 (.inl ⟨rfl,rfl⟩) rfl rfl rfl h0v (fun q h1 h2=>absurd rfl h2)
      exact ⟨rfl,_,hco,_,_,_,_,rfl,ho',ew,hd.2,hd.1,by rw [invL,if_pos hd];rfl,hsw,by simp⟩
  · rintro _ ⟨x,h,w',pre,rfl,ho,ew',hh,hwd,hinv,hsm,hpl⟩
    rw [hinv]
    have lw':=ew'.len
    have hlen:w'.rows.length=v.rows.length:=by omega
    refine W_seq ?_
    refine W_seq (W_reg ?_);simp only [xq,reduceIte,qE,qA,qL,qD,Vw.ds,rwRows_len]
    refine W_block ?_
    let S:A→Heap→Nat→St:=fun x h i=>⟨look [(2,.iptr v.ds),(9,x),(10,.iptr w'.ds),(52,.d (.sl eRw (rwRows v.rows))),(53,.int v.rows.length),(54,.int i)],h⟩
    refine W_co (s':=S x h 0) (Co.keep _ (by simp [x_upd,x_look,Vw.ds])) ?_
    refine W_loop (fun m s=>∃ i x h,i≤v.rows.length∧m=v.rows.length-i∧s=S x h i∧OutIs h (pre++splicesTo w' v i) x∧LenLe (pre++splicesTo w' v i) (1+200001 * i)) ⟨0,x,h,zI _,rfl,rfl,by rw [splicesTo,zP];exact ho,by rw [splicesTo,zP];exact hpl⟩ ?_
    clear ho x h
    rintro m s ⟨i,x,h,hi,rfl,rfl,ho,hol⟩
    simp only [S]
    refine W_seq (W_reg ?_);simp only [xq,reduceIte,qE,qA,qL,qD]
    refine W_seq (W_cond rfl (fun hc=>W_skip ?_) (fun hc=>W_exit ?_))
    · have hlt:i<v.rows.length:=by simpa using hc
      have hltw:i<w'.rows.length:=by omega
      have w1:IntKind.i64.wrap ((i:Int)+1)=((i+1:Nat):Int):=by rw [i64_of (by omega)];omega
      have gw:w'.rows.getD i []=w'.rows[i]:=by rw [zC,zB hltw];rfl
      have gv:v.rows.getD i []=v.rows[i]:=by rw [zC,zB hlt];rfl
      have bw:=hsm.row _ (zi hltw)
      have bv:=hsv.row _ (zi hlt)
      have hS:=Hs i w'.rows[i] v.rows[i] bw bv
      obtain ⟨nw,hnw⟩:∃ nw,nw=splicesV i w'.rows[i] v.rows[i]:=⟨_,rfl⟩
      have hnl:nw.length≤200001:=by rw [hnw];exact splices_len bw bv
      have hto:pre++splicesTo w' v (i+1)=(pre++splicesTo w' v i)++nw:=by rw [splicesTo,gw,gv,hnw,zS]
      rw [← hnw] at hS
      obtain ⟨o,hod⟩:∃ o,o=pre++splicesTo w' v i:=⟨_,rfl⟩
      rw [← hod] at ho hol hto
      have hol:o.length≤1+200001 * i:=hol
      simp only [xq,reduceIte,qE,qA,qL,qD]
      have next:∀ (sl:Nat→A) (x2:A) (h2:Heap),sl 2 = .iptr v.ds→sl 9=x2→sl 10 = .iptr w'.ds→sl 52 = .d (.sl eRw (rwRows v.rows))→sl 53 = .int v.rows.length→sl 54 = .int ((i+1:Nat):Int)→OutIs h2 (o++nw) x2 →
          ∃ m' s'',m'<v.rows.length-i∧Co 0 ⟨sl,h2⟩ s''∧∃ i x h,i≤v.rows.length∧m'=v.rows.length-i∧s''=S x h i∧OutIs h (pre++splicesTo w' v i) x∧LenLe (pre++splicesTo w' v i) (1+200001 * i):=by
        intro sl x2 h2 q1 q2 q3 q4 q5 q6 ho2
        refine ⟨v.rows.length-(i+1),S x2 h2 (i+1),by omega,Co.keep _ (by simp [q1,q2,q3,q4,q5,q6]),i+1,x2,h2,hlt,rfl,rfl,by rw [hto];exact ho2,?_⟩
        rw [hto,LenLe,zb];omega
      refine W_seq (W_block ?_)
      refine W_seq (W_reg ?_);simp only [xq,reduceIte,qE,qA,qL,qD,rwRows_len,rwRows_get hlt,zQ]
      refine ⟨by omega,by omega,?_⟩
      refine W_regK fun K hK=>?_
      refine run_take 11 fun K1 hK1=>?_
      simp only [xq,reduceIte,qE,qA,qL,qD,Vw.ds,rwRows_len,rwRows_get hltw,zQ]
      refine ⟨by omega,by omega,?_⟩
      refine hK1 _ ?_
      simp only [xq,reduceIte,qE,qA,qL,qD]
      refine c_fn (hS) rfl ?_;simp only [xq,reduceIte,qE,qA,qL,qD]
      have hK':∀ (sl:Nat→A) (x2:A) (h2:Heap),sl 2 = .iptr v.ds→sl 9=x2→sl 10 = .iptr w'.ds→sl 52 = .d (.sl eRw (rwRows v.rows))→sl 53 = .int v.rows.length→sl 54 = .int i→OutIs h2 (o++nw) x2→K ⟨sl,h2⟩:=by
        intro sl x2 h2 q1 q2 q3 q4 q5 q6 ho2
        refine hK _ ?_
        simp only [xq,reduceIte,qE,qA,qL,qD]
        refine W_reg ?_;simp only [xq,reduceIte,qE,qA,qL,qD,q6,w1]
        refine next _ x2 _ ?_ ?_ ?_ ?_ ?_ ?_ ho2<;>simp [x_upd,q1,q2,q3,q4,q5]
      clear hK next
      rcases ho with ⟨rfl,hnil⟩ | ⟨q,rfl,hq,hne⟩
      · by_cases hn0:nw=[]
        · subst hn0
          simp only [cgRows,zV,zP] at hK' ⊢
          simp only [xq,reduceIte,qE,qA,qL,qD]
          exact hK' _ _ _ (by simp [x_upd,x_look,Vw.ds]) (by simp [x_upd]) (by simp [x_upd,x_look,Vw.ds]) (by simp [x_upd,x_look]) (by simp [x_upd,x_look]) (by simp [x_upd,x_look]) (.inl ⟨rfl,hnil⟩)
        · simp only [xq,reduceIte,qE,qA,qL,qD]
          rw [if_neg (by simpa [cgRows] using hn0)]
          simp only [cgRows_len]
          refine ⟨by simp only [room];omega,by simp only [maxLen];omega,?_⟩
          refine hK' _ (.ref h.length nw.length 0 nw.length true) _ (by simp [x_upd,x_look,Vw.ds]) (by simp [x_upd]) (by simp [x_upd,x_look,Vw.ds]) (by simp [x_upd,x_look]) (by simp [x_upd,x_look]) (by simp [x_upd,x_look]) (.inr ⟨h.length,?_,?_,?_⟩)
          · rw [hnil];rfl
          · rw [hnil];simp
          · rw [hnil];simpa using hn0
      · have hql:=(zA.1 hq).1
        simp only [xq,reduceIte,qE,qA,qL,qD,hq,cgLB_len,cgRows_len]
        refine ⟨by simp only [room];omega,by simp only [maxLen];omega,?_⟩
        refine hK' _ (.ref q (o.length+nw.length) 0 (o.length+nw.length) true) _ (by simp [x_upd,x_look,Vw.ds]) (by simp [x_upd]) (by simp [x_upd,x_look,Vw.ds]) (by simp [x_upd,x_look]) (by simp [x_upd,x_look]) (by simp [x_upd,x_look]) (.inr ⟨q,?_,?_,?_⟩)
        · rw [zb]
        · rw [zN hql];simp only [cgLB,cgRows_app,List.map_append]
        · simp [hne]
    · have hle:i=v.rows.length:=by simp at hc;omega
      subst hle
      simp only [xq,reduceIte,qE,qA,qL,qD]
      obtain ⟨o,hod⟩:∃ o,o=pre++splicesTo w' v v.rows.length:=⟨_,rfl⟩
      have hrest:pre++restV w' v=o++cursorV w' v:=by rw [hod,restV,zS]
      rw [← hod] at ho hol
      have hol:o.length≤1+200001 * v.rows.length:=hol
      rw [hrest]
      have fin:∀ (sl:Nat→A) (x2:A) (h2:Heap) (o2:List Cg),sl 9=x2→OutIs h2 o2 x2→W Γ.ctx P N none 0 (.seq (.reg [
        { dst:=some 113,op:=.mov (.t 9) },
        { dst:=some 4,op:=.mov (.t 113) },
        { dst:=some 5,op:=.mov (.k (.int 0)) }]) .ret) (RetQ [.t 4,.t 5] (iv2 (o2,0))) ⟨sl,h2⟩:=by
        intro sl x2 h2 o2 h9 ho2
        refine W_seq (W_reg ?_);simp only [xq,reduceIte,qE,qA,qL,qD,h9]
        refine W_ret ⟨.inr rfl,?_⟩
        simp only [readRs,readR,single,xq,reduceIte,qE,qA,qL,qD]
        exact frzT2 ho2.frz (.same rfl)
      clear hod
      refine W_seq ?_
      refine W_cut (· = ⟨look [(2,.iptr v.ds),(9,x),(100,.bool (!((decide (w'.row=v.row)&&decide (w'.col=v.col))&&(w'.vis == v.vis))))],h⟩) (W_drw (by simp) ?_) ?_
      · simp only [List.replicate_zero,zP]
        obtain ⟨b1,hb1⟩:∃ b,b = !decide (w'.row=v.row):=⟨_,rfl⟩
        obtain ⟨b2,hb2⟩:∃ b,b=(b1 || !decide (w'.col=v.col)):=⟨_,rfl⟩
        have hb3:(!((decide (w'.row=v.row)&&decide (w'.col=v.col))&&(w'.vis == v.vis)))=(b2||(w'.vis != v.vis)):=by rw [hb2,hb1,Bool.not_and,Bool.not_and];rfl
        rw [hb3]
        refine run_stage (H:=h) 9 (fun sl=>sl 2 = .iptr v.ds∧sl 9=x∧sl 10 = .iptr w'.ds∧sl 81 = .bool b1) (fun K' hK'=>?_) ?_
        · simp only [xq,reduceIte,qE,qA,qL,qD,Vw.ds]
          exact hK' _ ⟨rfl,rfl,rfl,by rw [hb1];rfl⟩
        rintro sl ⟨s2,s9,s10,sG⟩
        refine run_stage (H:=h) 10 (fun sl=>sl 2 = .iptr v.ds∧sl 9=x∧sl 10 = .iptr w'.ds∧sl 91 = .bool b2) (fun K' hK'=>?_) ?_
        · cases b1 with
          | true =>
            refine run_strip [(81,some true)] rfl (by simp [gval,sG]) ?_
            simp only [xq,reduceIte,qE,qA,qL,qD,stripO,kget,List.drop,List.take,List.map,sG,zE]
            exact hK' _ ⟨s2,s9,s10,by rw [hb2];rfl⟩
          | false =>
            refine run_strip [(81,some false)] rfl (by simp [gval,sG]) ?_
            simp only [xq,reduceIte,qE,qA,qL,qD,stripO,kget,List.drop,List.take,List.map,sG,s10,s2,Vw.ds]
            exact hK' _ ⟨s2,s9,s10,by rw [hb2];rfl⟩
        clear hb1 hb2 hb3 s2 s9 s10 sG sl
        rintro sl ⟨s2,s9,s10,sG⟩
        cases b2 with
        | true =>
          refine run_strip [(91,some true)] rfl (by simp [gval,sG]) ?_
          simp only [xq,reduceIte,qE,qA,qL,qD,stripO,kget,List.drop,List.take,List.map,sG,zE]
          exact ⟨_,Co.keep _ (by simp [x_upd,s2,s9]),rfl⟩
        | false =>
          refine run_strip [(91,some false)] rfl (by simp [gval,sG]) ?_
          simp only [xq,reduceIte,qE,qA,qL,qD,stripO,kget,List.drop,List.take,List.map,sG,s10,s2,Vw.ds]
          exact ⟨_,Co.keep _ (by simp [x_upd,s2,s9,Vw.ds]),rfl⟩
      rintro _ rfl
      refine W_cond rfl (fun hd=>?_) (fun hd=>W_skip ?_)
      · have hd:¬ (w'.row=v.row∧w'.col=v.col∧w'.vis=v.vis):=by
          rintro ⟨h1,h2,h3⟩
          simp [h1,h2,h3] at hd
        rw [cursorV,if_neg hd]
        refine W_seq (W_reg ?_);simp only [xq,reduceIte,qE,qA,qL,qD,Vw.ds,hp_g0,hp_s0]
        let cc:Bool→Cg:=fun b=>⟨4,v.row,v.col,if b then 1 else 0,0,[]⟩
        refine W_co (Co.viewLast (r2:=(cc false).ds.map .d) [(2,.iptr v.ds),(9,x),(14,.ptr h.length 1 0 0)] (by simp [x_upd,x_look,Vw.ds]) rfl ?_) ?_
        · intro j y hj
          rcases j with _ | _ | _ | _ | _ | _ | j
          · cases hj;exact .inl rfl
          · cases hj;exact .inl rfl
          · cases hj;exact .inl rfl
          · cases hj;exact .inl rfl
          · cases hj;exact .inl rfl
          · cases hj;exact .inr ⟨.nil _,_,rfl⟩
          · simp [cc,Cg.ds] at hj
        refine W_cut (· = ⟨look [(9,x),(14,.ptr h.length 1 0 0)],h++[cgB (cc v.vis)]⟩) ?_ ?_
        · refine W_seq (W_reg ?_);simp only [xq,reduceIte,qE,qA,qL,qD,Vw.ds]
          refine W_cond rfl (fun hb=>?_) (fun hb=>W_skip ?_)
          · rw [hb]
            refine W_reg ?_;simp only [xq,reduceIte,qE,qA,qL,qD,hp_g0,hp_s0,cc,Cg.ds]
            exact ⟨_,Co.keep _ (by simp [x_upd,x_look]),rfl⟩
          · rw [hb]
            exact ⟨rfl,_,Co.keep _ (by simp [x_upd,x_look]),rfl⟩
        rintro _ rfl
        have hcd:(⟨4,v.row,v.col,if v.vis then 1 else 0,0,[]⟩:Cg)=cc v.vis:=rfl
        rw [hcd]
        generalize cc v.vis=c
        have fin2:∀ (sl:Nat→A) (x2:A) (h2:Heap),sl 9=x2→OutIs h2 (o++[c]) x2→thenQ (W Γ.ctx P N none 0 (.seq (.reg [
          { dst:=some 113,op:=.mov (.t 9) },
          { dst:=some 4,op:=.mov (.t 113) },
          { dst:=some 5,op:=.mov (.k (.int 0)) }]) .ret) (RetQ [.t 4,.t 5] (iv2 (o++[c],0)))) (RetQ [.t 4,.t 5] (iv2 (o++[c],0))) .normal ⟨sl,h2⟩:=fun sl x2 h2 h9 ho2=>fin sl x2 h2 _ h9 ho2
        rcases ho with ⟨rfl,rfl⟩ | ⟨q,rfl,hq,hne⟩
        · refine W_reg ?_;simp only [xq,reduceIte,qE,qA,qL,qD,hp_g0,hp_g1,hp_gk,Cg.ds,zS]
          rw [if_neg (by simp)]
          refine ⟨by decide,by decide,?_⟩
          exact fin2 _ (.ref (h.length+2) 1 0 1 true) _ rfl (.inr ⟨h.length+2,rfl,by simp;rfl,by simp⟩)
        · have hql:=(zA.1 hq).1
          have gq:∀ t:Heap,(h++t)[q]? = some (cgLB o):=fun t=>hp_gl hq
          have sq:∀ (t:Heap) X,(h++t).set q X=h.set q X++t:=fun t X=>zu _ _ hql
          refine W_reg ?_;simp only [xq,reduceIte,qE,qA,qL,qD,hp_g0,hp_g1,hp_gk,Cg.ds,zS,gq,sq,cgRows_len]
          refine ⟨by simp only [room];omega,by simp only [maxLen];omega,?_⟩
          refine fin2 _ (.ref q (o.length+1) 0 (o.length+1) true) _ rfl (.inr ⟨q,by rw [zb];rfl,?_,by simp⟩)
          show (h.set q _++_)[q]? = _
          rw [zF (by simpa using hql),zN hql]
          simp only [cgLB,cgRows_app,List.map_append];rfl
      · have hd:w'.row=v.row∧w'.col=v.col∧w'.vis=v.vis:=by
          simp at hd;exact ⟨hd.1.1,hd.1.2,hd.2⟩
        rw [cursorV,if_pos hd,zP]
        simp only [xq,reduceIte,qE,qA,qL,qD]
        exact fin _ _ _ _ rfl ho
end Go.Proofs.YtadfkfgjhaijiaaDoor.Nx

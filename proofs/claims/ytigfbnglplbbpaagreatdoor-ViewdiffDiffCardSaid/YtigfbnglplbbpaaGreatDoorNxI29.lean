import Derived.Test.YtigfbnglplbbpaaGreatDoorNxI25
import Derived.Test.YtigfbnglplbbpaaGreatDoorNxE19
import Derived.Test.YtigfbnglplbbpaaGreatDoorNxE34
import Derived.Test.YtigfbnglplbbpaaGreatDoorNxI2
import Derived.Test.YtigfbnglplbbpaaGreatDoorNxI6
import Derived.Test.YtigfbnglplbbpaaGreatDoorNxE36
import Derived.Test.YtigfbnglplbbpaaGreatDoorNxI0
import Derived.Test.YtigfbnglplbbpaaGreatDoorNxI21
import Derived.Test.YtigfbnglplbbpaaGreatDoorNxE29
import Derived.Test.YtigfbnglplbbpaaGreatDoorNxDL
set_option linter.unusedSimpArgs false
set_option linter.unusedVariables false
set_option linter.unnecessarySimpa false
open List renaming getElem?_eq_some_iff → zA, getElem?_eq_getElem → zB, getD_eq_getElem?_getD → zC, append_nil → zP, append_assoc → zS, map_cons → zU, map_nil → zV, length_cons → za, length_append → zb, not_mem_nil → zc, getElem_mem → zi, mem_cons → zp, replicate_zero → zr, length_take → zs, set_append_left → zu
open Bool renaming true_eq_false → zE
open Option.some renaming injEq → zH
open Nat renaming zero_le → zI
open Int renaming toNat_natCast → zQ
open Nat renaming reduceEqDiff → qE, reduceAdd → qA, reduceLT → qL, reduceLeDiff → qD
namespace Go.Proofs.YtigfbnglplbbpaaGreatDoor.Nx
open Go
variable {P:Program} {N:Nat} {Γ:Tabs}
set_option maxHeartbeats 1000000 in
theorem rcost17l_fn {f:FuncId} (H:FnIs P f N [.t 2] x_ref17_Cost) (hN:1≤N) (l:List Cg) (hl:l.length≤1000000) (hg:∀ c∈l,c.gl.length≤1000000):FnP Γ P f [cgsA l] (.int (costG l)):=by
 refine .of_W H (by simpa using hN) ?_
 have hbnd:∀ i,0≤costG (l.take i)∧costG (l.take i)≤1002000000000:=fun i=>by
  have:=costG_bnd (l:=l.take i) (n:=1000000) fun c hc=>hg c (List.mem_of_mem_take hc)
  have h1:(l.take i).length≤1000000:=by rw [zs];omega
  have h2:((l.take i).length:Int) * (1002+(1000000:Nat))≤1000000 * (1002+(1000000:Nat)):=Int.mul_le_mul_of_nonneg_right (by omega) (by omega)
  omega
 unfold x_ref17_Cost
 refine wR ?_;simp only [xq,reduceIte,qE,qA,qL,qD]
 refine wR ?_;simp only [xq,reduceIte,qE,qA,qL,qD]
 refine W_seq ?_
 refine wR ?_;simp only [xq,reduceIte,qE,qA,qL,qD]
 refine W_block ?_
 let S:Nat→St:=fun i=>⟨look [(0,cgsA l),(3,.int (costG (l.take i))),(4,.int i)],[]⟩
 refine W_co (s':=S 0) (Co.keep _ (by simp [x_upd,x_look,costG])) ?_
 refine W_loop (fun m s=>∃ i,i≤l.length∧m=l.length-i∧s=S i) ⟨0,zI _,rfl,rfl⟩ ?_
 rintro m s ⟨i,hi,rfl,rfl⟩
 simp only [S]
 refine W_seq ?_
 refine wR ?_;simp only [xq,reduceIte,qE,qA,qL,qD,cgRows_len]
 refine W_cond rfl (fun hc=>W_skip ?_) (fun hc=>W_exit ?_)
 ·have hlt:i<l.length:=by simpa using hc
  have w1:IntKind.i64.wrap ((i:Int)+1)=((i+1:Nat):Int):=by rw [i64_of (by omega)];omega
  have hb:=hbnd i
  have hb1:=hbnd (i+1)
  have hsu:=costG_succ hlt
  have hgl:=hg _ (zi hlt)
  obtain ⟨c,hcd⟩:∃ c,c=l[i]:=⟨_,rfl⟩
  have hcg:(cgRows l).getD i []=c.ds:=by rw [cgRows_get hlt,← hcd]
  rw [← hcd] at hsu hgl
  obtain ⟨n0,hn0⟩:∃ n,n=costG (l.take i):=⟨_,rfl⟩
  rw [← hn0] at hb hsu
  simp only [← hn0]
  obtain ⟨k,hk⟩:∃ k,k=max 0 (min c.count 1000):=⟨_,rfl⟩
  have hk1:0≤k∧k≤1000:=by omega
  have w2:IntKind.i64.wrap (n0+2)=n0+2:=i64_of (by omega)
  have w3:IntKind.i64.wrap (n0+2+k)=n0+2+k:=i64_of (by omega)
  have w4:IntKind.i64.wrap (n0+2+k+c.gl.length)=costG (l.take (i+1)):=by
   rw [i64_of (by omega),hsu,hk];unfold cost1;omega
  simp only [xq,reduceIte,qE,qA,qL,qD]
  refine W_seq (W_block ?_)
  refine wR ?_;simp only [xq,reduceIte,qE,qA,qL,qD,cgRows_len,hcg,Cg.ds,zQ]
  refine ⟨by omega,by omega,?_⟩
  refine W_cut (· = ⟨look [(0,cgsA l),(3,.int n0),(4,.int i),(5,.int (max 0 c.count))],[]⟩) ?_ ?_
  ·refine wR ?_;simp only [xq,reduceIte,qE,qA,qL,qD]
   refine W_cond rfl (fun hd=>?_) (fun hd=>W_skip ?_)
   ·have hd:=of_decide_eq_true hd
    refine W_reg ?_;simp only [xq,reduceIte,qE,qA,qL,qD]
    exact ⟨_,Co.keep _ (by simp [x_upd,x_look,show max 0 c.count=0 by omega]),rfl⟩
   ·have hd:=of_decide_eq_false hd
    exact ⟨rfl,_,Co.keep _ (by simp [x_upd,x_look,show max 0 c.count=c.count by omega]),rfl⟩
  rintro _ rfl
  refine W_cut (· = ⟨look [(0,cgsA l),(3,.int n0),(4,.int i),(5,.int k)],[]⟩) ?_ ?_
  ·refine wR ?_;simp only [xq,reduceIte,qE,qA,qL,qD]
   refine W_cond rfl (fun hd=>?_) (fun hd=>W_skip ?_)
   ·have hd:=of_decide_eq_true hd
    refine W_reg ?_;simp only [xq,reduceIte,qE,qA,qL,qD]
    exact ⟨_,Co.keep _ (by simp [x_upd,x_look,show k=1000 by omega]),rfl⟩
   ·have hd:=of_decide_eq_false hd
    exact ⟨rfl,_,Co.keep _ (by simp [x_upd,x_look,show k=max 0 c.count by omega]),rfl⟩
  rintro _ rfl
  refine W_reg ?_;simp only [xq,reduceIte,qE,qA,qL,qD,cgRows_len,hcg,Cg.ds,glRows_len,w2,w3,w4,zQ]
  refine ⟨by omega,by omega,?_⟩
  refine W_reg ?_;simp only [xq,reduceIte,qE,qA,qL,qD,w1]
  exact ⟨l.length-(i+1),S (i+1),by omega,Co.keep _ (by simp [x_upd,x_look]),i+1,hlt,rfl,rfl⟩
 ·have hle:i=l.length:=by simp at hc;omega
  subst hle
  simp only [xq,reduceIte,qE,qA,qL,qD]
  refine wR ?_;simp only [xq,reduceIte,qE,qA,qL,qD]
  refine W_ret (.tmp ?_ rfl)
  simp only [x_upd,reduceIte,List.take_length,xq,reduceIte,qE,qA,qL,qD]
theorem mvd_cons {e:Edt} {es:List Edt}:mvd (e::es)=((e.ins.length:Int)-e.del)+mvd es:=by simp [mvd]
theorem okE_at {A B:List Gl}:∀ {es:List Edt} {i j:Nat} {m:Int},okE A B i j es→(j:Int)-i=m→∀ (k:Nat) (hk:k<es.length),∃ j1:Nat,(j1:Int)=es[k].at'+(m+mvd (es.take k))∧j1+es[k].ins.length≤B.length∧es[k].ins=(B.drop j1).take es[k].ins.length
 | [],_,_,_,_,_,k,hk=>by simp at hk
 | e::es,i,j,m,h,hm,k,hk=>by
  rw [okE] at h
  obtain ⟨j1,h1,h2,h3,h4,h5,h6,h7,h8⟩:=h
  rcases k with _ | k
  ·exact ⟨j1,by simp [mvd];omega,h6,h5⟩
  ·obtain ⟨j2,q1,q2,q3⟩:=okE_at (m:=m+((e.ins.length:Int)-e.del)) h8 (by omega) k (by simpa using hk)
   refine ⟨j2,?_,q2,q3⟩
   simp only [List.getElem_cons_succ,List.take_succ_cons,mvd_cons]
   rw [q1];omega
set_option maxHeartbeats 2000000 in
theorem splices17_fn {f ft fe fn fs fr fk:FuncId} (H:FnIs P f N [.t 6] (x_ref17_Splices ft fe fn fs fr fk)) (hN:3≤N) (row:Int) (a b:List Gl) (ha:a.length≤50000) (hb:b.length≤50000)
  (Ht:∀ l:List Gl,l.length≤50000→FnP Γ P ft [.d (.sl eGl (glRows l))] (.d (.sl eGl (glRows (trimGl l)))))
  (He:∀ a b:List Gl,FnP Γ P fe [.d (.sl eGl (glRows a)),.d (.sl eGl (glRows b))] (.bool (decide (a=b))))
  (Hn:FnP Γ P fn [.d (.sl eGl (glRows (trimGl a))),.d (.sl eGl (glRows (trimGl b)))] (numA (trimGl a) (trimGl b)))
  (Hs:∀ g:Gl→Int,Sep g (trimGl a) (trimGl b)→FnP Γ P fs [.d (.sl eInt (nuRows g (trimGl a))),.d (.sl eInt (nuRows g (trimGl b)))] (.d (.sl eEd (ednRows g (scriptE (trimGl a) (trimGl b))))))
  (Hr:FnP Γ P fr [.int row,.d (.sl eGl (glRows a)),.d (.sl eGl (glRows b))] (cgA (wholeG row a b)))
  (Hk:∀ l:List Cg,l.length≤1000000→(∀ c∈l,c.gl.length≤1000000)→FnP Γ P fk [cgsA l] (.int (costG l))):FnP Γ P f [.int row,.d (.sl eGl (glRows a)),.d (.sl eGl (glRows b))] (cgsA (splicesV row a b)):=by
 refine .of_W H (by simpa using hN) ?_
 obtain ⟨A',hA⟩:∃ A',A'=trimGl a:=⟨_,rfl⟩
 obtain ⟨B',hB⟩:∃ B',B'=trimGl b:=⟨_,rfl⟩
 have hAl:A'.length≤50000:=by rw [hA];have:=trim_len a;omega
 have hBl:B'.length≤50000:=by rw [hB];have:=trim_len b;omega
 have hta:=Ht a ha
 have htb:=Ht b hb
 rw [← hA] at Hn Hs hta
 rw [← hB] at Hn Hs htb
 obtain ⟨es,hesd⟩:∃ es,es=scriptE A' B':=⟨_,rfl⟩
 have hes:=eds_ok hAl hBl
 have hok:=script_ok (A:=A') (B:=B') _ A' B' 0 0 none (Nat.le_refl _) rfl rfl (zI _) (zI _) trivial
 have hss:=Hs _ (numG_sep (a:=A') (b:=B'))
 obtain ⟨g,hgd⟩:∃ g,g=numG (A'++B'):=⟨_,rfl⟩
 unfold numA at Hn
 rw [← hgd] at Hn hss
 rw [← hesd] at hes hss
 have hok:okE A' B' 0 0 es:=by rw [hesd];exact hok
 have hmv:∀ i, -40000000000≤mvd (es.take i)∧mvd (es.take i)≤40000000000:=fun i=>by
  have:=mvd_bnd (n:=200000) (es:=es.take i) (fun e he=>hes.del e (List.mem_of_mem_take he)) (fun e he=>hes.ins e (List.mem_of_mem_take he))
  have h1:(es.take i).length≤200000:=by have:=hes.len;rw [zs];omega
  have h2:((es.take i).length:Int) * ((200000:Nat):Int)≤200000 * ((200000:Nat):Int):=Int.mul_le_mul_of_nonneg_right (by omega) (by omega)
  omega
 have hsp:splicesV row a b=if cgsE row 0 es≠[]∧costG [wholeG row a b]<costG (cgsE row 0 es) then [wholeG row a b] else cgsE row 0 es:=by
  unfold splicesV
  rw [← hA,← hB,hesd]
  have:wholeG row A' B'=wholeG row a b:=by unfold wholeG;rw [hA,hB,trimGl_idem,trimGl_idem]
  rw [this]
 unfold x_ref17_Splices
 refine wR ?_;simp only [xq,reduceIte,qE,qA,qL,qD]
 refine wR ?_;simp only [xq,reduceIte,qE,qA,qL,qD]
 refine c_fn (hta) rfl ?_;simp only [xq,reduceIte,qE,qA,qL,qD]
 refine c_fn (htb) rfl ?_;simp only [xq,reduceIte,qE,qA,qL,qD]
 refine W_seq ?_
 refine wR ?_;simp only [xq,reduceIte,qE,qA,qL,qD]
 refine c_fn (He A' B') rfl ?_;simp only [xq,reduceIte,qE,qA,qL,qD]
 refine W_cond rfl (fun hd=>?_) (fun hd=>W_skip ?_)
 ·have hd:=of_decide_eq_true hd
  have:splicesV row a b=[]:=by
   rw [← splices_same row A']
   unfold splicesV
   rw [← hA,← hB,← hd,hA,trimGl_idem]
  rw [this]
  refine wR ?_;simp only [xq,reduceIte,qE,qA,qL,qD]
  refine W_ret (.frz ?_)
  simp only [xq,reduceIte,qE,qA,qL,qD]
  exact frz_all (id:=0) (full:=true) (e:=eCg) (rows:=[]) rfl
 simp only [xq,reduceIte,qE,qA,qL,qD]
 refine wR ?_;simp only [xq,reduceIte,qE,qA,qL,qD]
 refine c_fn (Hn) rfl ?_;simp only [xq,reduceIte,qE,qA,qL,qD]
 refine wR ?_;simp only [xq,reduceIte,qE,qA,qL,qD]
 refine c_fn (hss) rfl ?_;simp only [xq,reduceIte,qE,qA,qL,qD]
 refine wR ?_;simp only [xq,reduceIte,qE,qA,qL,qD]
 refine wR ?_;simp only [xq,reduceIte,qE,qA,qL,qD]
 refine W_seq ?_
 refine wR ?_;simp only [xq,reduceIte,qE,qA,qL,qD]
 refine W_block ?_
 let S:Nat→Heap→Nat→St:=fun q t i=>⟨look [(0,.int row),(1,.d (.sl eGl (glRows a))),(2,.d (.sl eGl (glRows b))),(8,.d (.sl eGl (glRows B'))),(11,.d (.sl eEd (ednRows g es))),(12,.ref q i 0 i true),(13,.int (mvd (es.take i))),(14,.int i)],t⟩
 refine W_co (s':=S 0 [cgLB []] 0) (Co.keep _ (by simp [x_upd,x_look,mvd])) ?_
 refine W_loop (fun m s=>∃ i q t,i≤es.length∧m=es.length-i∧s=S q t i∧t[q]? = some (cgLB (cgsE row 0 (es.take i)))) ⟨0,0,_,zI _,rfl,rfl,rfl⟩ ?_
 rintro m s ⟨i,q,t,hi,rfl,rfl,hq⟩
 simp only [S]
 refine W_seq ?_
 refine wR ?_;simp only [xq,reduceIte,qE,qA,qL,qD,ednRows_len]
 refine W_cond rfl (fun hc=>W_skip ?_) (fun hc=>W_exit ?_)
 ·have hlt:i<es.length:=by simpa using hc
  have hle:=hes.len
  have w1:IntKind.i64.wrap ((i:Int)+1)=((i+1:Nat):Int):=by rw [i64_of (by omega)];omega
  have hql:=(zA.1 hq).1
  obtain ⟨j1,k1,k2,k3⟩:=okE_at (m:=0) hok rfl i hlt
  obtain ⟨e,hed⟩:∃ e,e=es[i]:=⟨_,rfl⟩
  have hme:=zi hlt
  have h2:=hes.at' _ hme
  have h3:=hes.del _ hme
  have h4:=hes.ins _ hme
  have h1:=hes.len
  have hm:=hmv i
  have hm1:=hmv (i+1)
  have hms:=mvd_succ hlt
  have hcl:=cgsE_succ (row:=row) hlt
  have heg:=ednRows_get (g:=g) hlt
  rw [← hed] at k1 k2 k3 h2 h3 h4 hms hcl heg
  have w2:IntKind.i64.wrap ((e.at':Int)+mvd (es.take i))=(j1:Int):=by rw [i64_of (by omega)];omega
  have w3:IntKind.i64.wrap ((j1:Int)+(e.ins.length:Int))=((j1+e.ins.length:Nat):Int):=by rw [i64_of (by omega)];omega
  have w4:IntKind.i64.wrap (mvd (es.take i)+(e.ins.length:Int))=mvd (es.take i)+(e.ins.length:Int):=i64_of (by omega)
  have w5:IntKind.i64.wrap (mvd (es.take i)+(e.ins.length:Int)-(e.del:Int))=mvd (es.take (i+1)):=by rw [hms,i64_of (by omega)];omega
  simp only [xq,reduceIte,qE,qA,qL,qD]
  refine W_seq (W_block ?_)
  refine wR ?_;simp only [xq,reduceIte,qE,qA,qL,qD,ednRows_len,heg,ednDs,zQ,w2]
  refine ⟨by omega,by omega,?_⟩
  have hsl:((glRows B').drop j1).take ((((j1+e.ins.length:Nat):Int)-(j1:Int)).toNat)=glRows e.ins:=by
   rw [show (((j1+e.ins.length:Nat):Int)-(j1:Int)).toNat=e.ins.length by omega]
   conv=>rhs;rw [k3]
   simp only [glRows,List.map_take,List.map_drop]
  refine wR ?_;simp only [xq,reduceIte,qE,qA,qL,qD,ednRows_len,heg,ednDs,zQ,w3,nuRows_len,glRows_len,hp_g0,hp_s0,hsl]
  repeat refine And.intro (by first | omega | (simp only [room];omega) | (simp only [maxLen];omega)) ?_
  have hqg:(t++[rowB e.ins])[q]? = some (cgLB (cgsE row 0 (es.take i))):=hp_gl hq
  obtain ⟨t',ht'⟩:∃ t',t'=onlyB q (t++[rowB e.ins]):=⟨_,rfl⟩
  have hq':t'[q]? = some (cgLB (cgsE row 0 (es.take i))):=by rw [ht'];exact onlyB_get hqg
  refine W_co (s':=⟨look [(0,.int row),(1,.d (.sl eGl (glRows a))),(2,.d (.sl eGl (glRows b))),(8,.d (.sl eGl (glRows B'))),(11,.d (.sl eEd (ednRows g es))),(12,.ref q i 0 i true),(13,.int (mvd (es.take i))),(14,.int i),(15,.int j1),(16,.d (.sl eGl (glRows e.ins)))],t'⟩) ?_ ?_
  ·rw [ht']
   refine Co.gc1 (h:=t++[rowB e.ins]) q hqg (fun r hr x hx=>?_) _ fun p hp=>?_
   ·obtain ⟨r',_,rfl⟩:=List.mem_map.1 hr
    obtain ⟨d,_,rfl⟩:=List.mem_map.1 hx
    rfl
   ·simp only [zp,zc,or_false] at hp
    rcases hp with rfl | rfl | rfl | rfl | rfl | rfl | rfl | rfl | rfl | rfl
    ·left;simp [x_upd,x_look,A.keptIn]
    ·left;simp [x_upd,x_look,A.keptIn]
    ·left;simp [x_upd,x_look,A.keptIn]
    ·left;simp [x_upd,x_look,A.keptIn]
    ·left;simp [x_upd,x_look,A.keptIn]
    ·left;simp [x_upd,x_look,A.keptIn]
    ·left;simp [x_upd,x_look,A.keptIn]
    ·left;simp [x_upd,x_look,A.keptIn]
    ·left;simp [x_upd,x_look,A.keptIn]
    ·right
     simp only [x_upd,x_look]
     refine .d (rowAt_frz (.inr ⟨t.length,rfl,?_⟩))
     rw [List.getElem?_set_ne (by omega)];simp
  have hql':=(zA.1 hq').1
  have gq:∀ t2:Heap,(t'++t2)[q]? = some (cgLB (cgsE row 0 (es.take i))):=fun t2=>hp_gl hq'
  have sq:∀ (t2:Heap) X,(t'++t2).set q X=t'.set q X++t2:=fun t2 X=>zu _ _ hql'
  have htl:(es.take i).length=i:=by rw [zs];omega
  refine wR ?_;simp only [xq,reduceIte,qE,qA,qL,qD,ednRows_len,heg,ednDs,zQ,hp_g0,gq,sq,cgLB_len,cgRows_len,cgsE_len,htl,zS]
  repeat refine And.intro (by first | omega | (simp only [room];omega) | (simp only [maxLen];omega)) ?_
  refine W_drw (by simp) ?_
  simp only [xq,reduceIte,qE,qA,qL,qD,ednRows_len,heg,ednDs,zQ,nuRows_len,w4,w5]
  repeat refine And.intro (by first | omega | (simp only [room];omega) | (simp only [maxLen];omega)) ?_
  refine W_reg ?_;simp only [xq,reduceIte,qE,qA,qL,qD,w1]
  refine ⟨es.length-(i+1),S q (t'.set q (.cells eCg (((cgRows (cgsE row 0 (es.take i))).map fun r=>r.map A.d)++[[.int 3,.int row,.int j1,.int e.del,.int 0,.d (.sl eGl (glRows e.ins))]]))++[.cells eCg [[.int 3,.int row,.int j1,.int e.del,.int 0,.d (.sl eGl (glRows e.ins))]]]) (i+1),by omega,Co.keep _ (by simp [x_upd,x_look]),i+1,q,_,hlt,rfl,rfl,?_⟩
  have hj:(e.at':Int)+mvd (es.take i)=(j1:Int):=by omega
  have:cgLB (cgsE row 0 (es.take (i+1))) = .cells eCg (((cgRows (cgsE row 0 (es.take i))).map fun r=>r.map A.d)++[[.int 3,.int row,.int j1,.int e.del,.int 0,.d (.sl eGl (glRows e.ins))]]):=by
   rw [hcl,hj]
   simp only [cgLB,cgRows_app,List.map_append];rfl
  rw [this];exact hp_gs hql'
 ·have hle:i=es.length:=by simp at hc;omega
  subst hle
  rw [List.take_length] at hq
  obtain ⟨out,hout⟩:∃ out,out=cgsE row 0 es:=⟨_,rfl⟩
  obtain ⟨wg,hwd⟩:∃ wg,wg=wholeG row a b:=⟨_,rfl⟩
  rw [← hout] at hq hsp
  rw [← hwd] at hsp Hr
  have hol:out.length=es.length:=by rw [hout,cgsE_len]
  have hle:=hes.len
  have hog:∀ c∈out,c.gl.length≤1000000:=fun c hc'=>by
   rw [hout] at hc'
   obtain ⟨e,h1,h2⟩:=cgsE_gl hc'
   have:=hes.ins e h1
   rw [h2];omega
  have hwg:wg.gl.length≤1000000:=by
   have h1:=trim_len b
   rw [hwd]
   show (trimGl b).length≤_
   omega
  have hwc:2≤costG [wg]:=by simp only [costG];omega
  have hR:=Hr
  simp only [cgA,Cg.ds,zU,zV] at hR
  simp only [xq,reduceIte,qE,qA,qL,qD]
  refine wR ?_;simp only [xq,reduceIte,qE,qA,qL,qD]
  refine c_fn (hR) rfl ?_;simp only [xq,reduceIte,qE,qA,qL,qD]
  refine W_co (s':=⟨look [(12,cgsA out),(17,cgsA [wg])],[]⟩) (Co.frz (s:=⟨_,t++[cgLB [wg]]⟩) _ 0 ?_ (zI _) (zI _) (by simp)) ?_
  ·intro p hp
   simp only [zp,zc,or_false] at hp
   rcases hp with rfl | rfl
   ·simp only [x_upd,x_look]
    have:=frz_all (id:=q) (full:=true) (e:=eCg) (rows:=cgRows out) (h:=t++[cgLB [wg]]) (hp_gl hq)
    rw [cgRows_len,hol] at this
    exact this
   ·simp only [x_upd,x_look]
    exact frz_all (id:=t.length) (full:=true) (e:=eCg) (rows:=cgRows [wg]) (by rw [hp_g0])
  refine W_seq ?_
  refine wR ?_;simp only [xq,reduceIte,qE,qA,qL,qD]
  refine c_fn (Hk out (by omega) hog) rfl ?_;simp only [xq,reduceIte,qE,qA,qL,qD]
  refine c_fn (Hk [wg] (by simp) (by simpa using hwg)) rfl ?_;simp only [xq,reduceIte,qE,qA,qL,qD]
  refine W_cond rfl (fun hd=>?_) (fun hd=>W_skip ?_)
  ·have hd:=of_decide_eq_true hd
   have hne:out≠[]:=fun h=>by rw [h] at hd;simp only [costG] at hd;omega
   rw [hsp,if_pos ⟨hne,hd⟩]
   refine wR ?_;simp only [xq,reduceIte,qE,qA,qL,qD]
   refine W_ret (.tmp ?_ rfl)
   simp only [x_upd,x_look,reduceIte]
  ·have hd:=of_decide_eq_false hd
   rw [hsp,if_neg (fun h=>hd h.2)]
   simp only [xq,reduceIte,qE,qA,qL,qD]
   refine wR ?_;simp only [xq,reduceIte,qE,qA,qL,qD]
   refine W_ret (.tmp ?_ rfl)
   simp only [x_upd,x_look,reduceIte]
end Go.Proofs.YtigfbnglplbbpaaGreatDoor.Nx
namespace Go.Proofs.YtigfbnglplbbpaaGreatDoor.Nx
open Go
variable {P:Program} {N:Nat} {Γ:Tabs}
set_option maxHeartbeats 2000000 in
theorem rrest20_fn {f fs:FuncId} (H:FnIs P f N [.t 4] (x_ref20_rest fs)) (hN:2≤N) (x b:Vw) (hlen:b.rows.length≤x.rows.length) (hbl:b.rows.length≤1000) (hsx:Sm x 50000) (hsb:Sm b 50000)
  (Hs:∀ (row:Int) (a b:List Gl),a.length≤50000→b.length≤50000→FnP Γ P fs [.int row,.d (.sl eGl (glRows a)),.d (.sl eGl (glRows b))] (cgsA (splicesV row a b))) :
  FnP Γ P f [vwA x,vwA b] (cgsA (restV x b)):=by
 refine .of_W H (by simpa using hN) ?_
 unfold x_ref20_rest
 simp only [vwA,Vw.ds,zU,zV]
 refine wR ?_;simp only [xq,reduceIte,qE,qA,qL,qD]
 refine W_co (frz_boxes (a:=x) (b:=b) (t:=[]) (h:=[]) [] (by simp [x_upd,x_look]) (by simp [x_upd,x_look]) (by simp)) ?_
 refine wR ?_;simp only [xq,reduceIte,qE,qA,qL,qD]
 refine W_seq ?_
 refine wR ?_;simp only [xq,reduceIte,qE,qA,qL,qD]
 refine W_block ?_
 let S:Nat→Heap→Nat→Nat→St:=fun q t n i=>⟨look [(2,.iptr x.ds),(3,.iptr b.ds),(5,.ref q n 0 n true),(6,.int i)],t⟩
 refine W_co (s':=S 0 [cgLB []] 0 0) (Co.keep _ (by simp [x_upd,x_look,Vw.ds])) ?_
 refine W_loop (fun m s=>∃ i q t,i≤b.rows.length∧m=b.rows.length-i∧s=S q t (splicesTo x b i).length i∧(splicesTo x b i).length≤i * 200001∧t[q]? = some (cgLB (splicesTo x b i))) ⟨0,0,_,zI _,rfl,rfl,by simp [splicesTo],rfl⟩ ?_
 rintro m s ⟨i,q,t,hi,rfl,rfl,hn,hq⟩
 simp only [S]
 refine W_seq ?_
 refine wR ?_;simp only [xq,reduceIte,qE,qA,qL,qD,Vw.ds,rwRows_len]
 refine W_cond rfl (fun hc=>W_skip ?_) (fun hc=>W_exit ?_)
 ·have hlt:i<b.rows.length:=by simpa using hc
  have w1:IntKind.i64.wrap ((i:Int)+1)=((i+1:Nat):Int):=by rw [i64_of (by omega)];omega
  have hltx:i<x.rows.length:=by omega
  have gx:x.rows.getD i []=x.rows[i]:=by rw [zC,zB hltx];rfl
  have gb:b.rows.getD i []=b.rows[i]:=by rw [zC,zB hlt];rfl
  have bx:=hsx.row _ (zi hltx)
  have bw:=hsb.row _ (zi hlt)
  have hS:=Hs i x.rows[i] b.rows[i] bx bw
  obtain ⟨nw,hnw⟩:∃ nw,nw=splicesV i x.rows[i] b.rows[i]:=⟨_,rfl⟩
  have hnl:nw.length≤200001:=by rw [hnw];exact splices_len bx bw
  rw [← hnw] at hS
  have hto:splicesTo x b (i+1)=splicesTo x b i++nw:=by rw [splicesTo,gx,gb,← hnw]
  obtain ⟨o,hod⟩:∃ o,o=splicesTo x b i:=⟨_,rfl⟩
  rw [← hod] at hq hn hto
  simp only [← hod]
  have hql:=(zA.1 hq).1
  have gq:∀ t':Heap,(t++t')[q]? = some (cgLB o):=fun t'=>hp_gl hq
  have sq:∀ (t':Heap) X,(t++t').set q X=t.set q X++t':=fun t' X=>zu _ _ hql
  simp only [xq,reduceIte,qE,qA,qL,qD]
  refine W_seq (W_block (W_drw (by simp) ?_))
  simp only [xq,reduceIte,qE,qA,qL,qD,Vw.ds,rwRows_len,rwRows_get hltx,rwRows_get hlt,zQ]
  repeat refine And.intro (by first | omega | (simp only [room];omega) | (simp only [maxLen];omega)) ?_
  refine c_fn (hS) rfl ?_;simp only [xq,reduceIte,qE,qA,qL,qD,cgRows_len,gq,sq,cgLB_len]
  repeat refine And.intro (by first | omega | (simp only [room];omega) | (simp only [maxLen];omega)) ?_
  refine W_reg ?_;simp only [xq,reduceIte,qE,qA,qL,qD,w1]
  refine ⟨b.rows.length-(i+1),S q (t.set q (cgLB (o++nw))++[.res]) (o++nw).length (i+1),by omega,?_,i+1,q,t.set q (cgLB (o++nw))++[.res],hlt,rfl,by rw [hto];rfl,by rw [hto,zb];omega,by rw [hto];exact hp_gs hql⟩
  have:cgLB (o++nw) = .cells eCg (((cgRows o).map fun r=>r.map A.d)++(cgRows nw).map fun r=>r.map A.d):=by simp only [cgLB,cgRows_app,List.map_append]
  rw [this,zb]
  exact Co.keep _ (by simp [x_upd,x_look,Vw.ds])
 ·have hle:i=b.rows.length:=by simp at hc;omega
  subst hle
  obtain ⟨o,hod⟩:∃ o,o=splicesTo x b b.rows.length:=⟨_,rfl⟩
  have hrv:restV x b=o++cursorV x b:=by rw [restV,hod]
  rw [← hod] at hq hn
  simp only [← hod]
  have hql:=(zA.1 hq).1
  simp only [xq,reduceIte,qE,qA,qL,qD]
  have fin:∀ (sl:Nat→A) (t':Heap) (l:List Cg),sl 5 = .ref q l.length 0 l.length true→t'[q]? = some (cgLB l)→l=restV x b→W Γ.ctx P N none 0 (.seq (.reg [
   { dst:=some 61,op:=.mov (.t 5) },
   { dst:=some 4,op:=.mov (.t 61) }]) .ret) (RetQ [.t 4] (cgsA (restV x b))) ⟨sl,t'⟩:=fun sl t' l h5 hq' hl=>by
   refine wR ?_;simp only [xq,reduceIte,qE,qA,qL,qD,h5]
   refine W_ret (.frz ?_)
   simp only [xq,reduceIte,qE,qA,qL,qD]
   rw [← hl]
   have:=frz_all (id:=q) (full:=true) (e:=eCg) (rows:=cgRows l) hq'
   rw [cgRows_len] at this
   exact this
  refine W_seq ?_
  refine W_cut (fun s'=>∃ c:Bool,(c=true↔¬ (x.row=b.row∧x.col=b.col∧x.vis=b.vis))∧s'=⟨look [(3,.iptr b.ds),(5,.ref q o.length 0 o.length true),(48,.bool c)],t⟩) (W_reg ?_) ?_
  ·cases e1:decide (x.row=b.row)
   ·simp only [xq,reduceIte,qE,qA,qL,qD,Vw.ds,e1,undefA,zE,Bool.not_false,Bool.not_true]
    exact ⟨_,Co.keep _ (by simp [x_upd,x_look]),true,by simp [of_decide_eq_false e1],rfl⟩
   ·cases e2:decide (x.col=b.col)
    ·simp only [xq,reduceIte,qE,qA,qL,qD,Vw.ds,e1,e2,undefA,zE,Bool.not_false,Bool.not_true]
     exact ⟨_,Co.keep _ (by simp [x_upd,x_look]),true,by simp [of_decide_eq_false e2],rfl⟩
    ·simp only [xq,reduceIte,qE,qA,qL,qD,Vw.ds,e1,e2,undefA,zE,Bool.not_false,Bool.not_true]
     exact ⟨_,Co.keep _ (by simp [x_upd,x_look];rfl), !(x.vis == b.vis),by simp [of_decide_eq_true e1,of_decide_eq_true e2],rfl⟩
  rintro _ ⟨c,hcd,rfl⟩
  refine W_cond rfl (fun hd=>?_) (fun hd=>W_skip ?_)
  ·let cc:Bool→Cg:=fun v=>⟨4,b.row,b.col,if v then 1 else 0,0,[]⟩
   have hcv:cursorV x b=[cc b.vis]:=by rw [cursorV,if_neg (hcd.1 hd)]
   refine wR ?_;simp only [xq,reduceIte,qE,qA,qL,qD,Vw.ds,hp_g0,hp_s0]
   refine W_co (Co.viewLast (r2:=(cc false).ds.map .d) [(3,.iptr b.ds),(5,.ref q o.length 0 o.length true),(7,.ptr t.length 1 0 0)] (by simp [x_upd,x_look,Vw.ds]) rfl ?_) ?_
   ·intro j y hj
    rcases j with _ | _ | _ | _ | _ | _ | j
    ·cases hj;exact .inl rfl
    ·cases hj;exact .inl rfl
    ·cases hj;exact .inl rfl
    ·cases hj;exact .inl rfl
    ·cases hj;exact .inl rfl
    ·cases hj;exact .inr ⟨.nil _,_,rfl⟩
    ·simp [cc,Cg.ds] at hj
   refine W_cut (· = ⟨look [(5,.ref q o.length 0 o.length true),(7,.ptr t.length 1 0 0)],t++[cgB (cc b.vis)]⟩) ?_ ?_
   ·refine wR ?_;simp only [xq,reduceIte,qE,qA,qL,qD,Vw.ds]
    refine W_cond rfl (fun hb=>?_) (fun hb=>W_skip ?_)
    ·rw [hb]
     refine W_reg ?_;simp only [xq,reduceIte,qE,qA,qL,qD,hp_g0,hp_s0,cc,Cg.ds]
     exact ⟨_,Co.keep _ (by simp [x_upd,x_look]),rfl⟩
    ·rw [hb]
     exact ⟨rfl,_,Co.keep _ (by simp [x_upd,x_look]),rfl⟩
   rintro _ rfl
   generalize cc b.vis=c at hcv
   have gq:∀ t':Heap,(t++t')[q]? = some (cgLB o):=fun t'=>hp_gl hq
   have sq:∀ (t':Heap) X,(t++t').set q X=t.set q X++t':=fun t' X=>zu _ _ hql
   refine W_reg ?_;simp only [xq,reduceIte,qE,qA,qL,qD,hp_g0,hp_g1,Cg.ds,gq,sq,cgLB_len,cgRows_len,zS,zb,List.length_singleton]
   repeat refine And.intro (by first | omega | (simp only [room];omega) | (simp only [maxLen];omega)) ?_
   refine fin _ _ (o++[c]) (by simp [x_upd,x_look]) ?_ (by rw [hrv,hcv])
   rw [hp_gs hql]
   simp only [cgLB,cgRows_app,List.map_append];rfl
  ·have hcv:cursorV x b=[]:=by
    rw [cursorV,if_pos]
    exact Decidable.byContradiction fun h=>by rw [hcd.2 h] at hd;cases hd
   simp only [xq,reduceIte,qE,qA,qL,qD]
   exact fin _ _ o (by simp [x_look]) hq (by rw [hrv,hcv,zP])
end Go.Proofs.YtigfbnglplbbpaaGreatDoor.Nx
namespace Go.Proofs.YtigfbnglplbbpaaGreatDoor.Nx
open Go
variable {P:Program} {N:Nat} {Γ:Tabs}
set_option maxHeartbeats 2000000 in
theorem rapply1D_fn {f fv ff fs fw:FuncId} (H:FnIs P f N [.c 4 6 true,.t 5,.t 6] (x_ref19_Apply fv ff fs fw)) (hN:2≤N) (Hv:VchkOk Γ P fv) (Hf:FitsOk Γ P ff) (Hs:RStepOk Γ P fs) (Hw:∀ l:List Gl,FnP Γ P fw [.d (.sl eGl (glRows l))] (.int (widthN l)))
  {v w:Vw} {c:Cg} (sv:Sm v 50000) (hk:viewC v=0) (hc:chgC v c=0) (hw:w=stepV v c) (hwd:wideV w=false) (htx:∀ g∈c.gl,g.text.size≤1000) (hpre:StepPre v c) {h:Heap} {q:Nat} (hq:h[q]? = some (cgLB [c])) :
  FnD Γ.ctx P f [vwA v,.ref q 1 0 1 true] h (apA (w,0,0)) (h++[vwB w,vwB w]):=by
 refine .of_W H (by simpa using hN) (zI _) ?_
 obtain ⟨hed,_⟩:=viewC_zero.1 hk
 have hew:Ed w:=by rw [hw];exact hed.step hc
 have hwl:=hew.len
 have hws:=szOk_iff.1 hew.sz
 have hv0:=Hv v sv
 have hC:=Hf v c hed sv htx
 have hS:=Hs v c hpre
 rw [← hw] at hS
 rw [hk] at hv0
 rw [hc] at hC
 have gq:∀ t:Heap,(h++t)[q]? = some (.cells eCg [c.ds.map .d]):=fun t=>hp_gl hq
 simp only [vwA,Vw.ds,cgA,Cg.ds,zU,zV] at hv0 hC hS gq
 unfold x_ref19_Apply
 simp only [vwA,Vw.ds,zU,zV]
 refine wR ?_;simp only [xq,reduceIte,qE,qA,qL,qD,hp_g0,hp_g1,hp_s0,hp_s1,zS]
 refine W_seq ?_
 refine wR ?_;simp only [xq,reduceIte,qE,qA,qL,qD,hp_g0,hp_g1,hp_s0,hp_s1]
 refine c_fn (hv0) rfl ?_;simp only [xq,reduceIte,qE,qA,qL,qD]
 refine W_cond rfl (fun hd=>by cases hd) (fun hd=>W_skip ?_)
 simp only [xq,reduceIte,qE,qA,qL,qD]
 refine W_seq ?_
 refine wR ?_;simp only [xq,reduceIte,qE,qA,qL,qD]
 refine W_block ?_
 let S:Vw→Nat→St:=fun u i=>⟨look [(1,.ref q 1 0 1 true),(2,.ptr h.length 1 0 0),(4,.ptr (h.length+1) 1 0 0),(7,.int i)],h++[vwB u,zeroB]⟩
 refine W_co (s':=S v 0) (Co.keep _ (by simp [x_upd,x_look])) ?_
 refine W_loop (fun m s=>(m=1∧s=S v 0)∨(m=0∧s=S w 1)) (.inl ⟨rfl,rfl⟩) ?_
 rintro m s (⟨rfl,rfl⟩ | ⟨rfl,rfl⟩)
 ·simp only [S]
  refine W_seq (W_seq ?_)
  refine W_reg ?_;simp only [xq,reduceIte,qE,qA,qL,qD,gq,List.length_singleton]
  refine W_cond rfl (fun hd=>W_skip ?_) (fun hd=>by cases hd)
  have w1:IntKind.i64.wrap (((0:Nat):Int)+1)=((1:Nat):Int):=by decide
  simp only [xq,reduceIte,qE,qA,qL,qD]
  refine W_seq (W_block ?_)
  refine W_seq ?_
  refine W_seq (W_drw (by simp) ?_);simp only [xq,reduceIte,qE,qA,qL,qD,Vw.ds,gq,hp_g0,hp_g1,zQ,zr,zP,List.length_singleton,Nat.zero_add,List.getElem?_cons_zero]
  repeat refine And.intro (by first | omega | decide) ?_
  refine c_fn (hC) rfl ?_;simp only [xq,reduceIte,qE,qA,qL,qD]
  refine wR ?_;simp only [xq,reduceIte,qE,qA,qL,qD]
  refine W_cond rfl (fun hd=>by cases hd) (fun hd=>W_skip ?_)
  simp only [xq,reduceIte,qE,qA,qL,qD]
  refine W_drw (by simp) ?_
  simp only [xq,reduceIte,qE,qA,qL,qD,Vw.ds,gq,hp_g0,hp_g1,zQ,zr,zP,List.length_singleton,Nat.zero_add,List.getElem?_cons_zero]
  repeat refine And.intro (by first | omega | decide) ?_
  refine c_fn (hS) rfl ?_;simp only [xq,reduceIte,qE,qA,qL,qD,Vw.ds,hp_g0,hp_s0]
  refine W_reg ?_;simp only [xq,reduceIte,qE,qA,qL,qD,w1]
  exact ⟨0,S w 1,by decide,Co.keep _ (by simp [x_upd,x_look]),.inr ⟨rfl,rfl⟩⟩
 ·simp only [S]
  refine W_seq (W_seq ?_)
  refine W_reg ?_;simp only [xq,reduceIte,qE,qA,qL,qD,gq,List.length_singleton]
  refine W_cond rfl (fun hd=>by cases hd) (fun hd=>W_exit ?_)
  simp only [xq,reduceIte,qE,qA,qL,qD]
  refine W_seq ?_
  refine wR ?_;simp only [xq,reduceIte,qE,qA,qL,qD]
  refine W_block ?_
  let T:Nat→St:=fun j=>⟨look [(1,.ref q 1 0 1 true),(2,.ptr h.length 1 0 0),(4,.ptr (h.length+1) 1 0 0),(9,.int j)],h++[vwB w,zeroB]⟩
  refine W_co (s':=T 0) (Co.keep _ (by simp [x_upd,x_look])) ?_
  refine W_loop (fun m s=>∃ j:Nat,j≤w.rows.length∧m=w.rows.length-j∧s=T j) ⟨0,zI _,rfl,rfl⟩ ?_
  rintro m s ⟨j,hj,rfl,rfl⟩
  simp only [T]
  refine W_seq (W_seq ?_)
  refine W_reg ?_;simp only [xq,reduceIte,qE,qA,qL,qD,Vw.ds,rwRows_len,hp_g0]
  refine W_cond rfl (fun hc=>W_skip ?_) (fun hc=>W_exit ?_)
  ·have hlt:j<w.rows.length:=by simpa using hc
   have w1:IntKind.i64.wrap ((j:Int)+1)=((j+1:Nat):Int):=by rw [i64_of (by omega)];omega
   have hnw:¬ w.width<(widthN w.rows[j]:Int):=by
    have:=List.any_eq_false.1 hwd _ (zi hlt)
    simpa using this
   simp only [xq,reduceIte,qE,qA,qL,qD]
   refine W_seq (W_block ?_)
   refine W_seq (W_drw (by simp) ?_);simp only [xq,reduceIte,qE,qA,qL,qD,Vw.ds,hp_g0,rwRows_len,rwRows_get hlt,zQ,zr,zP]
   repeat refine And.intro (by first | omega | decide) ?_
   refine c_fn (Hw w.rows[j]) rfl ?_;simp only [xq,reduceIte,qE,qA,qL,qD,hp_g0]
   refine W_cond rfl (fun hd=>absurd (of_decide_eq_true hd) hnw) (fun hd=>W_skip ?_)
   simp only [xq,reduceIte,qE,qA,qL,qD]
   refine W_reg ?_;simp only [xq,reduceIte,qE,qA,qL,qD,w1]
   exact ⟨w.rows.length-(j+1),T (j+1),by omega,Co.keep _ (by simp [x_upd,x_look]),j+1,hlt,rfl,rfl⟩
  ·simp only [xq,reduceIte,qE,qA,qL,qD]
   refine wR ?_;simp only [xq,reduceIte,qE,qA,qL,qD,Vw.ds,hp_g0,hp_g1,hp_s1]
   refine W_ret ⟨.inr rfl,?_⟩
   simp only [readRs,readR,single,x_upd,reduceIte,qE,x_look,hp_g1,xq,reduceIte,qE,qA,qL,qD,loadsTo,List.take]
   exact ⟨rfl,rfl⟩
end Go.Proofs.YtigfbnglplbbpaaGreatDoor.Nx
namespace Go.Proofs.YtigfbnglplbbpaaGreatDoor.Nx
open Go
def CandFit (n:Nat) (c:Cand):Prop:=c=cand0∨(0≤c.top∧absI c.by'<c.bot-c.top∧c.bot≤n∧c.by'≠0)
theorem stepC_fit {a b:List (List Gl)} {n:Nat} {y top bot:Int} {best:Cand} (h:CandFit n best) (h1:0≤top) (h2:absI y<bot-top) (h3:bot≤n) (h4:y≠0):CandFit n (stepC a b y top best bot):=by
 unfold stepC
 split
 ·exact .inr ⟨h1,h2,h3,h4⟩
 ·exact h
theorem botC_fit {a b:List (List Gl)} {n:Nat} {y top:Int} (h1:0≤top) (h4:y≠0):∀ (k:Nat) (bot:Int) (best:Cand),CandFit n best→absI y<bot-top→bot+k≤n+1→CandFit n (botC a b y top k bot best)
 | 0,_,_,h,_,_=>h
 | k+1,bot,best,h,h2,h3=>by
  rw [botC]
  exact botC_fit h1 h4 k (bot+1) _ (stepC_fit h h1 h2 (by omega) h4) (by omega) (by omega)
theorem topC_fit {a b:List (List Gl)} {n:Nat} {y:Int}:∀ (k top:Nat) (best:Cand),CandFit n best→CandFit n (topC a b n y k top best)
 | 0,_,_,h=>h
 | k+1,top,best,h=>by
  rw [topC]
  refine topC_fit k (top+1) _ ?_
  split
  ·exact h
  ·rename_i hy
   rcases Int.lt_or_le ((n:Int)+1-(top+absI y+1)) 0 with h1 | h1
   ·rw [show ((n:Int)+1-(top+absI y+1)).toNat=0 by omega,botC];exact h
   ·exact botC_fit (by omega) hy _ _ _ h (by omega) (by omega)
theorem byC_fit {a b:List (List Gl)} {n:Nat}:∀ (k:Nat) (y:Int) (best:Cand),CandFit n best→CandFit n (byC a b n k y best)
 | 0,_,_,h=>h
 | k+1,y,best,h=>by
  rw [byC]
  exact byC_fit k (y+1) _ (topC_fit _ _ _ h)
theorem bestC_fit {a b:List (List Gl)} {n:Nat}:CandFit n (bestC a b n):=byC_fit _ _ _ (.inl rfl)
theorem find_fits {m b:Vw} (hm:viewC m=0) (h:(findV m b).2=true):chgC m (findV m b).1=0:=by
 obtain ⟨e,_⟩:=viewC_zero.1 hm
 have hl:=e.len
 unfold findV at h ⊢
 split at h
 ·rename_i hmt
  split at h
  ·cases h
  ·rename_i hg
   rw [if_pos hmt,if_neg hg]
   have hok:=bestC_fit (a:=m.rows) (b:=b.rows) (n:=m.rows.length)
   generalize bestC m.rows b.rows m.rows.length=c at *
   rcases hok with rfl | ⟨h1,h2,h3,h4⟩
   ·exact absurd (by decide) hg
   ·unfold absI at h2
    unfold chgC
    rw [if_pos (btw_iff.2 (by simp)),if_pos (by simp [blankG]),if_pos]
    ·rfl
    ·simp only [rangeG,if_neg (show ¬ (2:Int)=1 by decide),if_true,Bool.and_eq_true,decide_eq_true_eq,Bool.not_eq_true',decide_eq_false_iff_not]
     omega
 ·cases h
end Go.Proofs.YtigfbnglplbbpaaGreatDoor.Nx
namespace Go.Proofs.YtigfbnglplbbpaaGreatDoor.Nx
open Go
variable {P:Program} {N:Nat} {Γ:Tabs}
abbrev Ap1Ok (Γ:Tabs) (P:Program) (f:FuncId):Prop:=∀ (v w:Vw) (c:Cg),Sm v 50000→viewC v=0→chgC v c=0→w=stepV v c→wideV w=false→CgOk c→∀ (h:Heap) (q:Nat),h[q]? = some (cgLB [c])→FnD Γ.ctx P f [vwA v,.ref q 1 0 1 true] h (apA (w,0,0)) (h++[vwB w,vwB w])
abbrev RFindOk (Γ:Tabs) (P:Program) (f:FuncId):Prop:=∀ m b:Vw,m.rows.length≤1000→b.rows.length≤1000→Sm m 50000→FnP Γ P f [vwA m,vwA b] (fndA (findV m b))
abbrev RRestOk (Γ:Tabs) (P:Program) (f:FuncId):Prop:=∀ x b:Vw,x.rows.length=b.rows.length→b.rows.length≤1000→Sm x 50000→Sm b 50000→FnP Γ P f [vwA x,vwA b] (cgsA (restV x b))
set_option maxHeartbeats 4000000 in
theorem rdiff20_fn {f fv fp fr ff fk:FuncId} (H:FnIs P f N [.t 4] (x_ref20_Diff fv fp fr ff fk)) (hN:2≤N) (Hv:VchkOk Γ P fv) (Hp:Ap1Ok Γ P fp) (Hr:RRestOk Γ P fr) (Hf:RFindOk Γ P ff) (Hk:CostOk Γ P fk):DiffOk Γ P f:=by
 intro a b sa sb
 refine .of_W H (by simpa using hN) ?_
 have hva:=Hv a (sa.mono (by omega))
 have hvb:=Hv b (sb.mono (by omega))
 simp only [vwA,Vw.ds,zU,zV] at hva hvb
 unfold x_ref20_Diff
 simp only [vwA,Vw.ds,zU,zV]
 refine wR ?_;simp only [xq,reduceIte,qE,qA,qL,qD]
 refine W_co (frz_boxes (a:=a) (b:=b) (t:=[]) (h:=[]) [] (by simp [x_upd,x_look]) (by simp [x_upd,x_look]) (by simp)) ?_
 refine W_seq (W_cut (fun s'=>∃ c:Bool,(c=true↔¬ (viewC a=0∧viewC b=0))∧s'=⟨look [(2,.iptr a.ds),(3,.iptr b.ds),(21,.bool c)],[]⟩) (W_reg ?_) ?_)
 ·cases e1:decide (viewC a=0)
  ·simp only [xq,reduceIte,qE,qA,qL,qD,Vw.ds]
   refine c_fn (hva) rfl ?_;simp only [xq,reduceIte,qE,qA,qL,qD,e1,undefA,zE,Bool.not_false,Bool.not_true]
   exact ⟨_,Co.keep _ (by simp [x_upd,x_look,Vw.ds]),true,by simp [of_decide_eq_false e1],rfl⟩
  ·simp only [xq,reduceIte,qE,qA,qL,qD,Vw.ds]
   refine c_fn (hva) rfl ?_;simp only [xq,reduceIte,qE,qA,qL,qD,e1,undefA,zE,Bool.not_false,Bool.not_true]
   refine c_fn (hvb) rfl ?_;simp only [xq,reduceIte,qE,qA,qL,qD,undefA,zE]
   exact ⟨_,Co.keep _ (by simp [x_upd,x_look,Vw.ds]), !decide (viewC b=0),by simp [of_decide_eq_true e1],rfl⟩
 rintro _ ⟨c0,hc0,rfl⟩
 refine W_cond rfl (fun hd=>?_) (fun hd=>W_skip ?_)
 ·have hd:=hc0.1 hd
  refine wR ?_;simp only [xq,reduceIte,qE,qA,qL,qD]
  refine W_ret ?_
  simp only [xq,reduceIte,qE,qA,qL,qD]
  rw [diffV,if_neg hd]
  exact .frz (.d (.nil _))
 obtain ⟨ha,hb⟩:viewC a=0∧viewC b=0:=Decidable.byContradiction fun h=>by rw [hc0.2 h] at hd;cases hd
 have hdv:diffV a b=pre20 a b++way20 (m20 a b) b:=by rw [diffV,if_pos ⟨ha,hb⟩]
 rw [hdv]
 obtain ⟨hm,hmw,hmh⟩:=m20_ok ha hb
 obtain ⟨ea,_⟩:=viewC_zero.1 ha
 obtain ⟨eb,_⟩:=viewC_zero.1 hb
 obtain ⟨em,_⟩:=viewC_zero.1 hm
 have sza:=szOk_iff.1 ea.sz
 have szb:=szOk_iff.1 eb.sz
 have lb:=eb.len
 have lm:=em.len
 have sm:Sm (m20 a b) 140:=m20_sm sa
 have hpre:pre20 a b=if a.width=b.width∧a.height=b.height then [] else [sizeCg b]:=rfl
 have hm20:m20 a b=if a.width=b.width∧a.height=b.height then a else sizeV a b.height b.width:=rfl
 simp only [xq,reduceIte,qE,qA,qL,qD]
 refine wR ?_;simp only [xq,reduceIte,qE,qA,qL,qD]
 refine wR ?_;simp only [xq,reduceIte,qE,qA,qL,qD,Vw.ds]
 refine W_cut (· = ⟨look [(3,.iptr b.ds),(5,.ref 0 (pre20 a b).length 0 (pre20 a b).length true),(6,.iptr (m20 a b).ds)],[cgLB (pre20 a b)]⟩) ?_ ?_
 ·refine W_cut (· = ⟨look [(2,.iptr a.ds),(3,.iptr b.ds),(5,.ref 0 0 0 0 true),(6,.ptr 1 1 0 0),(35,.bool (!(decide (a.width=b.width)&&decide (a.height=b.height))))],[cgLB [],vwB a]⟩) (W_reg ?_) ?_
  ·cases e1:decide (a.width=b.width)
   ·simp only [xq,reduceIte,qE,qA,qL,qD,Vw.ds,e1,undefA,zE,Bool.not_false,Bool.not_true]
    exact ⟨_,Co.keep _ (by simp [x_upd,x_look,Vw.ds]),rfl⟩
   ·simp only [xq,reduceIte,qE,qA,qL,qD,Vw.ds,e1,undefA,zE,Bool.not_false,Bool.not_true]
    exact ⟨_,Co.keep _ (by simp [x_upd,x_look,Vw.ds]),rfl⟩
  rintro _ rfl
  have ends:∀ (sl:Nat→A) (p:List Cg) (w:Vw) (t:Heap),sl 3 = .iptr b.ds→sl 5 = .ref 0 p.length 0 p.length true→sl 6 = .ptr 1 1 0 0→p=pre20 a b→w=m20 a b→∃ s1,Co 0 ⟨sl,cgLB p::vwB w::t⟩ s1∧s1=⟨look [(3,.iptr b.ds),(5,.ref 0 (pre20 a b).length 0 (pre20 a b).length true),(6,.iptr (m20 a b).ds)],[cgLB (pre20 a b)]⟩:=by
   intro sl p w t h3 h5 h6 hp hw
   refine ⟨_,Co.frz (s:=⟨sl,cgLB p::vwB w::t⟩) [(3,.iptr b.ds),(5,.ref 0 (pre20 a b).length 0 (pre20 a b).length true),(6,.iptr (m20 a b).ds)] 1 ?_ (zI _) (by simp) ?_,by rw [← hp];rfl⟩
   ·intro x hx
    simp only [zp,zc,or_false] at hx
    rcases hx with rfl | rfl | rfl
    ·simp only [h3];exact .same rfl
    ·simp only [h5,← hp];exact .same (by simp [A.under])
    ·simp only [h6,← hw];exact frz_box (Nat.le_refl _) (e:=eVw) rfl
   ·intro B hB
    simp only [List.take_succ_cons,List.take_zero,List.mem_singleton] at hB
    subst hB
    exact under_cgLB
  refine W_cond rfl (fun hd=>?_) (fun hd=>W_skip ?_)
  ·have hd:¬ (a.width=b.width∧a.height=b.height):=by simp at hd;omega
   rw [if_neg hd] at hpre hm20
   refine wR ?_;simp only [xq,reduceIte,qE,qA,qL,qD,Vw.ds]
   repeat refine And.intro (by first | decide | omega | (simp only [room];omega) | (simp only [maxLen];omega)) ?_
   refine W_co (s':=⟨look [(2,.iptr a.ds),(3,.iptr b.ds),(5,.ref 0 1 0 1 true),(6,.ptr 1 1 0 0)],[cgLB [sizeCg b],vwB a]⟩) (Co.frzH (s:=⟨_,[.cells eCg [[.int 1,.int b.height,.int b.width,.int 0,.int 0,.nil]],vwB a,.cells eCg [[.int 1,.int b.height,.int b.width,.int 0,.int 0,.nil]]]⟩) _ 2 _ ?_ (zI _) (by simp) rfl ?_) ?_
   ·intro x hx
    simp only [zp,zc,or_false] at hx
    rcases hx with rfl | rfl | rfl | rfl
    ·exact ⟨.same rfl,rfl⟩
    ·exact ⟨.same rfl,rfl⟩
    ·exact ⟨.same rfl,rfl⟩
    ·exact ⟨.same rfl,rfl⟩
   ·intro id hid
    rcases id with _ | _ | id
    ·refine ⟨eCg,_,[(sizeCg b).ds.map .d],rfl,rfl,rfl,fun i r r2 h1 h2=>?_⟩
     rcases i with _ | i
     ·simp only [List.getElem?_cons_zero,zH] at h1 h2
      subst h1 h2
      refine ⟨rfl,fun j y hj=>?_⟩
      rcases j with _ | _ | _ | _ | _ | _ | j
      ·cases hj;exact ⟨.same rfl,rfl⟩
      ·cases hj;exact ⟨.same rfl,rfl⟩
      ·cases hj;exact ⟨.same rfl,rfl⟩
      ·cases hj;exact ⟨.same rfl,rfl⟩
      ·cases hj;exact ⟨.same rfl,rfl⟩
      ·cases hj;exact ⟨.d (.nil _),rfl⟩
      ·simp [sizeCg,Cg.ds] at hj
     ·simp at h1
    ·refine ⟨eVw,_,[a.ds.map .d],rfl,rfl,rfl,fun i r r2 h1 h2=>?_⟩
     rcases i with _ | i
     ·simp only [List.getElem?_cons_zero,zH] at h1 h2
      subst h1 h2
      refine ⟨rfl,fun j y hj=>?_⟩
      rcases j with _ | _ | _ | _ | _ | _ | j
      ·cases hj;exact ⟨.same rfl,rfl⟩
      ·cases hj;exact ⟨.same rfl,rfl⟩
      ·cases hj;exact ⟨.same rfl,rfl⟩
      ·cases hj;exact ⟨.same rfl,rfl⟩
      ·cases hj;exact ⟨.same rfl,rfl⟩
      ·cases hj;exact ⟨.same rfl,rfl⟩
      ·simp [Vw.ds] at hj
     ·simp at h1
    ·omega
   have hA:=Hp a (sizeV a b.height b.width) (sizeCg b) (sa.mono (by omega)) ha (sizeCg_ok hb) sizeCg_step.symm (by rw [← sizeCg_step];exact wide_step ha (sizeCg_ok hb) (by simp [sizeCg])) ⟨by simp [sizeCg],by simp [sizeCg]⟩ [cgLB [sizeCg b],vwB a] 0 rfl
   rw [← hm20] at hA
   obtain ⟨m,hmx⟩:∃ m,m=m20 a b:=⟨_,rfl⟩
   rw [← hmx] at hA
   simp only [apA,vwA,Vw.ds,zU,zV] at hA
   refine W_reg ?_;simp only [xq,reduceIte,qE,qA,qL,qD,Vw.ds]
   refine ce_fn hA ?_
   simp only [xq,reduceIte,qE,qA,qL,qD,Vw.ds,List.cons_append,List.nil_append]
   exact ends _ [sizeCg b] m _ rfl rfl rfl hpre.symm hmx
  ·have hd:a.width=b.width∧a.height=b.height:=by simpa using hd
   rw [if_pos hd] at hpre hm20
   refine ⟨rfl,?_⟩
   exact ends _ [] a [] rfl rfl rfl hpre.symm hm20.symm
 rintro _ rfl
 clear hva hvb hm20 hdv hpre
 have hmr:(m20 a b).rows.length=b.rows.length:=by omega
 have hb60:b.rows.length≤60:=by omega
 obtain ⟨p0,hp0⟩:∃ p0,p0=pre20 a b:=⟨_,rfl⟩
 have hpl:p0.length≤1:=by rw [hp0];unfold pre20;split<;>simp
 rw [← hp0]
 generalize m20 a b=m at *
 have smb:=sm.mono (show 140≤50000 by omega)
 have sbb:=sb.mono (show 140≤50000 by omega)
 have hway:way20 m b=if (findV m b).2=true∧(applyV m [(findV m b).1]).2.2=0∧cost20 (oth20 m b)<cost20 (restV m b) then oth20 m b else restV m b:=rfl
 have hoth:oth20 m b=(findV m b).1::restV (applyV m [(findV m b).1]).1 b:=rfl
 have hform:=findV_form (a:=m) (b:=b)
 have hfit:=find_fits (b:=b) hm
 obtain ⟨c,ok,hfd⟩:∃ c ok,findV m b=(c,ok):=⟨_,_,rfl⟩
 have hR:=Hr m b hmr (by omega) smb sbb
 have hF:=Hf m b (by omega) (by omega) smb
 have fw:=rest_few sm sb hb60
 rw [hfd] at hway hoth hform hfit hF
 simp only at hway hoth hform hfit
 simp only [fndA,vwA,cgA,Vw.ds,Cg.ds,zU,zV] at hR hF
 obtain ⟨w,hw⟩:∃ w,w=restV m b:=⟨_,rfl⟩
 rw [← hw] at hR hway fw
 have hwl:=fw.len
 have frzO:∀ (t:Heap) (l:List Cg),t[0]? = some (.cells eCg (((cgRows p0).map fun r=>r.map A.d)++((cgRows l).map fun r=>r.map A.d)))→FrzA 0 t (.ref 0 (p0.length+l.length) 0 (p0.length+l.length) true) (cgsA (p0++l)):=fun t l ht=>by
  have:=frz_cgs (l:=p0++l) (zI 0) (h:=t) (by rw [ht];simp only [cgLB,cgRows_app,List.map_append])
  rw [zb] at this
  exact this
 have last:∀ (sl:Nat→A) (t:Heap) (w2:List Cg),w2.length≤20000001→t[0]? = some (cgLB p0)→sl 5 = .ref 0 p0.length 0 p0.length true→sl 7=cgsA w2→w2=way20 m b→W Γ.ctx P N none 0 (.seq (.reg [
  { dst:=some 83,op:=.mov (.t 5) },
  { dst:=some 84,op:=.mov (.t 7) },
  { dst:=some 85,op:=.append ⟨6,64⟩ (.t 83) (.t 84) },
  { dst:=some 4,op:=.mov (.t 85) }]) .ret) (RetQ [.t 4] (cgsA (p0++way20 m b))) ⟨sl,t⟩:=fun sl t w2 h2 ht h5 h7 hw2=>by
  have htl:=(zA.1 ht).1
  rw [← hw2]
  refine wR ?_;simp only [xq,reduceIte,qE,qA,qL,qD,h5,h7,ht,cgLB_len,cgRows_len]
  repeat refine And.intro (by first | omega | (simp only [room];omega) | (simp only [maxLen];omega)) ?_
  refine W_ret (.frz ?_)
  simp only [xq,reduceIte,qE,qA,qL,qD]
  exact frzO _ _ (List.getElem?_set_self htl)
 refine wR ?_;simp only [xq,reduceIte,qE,qA,qL,qD,Vw.ds]
 refine c_fn (hR) rfl ?_;simp only [xq,reduceIte,qE,qA,qL,qD]
 refine wR ?_;simp only [xq,reduceIte,qE,qA,qL,qD,Vw.ds]
 refine c_fn (hF) rfl ?_;simp only [xq,reduceIte,qE,qA,qL,qD,hp_g0]
 refine W_seq ?_
 refine wR ?_;simp only [xq,reduceIte,qE,qA,qL,qD]
 cases ok with
 | false =>
  refine W_cond rfl (fun hd=>by cases hd) (fun hd=>W_skip ?_)
  rw [if_neg (by simp)] at hway
  simp only [xq,reduceIte,qE,qA,qL,qD]
  exact last _ _ w (by omega) rfl (by simp [x_upd,x_look]) (by simp [x_upd,x_look]) hway.symm
 | true =>
  refine W_cond rfl (fun hd=>?_) (fun hd=>by cases hd)
  obtain ⟨hk,_,hgl⟩:=hform rfl
  have hc:=hfit rfl
  have hok:CgOk c:=⟨by rw [hgl];simp,by rw [hgl];simp⟩
  obtain ⟨n,hn⟩:∃ n,n=stepV m c:=⟨_,rfl⟩
  have hnw:wideV n=false:=by rw [hn];exact wide_step hm hc (by omega)
  have hap:applyV m [c]=(n,0,0):=by rw [apply_one hm hc,← hn,hnw];rfl
  rw [hap] at hway hoth
  simp only at hway hoth
  have hA:=Hp m n c smb hm hc hn hnw hok [cgLB p0,cgB c,cgLB [c]] 2 rfl
  simp only [apA,vwA,Vw.ds,zU,zV] at hA
  have sn:Sm n 140:=by rw [hn];exact scroll_sm hk sm
  have hnr:n.rows.length=b.rows.length:=by rw [hn,scroll_rows hk];exact hmr
  have hR2:=Hr n b hnr (by omega) (sn.mono (by omega)) sbb
  simp only [vwA,Vw.ds,zU,zV] at hR2
  have fr:=rest_few sn sb hb60
  obtain ⟨r,hr⟩:∃ r,r=restV n b:=⟨_,rfl⟩
  rw [← hr] at hR2 fr hoth
  have hrl:=fr.len
  have fo:Few (c::r):=by
   have e1:=rest_len (sn.mono (show 140≤50000 by omega)) sbb
   rw [← hr] at e1
   refine ⟨by rw [za];omega,fun d hd=>?_⟩
   rcases zp.1 hd with rfl | hd
   ·have:=hok.len;omega
   ·exact fr.gl d hd
  rw [hoth] at hway
  have hKo:=Hk (c::r) fo
  have hKw:=Hk w fw
  refine W_co (s':=⟨look [(3,.iptr b.ds),(5,.ref 0 p0.length 0 p0.length true),(6,.iptr m.ds),(7,cgsA w),(8,.ptr 1 1 0 0)],[cgLB p0,cgB c]⟩) (Co.keep _ (by simp [x_upd,x_look,Vw.ds])) ?_
  refine wR ?_;simp only [xq,reduceIte,qE,qA,qL,qD,Vw.ds,Cg.ds]
  refine ce_fn hA ?_
  simp only [xq,reduceIte,qE,qA,qL,qD,List.cons_append,List.nil_append]
  refine W_co (s':=⟨look [(3,.iptr b.ds),(5,.ref 0 p0.length 0 p0.length true),(7,cgsA w),(8,.iptr c.ds),(10,.iptr n.ds)],[cgLB p0]⟩) (Co.frz (s:=⟨_,[cgLB p0,cgB c,cgLB [c],vwB n,vwB n,vwB n]⟩) _ 1 ?_ (zI _) (by simp) ?_) ?_
  ·intro x hx
   simp only [zp,zc,or_false] at hx
   rcases hx with rfl | rfl | rfl | rfl | rfl
   ·exact .same rfl
   ·exact .same rfl
   ·exact .same rfl
   ·simp only [x_upd,x_look];exact frz_box (by decide) (e:=eCg) rfl
   ·simp only [x_upd,x_look];exact frz_box (by decide) (e:=eVw) rfl
  ·intro B hB
   simp only [List.take_succ_cons,List.take_zero,List.mem_singleton] at hB
   subst hB
   exact under_cgLB
  refine W_seq (W_drw (by simp) ?_)
  simp only [xq,reduceIte,qE,qA,qL,qD,Vw.ds,Cg.ds,cgRows_len]
  refine c_fn (hR2) rfl ?_;simp only [xq,reduceIte,qE,qA,qL,qD,Vw.ds,Cg.ds,cgRows_len]
  rw [show 1+r.length=(c::r).length by rw [za];omega]
  refine ⟨by rw [za];simp only [room];omega,by rw [za];simp only [maxLen];omega,?_⟩
  refine W_co (s':=⟨look [(5,.ref 0 p0.length 0 p0.length true),(7,cgsA w),(13,cgsA (c::r))],[cgLB p0]⟩) (Co.frz (s:=⟨_,[cgLB p0,cgLB (c::r),.res]⟩) _ 1 ?_ (zI _) (by simp) ?_) ?_
  ·intro x hx
   simp only [zp,zc,or_false] at hx
   rcases hx with rfl | rfl | rfl
   ·exact .same rfl
   ·exact .same rfl
   ·exact frz_cgs (l:=c::r) (by decide) rfl
  ·intro B hB
   simp only [List.take_succ_cons,List.take_zero,List.mem_singleton] at hB
   subst hB
   exact under_cgLB
  refine wR ?_;simp only [xq,reduceIte,qE,qA,qL,qD]
  refine c_fn (hKo) rfl ?_;simp only [xq,reduceIte,qE,qA,qL,qD]
  refine c_fn (hKw) rfl ?_;simp only [xq,reduceIte,qE,qA,qL,qD]
  refine W_cond rfl (fun hd2=>?_) (fun hd2=>W_skip ?_)
  ·have hd2:=of_decide_eq_true hd2
   rw [if_pos (by simp [hd2])] at hway
   rw [hway]
   refine wR ?_;simp only [xq,reduceIte,qE,qA,qL,qD,cgLB_len,cgRows_len]
   repeat refine And.intro (by first | omega | (simp only [room];omega) | (simp only [maxLen];omega)) ?_
   refine W_ret (.frz ?_)
   simp only [xq,reduceIte,qE,qA,qL,qD]
   exact frzO _ (c::r) rfl
  ·have hd2:=of_decide_eq_false hd2
   rw [if_neg (by rintro ⟨_,_,h3⟩;exact hd2 h3)] at hway
   simp only [xq,reduceIte,qE,qA,qL,qD]
   exact last _ _ w (by omega) rfl (by simp [x_upd,x_look]) (by simp [x_upd,x_look]) hway.symm
end Go.Proofs.YtigfbnglplbbpaaGreatDoor.Nx
namespace Go.Proofs.YtigfbnglplbbpaaGreatDoor.Nx
open Go
variable {P:Program} {N:Nat} {Γ:Tabs}
set_option maxHeartbeats 1000000 in
theorem diffLaw20_fn {f fg fa fd fr fs:FuncId} (H:FnIs P f N [.t 4] (x_law20_ViewdiffDiff fg fa fd fr fs)) (hN:2≤N) (Hg:∀ v:Vw,FnP Γ P fg [vwA v] (.bool (greatV v))) (Ha:FnP Γ P fa [] (.bool true)) (Hd:DiffOk Γ P fd) (Hr:DiffOk Γ P fr)
  (Hs:∀ a b:List Cg,FnP Γ P fs [cgsA a,cgsA b] (.bool (decide (a=b)))) (a b:Vw) (hga:greatV a=false→Sm a 140) (hgb:greatV b=false→Sm b 140):FnP Γ P f [vwA a,vwA b] (.bool true):=by
 refine .of_W H (by simpa using hN) ?_
 have ga:=Hg a
 have gb:=Hg b
 unfold x_law20_ViewdiffDiff
 simp only [vwA,Vw.ds,zU,zV] at ga gb ⊢
 refine wR ?_;simp only [xq,reduceIte,qE,qA,qL,qD]
 refine W_co (frz_boxes (a:=a) (b:=b) (t:=[]) (h:=[]) [] (by simp [x_upd,x_look]) (by simp [x_upd,x_look]) (by simp)) ?_
 refine W_seq (W_cut (· = ⟨look [(2,.iptr a.ds),(3,.iptr b.ds),(10,.bool (greatV a||greatV b))],[]⟩) (W_reg ?_) ?_)
 ·cases e1:greatV a
  ·rw [e1] at ga
   simp only [xq,reduceIte,qE,qA,qL,qD,Vw.ds]
   refine c_fn (ga) rfl ?_;simp only [xq,reduceIte,qE,qA,qL,qD,undefA,zE]
   refine c_fn (gb) rfl ?_;simp only [xq,reduceIte,qE,qA,qL,qD,undefA,zE]
   exact ⟨_,Co.keep _ (by simp [x_upd,x_look,Vw.ds]),rfl⟩
  ·rw [e1] at ga
   simp only [xq,reduceIte,qE,qA,qL,qD,Vw.ds]
   refine c_fn (ga) rfl ?_;simp only [xq,reduceIte,qE,qA,qL,qD,undefA,zE]
   exact ⟨_,Co.keep _ (by simp [x_upd,x_look,Vw.ds]),rfl⟩
 rintro _ rfl
 refine W_cond rfl (fun hc=>?_) (fun hc=>W_skip ?_)
 ·refine wR ?_;simp only [xq,reduceIte,qE,qA,qL,qD]
  refine c_fn (Ha) rfl ?_;simp only [xq,reduceIte,qE,qA,qL,qD]
  refine W_ret (.tmp ?_ rfl)
  simp only [x_upd,reduceIte]
 obtain ⟨h1,h2⟩:greatV a=false∧greatV b=false:=by simpa using hc
 have hd:=Hd a b (hga h1) (hgb h2)
 have hr:=Hr a b (hga h1) (hgb h2)
 have hE:=Hs (diffV a b) (diffV a b)
 rw [decide_eq_true rfl] at hE
 simp only [vwA,Vw.ds,zU,zV] at hd hr
 simp only [xq,reduceIte,qE,qA,qL,qD]
 refine W_seq (W_drw (by simp) ?_);simp only [xq,reduceIte,qE,qA,qL,qD,Vw.ds,zr,zP]
 refine c_fn (hd) rfl ?_;simp only [xq,reduceIte,qE,qA,qL,qD,Vw.ds]
 refine c_fn (hr) rfl ?_;simp only [xq,reduceIte,qE,qA,qL,qD,Vw.ds]
 refine c_fn (hE) rfl ?_;simp only [xq,reduceIte,qE,qA,qL,qD]
 refine c_fn (Ha) rfl ?_;simp only [xq,reduceIte,qE,qA,qL,qD]
 refine W_ret (.tmp ?_ rfl)
 simp only [x_upd,reduceIte]
end Go.Proofs.YtigfbnglplbbpaaGreatDoor.Nx
namespace Go.Proofs.YtigfbnglplbbpaaGreatDoor.Nx
open Go
variable {P:Program} {N:Nat} {Γ:Tabs}
theorem replace17_fn {f ft:FuncId} (H:FnIs P f N [.c 6 6 true] (x_ref17_Replace ft)) (hN:3≤N) (row:Int) (a b:List Gl) (hta:FnP Γ P ft [.d (.sl eGl (glRows a))] (.d (.sl eGl (glRows (trimGl a))))) (htb:FnP Γ P ft [.d (.sl eGl (glRows b))] (.d (.sl eGl (glRows (trimGl b))))) :
  FnP Γ P f [.int row,.d (.sl eGl (glRows a)),.d (.sl eGl (glRows b))] (cgA (wholeG row a b)):=by
 refine .of_W H (by simpa using hN) ?_
 unfold x_ref17_Replace
 refine wR ?_;simp only [xq,reduceIte,qE,qA,qL,qD]
 refine wR ?_;simp only [xq,reduceIte,qE,qA,qL,qD]
 refine c_fn (hta) rfl ?_;simp only [xq,reduceIte,qE,qA,qL,qD,glRows_len]
 refine c_fn (htb) rfl ?_;simp only [xq,reduceIte,qE,qA,qL,qD]
 refine W_ret ⟨.inr rfl,?_⟩
 simp only [readRs,readR,single,xq,reduceIte,qE,qA,qL,qD,loadsTo]
 exact .same rfl
theorem blank17_fn {f:FuncId} (H:FnIs P f N [.t 2] x_ref17_blank) (hN:1≤N) (g:Gl):FnP Γ P f [glA g] (.bool (decide (g=spaceGl))):=by
 refine .of_W H (by simpa using hN) ?_
 have hs:(decide (g=spaceGl))=((decide (g.text=⟨#[32]⟩) && !g.wide)&&decide (g.style=0)):=by
  obtain ⟨a,b,c⟩:=g
  simp only [spaceGl,Gl.mk.injEq,Bool.decide_and]
  cases b<;>simp [Bool.and_assoc]
 unfold x_ref17_blank
 refine wR ?_;simp only [xq,reduceIte,qE,qA,qL,qD,glA,Gl.row]
 rw [hs]
 refine W_sreg fun K hK=>?_
 have fin:∀ (sl:Nat→A) (h:Heap),sl 2 = .bool ((decide (g.text=⟨#[32]⟩) && !g.wide)&&decide (g.style=0))→K ⟨sl,h⟩:=fun sl h h2=>hK _ (W_ret (.tmp h2 rfl))
 clear hK
 cases e1:decide (g.text=⟨#[32]⟩)
 ·rw [e1] at fin
  simp only [xq,reduceIte,qE,qA,qL,qD,e1,undefA,zE]
  exact fin _ _ rfl
 ·cases e2:g.wide
  ·rw [e1,e2] at fin
   simp only [xq,reduceIte,qE,qA,qL,qD,e1,e2,undefA,zE]
   exact fin _ _ rfl
  ·rw [e1,e2] at fin
   simp only [xq,reduceIte,qE,qA,qL,qD,e1,e2,undefA,zE]
   exact fin _ _ rfl
theorem spl17_ok {f ft fb fe fn fs fw fl fr fk:FuncId} {N1 N2 N3 N4 N5 N6 N7 N8 N9:Nat} (H:FnIs P f N [.t 6] (x_ref17_Splices ft fe fn fs fr fk)) (hN:3≤N) (Ht:FnIs P ft N1 [.t 2] (x_ref17_Trim fb)) (h1:1≤N1) (Hb:FnIs P fb N2 [.t 2] x_ref17_blank) (h2:1≤N2)
  (He:FnIs P fe N3 [.t 4] x_ref17_SameGlyphs) (h3:2≤N3) (Hn:FnIs P fn N4 [.t 4,.t 5] x_ref17_numbers) (h4:2≤N4) (Hs:FnIs P fs N5 [.t 4] (x_ref16_Script fw)) (h5:2≤N5) (Hw:FnIs P fw N6 [.t 4] (x_ref16_Walk fl)) (h6:2≤N6) (Hl:FnIs P fl N7 [.t 4] x_ref16_table) (h7:2≤N7)
  (Hr:FnIs P fr N8 [.c 6 6 true] (x_ref17_Replace ft)) (h8:3≤N8) (Hk:FnIs P fk N9 [.t 2] x_ref17_Cost) (h9:1≤N9):SplOk Γ P f:=by
 intro row a b ha hb
 have ht:∀ l:List Gl,l.length≤1000000→FnP Γ P ft [.d (.sl eGl (glRows l))] (.d (.sl eGl (glRows (trimGl l)))):=refTrimL_fn Ht h1 (blank17_fn Hb h2)
 have hta:=trim_len a
 have htb:=trim_len b
 refine splices17_fn H hN row a b ha hb (fun l hl=>ht l (by omega)) (sameRow_fn He h3) (numbers17_fn Hn h4 _ _ (by omega) (by omega)) (fun g hg=>?_) (replace17_fn Hr h8 row a b (ht a (by omega)) (ht b (by omega))) (fun l q1 q2=>rcost17l_fn Hk h9 l q1 q2)
 exact script16_fn Hs h5 _ _ (by omega) (by omega) (walk16_fn Hw h6 _ _ hg (by omega) (by omega) (table16_fn Hl h7 _ _ hg (by omega) (by omega)))
theorem rfind_ok {f fm fg fr fp fe fs:FuncId} {N1 N2 N3 N4 N5:Nat} (H:FnIs P f N [.c 4 6 true,.t 5] (x_ref18_Find fm fg)) (hN:2≤N) (Hm:FnIs P fm N1 [.t 4] x_ref18_match) (h1:2≤N1) (Hg:FnIs P fg N2 [.t 10] (x_ref18_Gain fm fr fe)) (h2:5≤N2) (Hr:FnIs P fr N3 [.t 8,.t 9] (x_ref18_Rows fp)) (h3:4≤N3)
  (Hp:FnIs P fp N4 [.t 8] x_ref18_Possible) (h4:4≤N4) (He:FnIs P fe N5 [.t 8] (x_ref18_equal fs)) (h5:4≤N5) (Hs:RowEqOk Γ P fs):RFindOk Γ P f:=by
 intro m b hml hbl sm
 have hm:FnP Γ P fm [vwA m,vwA b] (.bool (matchV m b)):=match_fn Hm h1 m b
 refine find18_fn H hN m b hml hm fun hmt t u y htu hu hy=>?_
 refine gain18_fn Hg h2 m b t u y hmt hml htu hu hm (rows18_fn Hr h3 m.rows t u y hml (fun r hr=>by have:=sm.row r hr;omega) hy ?_) (fun x z hx hz=>equal18_fn He h5 x z t u (by omega) htu hx hz Hs)
 exact possible_fn Hp h4 _ _ _ _ (by omega)
end Go.Proofs.YtigfbnglplbbpaaGreatDoor.Nx

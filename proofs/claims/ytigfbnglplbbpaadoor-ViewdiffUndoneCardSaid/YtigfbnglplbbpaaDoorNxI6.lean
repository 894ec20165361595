import Derived.Test.YtigfbnglplbbpaaDoorNxI4
set_option linter.unusedSimpArgs false
set_option linter.unusedVariables false
set_option linter.unnecessarySimpa false
open List renaming getElem?_eq_getElem → zB, getD_eq_getElem?_getD → zC, append_assoc → zS
open Bool renaming true_eq_false → zE
open Nat renaming zero_le → zI
open Int renaming toNat_natCast → zQ
open Nat renaming reduceEqDiff → qE, reduceAdd → qA, reduceLT → qL, reduceLeDiff → qD
namespace Go.Proofs.YtigfbnglplbbpaaDoor.Nx
open Go
variable {P:Program} {N:Nat} {Γ:Tabs}
theorem cgRows_one {l:List Cg} {i:Nat} (hi:i<l.length):((cgRows l).drop i).take 1=cgRows [l[i]]:=by
  rw [cgRows,← List.map_drop,← List.map_take,List.drop_eq_getElem_cons hi];rfl
theorem costG_one (c:Cg):costG [c]=cost1 c:=by rw [costG_cons,costG,Int.add_zero]
def costC (c:Cg):Int:=if c.kind=1∨c.kind=4 then 1 else if c.kind=2 then 3 else if c.kind=3 then cost1 c else 0
theorem cost20_succ {l:List Cg} {i:Nat} (hi:i<l.length):cost20 (l.take (i+1))=cost20 (l.take i)+costC l[i]:=by
  rw [List.take_add_one,zB hi,Option.toList_some,cost20_app,cost20,cost20,Int.add_zero];rfl
theorem costC_bnd {c:Cg} {n:Nat} (h:c.gl.length≤n):0≤costC c∧costC c≤1002+n:=by
  unfold costC cost1
  split
  · omega
  · split
    · omega
    · split<;>omega
theorem cost20_bnd:∀ {l:List Cg} {n:Nat},(∀ c∈l,c.gl.length≤n)→0≤cost20 l∧cost20 l≤l.length * (1002+n)
  | [],n,_=>by simp [cost20]
  | c::l,n,h=>by
    have ih:=cost20_bnd (l:=l) (n:=n) fun c hc=>h c (List.mem_cons_of_mem _ hc)
    have h1:=costC_bnd (h c (List.mem_cons_self ..))
    have e:((c::l).length:Int) * (1002+n)=(l.length:Int) * (1002+n)+(1002+n):=by
      rw [List.length_cons];push_cast;rw [Int.add_mul];omega
    have e2:cost20 (c::l)=costC c+cost20 l:=rfl
    rw [e2,e]
    omega
structure Few (l:List Cg):Prop where
  len:l.length≤20000000
  gl:∀ c∈l,c.gl.length≤1000000
abbrev CostOk (Γ:Tabs) (P:Program) (f:FuncId):Prop:=∀ l:List Cg,Few l→FnP Γ P f [cgsA l] (.int (cost20 l))
theorem Few.bnd {l:List Cg} (h:Few l) (i:Nat):0≤cost20 (l.take i)∧cost20 (l.take i)≤20040000000000:=by
  have:=cost20_bnd (l:=l.take i) (n:=1000000) fun c hc=>h.gl c (List.mem_of_mem_take hc)
  have h1:(l.take i).length≤20000000:=by have:=h.len;rw [List.length_take];omega
  have h2:((l.take i).length:Int) * (1002+(1000000:Nat))≤20000000 * (1002+(1000000:Nat)):=Int.mul_le_mul_of_nonneg_right (by omega) (by omega)
  omega
abbrev Cost1Ok (Γ:Tabs) (P:Program) (f:FuncId):Prop:=∀ c:Cg,c.gl.length≤1000000→FnP Γ P f [cgsA [c]] (.int (cost1 c))
set_option maxHeartbeats 1000000 in
theorem cost20_fn {f fc:FuncId} (H:FnIs P f N [.t 2] (x_viewdiff_Cost fc)) (hN:1≤N) (Hc:Cost1Ok Γ P fc):CostOk Γ P f:=by
  intro l hl
  refine .of_W H (by simpa using hN) ?_
  have hll:=hl.len
  unfold x_viewdiff_Cost
  refine W_seq (W_reg ?_);simp only [xq,reduceIte,qE,qA,qL,qD]
  refine W_seq (W_reg ?_);simp only [xq,reduceIte,qE,qA,qL,qD]
  refine W_seq ?_
  refine W_seq (W_reg ?_);simp only [xq,reduceIte,qE,qA,qL,qD,cgRows_len]
  refine W_block ?_
  let S:Nat→St:=fun i=>⟨look [(0,cgsA l),(3,.int (cost20 (l.take i))),(6,cgsA l),(7,.int l.length),(8,.int i)],[]⟩
  refine W_co (s':=S 0) (Co.keep _ (by simp [x_upd,x_look,cost20])) ?_
  refine W_loop (fun m s=>∃ i,i≤l.length∧m=l.length-i∧s=S i) ⟨0,zI _,rfl,rfl⟩ ?_
  rintro m s ⟨i,hi,rfl,rfl⟩
  simp only [S]
  refine W_seq (W_reg ?_);simp only [xq,reduceIte,qE,qA,qL,qD]
  refine W_seq (W_cond rfl (fun hc=>W_skip ?_) (fun hc=>W_exit ?_))
  · have hlt:i<l.length:=by simpa using hc
    have w1:IntKind.i64.wrap ((i:Int)+1)=((i+1:Nat):Int):=by rw [i64_of (by omega)];omega
    have hb:=hl.bnd i
    have hgl:=hl.gl _ (List.getElem_mem hlt)
    have hsu:=cost20_succ hlt
    have hone:=cgRows_one hlt
    have hcc:costC l[i]=if l[i].kind=1∨l[i].kind=4 then 1 else if l[i].kind=2 then 3 else if l[i].kind=3 then cost1 l[i] else 0:=rfl
    obtain ⟨c,hcd⟩:∃ c,c=l[i]:=⟨_,rfl⟩
    have hcg:(cgRows l).getD i []=c.ds:=by rw [cgRows_get hlt,← hcd]
    rw [← hcd] at hgl hsu hone hcc
    have hC:=Hc c hgl
    have hcb:=costC_bnd hgl
    obtain ⟨n0,hn0⟩:∃ n,n=cost20 (l.take i):=⟨_,rfl⟩
    rw [← hn0] at hb hsu
    simp only [← hn0]
    simp only [xq,reduceIte,qE,qA,qL,qD]
    let T:Int→St:=fun n=>⟨look [(0,cgsA l),(3,.int n),(6,cgsA l),(7,.int l.length),(8,.int i)],[]⟩
    refine W_cut (· = T (n0+costC c)) ?_ ?_
    · refine W_block ?_
      refine W_seq (W_reg ?_);simp only [xq,reduceIte,qE,qA,qL,qD,cgRows_len,hcg,Cg.ds,zQ]
      refine ⟨by omega,by omega,?_⟩
      let V:St:=⟨look [(0,cgsA l),(3,.int n0),(4,.int i),(6,cgsA l),(7,.int l.length),(8,.int i),(14,.int c.kind)],[]⟩
      refine W_seq (W_reg ?_);simp only [xq,reduceIte,qE,qA,qL,qD,Cg.ds]
      refine W_co (s':=V) (Co.to _ 0 (by simp [x_upd,x_look,A.under]) (zI _) (zI _) u0) ?_
      have fin:∀ (sl:Nat→A) (h:Heap) (n:Int),sl 0=cgsA l→sl 3 = .int n→sl 6=cgsA l→sl 7 = .int l.length→sl 8 = .int i→n=n0+costC c→∃ s1,Co 0 ⟨sl,h⟩ s1∧s1=T (n0+costC c):=by
        intro sl h n q0 q3 q6 q7 q8 hn
        refine ⟨_,Co.to (s:=⟨sl,h⟩) [(0,cgsA l),(3,.int n),(6,cgsA l),(7,.int l.length),(8,.int i)] 0 ?_ (zI _) (zI _) u0,?_⟩
        · simp [q0,q3,q6,q7,q8,A.under]
        · rw [hn];rfl
      simp only [V]
      refine W_block ?_
      refine W_cut (· = ⟨look [(0,cgsA l),(3,.int n0),(4,.int i),(6,cgsA l),(7,.int l.length),(8,.int i),(14,.int c.kind),(15,.bool (decide (c.kind=1)||decide (c.kind=4)))],[]⟩) ?_ ?_
      · refine W_seq (W_reg ?_);simp only [xq,reduceIte,qE,qA,qL,qD]
        refine W_cond rfl (fun hd=>W_skip ?_) (fun hd=>W_reg ?_)
        · exact ⟨rfl,_,Co.keep _ (by simp [x_upd,x_look,hd]),rfl⟩
        · simp only [xq,reduceIte,qE,qA,qL,qD]
          exact ⟨_,Co.keep _ (by simp [x_upd,x_look,hd]),rfl⟩
      rintro _ rfl
      refine W_cond rfl (fun hd=>?_) (fun hd=>?_)
      · have hd:c.kind=1∨c.kind=4:=by simpa using hd
        rw [if_pos hd] at hcc
        have w2:IntKind.i64.wrap (n0+1)=n0+1:=i64_of (by omega)
        refine W_reg ?_;simp only [xq,reduceIte,qE,qA,qL,qD,w2]
        exact fin _ _ (n0+1) rfl rfl rfl rfl rfl (by rw [hcc])
      have hd:¬ (c.kind=1∨c.kind=4):=by simpa using hd
      rw [if_neg hd] at hcc
      refine W_seq (W_reg ?_);simp only [xq,reduceIte,qE,qA,qL,qD]
      refine W_cond rfl (fun hd2=>?_) (fun hd2=>?_)
      · have hd2:=of_decide_eq_true hd2
        rw [if_pos hd2] at hcc
        have w2:IntKind.i64.wrap (n0+3)=n0+3:=i64_of (by omega)
        refine W_reg ?_;simp only [xq,reduceIte,qE,qA,qL,qD,w2]
        exact fin _ _ (n0+3) rfl rfl rfl rfl rfl (by rw [hcc])
      have hd2:=of_decide_eq_false hd2
      rw [if_neg hd2] at hcc
      refine W_seq (W_reg ?_);simp only [xq,reduceIte,qE,qA,qL,qD]
      refine W_cond rfl (fun hd3=>?_) (fun hd3=>W_skip ?_)
      · have hd3:=of_decide_eq_true hd3
        rw [if_pos hd3] at hcc
        have w2:IntKind.i64.wrap (n0+cost1 c)=n0+cost1 c:=by rw [← hcc];exact i64_of (by omega)
        refine W_reg ?_;simp only [xq,reduceIte,qE,qA,qL,qD,w1,zQ,show (((i+1:Nat):Int)-(i:Int)).toNat=1 by omega,hone,cgRows_len]
        repeat refine And.intro (by omega) ?_
        refine c_fn (hC) rfl ?_;simp only [xq,reduceIte,qE,qA,qL,qD,w2]
        exact fin _ _ (n0+cost1 c) rfl rfl rfl rfl rfl (by rw [hcc])
      · have hd3:=of_decide_eq_false hd3
        rw [if_neg hd3] at hcc
        simp only [xq,reduceIte,qE,qA,qL,qD]
        exact fin _ _ n0 rfl rfl rfl rfl rfl (by rw [hcc,Int.add_zero])
    rintro _ rfl
    simp only [T]
    refine W_reg ?_;simp only [xq,reduceIte,qE,qA,qL,qD,w1]
    exact ⟨l.length-(i+1),S (i+1),by omega,Co.keep _ (by simp [x_upd,x_look,hsu]),i+1,hlt,rfl,rfl⟩
  · have hle:i=l.length:=by simp at hc;omega
    subst hle
    simp only [xq,reduceIte,qE,qA,qL,qD]
    refine W_seq (W_reg ?_);simp only [xq,reduceIte,qE,qA,qL,qD]
    refine W_ret (.tmp ?_ rfl)
    simp only [x_upd,reduceIte,List.take_length,xq,reduceIte,qE,qA,qL,qD]
end Go.Proofs.YtigfbnglplbbpaaDoor.Nx
namespace Go.Proofs.YtigfbnglplbbpaaDoor.Nx
open Go
variable {P:Program} {N:Nat} {Γ:Tabs}
theorem filt_step {p:Nat→Bool} {i:Nat}:(List.range (i+1)).filter p=(List.range i).filter p++(if p i then [i] else []):=by
  rw [List.range_succ,List.filter_append]
  congr 1
  rw [List.filter_cons,List.filter_nil]
theorem frz_boxes {sl:Nat→A} {h t:Heap} {a b:Vw} (l:List (Nat × A)) (h2:sl 2 = .ptr 0 1 0 0) (h3:sl 3 = .ptr 1 1 0 0) (hl:∀ p∈l,p.2.under 0=true∧sl p.1=p.2):Co 0 ⟨sl,vwB a::vwB b::t⟩ ⟨look ((2,.iptr a.ds)::(3,.iptr b.ds)::l),[]⟩:=by
  refine Co.frz (s:=⟨sl,vwB a::vwB b::t⟩) _ 0 ?_ (zI _) (zI _) u0
  intro p hp
  simp only [List.mem_cons] at hp
  rcases hp with rfl | rfl | hp
  · simp only;rw [h2];exact frz_box (zI _) (e:=eVw) rfl
  · simp only;rw [h3];exact frz_box (zI _) (e:=eVw) rfl
  · obtain ⟨q1,q2⟩:=hl p hp
    show FrzA 0 _ (sl p.1) p.2
    rw [q2];exact .same q1
abbrev Rows20Ok (Γ:Tabs) (P:Program) (f:FuncId):Prop:=∀ a b:Vw,a.rows.length≤1000→b.rows.length≤1000→FnP Γ P f [vwA a,vwA b] (insA (rows20 a b))
set_option maxHeartbeats 1000000 in
theorem rows20_fn {f fe:FuncId} (H:FnIs P f N [.t 4] (x_viewdiff_Rows fe)) (hN:2≤N) (He:RowEqOk Γ P fe):Rows20Ok Γ P f:=by
  intro a b hal hbl
  refine .of_W H (by simpa using hN) ?_
  unfold x_viewdiff_Rows
  simp only [vwA,Vw.ds,List.map_cons,List.map_nil]
  refine W_seq (W_reg ?_);simp only [xq,reduceIte,qE,qA,qL,qD]
  refine W_co (frz_boxes (a:=a) (b:=b) (t:=[]) (h:=[]) [] (by simp [x_upd,x_look]) (by simp [x_upd,x_look]) (by simp)) ?_
  refine W_seq (W_reg ?_);simp only [xq,reduceIte,qE,qA,qL,qD]
  refine W_seq ?_
  obtain ⟨n,hn⟩:∃ n,n=max a.rows.length b.rows.length:=⟨_,rfl⟩
  have hmm:minmaxInt true (a.rows.length:Int) (b.rows.length:Int)=(n:Int):=by
    unfold minmaxInt
    simp only [if_true]
    split<;>omega
  refine W_seq (W_reg ?_);simp only [xq,reduceIte,qE,qA,qL,qD,Vw.ds,rwRows_len,hmm]
  refine W_block ?_
  let S:A→Heap→Nat→St:=fun x t i=>⟨look [(2,.iptr a.ds),(3,.iptr b.ds),(5,x),(13,.int n),(14,.int i)],t⟩
  refine W_co (s':=S .nil [] 0) (Co.keep _ (by simp [x_upd,x_look,Vw.ds])) ?_
  refine W_loop (fun m s=>∃ i x t,i≤n∧m=n-i∧s=S x t i∧InsIs t ((List.range i).filter (dif20 a.rows b.rows)) x) ⟨0,.nil,[],zI _,rfl,rfl,.inl ⟨rfl,rfl⟩⟩ ?_
  rintro m s ⟨i,x,t,hi,rfl,rfl,ho⟩
  simp only [S]
  refine W_seq (W_reg ?_);simp only [xq,reduceIte,qE,qA,qL,qD]
  refine W_seq (W_cond rfl (fun hc=>W_skip ?_) (fun hc=>W_exit ?_))
  · have hlt:i<n:=by simpa using hc
    have w1:IntKind.i64.wrap ((i:Int)+1)=((i+1:Nat):Int):=by rw [i64_of (by omega)];omega
    simp only [xq,reduceIte,qE,qA,qL,qD]
    refine W_seq (W_block ?_)
    refine W_seq (W_reg ?_);simp only [xq,reduceIte,qE,qA,qL,qD]
    refine W_cut (· = ⟨look [(2,.iptr a.ds),(3,.iptr b.ds),(5,x),(6,.int i),(13,.int n),(14,.int i),(42,.bool (dif20 a.rows b.rows i))],t⟩) (W_drw (by simp) ?_) ?_
    · simp only [List.replicate_zero,List.append_nil]
      obtain ⟨b1,hb1⟩:∃ z,z=decide (a.rows.length≤i):=⟨_,rfl⟩
      obtain ⟨b2,hb2⟩:∃ z,z=(b1||decide (b.rows.length≤i)):=⟨_,rfl⟩
      have e1:decide ((a.rows.length:Int)≤(i:Int))=b1:=by rw [hb1,decide_eq_decide];omega
      have e2:decide ((b.rows.length:Int)≤(i:Int))=decide (b.rows.length≤i):=by rw [decide_eq_decide];omega
      have hb3:dif20 a.rows b.rows i=(b2 || !decide (a.rows.getD i []=b.rows.getD i [])):=by rw [hb2,hb1,Bool.or_assoc];rfl
      rw [hb3]
      refine run_stage (H:=t) 6 (fun sl=>sl 2 = .iptr a.ds∧sl 3 = .iptr b.ds∧sl 5=x∧sl 6 = .int i∧sl 13 = .int n∧sl 14 = .int i∧sl 22 = .bool b1) (fun K' hK'=>?_) ?_
      · simp only [xq,reduceIte,qE,qA,qL,qD,List.take,Vw.ds,rwRows_len,e1]
        exact hK' _ ⟨rfl,rfl,rfl,rfl,rfl,rfl,rfl⟩
      rintro sl ⟨s2,s3,s5,s6,s13,s14,sG⟩
      refine run_stage (H:=t) 7 (fun sl=>sl 2 = .iptr a.ds∧sl 3 = .iptr b.ds∧sl 5=x∧sl 6 = .int i∧sl 13 = .int n∧sl 14 = .int i∧sl 29 = .bool b2) (fun K' hK'=>?_) ?_
      · cases b1 with
        | true =>
          refine run_strip [(22,some true)] rfl (by simp [gval,sG]) ?_
          simp only [xq,reduceIte,qE,qA,qL,qD,stripO,kget,List.drop,List.take,List.map,sG,zE]
          exact hK' _ ⟨s2,s3,s5,s6,s13,s14,by rw [hb2];rfl⟩
        | false =>
          refine run_strip [(22,some false)] rfl (by simp [gval,sG]) ?_
          simp only [xq,reduceIte,qE,qA,qL,qD,stripO,kget,List.drop,List.take,List.map,sG,s2,s3,s6,Vw.ds,rwRows_len,e2]
          exact hK' _ ⟨s2,s3,s5,s6,s13,s14,by rw [hb2];rfl⟩
      clear s2 s3 s5 s6 s13 s14 sG sl
      rintro sl ⟨s2,s3,s5,s6,s13,s14,sG⟩
      cases b2 with
      | true =>
        refine run_strip [(29,some true)] rfl (by simp [gval,sG]) ?_
        simp only [xq,reduceIte,qE,qA,qL,qD,stripO,kget,List.drop,List.take,List.map,sG,zE]
        exact ⟨_,Co.keep _ (by simp [x_upd,s2,s3,s5,s6,s13,s14]),rfl⟩
      | false =>
        have hb2':=hb2.symm
        simp only [Bool.or_eq_false_iff] at hb2'
        have hla:=hb1.symm.trans hb2'.1
        have hlva:i<a.rows.length:=by have:=of_decide_eq_false hla;omega
        have hlv:i<b.rows.length:=by have:=of_decide_eq_false hb2'.2;omega
        have ga:a.rows.getD i []=a.rows[i]:=by rw [zC,zB hlva];rfl
        have gb:b.rows.getD i []=b.rows[i]:=by rw [zC,zB hlv];rfl
        refine run_strip [(29,some false)] rfl (by simp [gval,sG]) ?_
        simp only [xq,reduceIte,qE,qA,qL,qD,stripO,kget,List.drop,List.take,List.map,sG,s2,s3,s6,Vw.ds,rwRows_len,rwRows_get hlv,rwRows_get hlva,zQ]
        refine ⟨by omega,by omega,by omega,by omega,?_⟩
        refine c_fn (He a.rows[i] b.rows[i]) rfl ?_;simp only [xq,reduceIte,qE,qA,qL,qD,sG]
        refine ⟨_,Co.keep _ ?_,rfl⟩
        rw [ga,gb]
        simp [x_upd,Vw.ds,s2,s3,s5,s6,s13,s14]
    rintro _ rfl
    have hsu:=filt_step (p:=dif20 a.rows b.rows) (i:=i)
    obtain ⟨o,hod⟩:∃ o,o=(List.range i).filter (dif20 a.rows b.rows):=⟨_,rfl⟩
    have hol:o.length≤i:=by rw [hod];exact filt_len
    rw [← hod] at ho hsu
    refine W_cond rfl (fun hd=>?_) (fun hd=>W_skip ?_)
    · rw [hd,if_pos rfl] at hsu
      rcases ho with ⟨rfl,hnil⟩ | ⟨q,rfl,hq,hne⟩
      · rw [hnil] at hsu
        refine W_reg ?_;simp only [xq,reduceIte,qE,qA,qL,qD,zS,hp_g0,hp_g1]
        rw [if_neg (by simp)]
        refine ⟨by decide,by decide,?_⟩
        refine W_reg ?_;simp only [xq,reduceIte,qE,qA,qL,qD,w1]
        refine ⟨n-(i+1),S (.ref (t.length+1) 1 0 1 true) (t++[inLB [i],inLB [i]]) (i+1),by omega,Co.keep _ (by simp [x_upd,x_look]),i+1,_,_,hlt,rfl,rfl,.inr ⟨t.length+1,by rw [hsu];rfl,?_,by rw [hsu];simp⟩⟩
        rw [hsu,hp_g1];rfl
      · have hql:=(List.getElem?_eq_some_iff.1 hq).1
        have gq:∀ t':Heap,(t++t')[q]? = some (inLB o):=fun t'=>hp_gl hq
        have sq:∀ (t':Heap) X,(t++t').set q X=t.set q X++t':=fun t' X=>List.set_append_left _ _ hql
        refine W_reg ?_;simp only [xq,reduceIte,qE,qA,qL,qD,zS,hp_g0,gq,sq,inRows_len]
        refine ⟨by simp only [room];omega,by simp only [maxLen];omega,?_⟩
        refine W_reg ?_;simp only [xq,reduceIte,qE,qA,qL,qD,w1]
        refine ⟨n-(i+1),S (.ref q (o.length+1) 0 (o.length+1) true) (t.set q (inLB (o++[i]))++[inLB [i]]) (i+1),by omega,?_,i+1,_,_,hlt,rfl,rfl,.inr ⟨q,by rw [hsu,List.length_append];rfl,?_,by rw [hsu];simp⟩⟩
        · have:inLB (o++[i]) = .cells eInt ((inRows o).map (fun r=>r.map A.d)++[[.int i]]):=by simp only [inLB,inRows_app,List.map_append];rfl
          rw [this]
          exact Co.keep _ (by simp [x_upd,x_look])
        · rw [hsu,List.getElem?_append_left (by simpa using hql),List.getElem?_set_self hql]
    · rw [hd,if_neg (by decide),List.append_nil] at hsu
      simp only [xq,reduceIte,qE,qA,qL,qD]
      refine W_reg ?_;simp only [xq,reduceIte,qE,qA,qL,qD,w1]
      exact ⟨n-(i+1),S x t (i+1),by omega,Co.keep _ (by simp [x_upd,x_look]),i+1,x,t,hlt,rfl,rfl,by rw [hsu];exact ho⟩
  · have hle:i=n:=by simp at hc;omega
    subst hle
    simp only [xq,reduceIte,qE,qA,qL,qD]
    refine W_seq (W_reg ?_);simp only [xq,reduceIte,qE,qA,qL,qD]
    refine W_ret (.frz ?_)
    simp only [xq,reduceIte,qE,qA,qL,qD]
    rw [rows20,← hn]
    exact ho.frz
end Go.Proofs.YtigfbnglplbbpaaDoor.Nx

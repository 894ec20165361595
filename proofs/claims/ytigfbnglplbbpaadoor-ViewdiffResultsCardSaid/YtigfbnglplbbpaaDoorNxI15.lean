import Derived.Test.YtigfbnglplbbpaaDoorNxI6
set_option linter.unusedSimpArgs false
set_option linter.unusedVariables false
set_option linter.unnecessarySimpa false
open List renaming getElem?_eq_getElem → zB, getD_eq_getElem?_getD → zC
open Bool renaming true_eq_false → zE
open Nat renaming zero_le → zI
open Int renaming toNat_natCast → zQ
open Nat renaming reduceEqDiff → qE, reduceAdd → qA, reduceLT → qL, reduceLeDiff → qD
namespace Go.Proofs.YtigfbnglplbbpaaDoor.Nx
open Go
variable {P:Program} {N:Nat} {Γ:Tabs}
set_option maxHeartbeats 1000000 in
theorem rcost20_fn {f fc:FuncId} (H:FnIs P f N [.t 2] (x_ref20_Cost fc)) (hN:1≤N) (Hc:Cost1Ok Γ P fc):CostOk Γ P f:=by
  intro l hl
  refine .of_W H (by simpa using hN) ?_
  have hll:=hl.len
  unfold x_ref20_Cost
  refine W_seq (W_reg ?_);simp only [xq,reduceIte,qE,qA,qL,qD]
  refine W_seq (W_reg ?_);simp only [xq,reduceIte,qE,qA,qL,qD]
  refine W_seq ?_
  refine W_seq (W_reg ?_);simp only [xq,reduceIte,qE,qA,qL,qD]
  refine W_block ?_
  let S:Nat→St:=fun i=>⟨look [(0,cgsA l),(3,.int (cost20 (l.take i))),(4,.int i)],[]⟩
  refine W_co (s':=S 0) (Co.keep _ (by simp [x_upd,x_look,cost20])) ?_
  refine W_loop (fun m s=>∃ i,i≤l.length∧m=l.length-i∧s=S i) ⟨0,zI _,rfl,rfl⟩ ?_
  rintro m s ⟨i,hi,rfl,rfl⟩
  simp only [S]
  refine W_seq ?_
  refine W_seq (W_reg ?_);simp only [xq,reduceIte,qE,qA,qL,qD,cgRows_len]
  refine W_cond rfl (fun hc=>W_skip ?_) (fun hc=>W_exit ?_)
  · have hlt:i<l.length:=by simpa using hc
    have w1:IntKind.i64.wrap ((i:Int)+1)=((i+1:Nat):Int):=by rw [i64_of (by omega)];omega
    have hb:=hl.bnd i
    have hgl:=hl.gl _ (List.getElem_mem hlt)
    have hsu:=cost20_succ hlt
    have hone:=cgRows_one hlt
    have hcc:costC l[i]=if l[i].kind=1∨l[i].kind=4 then 1 else if l[i].kind=2 then 3 else if l[i].kind=3 then cost1 l[i] else 0:=rfl
    obtain ⟨c,hcd⟩:∃ c,c=l[i]:=⟨_,rfl⟩
    have hcg:(cgRows l).getD i []=c.ds:=by rw [cgRows_get hlt,← hcd]
    rw [← hcd] at hgl hsu hone hcc
    have hC:=Hc c hgl
    have hcb:=costC_bnd hgl
    obtain ⟨n0,hn0⟩:∃ n,n=cost20 (l.take i):=⟨_,rfl⟩
    rw [← hn0] at hb hsu
    simp only [← hn0]
    simp only [xq,reduceIte,qE,qA,qL,qD]
    let T:Int→St:=fun n=>⟨look [(0,cgsA l),(3,.int n),(4,.int i)],[]⟩
    refine W_cut (· = T (n0+costC c)) ?_ ?_
    · refine W_block ?_
      let V:St:=⟨look [(0,cgsA l),(3,.int n0),(4,.int i),(15,.int c.kind)],[]⟩
      refine W_seq (W_reg ?_);simp only [xq,reduceIte,qE,qA,qL,qD,cgRows_len,hcg,Cg.ds,zQ]
      refine ⟨by omega,by omega,?_⟩
      refine W_co (s':=V) (Co.keep _ (by simp [x_upd,x_look])) ?_
      have fin:∀ (sl:Nat→A) (h:Heap) (n:Int),sl 0=cgsA l→sl 3 = .int n→sl 4 = .int i→n=n0+costC c→∃ s1,Co 0 ⟨sl,h⟩ s1∧s1=T (n0+costC c):=by
        intro sl h n q0 q3 q4 hn
        refine ⟨_,Co.to (s:=⟨sl,h⟩) [(0,cgsA l),(3,.int n),(4,.int i)] 0 ?_ (zI _) (zI _) u0,?_⟩
        · simp [q0,q3,q4,A.under]
        · rw [hn];rfl
      simp only [V]
      refine W_block ?_
      refine W_cut (· = ⟨look [(0,cgsA l),(3,.int n0),(4,.int i),(15,.int c.kind),(16,.bool (decide (c.kind=1)||decide (c.kind=4)))],[]⟩) ?_ ?_
      · refine W_seq (W_reg ?_);simp only [xq,reduceIte,qE,qA,qL,qD]
        refine W_cond rfl (fun hd=>W_skip ?_) (fun hd=>W_reg ?_)
        · exact ⟨rfl,_,Co.keep _ (by simp [x_upd,x_look,hd]),rfl⟩
        · simp only [xq,reduceIte,qE,qA,qL,qD]
          exact ⟨_,Co.keep _ (by simp [x_upd,x_look,hd]),rfl⟩
      rintro _ rfl
      refine W_cond rfl (fun hd=>?_) (fun hd=>?_)
      · have hd:c.kind=1∨c.kind=4:=by simpa using hd
        rw [if_pos hd] at hcc
        have w2:IntKind.i64.wrap (n0+1)=n0+1:=i64_of (by omega)
        refine W_reg ?_;simp only [xq,reduceIte,qE,qA,qL,qD,w2]
        exact fin _ _ (n0+1) rfl rfl rfl (by rw [hcc])
      have hd:¬ (c.kind=1∨c.kind=4):=by simpa using hd
      rw [if_neg hd] at hcc
      refine W_seq (W_reg ?_);simp only [xq,reduceIte,qE,qA,qL,qD]
      refine W_cond rfl (fun hd2=>?_) (fun hd2=>?_)
      · have hd2:=of_decide_eq_true hd2
        rw [if_pos hd2] at hcc
        have w2:IntKind.i64.wrap (n0+3)=n0+3:=i64_of (by omega)
        refine W_reg ?_;simp only [xq,reduceIte,qE,qA,qL,qD,w2]
        exact fin _ _ (n0+3) rfl rfl rfl (by rw [hcc])
      have hd2:=of_decide_eq_false hd2
      rw [if_neg hd2] at hcc
      refine W_seq (W_reg ?_);simp only [xq,reduceIte,qE,qA,qL,qD]
      refine W_cond rfl (fun hd3=>?_) (fun hd3=>W_skip ?_)
      · have hd3:=of_decide_eq_true hd3
        rw [if_pos hd3] at hcc
        have w2:IntKind.i64.wrap (n0+cost1 c)=n0+cost1 c:=by rw [← hcc];exact i64_of (by omega)
        refine W_reg ?_;simp only [xq,reduceIte,qE,qA,qL,qD,w1,zQ,show (((i+1:Nat):Int)-(i:Int)).toNat=1 by omega,hone,cgRows_len]
        repeat refine And.intro (by omega) ?_
        refine c_fn (hC) rfl ?_;simp only [xq,reduceIte,qE,qA,qL,qD,w2]
        exact fin _ _ (n0+cost1 c) rfl rfl rfl (by rw [hcc])
      · have hd3:=of_decide_eq_false hd3
        rw [if_neg hd3] at hcc
        simp only [xq,reduceIte,qE,qA,qL,qD]
        exact fin _ _ n0 rfl rfl rfl (by rw [hcc,Int.add_zero])
    rintro _ rfl
    simp only [T]
    refine W_reg ?_;simp only [xq,reduceIte,qE,qA,qL,qD,w1]
    exact ⟨l.length-(i+1),S (i+1),by omega,Co.keep _ (by simp [x_upd,x_look,hsu]),i+1,hlt,rfl,rfl⟩
  · have hle:i=l.length:=by simp at hc;omega
    subst hle
    simp only [xq,reduceIte,qE,qA,qL,qD]
    refine W_seq (W_reg ?_);simp only [xq,reduceIte,qE,qA,qL,qD]
    refine W_ret (.tmp ?_ rfl)
    simp only [x_upd,reduceIte,List.take_length,xq,reduceIte,qE,qA,qL,qD]
theorem rcost17_fn {f:FuncId} (H:FnIs P f N [.t 2] x_ref17_Cost) (hN:1≤N):Cost1Ok Γ P f:=by
  intro c hg
  refine .of_W H (by simpa using hN) ?_
  unfold x_ref17_Cost
  refine W_seq (W_reg ?_);simp only [xq,reduceIte,qE,qA,qL,qD]
  refine W_seq (W_reg ?_);simp only [xq,reduceIte,qE,qA,qL,qD]
  refine W_seq ?_
  refine W_seq (W_reg ?_);simp only [xq,reduceIte,qE,qA,qL,qD]
  refine W_block ?_
  let S:Nat→Int→St:=fun i n=>⟨look [(0,cgsA [c]),(3,.int n),(4,.int i)],[]⟩
  refine W_co (s':=S 0 0) (Co.keep _ (by simp [x_upd,x_look])) ?_
  refine W_loop (fun m s=>(m=1∧s=S 0 0)∨(m=0∧s=S 1 (cost1 c))) (.inl ⟨rfl,rfl⟩) ?_
  rintro m s (⟨rfl,rfl⟩ | ⟨rfl,rfl⟩)
  · simp only [S]
    refine W_seq ?_
    refine W_seq (W_reg ?_);simp only [xq,reduceIte,qE,qA,qL,qD,cgRows_len]
    refine W_cond rfl (fun hc=>W_skip ?_) (fun hc=>by cases hc)
    have hcg:(cgRows [c]).getD 0 []=c.ds:=rfl
    obtain ⟨k,hk⟩:∃ k,k=max 0 (min c.count 1000):=⟨_,rfl⟩
    have hk1:0≤k∧k≤1000:=by omega
    have w2:IntKind.i64.wrap (0+2)=2:=by decide
    have w3:IntKind.i64.wrap (2+k)=2+k:=i64_of (by omega)
    have w4:IntKind.i64.wrap (2+k+c.gl.length)=cost1 c:=by rw [i64_of (by omega),hk];rfl
    have w1:IntKind.i64.wrap (0+1)=1:=by decide
    simp only [xq,reduceIte,qE,qA,qL,qD]
    refine W_seq (W_block ?_)
    refine W_seq (W_reg ?_);simp only [xq,reduceIte,qE,qA,qL,qD,cgRows_len,hcg,Cg.ds,(by decide:Int.toNat 0=0),Int.natCast_zero]
    refine ⟨by decide,by decide,?_⟩
    refine W_cut (· = ⟨look [(0,cgsA [c]),(3,.int 0),(4,.int 0),(5,.int (max 0 c.count))],[]⟩) ?_ ?_
    · refine W_seq (W_reg ?_);simp only [xq,reduceIte,qE,qA,qL,qD]
      refine W_cond rfl (fun hd=>?_) (fun hd=>W_skip ?_)
      · have hd:=of_decide_eq_true hd
        refine W_reg ?_;simp only [xq,reduceIte,qE,qA,qL,qD]
        exact ⟨_,Co.keep _ (by simp [x_upd,x_look,show max 0 c.count=0 by omega]),rfl⟩
      · have hd:=of_decide_eq_false hd
        exact ⟨rfl,_,Co.keep _ (by simp [x_upd,x_look,show max 0 c.count=c.count by omega]),rfl⟩
    rintro _ rfl
    refine W_cut (· = ⟨look [(0,cgsA [c]),(3,.int 0),(4,.int 0),(5,.int k)],[]⟩) ?_ ?_
    · refine W_seq (W_reg ?_);simp only [xq,reduceIte,qE,qA,qL,qD]
      refine W_cond rfl (fun hd=>?_) (fun hd=>W_skip ?_)
      · have hd:=of_decide_eq_true hd
        refine W_reg ?_;simp only [xq,reduceIte,qE,qA,qL,qD]
        exact ⟨_,Co.keep _ (by simp [x_upd,x_look,show k=1000 by omega]),rfl⟩
      · have hd:=of_decide_eq_false hd
        exact ⟨rfl,_,Co.keep _ (by simp [x_upd,x_look,show k=max 0 c.count by omega]),rfl⟩
    rintro _ rfl
    refine W_reg ?_;simp only [xq,reduceIte,qE,qA,qL,qD,cgRows_len,hcg,Cg.ds,glRows_len,w2,w3,w4,(by decide:Int.toNat 0=0),Int.natCast_zero]
    refine ⟨by decide,by decide,?_⟩
    refine W_reg ?_;simp only [xq,reduceIte,qE,qA,qL,qD,w1]
    exact ⟨0,S 1 (cost1 c),by decide,Co.keep _ (by simp [x_upd,x_look]),.inr ⟨rfl,rfl⟩⟩
  · simp only [S]
    refine W_seq ?_
    refine W_seq (W_reg ?_);simp only [xq,reduceIte,qE,qA,qL,qD,cgRows_len]
    refine W_cond rfl (fun hc=>by cases hc) (fun hc=>W_exit ?_)
    simp only [xq,reduceIte,qE,qA,qL,qD]
    refine W_seq (W_reg ?_);simp only [xq,reduceIte,qE,qA,qL,qD]
    refine W_ret (.tmp ?_ rfl)
    simp only [x_upd,reduceIte]
def InsR (h:Heap) (l:List Nat) (x:A):Prop:=∃ q,x = .ref q l.length 0 l.length true∧h[q]? = some (inLB l)
theorem InsR.frz {h:Heap} {l:List Nat} {x:A} (o:InsR h l x):FrzA 0 h x (insA l):=by
  obtain ⟨q,rfl,hq⟩:=o
  have:=frz_all (id:=q) (full:=true) (e:=eInt) hq
  rw [inRows_len] at this
  exact this
set_option maxHeartbeats 1000000 in
theorem rrows20_fn {f fe:FuncId} (H:FnIs P f N [.t 4] (x_ref20_Rows fe)) (hN:2≤N) (He:RowEqOk Γ P fe):Rows20Ok Γ P f:=by
  intro a b hal hbl
  refine .of_W H (by simpa using hN) ?_
  unfold x_ref20_Rows
  simp only [vwA,Vw.ds,List.map_cons,List.map_nil]
  refine W_seq (W_reg ?_);simp only [xq,reduceIte,qE,qA,qL,qD]
  refine W_co (frz_boxes (a:=a) (b:=b) (t:=[]) (h:=[]) [] (by simp [x_upd,x_look]) (by simp [x_upd,x_look]) (by simp)) ?_
  refine W_seq (W_reg ?_);simp only [xq,reduceIte,qE,qA,qL,qD]
  refine W_seq ?_
  obtain ⟨n,hn⟩:∃ n,n=max a.rows.length b.rows.length:=⟨_,rfl⟩
  refine W_seq (W_reg ?_);simp only [xq,reduceIte,qE,qA,qL,qD]
  refine W_block ?_
  let S:A→Heap→Nat→St:=fun x t i=>⟨look [(2,.iptr a.ds),(3,.iptr b.ds),(5,x),(6,.int i)],t⟩
  refine W_co (s':=S (.ref 0 0 0 0 true) [inLB []] 0) (Co.keep _ (by simp [x_upd,x_look,Vw.ds])) ?_
  refine W_loop (fun m s=>∃ i x t,i≤n∧m=n-i∧s=S x t i∧InsR t ((List.range i).filter (dif20 a.rows b.rows)) x) ⟨0,_,_,zI _,rfl,rfl,⟨0,rfl,rfl⟩⟩ ?_
  rintro m s ⟨i,x,t,hi,rfl,rfl,ho⟩
  simp only [S]
  refine W_seq (W_cut (· = ⟨look [(2,.iptr a.ds),(3,.iptr b.ds),(5,x),(6,.int i),(19,.bool (decide (i<n)))],t⟩) (W_reg ?_) ?_)
  · by_cases hla:i<a.rows.length
    · have e1:decide ((i:Int)<(a.rows.length:Int))=true:=decide_eq_true (by omega)
      have e2:decide (i<n)=true:=decide_eq_true (by omega)
      simp only [xq,reduceIte,qE,qA,qL,qD,Vw.ds,rwRows_len,e1,undefA,zE]
      exact ⟨_,Co.keep _ (by simp [x_upd,x_look,e2]),rfl⟩
    · have e1:decide ((i:Int)<(a.rows.length:Int))=false:=decide_eq_false (by omega)
      have e2:decide ((i:Int)<(b.rows.length:Int))=decide (i<n):=by rw [decide_eq_decide];omega
      simp only [xq,reduceIte,qE,qA,qL,qD,Vw.ds,rwRows_len,e1,e2,undefA,zE]
      exact ⟨_,Co.keep _ (by simp [x_upd,x_look]),rfl⟩
  rintro _ rfl
  refine W_cond rfl (fun hc=>W_skip ?_) (fun hc=>W_exit ?_)
  · have hlt:i<n:=by simpa using hc
    have w1:IntKind.i64.wrap ((i:Int)+1)=((i+1:Nat):Int):=by rw [i64_of (by omega)];omega
    simp only [xq,reduceIte,qE,qA,qL,qD]
    refine W_seq (W_block ?_)
    refine W_cut (· = ⟨look [(2,.iptr a.ds),(3,.iptr b.ds),(5,x),(6,.int i),(47,.bool (dif20 a.rows b.rows i))],t⟩) (W_drw (by simp) ?_) ?_
    · simp only [List.replicate_zero,List.append_nil]
      obtain ⟨b1,hb1⟩:∃ z,z=decide (a.rows.length≤i):=⟨_,rfl⟩
      obtain ⟨b2,hb2⟩:∃ z,z=(b1||decide (b.rows.length≤i)):=⟨_,rfl⟩
      have e1:decide ((a.rows.length:Int)≤(i:Int))=b1:=by rw [hb1,decide_eq_decide];omega
      have e2:decide ((b.rows.length:Int)≤(i:Int))=decide (b.rows.length≤i):=by rw [decide_eq_decide];omega
      have hb3:dif20 a.rows b.rows i=(b2 || !decide (a.rows.getD i []=b.rows.getD i [])):=by rw [hb2,hb1,Bool.or_assoc];rfl
      rw [hb3]
      refine run_stage (H:=t) 6 (fun sl=>sl 2 = .iptr a.ds∧sl 3 = .iptr b.ds∧sl 5=x∧sl 6 = .int i∧sl 27 = .bool b1) (fun K' hK'=>?_) ?_
      · simp only [xq,reduceIte,qE,qA,qL,qD,List.take,Vw.ds,rwRows_len,e1]
        exact hK' _ ⟨rfl,rfl,rfl,rfl,rfl⟩
      rintro sl ⟨s2,s3,s5,s6,sG⟩
      refine run_stage (H:=t) 7 (fun sl=>sl 2 = .iptr a.ds∧sl 3 = .iptr b.ds∧sl 5=x∧sl 6 = .int i∧sl 34 = .bool b2) (fun K' hK'=>?_) ?_
      · cases b1 with
        | true =>
          refine run_strip [(27,some true)] rfl (by simp [gval,sG]) ?_
          simp only [xq,reduceIte,qE,qA,qL,qD,stripO,kget,List.drop,List.take,List.map,sG,zE]
          exact hK' _ ⟨s2,s3,s5,s6,by rw [hb2];rfl⟩
        | false =>
          refine run_strip [(27,some false)] rfl (by simp [gval,sG]) ?_
          simp only [xq,reduceIte,qE,qA,qL,qD,stripO,kget,List.drop,List.take,List.map,sG,s2,s3,s6,Vw.ds,rwRows_len,e2]
          exact hK' _ ⟨s2,s3,s5,s6,by rw [hb2];rfl⟩
      clear s2 s3 s5 s6 sG sl
      rintro sl ⟨s2,s3,s5,s6,sG⟩
      cases b2 with
      | true =>
        refine run_strip [(34,some true)] rfl (by simp [gval,sG]) ?_
        simp only [xq,reduceIte,qE,qA,qL,qD,stripO,kget,List.drop,List.take,List.map,sG,zE]
        exact ⟨_,Co.keep _ (by simp [x_upd,s2,s3,s5,s6]),rfl⟩
      | false =>
        have hb2':=hb2.symm
        simp only [Bool.or_eq_false_iff] at hb2'
        have hla:=hb1.symm.trans hb2'.1
        have hlva:i<a.rows.length:=by have:=of_decide_eq_false hla;omega
        have hlv:i<b.rows.length:=by have:=of_decide_eq_false hb2'.2;omega
        have ga:a.rows.getD i []=a.rows[i]:=by rw [zC,zB hlva];rfl
        have gb:b.rows.getD i []=b.rows[i]:=by rw [zC,zB hlv];rfl
        refine run_strip [(34,some false)] rfl (by simp [gval,sG]) ?_
        simp only [xq,reduceIte,qE,qA,qL,qD,stripO,kget,List.drop,List.take,List.map,sG,s2,s3,s6,Vw.ds,rwRows_len,rwRows_get hlv,rwRows_get hlva,zQ]
        refine ⟨by omega,by omega,by omega,by omega,?_⟩
        refine c_fn (He a.rows[i] b.rows[i]) rfl ?_;simp only [xq,reduceIte,qE,qA,qL,qD,sG]
        refine ⟨_,Co.keep _ ?_,rfl⟩
        rw [ga,gb]
        simp [x_upd,Vw.ds,s2,s3,s5,s6]
    rintro _ rfl
    have hsu:=filt_step (p:=dif20 a.rows b.rows) (i:=i)
    obtain ⟨o,hod⟩:∃ o,o=(List.range i).filter (dif20 a.rows b.rows):=⟨_,rfl⟩
    have hol:o.length≤i:=by rw [hod];exact filt_len
    rw [← hod] at ho hsu
    refine W_cond rfl (fun hd=>?_) (fun hd=>W_skip ?_)
    · rw [hd,if_pos rfl] at hsu
      obtain ⟨q,rfl,hq⟩:=ho
      have hql:=(List.getElem?_eq_some_iff.1 hq).1
      have gq:∀ t':Heap,(t++t')[q]? = some (inLB o):=fun t'=>hp_gl hq
      have sq:∀ (t':Heap) X,(t++t').set q X=t.set q X++t':=fun t' X=>List.set_append_left _ _ hql
      refine W_reg ?_;simp only [xq,reduceIte,qE,qA,qL,qD,List.append_assoc,hp_g0,gq,sq,inRows_len]
      refine ⟨by simp only [room];omega,by simp only [maxLen];omega,?_⟩
      refine W_reg ?_;simp only [xq,reduceIte,qE,qA,qL,qD,w1]
      refine ⟨n-(i+1),S (.ref q (o.length+1) 0 (o.length+1) true) (t.set q (inLB (o++[i]))++[inLB [i]]) (i+1),by omega,?_,i+1,_,_,hlt,rfl,rfl,⟨q,by rw [hsu,List.length_append];rfl,?_⟩⟩
      · have:inLB (o++[i]) = .cells eInt ((inRows o).map (fun r=>r.map A.d)++[[.int i]]):=by simp only [inLB,inRows_app,List.map_append];rfl
        rw [this]
        exact Co.keep _ (by simp [x_upd,x_look])
      · rw [hsu,List.getElem?_append_left (by simpa using hql),List.getElem?_set_self hql]
    · rw [hd,if_neg (by decide),List.append_nil] at hsu
      simp only [xq,reduceIte,qE,qA,qL,qD]
      refine W_reg ?_;simp only [xq,reduceIte,qE,qA,qL,qD,w1]
      exact ⟨n-(i+1),S x t (i+1),by omega,Co.keep _ (by simp [x_upd,x_look]),i+1,x,t,hlt,rfl,rfl,by rw [hsu];exact ho⟩
  · have hle:i=n:=by simp at hc;omega
    subst hle
    simp only [xq,reduceIte,qE,qA,qL,qD]
    refine W_seq (W_reg ?_);simp only [xq,reduceIte,qE,qA,qL,qD]
    refine W_ret (.frz ?_)
    simp only [xq,reduceIte,qE,qA,qL,qD]
    rw [rows20,← hn]
    exact ho.frz
end Go.Proofs.YtigfbnglplbbpaaDoor.Nx

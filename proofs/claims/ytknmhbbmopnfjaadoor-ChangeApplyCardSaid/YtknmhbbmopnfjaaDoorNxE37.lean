import Derived.Test.YtknmhbbmopnfjaaDoorNxE36
set_option linter.unusedSimpArgs false
set_option linter.unusedVariables false
set_option linter.unnecessarySimpa false
open Nat renaming reduceEqDiff → qE, reduceAdd → qA, reduceLT → qL, reduceLeDiff → qD
namespace Go.Proofs.YtknmhbbmopnfjaaDoor.Nx
open Go
variable {P:Program} {N:Nat} {Γ:Tabs}
theorem hr_g0 {a b c d B:HB} {t t':Heap}:(a::b::c::d::(t++B::t'))[t.length+4]? = some B:=by simp
theorem stepV_len {v:Vw} {c:Cg} (hk:c.kind≠1):(stepV v c).rows.length=v.rows.length:=by
  unfold stepV
  rw [if_neg hk]
  split
  · exact scrollL_len
  · split
    · simp
    · rfl
def preRow (v:Vw) (c:Cg) (i:Nat):List Gl :=
  if c.kind=2 then (if c.row≤(i:Int)∧(i:Int)<c.upto then (if c.row≤(i:Int)+c.count∧(i:Int)+c.count<c.upto then rowAt v.rows ((i:Int)+c.count) else []) else v.rows.getD i [])
  else if c.kind=3∧(i:Int)=c.row then (padR (v.rows.getD i []) c.col.toNat).take c.col.toNat++c.gl++(padR (v.rows.getD i []) c.col.toNat).drop (c.col.toNat+c.count.toNat) else v.rows.getD i []
theorem preRow_trim {v:Vw} {c:Cg} (ed:Ed v) (hk:c.kind=2∨c.kind=3) (hr:0≤c.row) {i:Nat} (hi:i<v.rows.length):trimGl (preRow v c i)=(stepV v c).rows.getD i []:=by
  have tg:∀ j,trimGl (v.rows.getD j [])=v.rows.getD j []:=fun j=>by
    rcases getD_mem (rows:=v.rows) (n:=j) with h | h
    · rw [h];rfl
    · exact trim_id (ed.tr _ h)
  have k1:¬ c.kind=1:=by omega
  unfold preRow stepV
  simp only [if_neg k1]
  rcases hk with hk | hk
  · simp only [if_pos hk]
    have e:(scrollL v.rows c.row c.upto c.count).getD i []=scrollR v.rows c.row c.upto c.count i:=by
      rw [List.getD_eq_getElem?_getD,scrollL,List.getElem?_map,List.getElem?_range hi];rfl
    rw [e,scrollR]
    split
    · split
      · unfold rowAt;exact tg _
      · rfl
    · exact tg _
  · have k2:¬ c.kind=2:=by omega
    simp only [if_neg k2,if_pos hk]
    by_cases hie:(i:Int)=c.row
    · have h3:c.kind=3∧(i:Int)=c.row:=⟨hk,hie⟩
      rw [if_pos h3]
      have e:c.row.toNat=i:=by omega
      rw [e,List.getD_eq_getElem?_getD (l:=v.rows.set i _),List.getElem?_set_self hi]
      unfold rowAt
      rw [e];rfl
    · have h3:¬ (c.kind=3∧(i:Int)=c.row):=fun h=>hie h.2
      rw [if_neg h3,List.getD_eq_getElem?_getD (l:=v.rows.set _ _),List.getElem?_set_ne (by omega),← List.getD_eq_getElem?_getD]
      exact tg _
theorem stepV_size {v:Vw} {c:Cg} (hk:c.kind=2∨c.kind=3):∀ x,outRow (stepV v c) x=outRow v x:=by
  intro x
  unfold stepV outRow
  rcases hk with hk | hk
  · rw [if_neg (by omega),if_pos hk]
  · rw [if_neg (by omega),if_neg (by omega),if_pos hk]
abbrev SizedOk (Γ:Tabs) (P:Program) (f:FuncId):Prop:=∀ (v:Vw) (h w:Int),1≤h∧h≤60→0≤w∧w≤1000→(∀ r∈v.rows,r.length≤50000)→v.rows.length≤1000→FnP Γ P f [vwA v,.int h,.int w] (vwA (sizeV v h w))
set_option maxHeartbeats 4000000 in
theorem rstep_fn {f fz ft:FuncId} (H:FnIs P f N [.c 4 6 true] (x_ref19_step fz ft)) (hN:2≤N) (Hz:SizedOk Γ P fz) (Ht:∀ l:List Gl,l.length≤1000000→FnP Γ P ft [.d (.sl eGl (glRows l))] (.d (.sl eGl (glRows (trimGl l)))))
    (v:Vw) (c:Cg) (hpre:StepPre v c):FnP Γ P f [vwA v,cgA c] (vwA (stepV v c)):=by
  refine .of_W H (by simpa using hN) ?_
  obtain ⟨q1,q2,q3,q4⟩:=chgC_zero hpre.ok
  have hs:=szOk_iff.1 hpre.ed.sz
  have hlen:=hpre.ed.len
  unfold x_ref19_step
  simp only [vwA,Vw.ds,cgA,Cg.ds,List.map_cons,List.map_nil]
  refine W_seq (W_reg ?_);simp only [xq,reduceIte,qE,qA,qL,qD]
  refine W_seq ?_
  refine W_seq (W_reg ?_);simp only [xq,reduceIte,qE,qA,qL,qD]
  refine W_cond rfl (fun hk=>?_) (fun hk=>W_skip ?_)
  · have hk:c.kind=1:=by simpa using hk
    rw [rangeG,if_pos hk,Bool.and_eq_true,btw_iff,btw_iff] at q3
    have hz:=Hz v c.row c.col (by omega) (by omega) hpre.row (by omega)
    have hst:stepV v c=sizeV v c.row c.col:=by rw [stepV,if_pos hk]
    rw [hst]
    simp only [vwA,Vw.ds,List.map_cons,List.map_nil] at hz
    refine W_seq (W_reg ?_);simp only [xq,reduceIte,qE,qA,qL,qD]
    refine c_fn (hz) rfl ?_;simp only [xq,reduceIte,qE,qA,qL,qD]
    refine W_ret ⟨.inr rfl,?_⟩
    simp only [readRs,readR,single,xq,reduceIte,qE,qA,qL,qD,loadsTo,List.take]
    exact .same rfl
  have hk1:¬ c.kind=1:=by simpa using hk
  simp only [xq,reduceIte,qE,qA,qL,qD]
  refine W_seq (W_reg ?_);simp only [xq,reduceIte,qE,qA,qL,qD]
  refine W_seq ?_
  refine W_seq (W_reg ?_);simp only [xq,reduceIte,qE,qA,qL,qD]
  refine W_cond rfl (fun hk=>?_) (fun hk=>W_skip ?_)
  · have hk:c.kind=4:=by simpa using hk
    have hst:stepV v c={ v with row:=c.row,col:=c.col,vis:=decide (c.count=1) }:=by rw [stepV,if_neg hk1,if_neg (by omega),if_neg (by omega)]
    rw [hst]
    refine W_seq (W_reg ?_);simp only [xq,reduceIte,qE,qA,qL,qD]
    refine W_seq (W_reg ?_);simp only [xq,reduceIte,qE,qA,qL,qD]
    refine W_seq (W_reg ?_);simp only [xq,reduceIte,qE,qA,qL,qD]
    refine W_seq (W_reg ?_);simp only [xq,reduceIte,qE,qA,qL,qD]
    refine W_ret ⟨.inr rfl,?_⟩
    simp only [readRs,readR,single,xq,reduceIte,qE,qA,qL,qD,loadsTo,List.take]
    exact .same rfl
  have hk4:¬ c.kind=4:=by simpa using hk
  have hk23:c.kind=2∨c.kind=3:=by omega
  have hrow:0≤c.row:=by
    rcases hk23 with hk | hk
    · rw [rangeG,if_neg hk1,if_pos hk] at q3
      simp at q3;omega
    · rw [rangeG,if_neg hk1,if_neg (by omega),if_pos hk] at q3
      simp only [Bool.and_eq_true,btw_iff] at q3;omega
  let R:=(stepV v c).rows
  have hRl:R.length=v.rows.length:=stepV_len hk1
  have htk:∀ i,i<v.rows.length→R.take (i+1)=R.take i++[trimGl (preRow v c i)]:=fun i hi=>by
    rw [preRow_trim hpre.ed hk23 hrow hi,List.take_add_one,List.getD_eq_getElem?_getD]
    show _=_++[(R[i]?).getD []]
    rw [List.getElem?_eq_getElem (by omega)];rfl
  simp only [xq,reduceIte,qE,qA,qL,qD]
  refine W_seq (W_reg ?_);simp only [xq,reduceIte,qE,qA,qL,qD]
  refine W_seq ?_
  refine W_seq (W_reg ?_);simp only [xq,reduceIte,qE,qA,qL,qD]
  refine W_block ?_
  let S:A→Heap→Nat→St:=fun x t i=>⟨look (stL i),vwB v::cgB c::zeroB::outB v x::t⟩
  refine W_co (s':=S .nil [] 0) (Co.keep _ (by simp [x_upd,x_look])) ?_
  refine W_loop (fun m s=>∃ i x t,i≤v.rows.length∧m=v.rows.length-i∧s=S x t i∧RwsIs t 4 (R.take i) x∧∀ B∈t,HB.under 0 B) ⟨0,.nil,[],Nat.zero_le _,rfl,rfl,.inl ⟨rfl,rfl⟩,by simp⟩ ?_
  rintro m s ⟨i,x,t,hi,rfl,rfl,ho,hut⟩
  simp only [S]
  refine W_seq (W_seq ?_)
  refine W_reg ?_;simp only [xq,reduceIte,qE,qA,qL,qD,Vw.ds,rwRows_len]
  refine W_cond rfl (fun hc=>W_skip ?_) (fun hc=>W_exit ?_)
  · have hlt:i<v.rows.length:=by simpa using hc
    have w1:IntKind.i64.wrap ((i:Int)+1)=((i+1:Nat):Int):=by rw [i64_of (by omega)];omega
    have gv:v.rows.getD i []=v.rows[i]:=by rw [List.getD_eq_getElem?_getD,List.getElem?_eq_getElem hlt];rfl
    have hrl:=hpre.row _ (List.getElem_mem hlt)
    obtain ⟨Hp,hHp⟩:∃ Hp,Hp=vwB v::cgB c::zeroB::outB v x::t:=⟨_,rfl⟩
    have p0:Hp[0]? = some (vwB v):=by rw [hHp];rfl
    have p1:Hp[1]? = some (cgB c):=by rw [hHp];rfl
    have hpl:4≤Hp.length:=by rw [hHp];simp
    have hxu:x.under Hp.length=true:=by
      rcases ho with ⟨rfl,_⟩ | ⟨q,rfl,hq,_⟩
      · rfl
      · have:=(List.getElem?_eq_some_iff.1 hq).1
        simp only [A.under,decide_eq_true_eq,hHp,List.length_cons];omega
    have hup:∀ B∈Hp,HB.under Hp.length B:=by
      intro B hB
      rw [hHp] at hB
      simp only [List.mem_cons] at hB
      rcases hB with rfl | rfl | rfl | rfl | hB
      · exact under_vwB
      · exact under_cgB
      · intro r hr y hy
        simp only [List.mem_cons,List.not_mem_nil,or_false] at hr
        subst hr
        simp only [zrow,List.mem_cons,List.not_mem_nil,or_false] at hy
        rcases hy with rfl | rfl | rfl | rfl | rfl | rfl<;>rfl
      · intro r hr y hy
        simp only [List.mem_cons,List.not_mem_nil,or_false] at hr
        subst hr
        simp only [outRow,List.mem_cons,List.not_mem_nil,or_false] at hy
        rcases hy with rfl | rfl | rfl | rfl | rfl | rfl
        · rfl
        · rfl
        · exact hxu
        · rfl
        · rfl
        · rfl
      · exact HB.under_mono (hut B hB) (Nat.zero_le _)
    rw [← hHp]
    simp only [xq,reduceIte,qE,qA,qL,qD]
    refine W_seq (W_block ?_)
    refine W_seq (W_reg ?_);simp only [xq,reduceIte,qE,qA,qL,qD,p0,Vw.ds,rwRows_len,rwRows_get hlt,Int.toNat_natCast]
    refine ⟨by omega,by omega,?_⟩
    have hpre2:∀ m1:List Gl,(c.kind=2→c.row≤(i:Int)∧(i:Int)<c.upto→m1=if c.row≤(i:Int)+c.count∧(i:Int)+c.count<c.upto then rowAt v.rows ((i:Int)+c.count) else [])→(¬ (c.kind=2∧c.row≤(i:Int)∧(i:Int)<c.upto)→m1=v.rows[i])→True:=fun _ _ _=>trivial
    obtain ⟨m1,hm1⟩:∃ m1,m1=if c.kind=2∧c.row≤(i:Int)∧(i:Int)<c.upto then (if c.row≤(i:Int)+c.count∧(i:Int)+c.count<c.upto then rowAt v.rows ((i:Int)+c.count) else []) else v.rows[i]:=⟨_,rfl⟩
    refine W_cut (· = ⟨look (stL i++[(7,.d (.sl eGl (glRows m1)))]),Hp⟩) ?_ ?_
    · by_cases h2:c.kind=2
      · have d0:decide (c.kind=2)=true:=decide_eq_true h2
        have hq3:=q3
        rw [rangeG,if_neg hk1,if_pos h2] at hq3
        simp only [Bool.and_eq_true,decide_eq_true_eq] at hq3
        by_cases h3:c.row≤(i:Int)
        · have d1:decide (c.row≤(i:Int))=true:=decide_eq_true h3
          by_cases h4:(i:Int)<c.upto
          · have d2:decide ((i:Int)<c.upto)=true:=decide_eq_true h4
            rw [if_pos ⟨h2,h3,h4⟩] at hm1
            refine W_seq (W_reg ?_);simp only [xq,reduceIte,qE,qA,qL,qD,p1,Cg.ds,d0,d1,d2]
            refine W_cond rfl (fun hd=>?_) (fun hd=>by cases hd)
            rw [hm1]
            exact scCode_W (sl:=_) ⟨rfl,rfl,rfl,rfl,rfl⟩ (by omega) p0 p1 (by omega)
          · have d2:decide ((i:Int)<c.upto)=false:=decide_eq_false h4
            rw [if_neg (fun h=>h4 h.2.2)] at hm1
            refine W_seq (W_reg ?_);simp only [xq,reduceIte,qE,qA,qL,qD,p1,Cg.ds,d0,d1,d2]
            refine W_cond rfl (fun hd=>by cases hd) (fun hd=>W_skip ?_)
            rw [hm1]
            exact ⟨rfl,_,Co.keep _ (by simp [x_upd,x_look]),rfl⟩
        · have d1:decide (c.row≤(i:Int))=false:=decide_eq_false h3
          rw [if_neg (fun h=>h3 h.2.1)] at hm1
          refine W_seq (W_reg ?_);simp only [xq,reduceIte,qE,qA,qL,qD,p1,Cg.ds,d0,d1,undefA,Bool.true_eq_false]
          refine W_cond rfl (fun hd=>by cases hd) (fun hd=>W_skip ?_)
          rw [hm1]
          exact ⟨rfl,_,Co.keep _ (by simp [x_upd,x_look]),rfl⟩
      · have d0:decide (c.kind=2)=false:=decide_eq_false h2
        rw [if_neg (fun h=>h2 h.1)] at hm1
        refine W_seq (W_reg ?_);simp only [xq,reduceIte,qE,qA,qL,qD,p1,Cg.ds,d0,undefA,Bool.true_eq_false]
        refine W_cond rfl (fun hd=>by cases hd) (fun hd=>W_skip ?_)
        rw [hm1]
        exact ⟨rfl,_,Co.keep _ (by simp [x_upd,x_look]),rfl⟩
    rintro _ rfl
    have hpr:preRow v c i=if c.kind=3∧(i:Int)=c.row then (padR m1 c.col.toNat).take c.col.toNat++c.gl++(padR m1 c.col.toNat).drop (c.col.toNat+c.count.toNat) else m1:=by
      unfold preRow
      rw [gv,hm1]
      by_cases h2:c.kind=2
      · rw [if_pos h2,if_neg (show ¬ (c.kind=3∧(i:Int)=c.row) by omega)]
        by_cases h3:c.row≤(i:Int)∧(i:Int)<c.upto
        · have h23:c.kind=2∧c.row≤(i:Int)∧(i:Int)<c.upto:=⟨h2,h3⟩
          rw [if_pos h3,if_pos h23]
        · rw [if_neg h3,if_neg (fun h=>h3 h.2)]
      · rw [if_neg h2,if_neg (fun h:c.kind=2∧_=>h2 h.1)]
    have hm1l:m1.length≤50000:=by
      rw [hm1]
      split
      · split
        · exact rowAt_len hpre.row
        · exact Nat.zero_le _
      · exact hrl
    clear hpre2
    have hpl2:(preRow v c i).length≤60000:=by
      rw [hpr]
      split
      · rename_i h3
        rw [rangeG,if_neg hk1,if_neg (by omega),if_pos h3.1] at q3
        simp only [Bool.and_eq_true,btw_iff] at q3
        have:=padR_len (l:=m1) (n:=c.col.toNat)
        have:=hpre.gl
        simp only [List.length_append,List.length_take,List.length_drop]
        omega
      · omega
    refine W_cut (· = ⟨look (stL i++[(7,.d (.sl eGl (glRows (preRow v c i))))]),Hp⟩) ?_ ?_
    · by_cases h2:c.kind=3
      · have d0:decide (c.kind=3)=true:=decide_eq_true h2
        by_cases h3:(i:Int)=c.row
        · have d1:decide ((i:Int)=c.row)=true:=decide_eq_true h3
          have hm1e:m1=v.rows[i]:=by rw [hm1,if_neg (by omega)]
          rw [rangeG,if_neg hk1,if_neg (by omega),if_pos h2] at q3
          simp only [Bool.and_eq_true,btw_iff] at q3
          have hra:rowAt v.rows c.row=m1:=by
            unfold rowAt
            rw [← h3,Int.toNat_natCast,gv,hm1e]
          rw [hra] at q3
          rw [hpr,if_pos ⟨h2,h3⟩]
          refine W_seq (W_reg ?_);simp only [xq,reduceIte,qE,qA,qL,qD,p1,Cg.ds,d0,d1]
          refine W_cond rfl (fun hd=>?_) (fun hd=>by cases hd)
          exact spCode_W (sl:=_) ⟨rfl,rfl,rfl,rfl,rfl⟩ rfl (col:=c.col.toNat) (cnt:=c.count.toNat) (by omega) (by omega) (by omega) (by omega) hm1l hpre.gl p1 hup hpl
        · have d1:decide ((i:Int)=c.row)=false:=decide_eq_false h3
          rw [hpr,if_neg (fun h=>h3 h.2)]
          refine W_seq (W_reg ?_);simp only [xq,reduceIte,qE,qA,qL,qD,p1,Cg.ds,d0,d1]
          refine W_cond rfl (fun hd=>by cases hd) (fun hd=>W_skip ?_)
          exact ⟨rfl,_,Co.keep _ (by simp [x_upd,x_look]),rfl⟩
      · have d0:decide (c.kind=3)=false:=decide_eq_false h2
        rw [hpr,if_neg (fun h=>h2 h.1)]
        refine W_seq (W_reg ?_);simp only [xq,reduceIte,qE,qA,qL,qD,p1,Cg.ds,d0,undefA,Bool.true_eq_false]
        refine W_cond rfl (fun hd=>by cases hd) (fun hd=>W_skip ?_)
        exact ⟨rfl,_,Co.keep _ (by simp [x_upd,x_look]),rfl⟩
    rintro _ rfl
    have hT:=Ht (preRow v c i) (by omega)
    obtain ⟨nr,hnr⟩:∃ nr,nr=trimGl (preRow v c i):=⟨_,rfl⟩
    rw [← hnr] at hT
    have htk':=htk i hlt
    rw [← hnr] at htk'
    have haccl:(R.take i).length=i:=by rw [List.length_take];omega
    obtain ⟨o,hod⟩:∃ o,o=R.take i:=⟨_,rfl⟩
    rw [← hod] at ho htk' haccl
    clear hpr hpl2 hm1l hm1 hup hxu p0 p1 hpl
    rw [hHp]
    have next:∀ (sl:Nat→A) (x2:A) (t2:Heap),sl 2 = .ptr 0 1 0 0→sl 3 = .ptr 1 1 0 0→sl 4 = .ptr 2 1 0 0→sl 5 = .ptr 3 1 0 0→sl 6 = .int ((i+1:Nat):Int)→RwsIs t2 4 (o++[nr]) x2→(∀ B∈t2,HB.under 0 B) →
        ∃ m' s'',m'<v.rows.length-i∧Co 0 ⟨sl,vwB v::cgB c::zeroB::outB v x2::t2⟩ s''∧∃ i x t,i≤v.rows.length∧m'=v.rows.length-i∧s''=S x t i∧RwsIs t 4 (R.take i) x∧∀ B∈t,HB.under 0 B:=by
      intro sl x2 t2 q2 q3 q4 q5 q6 ho2 hu2
      refine ⟨v.rows.length-(i+1),S x2 t2 (i+1),by omega,Co.keep _ (by simp [q2,q3,q4,q5,q6]),i+1,x2,t2,hlt,rfl,rfl,by rw [htk'];exact ho2,hu2⟩
    have hu1:∀ (y:HB),y=rwLB [nr]→HB.under 0 y:=fun y hy=>by subst hy;exact under_d
    rcases ho with ⟨rfl,hnil⟩ | ⟨q,rfl,hq,hne⟩
    · refine W_drw (by simp) ?_
      simp only [xq,reduceIte,qE,qA,qL,qD,outRow]
      refine c_fn (hT) rfl ?_;simp only [xq,reduceIte,qE,qA,qL,qD,hr_g0,hp_gk,hp_sk,hp_g0,hp_g1,hp_s0,hp_s1,List.append_assoc]
      rw [if_neg (by simp)]
      refine ⟨by decide,by decide,?_⟩
      simp only [xq,reduceIte,qE,qA,qL,qD,outRow]
      refine W_reg ?_;simp only [xq,reduceIte,qE,qA,qL,qD,w1]
      have he:(t++[rwLB [nr],rwLB [nr]])[t.length+1]? = some (rwLB [nr]):=by rw [hp_g1]
      refine next _ (.ref (t.length+1+4) 1 0 1 true) (t++[rwLB [nr],rwLB [nr]]) ?_ ?_ ?_ ?_ ?_ (.inr ⟨t.length+1,?_,?_,by simp⟩) ?_
      iterate 5 rfl
      · rw [hnil];rfl
      · rw [hnil];exact he
      · intro B hB
        rcases List.mem_append.1 hB with hB | hB
        · exact hut B hB
        · simp only [List.mem_cons,List.not_mem_nil,or_false,or_self] at hB
          exact hu1 B hB
    · have hql:=(List.getElem?_eq_some_iff.1 hq).1
      have gq:∀ t':Heap,(t++t')[q]? = some (rwLB o):=fun t'=>hp_gl hq
      have sq:∀ (t':Heap) X,(t++t').set q X=t.set q X++t':=fun t' X=>List.set_append_left _ _ hql
      refine W_drw (by simp) ?_
      simp only [xq,reduceIte,qE,qA,qL,qD,outRow]
      refine c_fn (hT) rfl ?_;simp only [xq,reduceIte,qE,qA,qL,qD,hr_g0,hp_gk,hp_sk,hp_g0,hp_g1,hp_s0,hp_s1,List.append_assoc,gq,sq,rwRows_len,haccl]
      refine ⟨by simp only [room];omega,by simp only [maxLen];omega,?_⟩
      simp only [xq,reduceIte,qE,qA,qL,qD,outRow]
      refine W_reg ?_;simp only [xq,reduceIte,qE,qA,qL,qD,w1]
      have e:rwLB (o++[nr]) = .cells eRw (((rwRows o).map fun r=>r.map A.d)++[[.d (.sl eGl (glRows nr))]]):=by simp only [rwLB,rwRows_app,List.map_append];rfl
      refine next _ (.ref (q+4) (i+1) 0 (i+1) true) (t.set q (.cells eRw (((rwRows o).map fun r=>r.map A.d)++[[.d (.sl eGl (glRows nr))]]))++[rwLB [nr],.res]) ?_ ?_ ?_ ?_ ?_ (.inr ⟨q,?_,?_,by simp⟩) ?_
      iterate 5 rfl
      · rw [List.length_append,haccl];rfl
      · rw [List.getElem?_append_left (by simpa using hql),List.getElem?_set_self hql,e]
      · intro B hB
        rcases List.mem_append.1 hB with hB | hB
        · rcases List.mem_or_eq_of_mem_set hB with hB | rfl
          · exact hut B hB
          · rw [← e];exact under_d
        · simp only [List.mem_cons,List.not_mem_nil,or_false] at hB
          rcases hB with rfl | rfl
          · exact hu1 _ rfl
          · trivial
  · have hle:i=v.rows.length:=by simp at hc;omega
    subst hle
    rw [← hRl,List.take_length] at ho
    simp only [xq,reduceIte,qE,qA,qL,qD]
    refine W_seq (W_reg ?_);simp only [xq,reduceIte,qE,qA,qL,qD,outRow]
    refine W_ret ⟨.inr rfl,?_⟩
    simp only [readRs,readR,single,xq,reduceIte,qE,qA,qL,qD,loadsTo,List.take]
    have:=out_frz (h:=[vwB v,cgB c,outB v x,outB v x]) (t:=t) (v:=stepV v c) ho
    rw [stepV_size hk23] at this
    exact this
end Go.Proofs.YtknmhbbmopnfjaaDoor.Nx

import Derived.Test.YtigfbnglplbbpaaDoorNxI6
import Derived.Test.YtigfbnglplbbpaaDoorNxE39
set_option linter.unusedSimpArgs false
set_option linter.unusedVariables false
set_option linter.unnecessarySimpa false
open List renaming getElem?_eq_some_iff → zA, append_assoc → zS, map_cons → zU, map_nil → zV, length_cons → za, length_append → zb, not_mem_nil → zc, mem_cons → zp
open Bool renaming true_eq_false → zE
open Nat renaming zero_le → zI
open Nat renaming reduceEqDiff → qE, reduceAdd → qA, reduceLT → qL, reduceLeDiff → qD
namespace Go.Proofs.YtigfbnglplbbpaaDoor.Nx
open Go
variable {P:Program} {N:Nat} {Γ:Tabs}
theorem ce_clo {g:FuncId} {Δ:Ctx} {h h':Heap} {K:A→Heap→Prop} {args caps:List A} {r:A} (hf:FnD Δ P g (args++caps) h r h') (hK:K r h'):Calle (.all Δ P) h K args (.fn g caps):=⟨r,h',hf,hK⟩
theorem getD_sm {v:Vw} {n i:Nat} (s:Sm v n):(v.rows.getD i []).length≤n:=by
  rcases getD_mem (rows:=v.rows) (n:=i) with h | h
  · rw [h];exact zI _
  · exact s.row _ h
theorem splicesTo_len {x b:Vw} (sx:Sm x 50000) (sb:Sm b 50000):∀ n,(splicesTo x b n).length≤200001 * n
  | 0=>by simp [splicesTo]
  | n+1=>by
    have ih:=splicesTo_len sx sb n
    have:=splices_len (row:=n) (getD_sm (i:=n) sx) (getD_sm (i:=n) sb)
    rw [splicesTo,zb]
    omega
theorem cursorV_len (x b:Vw):(cursorV x b).length≤1:=by unfold cursorV;split<;>simp
theorem rest_len {x b:Vw} (sx:Sm x 50000) (sb:Sm b 50000):(restV x b).length≤200001 * b.rows.length+1:=by
  have:=splicesTo_len sx sb b.rows.length
  have:=cursorV_len x b
  rw [restV,zb];omega
theorem rest_few {x b:Vw} (sx:Sm x 140) (sb:Sm b 140) (hb:b.rows.length≤60):Few (restV x b) :=
  ⟨by have:=rest_len (sx.mono (by omega:140≤50000)) (sb.mono (by omega:140≤50000));omega,fun c hc=>by have:=(rest_ok (x:=x) sb c hc).len;omega⟩
theorem scroll_sm {v:Vw} {c:Cg} {n:Nat} (hk:c.kind=2) (s:Sm v n):Sm (stepV v c) n:=by
  have hst:stepV v c={ v with rows:=scrollL v.rows c.row c.upto c.count }:=by unfold stepV;rw [if_neg (by omega),if_pos hk]
  rw [hst]
  refine ⟨fun r hr=>?_,fun r hr g hg=>?_⟩
  · rcases scrollL_mem hr with rfl | hr
    · exact zI _
    · exact s.row r hr
  · rcases scrollL_mem hr with rfl | hr
    · simp at hg
    · exact s.txt r hr g hg
theorem scroll_rows {v:Vw} {c:Cg} (hk:c.kind=2):(stepV v c).rows.length=v.rows.length:=by
  have hst:stepV v c={ v with rows:=scrollL v.rows c.row c.upto c.count }:=by unfold stepV;rw [if_neg (by omega),if_pos hk]
  rw [hst];exact scrollL_len
theorem diff1_fn {f fc:FuncId} (H:FnIs P f N [.t 3] (x_viewdiff_Diff_1 fc)) (hN:2≤N) (Hc:CostOk Γ P fc) (l w:List Cg) (hl:Few l) (hw:Few w) (h:Heap) (q:Nat) (hq:h[q]? = some (.cells eRw [[cgsA w]])) :
    FnD Γ.ctx P f [cgsA l,.ptr q 1 0 0] h (.bool (decide (cost20 l<cost20 w))) h:=by
  refine .of_W H (by simpa using hN) (zI _) ?_
  unfold x_viewdiff_Diff_1
  refine W_seq (W_reg ?_);simp only [xq,reduceIte,qE,qA,qL,qD]
  refine W_seq (W_drw (by simp) ?_);simp only [xq,reduceIte,qE,qA,qL,qD,List.replicate_zero,List.append_nil,hq]
  refine c_fn (Hc l hl) rfl ?_;simp only [xq,reduceIte,qE,qA,qL,qD,hq]
  refine c_fn (Hc w hw) rfl ?_;simp only [xq,reduceIte,qE,qA,qL,qD,hq]
  refine W_ret ⟨.inr rfl,?_⟩
  simp only [readRs,readR,single,x_upd,reduceIte,qE,x_look,argS,xq,reduceIte,qE,qA,qL,qD,loadsTo]
abbrev FindOk (Γ:Tabs) (P:Program) (f:FuncId):Prop:=∀ m b:Vw,m.rows.length≤1000→b.rows.length≤1000→FnP Γ P f [vwA m,vwA b] (fndA (findV m b))
abbrev CollOk (Γ:Tabs) (P:Program) (f f1:FuncId):Prop:=∀ x b:Vw,x.rows.length=b.rows.length→b.rows.length≤1000→Sm x 50000→Sm b 50000→FnP Γ P f [.fn f1 [.iptr b.ds,.iptr x.ds]] (cgsA (restV x b))
abbrev SplOk (Γ:Tabs) (P:Program) (f:FuncId):Prop:=∀ (row:Int) (a b:List Gl),a.length≤50000→b.length≤50000→FnP Γ P f [.int row,.d (.sl eGl (glRows a)),.d (.sl eGl (glRows b))] (cgsA (splicesV row a b))
theorem coll_ok {fc fA f1 fs:FuncId} {Nc NA N1:Nat} (H:FnIs P fc Nc [.t 2] (x_slices_Collect_706 fA)) (hN:1≤Nc) (HA:FnIs P fA NA [.t 4] x_slices_AppendSeq_772) (hNA:2≤NA) (H1:FnIs P f1 N1 [] (x_viewdiff_rest_1 fs)) (hN1:3≤N1) (Hs:SplOk Γ P fs):CollOk Γ P fc f1:=by
  intro x b hlen hbl sx sb
  have hl:=rest_len sx sb
  exact collectC_fn H hN HA hNA (restV x b) (rest1_gen H1 hN1 x b (by omega) hbl sx sb Hs) rfl (by simp only [room];omega)
theorem find_ok {ff fm fg fb f1 f2 fc fe fs:FuncId} {Nf Nm Ng Nb N1 N2 Nc Ne:Nat} (H:FnIs P ff Nf [.c 4 6 true,.t 5] (x_scrolldiff_Find fm fg fb)) (hN:2≤Nf) (Hm:FnIs P fm Nm [.t 4] x_scrolldiff_match) (hNm:2≤Nm) (Hg:FnIs P fg Ng [.t 10] (x_scrolldiff_gain f1 fc f2)) (hNg:5≤Ng)
    (Hb:FnIs P fb Nb [.t 4] x_scrolldiff_candidate_better) (hNb:2≤Nb) (H1:FnIs P f1 N1 [.t 7] (x_scrolldiff_gain_1 fe)) (hN1:6≤N1) (H2:FnIs P f2 N2 [.t 4] (x_scrolldiff_gain_2 fe)) (hN2:3≤N2) (Hc:FnIs P fc Nc [.t 6] x_scrolldiff_count) (hNc:3≤Nc)
    (He:FnIs P fe Ne [.t 4] (x_scrolldiff_equal fs)) (hNe:2≤Ne) (Hs:RowEqOk Γ P fs):FindOk Γ P ff:=by
  intro m b hm hb
  have he:RowEqOk Γ P fe:=sequal_fn He hNe Hs
  refine find_fn H hN m b hm (match_fn Hm hNm m b) (fun hk top bot y htb hbo hy=>?_) (fun c d hc hd=>better_fn Hb hNb c d hc hd)
  have hab:m.rows.length=b.rows.length:=by
    simp only [matchV,Bool.and_eq_true,decide_eq_true_eq] at hk
    omega
  exact gain_fn Hg hNg m b top bot y hb hab htb hbo hy (fun i hi=>gain1_fn H1 hN1 he m b top bot y i hi (by omega) (by omega) hb hy) (fun i hi=>gain2_fn H2 hN2 he m b i (by omega) hi)
    (fun g caps p h0 hp=>count_fn Hc hNc top bot (by omega) htb p h0 hp)
abbrev DiffOk (Γ:Tabs) (P:Program) (f:FuncId):Prop:=∀ a b:Vw,Sm a 140→Sm b 140→FnP Γ P f [vwA a,vwA b] (cgsA (diffV a b))
theorem frz_cgs {k:Nat} {h:Heap} {q:Nat} {l:List Cg} (hk:k≤q) (hq:h[q]? = some (cgLB l)):FrzA k h (.ref q l.length 0 l.length true) (cgsA l):=by
  have:=frzD_rows (k:=k) (id:=q) (off:=0) (len:=l.length) (full:=true) (e:=eCg) (rows:=cgRows l) hk hq (by rw [cgRows_len];omega)
  rw [cgRows_len,List.drop_zero,List.take_of_length_le (by rw [cgRows_len];exact Nat.le_refl _)] at this
  exact .d this
theorem under_cgLB {k:Nat} {l:List Cg}:HB.under k (cgLB l):=by
  intro r hr x hx
  obtain ⟨r',_,rfl⟩:=List.mem_map.1 hr
  obtain ⟨d,_,rfl⟩:=List.mem_map.1 hx
  rfl
structure DfI (a b:Vw) (x:A) (h:Heap):Prop where
  out:OutIs h (pre20 a b) x
  und:∀ k,∀ B∈h,HB.under k B
end Go.Proofs.YtigfbnglplbbpaaDoor.Nx
namespace Go.Proofs.YtigfbnglplbbpaaDoor.Nx
open Go
variable {P:Program} {N:Nat} {Γ:Tabs}
theorem und_onlyB {q:Nat} {l:List Cg} {h:Heap} (hq:h[q]? = some (cgLB l)):∀ k,∀ B∈onlyB q h,HB.under k B:=by
  intro k B hB
  obtain ⟨i,hi⟩:=List.mem_iff_getElem?.1 hB
  simp only [onlyB,List.getElem?_mapIdx,Option.map_eq_some_iff] at hi
  obtain ⟨B0,h0,rfl⟩:=hi
  split
  · rename_i h1
    subst h1
    rw [hq] at h0
    cases h0
    exact under_cgLB
  · trivial
set_option maxHeartbeats 4000000 in
theorem diff20_fn {f fv fp fr fcol fd ff f1:FuncId} (H:FnIs P f N [.t 4] (x_viewdiff_Diff fv fp fr fcol fd ff)) (hN:2≤N) (Hv:VchkOk Γ P fv) (Hp:ApNOk Γ P fp) (Hr:∀ x b:Vw,FnP Γ P fr [vwA x,vwA b] (.fn f1 [.iptr b.ds,.iptr x.ds])) (Hcol:CollOk Γ P fcol f1)
    (Hd:∀ l w:List Cg,Few l→Few w→∀ (h:Heap) (q:Nat),h[q]? = some (.cells eRw [[cgsA w]])→FnD Γ.ctx P fd [cgsA l,.ptr q 1 0 0] h (.bool (decide (cost20 l<cost20 w))) h) (Hf:FindOk Γ P ff):DiffOk Γ P f:=by
  intro a b sa sb
  refine .of_W H (by simpa using hN) ?_
  have hva:=Hv a (sa.mono (by omega))
  have hvb:=Hv b (sb.mono (by omega))
  simp only [vwA,Vw.ds,zU,zV] at hva hvb
  unfold x_viewdiff_Diff
  simp only [vwA,Vw.ds,zU,zV]
  refine W_seq (W_reg ?_);simp only [xq,reduceIte,qE,qA,qL,qD]
  refine W_co (frz_boxes (a:=a) (b:=b) (t:=[]) (h:=[]) [] (by simp [x_upd,x_look]) (by simp [x_upd,x_look]) (by simp)) ?_
  refine W_seq (W_cut (· = ⟨look [(2,.iptr a.ds),(3,.iptr b.ds),(22,.bool (!(decide (viewC a=0)&&decide (viewC b=0))))],[]⟩) (W_reg ?_) ?_)
  · cases e1:decide (viewC a=0)
    · simp only [xq,reduceIte,qE,qA,qL,qD,Vw.ds]
      refine c_fn (hva) rfl ?_;simp only [xq,reduceIte,qE,qA,qL,qD,e1,undefA,zE]
      exact ⟨_,Co.keep _ (by simp [x_upd,x_look,Vw.ds]),rfl⟩
    · simp only [xq,reduceIte,qE,qA,qL,qD,Vw.ds]
      refine c_fn (hva) rfl ?_;simp only [xq,reduceIte,qE,qA,qL,qD,e1,undefA,zE]
      refine c_fn (hvb) rfl ?_;simp only [xq,reduceIte,qE,qA,qL,qD,undefA,zE]
      exact ⟨_,Co.keep _ (by simp [x_upd,x_look,Vw.ds]),rfl⟩
  rintro _ rfl
  refine W_cond rfl (fun hd=>?_) (fun hd=>W_skip ?_)
  · have hd:¬ (viewC a=0∧viewC b=0):=by simp at hd;omega
    refine W_seq (W_reg ?_);simp only [xq,reduceIte,qE,qA,qL,qD]
    refine W_ret ?_
    simp only [xq,reduceIte,qE,qA,qL,qD]
    rw [diffV,if_neg hd]
    exact .frz (.d (.nil _))
  obtain ⟨ha,hb⟩:viewC a=0∧viewC b=0:=by simpa using hd
  have hdv:diffV a b=pre20 a b++way20 (m20 a b) b:=by rw [diffV,if_pos ⟨ha,hb⟩]
  rw [hdv]
  obtain ⟨hm,hmw,hmh⟩:=m20_ok ha hb
  obtain ⟨ea,_⟩:=viewC_zero.1 ha
  obtain ⟨eb,_⟩:=viewC_zero.1 hb
  obtain ⟨em,_⟩:=viewC_zero.1 hm
  have sza:=szOk_iff.1 ea.sz
  have szb:=szOk_iff.1 eb.sz
  have lb:=eb.len
  have lm:=em.len
  have sm:Sm (m20 a b) 140:=m20_sm sa
  have hsa:=sized_apply ha hb
  have hpre:pre20 a b=if a.width=b.width∧a.height=b.height then [] else [sizeCg b]:=rfl
  have hm20:m20 a b=if a.width=b.width∧a.height=b.height then a else sizeV a b.height b.width:=rfl
  simp only [xq,reduceIte,qE,qA,qL,qD]
  refine W_seq (W_reg ?_);simp only [xq,reduceIte,qE,qA,qL,qD]
  refine W_seq (W_reg ?_);simp only [xq,reduceIte,qE,qA,qL,qD,Vw.ds]
  let R1:St→Prop:=fun s=>∃ x h,s=⟨look [(3,.iptr b.ds),(5,x),(6,.iptr (m20 a b).ds)],h⟩∧DfI a b x h
  refine W_cut R1 ?_ ?_
  · refine W_cut (· = ⟨look [(2,.iptr a.ds),(3,.iptr b.ds),(5,.nil),(6,.ptr 0 1 0 0),(35,.bool (!(decide (a.width=b.width)&&decide (a.height=b.height))))],[vwB a]⟩) (W_reg ?_) ?_
    · cases e1:decide (a.width=b.width)
      · simp only [xq,reduceIte,qE,qA,qL,qD,Vw.ds,e1,undefA,zE]
        exact ⟨_,Co.keep _ (by simp [x_upd,x_look,Vw.ds]),rfl⟩
      · simp only [xq,reduceIte,qE,qA,qL,qD,Vw.ds,e1,undefA,zE]
        exact ⟨_,Co.keep _ (by simp [x_upd,x_look,Vw.ds]),rfl⟩
    rintro _ rfl
    refine W_cond rfl (fun hd=>?_) (fun hd=>W_skip ?_)
    · have hd:¬ (a.width=b.width∧a.height=b.height):=by simp at hd;omega
      rw [if_neg hd] at hpre hm20
      let L0:HB:=.cells eCg [[.int 1,.int b.height,.int b.width,.int 0,.int 0,.nil]]
      refine W_seq (W_reg ?_);simp only [xq,reduceIte,qE,qA,qL,qD,Vw.ds]
      rw [if_neg (by simp)]
      refine ⟨by decide,by decide,?_⟩
      refine W_co (Co.viewLast (h:=[vwB a,L0]) (e:=eCg) (r:=[.int 1,.int b.height,.int b.width,.int 0,.int 0,.nil]) (r2:=(sizeCg b).ds.map .d) [(2,.iptr a.ds),(3,.iptr b.ds),(5,.ref 2 1 0 1 true),(6,.ptr 0 1 0 0)] (by simp [x_upd,x_look,Vw.ds]) rfl ?_) ?_
      · intro j y hj
        rcases j with _ | _ | _ | _ | _ | _ | j
        · cases hj;exact .inl rfl
        · cases hj;exact .inl rfl
        · cases hj;exact .inl rfl
        · cases hj;exact .inl rfl
        · cases hj;exact .inl rfl
        · cases hj;exact .inr ⟨.nil _,_,rfl⟩
        · simp [sizeCg,Cg.ds] at hj
      have hA:FnD Γ.ctx P fp [vwA a,.ref 2 1 0 1 true] [vwB a,L0,cgLB [sizeCg b]] (apA (applyV a [sizeCg b])) [vwB a,L0,cgLB [sizeCg b]] :=
        Hp.lend (v:=a) (l:=[sizeCg b]) ⟨sa.mono (by omega),fun _=>by rw [sizeCg_step];exact sizeV_sm (sa.mono (by omega))⟩ (fun c hc=>by rw [List.mem_singleton] at hc;subst hc;exact ⟨by simp [sizeCg],by simp [sizeCg]⟩) (.same rfl) (frz_cgs (l:=[sizeCg b]) (zI _) rfl)
      rw [hsa,← hm20] at hA
      obtain ⟨m,hmx⟩:∃ m,m=m20 a b:=⟨_,rfl⟩
      rw [← hmx] at hA
      simp only [apA,vwA,Vw.ds,zU,zV] at hA
      refine W_reg ?_;simp only [xq,reduceIte,qE,qA,qL,qD,Vw.ds]
      refine ce_fn hA ?_
      simp only [xq,reduceIte,qE,qA,qL,qD,Vw.ds]
      have hq:([vwB m,L0,cgLB [sizeCg b]]:Heap)[2]? = some (cgLB [sizeCg b]):=rfl
      refine ⟨_,Co.gc1 (h:=[vwB m,L0,cgLB [sizeCg b]]) 2 hq (fun r hr x hx=>?_) [(3,.iptr b.ds),(5,.ref 2 1 0 1 true),(6,.iptr m.ds)] ?_,.ref 2 1 0 1 true,onlyB 2 [vwB m,L0,cgLB [sizeCg b]],by rw [hmx],⟨.inr ⟨2,by rw [hpre];rfl,by rw [hpre];exact onlyB_get hq,by rw [hpre];simp⟩,und_onlyB hq⟩⟩
      · obtain ⟨r',_,rfl⟩:=List.mem_map.1 hr
        obtain ⟨d,_,rfl⟩:=List.mem_map.1 hx
        rfl
      · intro p hp
        simp only [zp,zc,or_false] at hp
        rcases hp with rfl | rfl | rfl
        · left;simp [x_upd,x_look,A.keptIn,Vw.ds]
        · left;simp [x_upd,x_look,A.keptIn]
        · right;simp only [x_upd,x_look];exact frz_box (zI _) (e:=eVw) rfl
    · have hd:a.width=b.width∧a.height=b.height:=by simpa using hd
      rw [if_pos hd] at hpre hm20
      refine ⟨rfl,_,Co.frz (s:=⟨_,[vwB a]⟩) [(3,.iptr b.ds),(5,.nil),(6,.iptr (m20 a b).ds)] 0 ?_ (zI _) (zI _) u0,.nil,[],rfl,⟨.inl ⟨rfl,hpre⟩,by simp⟩⟩
      intro p hp
      simp only [zp,zc,or_false] at hp
      rcases hp with rfl | rfl | rfl
      · exact .same rfl
      · exact .same rfl
      · rw [hm20];exact frz_box (zI _) (e:=eVw) rfl
  rintro _ ⟨x,h,rfl,hI⟩
  clear hva hvb hsa hpre hm20 hdv
  have hmr:(m20 a b).rows.length=b.rows.length:=by omega
  have hb60:b.rows.length≤60:=by omega
  generalize m20 a b=m at *
  have smb:=sm.mono (show 140≤50000 by omega)
  have sbb:=sb.mono (show 140≤50000 by omega)
  have hway:way20 m b=if (findV m b).2=true∧(applyV m [(findV m b).1]).2.2=0∧cost20 (oth20 m b)<cost20 (restV m b) then oth20 m b else restV m b:=rfl
  have hoth:oth20 m b=(findV m b).1::restV (applyV m [(findV m b).1]).1 b:=rfl
  have hform:=findV_form (a:=m) (b:=b)
  obtain ⟨c,ok,hfd⟩:∃ c ok,findV m b=(c,ok):=⟨_,_,rfl⟩
  have hR:=Hr m b
  have hC:=Hcol m b hmr (by omega) smb sbb
  have hF:=Hf m b (by omega) (by omega)
  have fw:=rest_few sm sb hb60
  rw [hfd] at hway hoth hform hF
  simp only at hway hoth hform
  simp only [fndA,vwA,cgA,Vw.ds,Cg.ds,zU,zV] at hR hC hF
  obtain ⟨w,hw⟩:∃ w,w=restV m b:=⟨_,rfl⟩
  rw [← hw] at hC hway fw
  let wB:List Cg→HB:=fun w=>.cells eRw [[cgsA w]]
  have uW:∀ (w:List Cg) (k:Nat),∀ B∈h++[wB w],HB.under k B:=by
    intro w k B hB
    rcases List.mem_append.1 hB with hB | hB
    · exact hI.und k B hB
    · simp only [List.mem_singleton] at hB
      subst hB
      intro r hr x hx
      simp only [List.mem_singleton] at hr
      subst hr
      simp only [List.mem_singleton] at hx
      subst hx;rfl
  have xu:x.under (h.length+1)=true:=by
    rcases hI.out with ⟨rfl,_⟩ | ⟨q,rfl,hq,_⟩
    · rfl
    · have:=(zA.1 hq).1
      simp only [A.under,decide_eq_true_eq];omega
  refine W_seq (W_reg ?_);simp only [xq,reduceIte,qE,qA,qL,qD,Vw.ds]
  refine c_fn (hR) rfl ?_;simp only [xq,reduceIte,qE,qA,qL,qD]
  refine c_fn hC rfl ?_
  simp only [xq,reduceIte,qE,qA,qL,qD,hp_g0,hp_s0]
  refine W_seq (W_reg ?_);simp only [xq,reduceIte,qE,qA,qL,qD]
  let R2:St→Prop:=fun s=>∃ w',w'=way20 m b∧s=⟨look [(5,x),(7,.ptr h.length 1 0 0)],h++[wB w']⟩
  have trim:∀ (sl:Nat→A) (t:Heap) (w':List Cg),sl 5=x→sl 7 = .ptr h.length 1 0 0→w'=way20 m b→∃ s1,Co 0 ⟨sl,h++wB w'::t⟩ s1∧R2 s1:=by
    intro sl t w' h5 h7 hw'
    have e:(h++wB w'::t).take (h.length+1)=h++[wB w']:=by
      rw [show h++wB w'::t=(h++[wB w'])++t by simp,List.take_append_of_le_length (by simp)];exact List.take_of_length_le (by simp)
    have:=Co.to (n0:=0) (s:=⟨sl,h++wB w'::t⟩) [(5,x),(7,.ptr h.length 1 0 0)] (h.length+1) (by
      intro p hp
      simp only [zp,zc,or_false] at hp
      rcases hp with rfl | rfl
      · exact ⟨h5,xu⟩
      · exact ⟨h7,by simp [A.under]⟩) (zI _) (by show h.length+1≤(h++wB w'::t).length;simp) (by
      show ∀ B∈(h++wB w'::t).take (h.length+1),HB.under (h.length+1) B
      rw [e];exact uW w' _)
    simp only [e] at this
    exact ⟨_,this,w',hw',rfl⟩
  refine W_cut R2 ?_ ?_
  · refine W_seq (W_reg ?_);simp only [xq,reduceIte,qE,qA,qL,qD,Vw.ds]
    refine c_fn (hF) rfl ?_;simp only [xq,reduceIte,qE,qA,qL,qD]
    simp only [hp_g0,hp_g1,hp_gk,hp_s0,hp_s1,zS,xq,reduceIte,qE,qA,qL,qD]
    refine W_seq (W_reg ?_);simp only [xq,reduceIte,qE,qA,qL,qD]
    cases ok with
    | false =>
      refine W_cond rfl (fun hd=>by cases hd) (fun hd=>W_skip ?_)
      rw [if_neg (by simp)] at hway
      refine ⟨rfl,?_⟩
      refine trim _ _ w ?_ ?_ hway.symm<;>simp [x_upd,x_look]
    | true =>
      refine W_cond rfl (fun hd=>?_) (fun hd=>by cases hd)
      obtain ⟨hk,_,hgl⟩:=hform rfl
      obtain ⟨n,i,e,hap⟩:∃ n i e,applyV m [c]=(n,i,e):=⟨_,_,_,rfl⟩
      have hok:CgOk c:=⟨by rw [hgl];simp,by rw [hgl];simp⟩
      have hA:FnD Γ.ctx P fp [vwA m,.ref (h.length+2) 1 0 1 true] (h++[wB w,cgB c,cgLB [c]]) (apA (applyV m [c])) (h++[wB w,cgB c,cgLB [c]]) :=
        Hp.lend (v:=m) (l:=[c]) ⟨smb,fun _=>scroll_sm hk smb⟩ (fun d hd=>by rw [List.mem_singleton] at hd;subst hd;exact hok) (.same rfl) (frz_cgs (l:=[c]) (zI _) hp_gk)
      have hend:=(applyV_ends m [c]).1
      rw [hap] at hA hend hway hoth
      simp only at hend hway hoth
      simp only [apA,vwA,Vw.ds,zU,zV] at hA
      refine W_co (s':=⟨look [(3,.iptr b.ds),(5,x),(6,.iptr m.ds),(7,.ptr h.length 1 0 0),(8,.fn fd [.ptr h.length 1 0 0]),(9,.ptr (h.length+1) 1 0 0)],h++[wB w,cgB c]⟩) (Co.keep _ (by simp [x_upd,x_look,Vw.ds])) ?_
      refine W_seq (W_reg ?_);simp only [xq,reduceIte,qE,qA,qL,qD,Vw.ds,Cg.ds,hp_g0,hp_g1,hp_gk,zS]
      refine ce_fn hA ?_
      simp only [xq,reduceIte,qE,qA,qL,qD,hp_g0,hp_g1,hp_gk,hp_s0,hp_s1,hp_sk,zS]
      refine W_seq (W_reg ?_);simp only [xq,reduceIte,qE,qA,qL,qD]
      refine W_cond rfl (fun hd=>?_) (fun hd=>W_skip ?_)
      · have he:e=0:=by simpa using hd
        subst he
        obtain ⟨_,_,hn⟩:=hend rfl
        have hc:chgC m c=0:=by
          rw [applyV,if_pos hm,runV] at hap
          split at hap
          · assumption
          · rename_i hc
            simp only [Prod.mk.injEq] at hap
            exact absurd hap.2.2 hc
        have hst:n=stepV m c:=by
          have:=apply_one hm hc
          rw [wide_step hm hc (by omega),hap] at this
          exact (Prod.mk.inj this).1
        have sn:Sm n 140:=by rw [hst];exact scroll_sm hk sm
        have hnr:n.rows.length=b.rows.length:=by rw [hst,scroll_rows hk];exact hmr
        have hR2:=Hr n b
        have hC2:=Hcol n b hnr (by omega) (sn.mono (by omega)) sbb
        simp only [vwA,Vw.ds,zU,zV] at hR2 hC2
        have fr:=rest_few sn sb hb60
        obtain ⟨r,hr⟩:∃ r,r=restV n b:=⟨_,rfl⟩
        rw [← hr] at hC2 fr hoth
        have hrl:=fr.len
        have fo:Few (c::r):=by
          have e1:=rest_len (sn.mono (show 140≤50000 by omega)) sbb
          rw [← hr] at e1
          refine ⟨by rw [za];omega,fun d hd=>?_⟩
          rcases zp.1 hd with rfl | hd
          · have:=hok.len;omega
          · exact fr.gl d hd
        rw [hoth] at hway
        refine W_co (s':=⟨look [(3,.iptr b.ds),(5,x),(7,.ptr h.length 1 0 0),(8,.fn fd [.ptr h.length 1 0 0]),(9,.ptr (h.length+1) 1 0 0),(11,.ptr (h.length+3) 1 0 0)],h++[wB w,cgB c,cgLB [c],vwB n]⟩) (Co.keep _ (by simp [x_upd,x_look,Vw.ds])) ?_
        refine W_cut (· = ⟨look [(5,x),(7,.ptr h.length 1 0 0),(8,.fn fd [.ptr h.length 1 0 0]),(14,cgsA (c::r))],h++[wB w]⟩) (W_drw (by simp) ?_) ?_
        · simp only [xq,reduceIte,qE,qA,qL,qD,Vw.ds,Cg.ds,hp_g0,hp_g1,hp_gk,hp_s0,hp_s1,hp_sk,zS,cgRows_len]
          refine c_fn (hR2) rfl ?_;simp only [xq,reduceIte,qE,qA,qL,qD,Vw.ds,Cg.ds,hp_g0,hp_g1,hp_gk,hp_s0,hp_s1,hp_sk,zS,cgRows_len]
          refine c_fn hC2 rfl ?_
          simp only [xq,reduceIte,qE,qA,qL,qD,Vw.ds,Cg.ds,hp_g0,hp_g1,hp_gk,hp_s0,hp_s1,hp_sk,zS,cgRows_len]
          rw [show 1+r.length=(c::r).length by rw [za];omega]
          refine ⟨by rw [za];simp only [room];omega,by rw [za];simp only [maxLen];omega,?_⟩
          have e1:∀ t:Heap,(h++wB w::t).take (h.length+1)=h++[wB w]:=fun t=>by
            rw [show h++wB w::t=(h++[wB w])++t by simp,List.take_append_of_le_length (by simp)];exact List.take_of_length_le (by simp)
          refine ⟨_,Co.frz (s:=⟨_,h++wB w::[cgB c,cgLB [c],vwB n,cgLB (c::r),.res]⟩) [(5,x),(7,.ptr h.length 1 0 0),(8,.fn fd [.ptr h.length 1 0 0]),(14,cgsA (c::r))] (h.length+1) ?_ (zI _) (by simp) ?_,?_⟩
          · intro p hp
            simp only [zp,zc,or_false] at hp
            rcases hp with rfl | rfl | rfl | rfl
            · exact .same xu
            · exact .same (by simp [A.under,x_upd,x_look])
            · exact .same (by simp [A.under,A.underL,x_upd,x_look])
            · exact frz_cgs (l:=c::r) (by omega) hp_gk
          · show ∀ B∈(h++wB w::[cgB c,cgLB [c],vwB n,cgLB (c::r),.res]).take (h.length+1),HB.under (h.length+1) B
            rw [e1];exact uW w _
          · simp only [e1]
        rintro _ rfl
        refine W_seq (W_reg ?_);simp only [xq,reduceIte,qE,qA,qL,qD]
        refine ce_clo (Hd (c::r) w fo fw (h++[wB w]) h.length hp_g0) ?_
        simp only [xq,reduceIte,qE,qA,qL,qD]
        refine W_cond rfl (fun hd2=>?_) (fun hd2=>W_skip ?_)
        · have hd2:=of_decide_eq_true hd2
          rw [if_pos ⟨trivial,rfl,hd2⟩] at hway
          refine W_reg ?_;simp only [xq,reduceIte,qE,qA,qL,qD,hp_g0,hp_s0,wB]
          exact trim _ [] (c::r) rfl rfl hway.symm
        · have hd2:=of_decide_eq_false hd2
          rw [if_neg (by rintro ⟨_,_,h3⟩;exact hd2 h3)] at hway
          refine ⟨rfl,?_⟩
          exact trim _ [] w rfl rfl hway.symm
      · have he:¬ e=0:=by simpa using hd
        rw [if_neg (by rintro ⟨_,h2,_⟩;exact he h2)] at hway
        refine ⟨rfl,?_⟩
        refine trim _ _ w ?_ ?_ hway.symm<;>simp [x_upd,x_look]
  rintro _ ⟨w',rfl,rfl⟩
  have hwl:(way20 m b).length≤20000001:=by
    rw [hway]
    split
    · rename_i hcd
      have hk:=(hform hcd.1).1
      have hst:(applyV m [c]).1=stepV m c:=by
        have he:=hcd.2.1
        have hc:chgC m c=0:=by
          rw [applyV,if_pos hm,runV] at he
          split at he
          · assumption
          · rename_i hc;exact absurd he hc
        rw [apply_one hm hc,wide_step hm hc (by omega)];rfl
      rw [hoth,hst,za]
      have:=(rest_few (scroll_sm hk sm) sb hb60).len
      omega
    · have:=fw.len;omega
  have hgl:=hI.out
  obtain ⟨p0,hp0⟩:∃ p0,p0=pre20 a b:=⟨_,rfl⟩
  have hpl:p0.length≤1:=by rw [hp0];unfold pre20;split<;>simp
  rw [← hp0] at hgl ⊢
  generalize way20 m b=w2 at *
  have fin:∀ (sl:Nat→A) (x2:A) (h2:Heap),sl 4=x2→OutIs h2 (p0++w2) x2→W Γ.ctx P N none 0 .ret (RetQ [.t 4] (cgsA (p0++w2))) ⟨sl,h2⟩:=by
    intro sl x2 h2 h4 ho2
    refine W_ret ⟨.inr rfl,?_⟩
    simp only [readRs,readR,single,h4]
    exact ho2.frz
  rcases hgl with ⟨rfl,hnil⟩ | ⟨q,rfl,hq,hne⟩
  · by_cases hn0:w2=[]
    · subst hn0
      rw [List.append_nil] at fin
      refine W_seq (W_reg ?_);simp only [xq,reduceIte,qE,qA,qL,qD,hp_g0,wB,cgRows,zV]
      exact fin _ .nil _ rfl (.inl ⟨rfl,hnil⟩)
    · refine W_seq (W_reg ?_);simp only [xq,reduceIte,qE,qA,qL,qD,hp_g0,wB]
      rw [if_neg (by simpa [cgRows] using hn0)]
      simp only [cgRows_len]
      refine ⟨by simp only [room];omega,by simp only [maxLen];omega,?_⟩
      exact fin _ (.ref (h.length+1) w2.length 0 w2.length true) _ (by simp [x_upd]) (.inr ⟨h.length+1,by rw [hnil];rfl,by rw [hnil];simp [hp_g1],by rw [hnil];simpa using hn0⟩)
  · have hql:=(zA.1 hq).1
    have gq:∀ t':Heap,(h++t')[q]? = some (cgLB p0):=fun t'=>hp_gl hq
    refine W_seq (W_reg ?_);simp only [xq,reduceIte,qE,qA,qL,qD,hp_g0,gq,wB,cgLB_len,cgRows_len]
    refine ⟨by simp only [room];omega,by simp only [maxLen];omega,?_⟩
    refine fin _ (.ref q (p0.length+w2.length) 0 (p0.length+w2.length) true) _ (by simp [x_upd]) (.inr ⟨q,by rw [zb],?_,by simp [hne]⟩)
    rw [List.getElem?_set_self (by simp;omega)]
    simp only [cgLB,cgRows_app,List.map_append]
end Go.Proofs.YtigfbnglplbbpaaDoor.Nx

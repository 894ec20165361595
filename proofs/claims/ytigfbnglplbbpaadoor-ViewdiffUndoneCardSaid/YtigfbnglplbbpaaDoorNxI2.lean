import Derived.Test.YtigfbnglplbbpaaDoorNxI0
set_option linter.unusedSimpArgs false
set_option linter.unusedVariables false
set_option linter.unnecessarySimpa false
open List renaming getElem?_eq_some_iff → zA, getElem?_eq_getElem → zB, getD_eq_getElem?_getD → zC, getElem?_append_left → zF, getElem?_append_right → zG, getElem?_map → zK, getElem?_set_ne → zM, getElem?_set_self → zN, append_assoc → zS, map_cons → zU, map_nil → zV, mem_cons_self → zW, mem_cons_of_mem → zZ, length_append → zb, not_mem_nil → zc, mem_cons → zp, set_append_left → zu
open Bool renaming true_eq_false → zE
open Nat renaming zero_le → zI, le_refl → zL
open Int renaming toNat_natCast → zQ
open Option renaming map_eq_some_iff → zT
open Nat renaming reduceEqDiff → qE, reduceAdd → qA, reduceLT → qL, reduceLeDiff → qD
namespace Go.Proofs.YtigfbnglplbbpaaDoor.Nx
open Go
variable {P:Program} {N:Nat} {Γ:Tabs}
def starCg:Cg:=⟨0,0,0,0,0,[]⟩
def boxVc:Nat→Nat→A
  | 0,_=>.nil
  | k+1,j=>.ref j (k+1) 0 (k+1) true
abbrev boxBc (k j:Nat):HB:=.cells ⟨1,24⟩ [[boxVc k j]]
def seqIc (gs:List Cg) (k:Nat) (L:List (Nat × HB)):Prop :=
  (k=0∧∃ j,L=[(0,boxBc 0 j)])∨(0<k∧∃ j,j≠0∧L=[(0,boxBc k j),(j,cgLB (gs.take k))])
theorem cgBlock_snoc {gs:List Cg} {k:Nat} (hk:k<gs.length):((cgRows (gs.take k)).map fun r=>r.map A.d)++[gs[k].ds.map .d]=(cgRows (gs.take (k+1))).map fun r=>r.map A.d:=by
  rw [List.take_add_one,zB hk]
  simp only [cgRows,Option.toList_some,List.map_append,zU,zV]
theorem appendSeqC_fn {f fG:FuncId} {caps:List A} (H:FnIs P f N [.t 4] x_slices_AppendSeq_772) (hN:2≤N) (gs:List Cg) (hG:GenD Γ P fG caps (gs.map fun g=>[cgA g])) (h0:A.underL 0 caps=true) (hlen:gs.length * 64≤room) :
    FnP Γ P f [.nil,.fn fG caps] (.d (.sl eCg (cgRows gs))):=by
  refine .of_W H (by simpa using hN) ?_
  unfold x_slices_AppendSeq_772
  refine W_seq (W_reg ?_)
  simp only [xq,reduceIte,qE,qA,qL,qD]
  refine W_seq (W_seq (W_reg ?_))
  simp only [xq,reduceIte,qE,qA,qL,qD]
  let sl0:Nat→A:=upd (upd (upd (look [(0,.nil),(1,.fn fG caps)]) 2 (.ptr 0 1 0 0)) 4 .nil) 6 (.fn fG caps)
  have hmax:gs.length≤room:=Nat.le_trans (Nat.le_mul_of_pos_right _ (by decide)) hlen
  refine W_block (W_range (Γ:=Γ.ctx) (xs:=gs.map fun g=>[cgA g]) (f:=fG) (caps:=caps) rfl hG (seqIc gs) (fun _ _=>False) [(0,boxBc 0 0)] (.inl ⟨rfl,0,rfl⟩) ?_
    (fun k n=>upd (upd sl0 7 (cgA (gs.getD k starCg))) 5 (.ptr n 1 0 0)) (fun k=>[.cells eCg [(gs.getD k starCg).ds.map .d]]) ?_ ?_ ?_ ?_ ?_)
  · intro p hp
    simp only [zp,zc,or_false] at hp
    subst hp;rfl
  · intro k xa hk
    simp only [zK,zT] at hk
    obtain ⟨g,_,rfl⟩:=hk
    rfl
  · -- the variable
    intro k xa h rl hk hlt
    simp only [zK,zT] at hk
    obtain ⟨g,hg,rfl⟩:=hk
    have hgd:gs.getD k starCg=g:=by rw [zC,hg];rfl
    refine W_reg ?_
    simp only [xq,reduceIte,qE,qA,qL,qD,setAll,hp_g0,hp_s0,cgA,Cg.ds,hgd]
    rfl
  · -- a round
    intro k xa L h hk hI hL hlt
    simp only [zK,zT] at hk
    obtain ⟨g,hg,rfl⟩:=hk
    have hgd:gs.getD k starCg=g:=by rw [zC,hg];rfl
    have hkl:k<gs.length:=(zA.1 hg).1
    have hgk:gs[k]=g:=by rw [zB hkl] at hg;exact Option.some.inj hg
    have hpos:0<h.length:=by simp at hlt;omega
    have hnew:gs.take 0++[g]=[g]:=rfl
    rw [hgd]
    rcases hI with ⟨rfl,j,rfl⟩ | ⟨hk0,j,hj,rfl⟩
    · -- the first
      have hb0:h[0]? = some (boxBc 0 j):=hL _ (zW ..)
      have e0:∀ t:Heap,(h++t)[0]? = some (boxBc 0 j):=fun t=>by rw [zF hpos];exact hb0
      have e1:∀ (t:Heap) X,(h++t).set 0 X=h.set 0 X++t:=fun t X=>zu _ _ hpos
      refine ⟨.normal,[(0,boxBc 1 (h.length+2)),(h.length+2,cgLB [g])],h.set 0 (boxBc 1 (h.length+2))++[.cells eCg [g.ds.map .d],.cells eCg [g.ds.map .d],cgLB [g]],?_,fun rl=>?_,.inl ⟨rfl,.inr ⟨Nat.succ_pos _,h.length+2,by omega,?_⟩⟩⟩
      · refine ⟨fun p hp=>?_,by simp,fun q hq hn=>?_,fun q hq=>?_⟩
        · simp only [zp,zc,or_false] at hp
          rcases hp with rfl | rfl
          · rw [zF (by simpa using hpos),zN hpos]
          · rw [zG (by simp)];simp
        · simp only [ids,zU,zV,zp,zc,or_false] at hn
          simp only [zb,List.length_cons,List.length_nil] at hq
          rcases Nat.lt_or_ge q h.length with h1 | h1
          · rw [zF (by simpa using h1),zM (Ne.symm hn),zF h1]
          · have:q=h.length:=by omega
            subst this
            rw [zG (by simp),zG (zL _)];simp
        · simp only [ids,zU,zV,zp,zc,or_false] at hq ⊢
          rcases hq with rfl | rfl
          · exact .inl rfl
          · exact .inr (by simp)
      · refine W_block (W_reg ?_)
        simp only [xq,reduceIte,qE,qA,qL,qD,e0,e1,boxVc,sl0,zS,hp_g0,hp_g1,hp_s0,Cg.ds,Nat.reduceMul]
        rw [if_neg (by simp)]
        exact ⟨by decide,by decide,rfl⟩
      · rw [← hgk,List.take_add_one,zB hkl];rfl
    · -- the others
      obtain ⟨k,rfl⟩:∃ k',k=k'+1:=⟨k-1,by omega⟩
      have hb0:h[0]? = some (boxBc (k+1) j):=hL _ (zW ..)
      have hbj:h[j]? = some (cgLB (gs.take (k+1))):=hL _ (zZ _ (zW ..))
      have hjl:j<h.length:=(zA.1 hbj).1
      have e0:∀ t:Heap,(h++t)[0]? = some (boxBc (k+1) j):=fun t=>by rw [zF hpos];exact hb0
      have ej:∀ t:Heap,(h++t)[j]? = some (cgLB (gs.take (k+1))):=fun t=>by rw [zF hjl];exact hbj
      have e1:∀ (t:Heap) X,(h++t).set j X=h.set j X++t:=fun t X=>zu _ _ hjl
      have e2:∀ (t:Heap) X,(h.set j X++t)[0]? = some (boxBc (k+1) j):=fun t X=>by
        rw [zF (by simpa using hpos),zM hj];exact hb0
      have e3:∀ (t:Heap) X Y,(h.set j X++t).set 0 Y=(h.set j X).set 0 Y++t:=fun t X Y=>zu _ _ (by simpa using hpos)
      have hrl:(cgRows (gs.take (k+1))).length=k+1:=by simp [cgRows];omega
      have hsn:=cgBlock_snoc hkl
      rw [hgk] at hsn
      refine ⟨.normal,[(0,boxBc (k+1+1) j),(j,cgLB (gs.take (k+1+1)))],(h.set j (cgLB (gs.take (k+1+1)))).set 0 (boxBc (k+1+1) j)++[.cells eCg [g.ds.map .d],.cells eCg [g.ds.map .d]],?_,fun rl=>?_,.inl ⟨rfl,.inr ⟨Nat.succ_pos _,j,hj,rfl⟩⟩⟩
      · refine ⟨fun p hp=>?_,by simp,fun q hq hn=>?_,fun q hq=>?_⟩
        · simp only [zp,zc,or_false] at hp
          rcases hp with rfl | rfl
          · rw [zF (by simpa using hpos),zN (by simpa using hpos)]
          · rw [zF (by simpa using hjl),zM (Ne.symm hj),zN hjl]
        · simp only [ids,zU,zV,zp,zc,or_false,not_or] at hn
          simp only [zb,List.length_cons,List.length_nil] at hq
          rcases Nat.lt_or_ge q h.length with h1 | h1
          · rw [zF (by simpa using h1),zM (Ne.symm hn.1),zM (Ne.symm hn.2),zF h1]
          · have:q=h.length:=by omega
            subst this
            rw [zG (by simp),zG (zL _)];simp
        · simp only [ids,zU,zV,zp,zc,or_false] at hq ⊢
          exact .inl hq
      · refine W_block (W_reg ?_)
        simp only [xq,reduceIte,qE,qA,qL,qD,e0,ej,e1,e2,e3,boxVc,sl0,zS,hp_g0,hp_g1,hp_s0,Cg.ds,hrl]
        refine ⟨by omega,by simp only [maxLen,room] at *; omega,?_⟩
        simp only [Cg.ds,zU,zV] at hsn
        rw [hsn]
        rfl
  · -- behind the loop
    intro L' h' T hI
    simp only [xq,reduceIte,qE,qA,qL,qD]
    rw [List.length_map] at hI
    rcases hI with ⟨hk,j,rfl⟩ | ⟨hk,j,hj,rfl⟩
    · have hb0:h'[0]? = some (boxBc 0 j):=T.has _ (zW ..)
      have hgs:gs=[]:=List.eq_nil_of_length_eq_zero hk
      subst hgs
      refine W_seq (W_reg ?_)
      simp only [xq,reduceIte,qE,qA,qL,qD,hb0,boxVc,sl0]
      refine W_ret (.frz ?_)
      simp only [xq,reduceIte,qE,qA,qL,qD]
      exact .d (.nil _)
    · obtain ⟨k,hk'⟩:∃ k',gs.length=k'+1:=⟨gs.length-1,by omega⟩
      have hb0:h'[0]? = some (boxBc gs.length j):=T.has _ (zW ..)
      have hbj:h'[j]? = some (cgLB (gs.take gs.length)):=T.has _ (zZ _ (zW ..))
      rw [List.take_length] at hbj
      have hb0':h'[0]? = some (boxBc (k+1) j):=by rw [← hk'];exact hb0
      refine W_seq (W_reg ?_)
      simp only [xq,reduceIte,qE,qA,qL,qD,hb0',boxVc,sl0]
      refine W_ret (.frz ?_)
      simp only [xq,reduceIte,qE,qA,qL,qD]
      have:=frz_all (full:=true) hbj
      have hl:(cgRows gs).length=k+1:=by simp [cgRows,hk']
      rw [hl] at this
      exact this
  · intro e0 L' h' T hE;exact hE.elim
theorem collectC_fn {f fA fG:FuncId} {NA:Nat} {caps:List A} (H:FnIs P f N [.t 2] (x_slices_Collect_706 fA)) (hN:1≤N) (HA:FnIs P fA NA [.t 4] x_slices_AppendSeq_772) (hNA:2≤NA) (gs:List Cg) (hG:GenD Γ P fG caps (gs.map fun g=>[cgA g]))
    (h0:A.underL 0 caps=true) (hlen:gs.length * 64≤room):FnP Γ P f [.fn fG caps] (.d (.sl eCg (cgRows gs))):=by
  refine .of_W H (by simpa using hN) ?_
  unfold x_slices_Collect_706
  refine W_seq (W_reg ?_)
  simp only [xq,reduceIte,qE,qA,qL,qD]
  refine W_seq (W_reg ?_)
  simp only [xq,reduceIte,qE,qA,qL,qD]
  refine c_fn (appendSeqC_fn HA hNA gs hG h0 hlen) (by simp [A.underL,A.under,h0]) ?_
  simp only [xq,reduceIte,qE,qA,qL,qD]
  refine W_ret (.frz ?_)
  simp only [xq,reduceIte,qE,qA,qL,qD]
  exact .same rfl
end Go.Proofs.YtigfbnglplbbpaaDoor.Nx
namespace Go.Proofs.YtigfbnglplbbpaaDoor.Nx
open Go
variable {P:Program} {N:Nat} {Γ:Tabs}
theorem frz_box {k:Nat} {h:Heap} {id:Nat} {e:Elt} {ds:List D} (hk:k≤id) (hv:h[id]? = some (.cells e [ds.map .d])):FrzA k h (.ptr id 1 0 0) (.iptr ds):=by
  refine FrzA.iptr (e:=e) (rows:=[ds.map .d]) (i:=0) (off:=0) hk hv rfl fun j d hj=>?_
  have hlt:=(zA.1 hj).1
  refine ⟨by simpa using hlt,?_⟩
  rw [Nat.zero_add,zC,zK,hj]
  exact .d d
theorem rest_fn {f f1:FuncId} (H:FnIs P f N [.t 4] (x_viewdiff_rest f1)) (hN:2≤N) (x b:Vw):FnP Γ P f [vwA x,vwA b] (.fn f1 [.iptr b.ds,.iptr x.ds]):=by
  refine .of_W H (by simpa using hN) ?_
  unfold x_viewdiff_rest
  simp only [vwA,Vw.ds,zU,zV]
  refine W_seq (W_reg ?_);simp only [xq,reduceIte,qE,qA,qL,qD]
  refine W_seq (W_reg ?_);simp only [xq,reduceIte,qE,qA,qL,qD]
  refine W_ret (.frz ?_)
  simp only [xq,reduceIte,qE,qA,qL,qD]
  refine .fn rfl fun j y hj=>?_
  rcases j with _ | _ | j
  · cases hj;exact frz_box (zI _) (e:=eVw) (ds:=b.ds) rfl
  · cases hj;exact frz_box (zI _) (e:=eVw) (ds:=x.ds) rfl
  · simp at hj
def restXs (x b:Vw):List (List A):=(restV x b).map fun c=>[cgA c]
theorem splicesTo_pre {x b:Vw}:∀ {i n:Nat},i≤n→∃ t,splicesTo x b n=splicesTo x b i++t
  | i,0,h=>⟨[],by rw [show i=0 by omega,List.append_nil]⟩
  | i,n+1,h=>by
    rcases Nat.lt_or_ge i (n+1) with h1 | h1
    · obtain ⟨t,ht⟩:=splicesTo_pre (x:=x) (b:=b) (show i≤n by omega)
      exact ⟨t++splicesV n (x.rows.getD n []) (b.rows.getD n []),by rw [splicesTo,ht,zS]⟩
    · have:i=n+1:=by omega
      subst this;exact ⟨[],by simp⟩
theorem restXs_row {x b:Vw} {i j:Nat} {nw:List Cg} (hi:i<b.rows.length) (hn:nw=splicesV i (x.rows.getD i []) (b.rows.getD i [])) (hj:j<nw.length):(restXs x b)[(splicesTo x b i).length+j]? = some [cgA nw[j]]:=by
  obtain ⟨t,ht⟩:=splicesTo_pre (x:=x) (b:=b) (show i+1≤b.rows.length from hi)
  rw [splicesTo,← hn] at ht
  rw [restXs,zK,restV,ht,zS,zS,zG (Nat.le_add_right _ _),Nat.add_sub_cancel_left,zF hj,zB hj]
  rfl
theorem restXs_cur {x b:Vw} {c:Cg} (hc:cursorV x b=[c]):(restXs x b)[(splicesTo x b b.rows.length).length]? = some [cgA c]:=by
  rw [restXs,zK,restV,hc,zG (zL _),Nat.sub_self];rfl
theorem restXs_len {x b:Vw}:(restXs x b).length=(splicesTo x b b.rows.length).length+(cursorV x b).length:=by simp [restXs,restV]
set_option maxHeartbeats 2000000 in
theorem rest1_gen {f fs:FuncId} (H:FnIs P f N [] (x_viewdiff_rest_1 fs)) (hN:3≤N) (x b:Vw) (hlen:b.rows.length≤x.rows.length) (hbl:b.rows.length≤1000) (hsx:Sm x 50000) (hsb:Sm b 50000)
    (Hs:∀ (row:Int) (a b:List Gl),a.length≤50000→b.length≤50000→FnP Γ P fs [.int row,.d (.sl eGl (glRows a)),.d (.sl eGl (glRows b))] (cgsA (splicesV row a b))) :
    GenD Γ P f [.iptr b.ds,.iptr x.ds] (restXs x b):=by
  refine ⟨H.enters,fun env bb id I E rounds L h hI hL hbb=>?_⟩
  refine .of_WT H (by simpa using hN) hbb (W_noTabs ?_)
  unfold x_viewdiff_rest_1
  refine W_seq ?_
  refine W_seq (W_reg ?_);simp only [xq,reduceIte,qE,qA,qL,qD,Vw.ds,rwRows_len]
  refine W_block ?_
  let S:Nat→Heap→St:=fun i h=>⟨look [(0,.yld id),(1,.iptr b.ds),(2,.iptr x.ds),(10,.int b.rows.length),(11,.int i)],h⟩
  refine W_co (s':=S 0 h) (Co.keep _ (by simp [x_upd,x_look,Vw.ds])) ?_
  refine W_loop (fun m s=>∃ i L' h',i≤b.rows.length∧m=b.rows.length-i∧s=S i h'∧Turn L L' h h'∧I (splicesTo x b i).length L') ⟨0,L,h,zI _,rfl,rfl,.refl hL,hI⟩ ?_
  rintro m s ⟨i,L',h',hi,rfl,rfl,T,hI'⟩
  simp only [S]
  refine W_seq (W_reg ?_);simp only [xq,reduceIte,qE,qA,qL,qD]
  refine W_seq (W_cond rfl (fun hc=>W_skip ?_) (fun hc=>W_exit ?_))
  · have hlt:i<b.rows.length:=by simpa using hc
    have hltx:i<x.rows.length:=by omega
    have gx:x.rows.getD i []=x.rows[i]:=by rw [zC,zB hltx];rfl
    have gb:b.rows.getD i []=b.rows[i]:=by rw [zC,zB hlt];rfl
    have bx:=hsx.row _ (List.getElem_mem hltx)
    have bw:=hsb.row _ (List.getElem_mem hlt)
    have hS:=Hs i x.rows[i] b.rows[i] bx bw
    obtain ⟨nw,hnw⟩:∃ nw,nw=splicesV i x.rows[i] b.rows[i]:=⟨_,rfl⟩
    have hnl:nw.length≤200001:=by rw [hnw];exact splices_len bx bw
    rw [← hnw] at hS
    have hnw2:nw=splicesV i (x.rows.getD i []) (b.rows.getD i []):=by rw [gx,gb,hnw]
    have hto:splicesTo x b (i+1)=splicesTo x b i++nw:=by rw [splicesTo,← hnw2]
    simp only [xq,reduceIte,qE,qA,qL,qD]
    refine W_seq (W_block ?_)
    refine W_seq (W_reg ?_);simp only [xq,reduceIte,qE,qA,qL,qD]
    refine W_seq (W_drw (by simp) ?_);simp only [xq,reduceIte,qE,qA,qL,qD,List.replicate_zero,List.append_nil,Vw.ds,rwRows_len,rwRows_get hltx,rwRows_get hlt,zQ]
    refine ⟨by omega,by omega,by omega,by omega,?_⟩
    refine c_fn (hS) rfl ?_;simp only [xq,reduceIte,qE,qA,qL,qD,cgRows_len]
    let S2:Nat→Heap→St:=fun j h=>⟨look [(0,.yld id),(1,.iptr b.ds),(2,.iptr x.ds),(10,.int b.rows.length),(11,.int i),(25,cgsA nw),(26,.int nw.length),(27,.int j)],h⟩
    refine W_block ?_
    refine W_co (s':=S2 0 h') (Co.keep _ (by simp [x_upd,x_look,Vw.ds])) ?_
    refine W_loop (fun m s=>∃ j L' h',j≤nw.length∧m=nw.length-j∧s=S2 j h'∧Turn L L' h h'∧I ((splicesTo x b i).length+j) L') ⟨0,L',h',zI _,rfl,rfl,T,hI'⟩ ?_
    clear T hI' L' h'
    rintro m s ⟨j,L',h',hj,rfl,rfl,T,hI'⟩
    simp only [S2]
    refine W_seq (W_reg ?_);simp only [xq,reduceIte,qE,qA,qL,qD]
    refine W_seq (W_cond rfl (fun hc=>W_skip ?_) (fun hc=>W_exit ?_))
    · have hjl:j<nw.length:=by simpa using hc
      obtain ⟨c,hcd⟩:∃ c,c=nw[j]:=⟨_,rfl⟩
      have w1:IntKind.i64.wrap ((j:Int)+1)=((j+1:Nat):Int):=by rw [i64_of (by omega)];omega
      have hx:=restXs_row hlt hnw2 hjl
      have hcg:(cgRows nw).getD j []=c.ds:=by rw [cgRows_get hjl,← hcd]
      rw [← hcd] at hx
      have Ta:=Turn.app T.has [cgB c]
      have hlen2:bb≤(h'++[cgB c]).length:=by have:=T.len;simp;omega
      simp only [xq,reduceIte,qE,qA,qL,qD]
      refine W_seq (W_block ?_)
      refine W_seq (W_reg ?_);simp only [xq,reduceIte,qE,qA,qL,qD,cgRows_len,hcg,Cg.ds,zQ,hp_g0,hp_s0]
      refine ⟨by omega,by omega,?_⟩
      rcases rounds _ _ L' _ hx hI' Ta.has hlen2 with ⟨L2,h2,hR,T2,hI2⟩ | ⟨L2,h2,hR,T2,hE2⟩
      · simp only [cgA,Cg.ds,zU,zV] at hR
        refine W_seq (W_reg ?_);simp only [xq,reduceIte,qE,qA,qL,qD,hp_g0,Cg.ds]
        refine ce_yld hR ?_
        simp only [xq,reduceIte,qE,qA,qL,qD]
        refine W_cond rfl (fun hd=>by cases hd) (fun _=>W_skip ?_)
        simp only [xq,reduceIte,qE,qA,qL,qD]
        refine W_reg ?_;simp only [xq,reduceIte,qE,qA,qL,qD,w1]
        exact ⟨nw.length-(j+1),S2 (j+1) h2,by omega,Co.keep _ (by simp [x_upd,x_look,Vw.ds]),j+1,L2,h2,hjl,rfl,rfl,T.trans (Ta.trans T2),hI2⟩
      · simp only [cgA,Cg.ds,zU,zV] at hR
        refine W_seq (W_reg ?_);simp only [xq,reduceIte,qE,qA,qL,qD,hp_g0,Cg.ds]
        refine ce_yld hR ?_
        simp only [xq,reduceIte,qE,qA,qL,qD]
        refine W_cond rfl (fun _=>W_ret ?_) (fun hd=>by cases hd)
        simp only [xq,reduceIte,qE,qA,qL,qD]
        refine ⟨.inr trivial,?_⟩
        simp only [readRs]
        exact ⟨L2,T.trans (Ta.trans T2),.inr hE2⟩
    · have hle:j=nw.length:=by simp at hc;omega
      subst hle
      have w1:IntKind.i64.wrap ((i:Int)+1)=((i+1:Nat):Int):=by rw [i64_of (by omega)];omega
      simp only [xq,reduceIte,qE,qA,qL,qD]
      refine W_reg ?_;simp only [xq,reduceIte,qE,qA,qL,qD,w1]
      exact ⟨b.rows.length-(i+1),S (i+1) h',by omega,Co.keep _ (by simp [x_upd,x_look,Vw.ds]),i+1,L',h',hlt,rfl,rfl,T,by rw [hto,zb];exact hI'⟩
  · have hle:i=b.rows.length:=by simp at hc;omega
    subst hle
    simp only [xq,reduceIte,qE,qA,qL,qD]
    refine W_seq ?_
    refine W_cut (· = ⟨look [(0,.yld id),(1,.iptr b.ds),(55,.bool ((decide (x.row=b.row)&&decide (x.col=b.col))&&(x.vis == b.vis)))],h'⟩) (W_reg ?_) ?_
    · cases e1:decide (x.row=b.row)
      · simp only [xq,reduceIte,qE,qA,qL,qD,Vw.ds,e1,undefA,zE]
        exact ⟨_,Co.keep _ (by simp [x_upd,x_look]),rfl⟩
      · cases e2:decide (x.col=b.col)
        · simp only [xq,reduceIte,qE,qA,qL,qD,Vw.ds,e1,e2,undefA,zE]
          exact ⟨_,Co.keep _ (by simp [x_upd,x_look]),rfl⟩
        · simp only [xq,reduceIte,qE,qA,qL,qD,Vw.ds,e1,e2,undefA,zE]
          exact ⟨_,Co.keep _ (by simp [x_upd,x_look]),rfl⟩
    rintro _ rfl
    refine W_cond rfl (fun hd=>?_) (fun hd=>W_skip ?_)
    · have hcv:cursorV x b=[]:=by
        rw [cursorV,if_pos]
        simp only [Bool.and_eq_true,decide_eq_true_eq,beq_iff_eq] at hd
        exact ⟨hd.1.1,hd.1.2,hd.2⟩
      refine W_ret ?_
      simp only [xq,reduceIte,qE,qA,qL,qD]
      refine ⟨.inr trivial,?_⟩
      simp only [readRs]
      refine ⟨L',T,.inl ?_⟩
      rw [restXs_len,hcv];exact hI'
    · let cc:Bool→Cg:=fun v=>⟨4,b.row,b.col,if v then 1 else 0,0,[]⟩
      have hcv:cursorV x b=[cc b.vis]:=by
        rw [cursorV,if_neg]
        rintro ⟨h1,h2,h3⟩
        simp [h1,h2,h3] at hd
      have hx:=restXs_cur hcv
      have hrl:(restXs x b).length=(splicesTo x b b.rows.length).length+1:=by rw [restXs_len,hcv];rfl
      simp only [xq,reduceIte,qE,qA,qL,qD]
      refine W_seq (W_reg ?_);simp only [xq,reduceIte,qE,qA,qL,qD,Vw.ds,hp_g0,hp_s0]
      refine W_co (Co.viewLast (r2:=(cc false).ds.map .d) [(0,.yld id),(1,.iptr b.ds),(7,.ptr h'.length 1 0 0)] (by simp [x_upd,x_look,Vw.ds]) rfl ?_) ?_
      · intro j y hj
        rcases j with _ | _ | _ | _ | _ | _ | j
        · cases hj;exact .inl rfl
        · cases hj;exact .inl rfl
        · cases hj;exact .inl rfl
        · cases hj;exact .inl rfl
        · cases hj;exact .inl rfl
        · cases hj;exact .inr ⟨.nil _,_,rfl⟩
        · simp [cc,Cg.ds] at hj
      refine W_cut (· = ⟨look [(0,.yld id),(7,.ptr h'.length 1 0 0)],h'++[cgB (cc b.vis)]⟩) ?_ ?_
      · refine W_seq (W_reg ?_);simp only [xq,reduceIte,qE,qA,qL,qD,Vw.ds]
        refine W_cond rfl (fun hb=>?_) (fun hb=>W_skip ?_)
        · rw [hb]
          refine W_reg ?_;simp only [xq,reduceIte,qE,qA,qL,qD,hp_g0,hp_s0,cc,Cg.ds]
          exact ⟨_,Co.keep _ (by simp [x_upd,x_look]),rfl⟩
        · rw [hb]
          exact ⟨rfl,_,Co.keep _ (by simp [x_upd,x_look]),rfl⟩
      rintro _ rfl
      have Ta:=Turn.app T.has [cgB (cc b.vis)]
      have hlen2:bb≤(h'++[cgB (cc b.vis)]).length:=by have:=T.len;simp;omega
      generalize cc b.vis=c at hx Ta hlen2
      rcases rounds _ _ L' _ hx hI' Ta.has hlen2 with ⟨L2,h2,hR,T2,hI2⟩ | ⟨L2,h2,hR,T2,hE2⟩
      · simp only [cgA,Cg.ds,zU,zV] at hR
        refine W_reg ?_;simp only [xq,reduceIte,qE,qA,qL,qD,hp_g0,Cg.ds]
        refine ce_yld hR ?_
        simp only [xq,reduceIte,qE,qA,qL,qD]
        refine ⟨.inl trivial,?_⟩
        simp only [readRs]
        exact ⟨L2,T.trans (Ta.trans T2),.inl (by rw [hrl];exact hI2)⟩
      · simp only [cgA,Cg.ds,zU,zV] at hR
        refine W_reg ?_;simp only [xq,reduceIte,qE,qA,qL,qD,hp_g0,Cg.ds]
        refine ce_yld hR ?_
        simp only [xq,reduceIte,qE,qA,qL,qD]
        refine ⟨.inl trivial,?_⟩
        simp only [readRs]
        exact ⟨L2,T.trans (Ta.trans T2),.inr hE2⟩
end Go.Proofs.YtigfbnglplbbpaaDoor.Nx

import Derived.Test.YtlllnjhgjijnkaaDoorNxI0
import Derived.Test.YtlllnjhgjijnkaaDoorNxE19
set_option linter.unusedSimpArgs false
set_option linter.unusedVariables false
set_option linter.unnecessarySimpa false
open List renaming getElem?_eq_some_iff → zA, getElem?_eq_getElem → zB, getD_eq_getElem?_getD → zC, getElem?_append_left → zF, getElem?_append_right → zG, getElem?_map → zK, getElem?_set_ne → zM, getElem?_set_self → zN, append_nil → zP, append_assoc → zS, map_cons → zU, map_nil → zV, mem_cons_self → zW, mem_cons_of_mem → zZ, length_append → zb, mem_cons → zp, replicate_zero → zr, set_append_left → zu, eq_nil_of_length_eq_zero → zx
open Bool renaming true_eq_false → zE, and_eq_true → zf
open Nat renaming zero_le → zI, le_refl → zL
open Int renaming toNat_natCast → zQ
open Option renaming map_eq_some_iff → zT
open Nat renaming reduceEqDiff → qE, reduceAdd → qA, reduceLT → qL, reduceLeDiff → qD
namespace Go.Proofs.YtlllnjhgjijnkaaDoor.Nx
open Go
variable {P:Program} {N:Nat} {Γ:Tabs}
def starCg:Cg:=⟨0,0,0,0,0,[]⟩
def boxVc:Nat→Nat→A
 | 0,_=>.nil
 | k+1,j=>.ref j (k+1) 0 (k+1) true
abbrev boxBc (k j:Nat):HB:=.cells ⟨1,24⟩ [[boxVc k j]]
def seqIc (gs:List Cg) (k:Nat) (L:List (Nat × HB)):Prop :=
 (k=0∧∃ j,L=[(0,boxBc 0 j)])∨(0<k∧∃ j,j≠0∧L=[(0,boxBc k j),(j,cgLB (gs.take k))])
theorem cgBlock_snoc {gs:List Cg} {k:Nat} (hk:k<gs.length):((cgRows (gs.take k)).map fun r=>r.map A.d)++[gs[k].ds.map .d]=(cgRows (gs.take (k+1))).map fun r=>r.map A.d:=by
 rw [List.take_add_one,zB hk]
 simp only [cgRows,Option.toList_some,List.map_append,zU,zV]
theorem appendSeqC_fn {f fG:FuncId} {caps:List A} (H:FnIs P f N [.t 4] x_slices_AppendSeq_772) (hN:2≤N) (gs:List Cg) (hG:GenD Γ P fG caps (gs.map fun g=>[cgA g])) (h0:A.underL 0 caps=true) (hlen:gs.length * 64≤room) :
  FnP Γ P f [.nil,.fn fG caps] (.d (.sl eCg (cgRows gs))):=by
 refine .of_W H (by simpa using hN) ?_
 unfold x_slices_AppendSeq_772
 refine wR ?_
 simp only [xq,reduceIte,qE,qA,qL,qD]
 refine W_seq (wR ?_)
 simp only [xq,reduceIte,qE,qA,qL,qD]
 let sl0:Nat→A:=upd (upd (upd (look [(0,.nil),(1,.fn fG caps)]) 2 (.ptr 0 1 0 0)) 4 .nil) 6 (.fn fG caps)
 have hmax:gs.length≤room:=Nat.le_trans (Nat.le_mul_of_pos_right _ (by decide)) hlen
 refine W_block (W_range (Γ:=Γ.ctx) (xs:=gs.map fun g=>[cgA g]) (f:=fG) (caps:=caps) rfl hG (seqIc gs) (fun _ _=>False) [(0,boxBc 0 0)] (.inl ⟨rfl,0,rfl⟩) ?_
  (fun k n=>upd (upd sl0 7 (cgA (gs.getD k starCg))) 5 (.ptr n 1 0 0)) (fun k=>[.cells eCg [(gs.getD k starCg).ds.map .d]]) ?_ ?_ ?_ ?_ ?_)
 ·intro p hp
  simp only [zp,List.not_mem_nil,or_false] at hp
  subst hp;rfl
 ·intro k xa hk
  simp only [zK,zT] at hk
  obtain ⟨g,_,rfl⟩:=hk
  rfl
 ·-- the variable
  intro k xa h rl hk hlt
  simp only [zK,zT] at hk
  obtain ⟨g,hg,rfl⟩:=hk
  have hgd:gs.getD k starCg=g:=by rw [zC,hg];rfl
  refine W_reg ?_
  simp only [xq,reduceIte,qE,qA,qL,qD,setAll,hp_g0,hp_s0,cgA,Cg.ds,hgd]
  rfl
 ·-- a round
  intro k xa L h hk hI hL hlt
  simp only [zK,zT] at hk
  obtain ⟨g,hg,rfl⟩:=hk
  have hgd:gs.getD k starCg=g:=by rw [zC,hg];rfl
  have hkl:k<gs.length:=(zA.1 hg).1
  have hgk:gs[k]=g:=by rw [zB hkl] at hg;exact Option.some.inj hg
  have hpos:0<h.length:=by simp at hlt;omega
  have hnew:gs.take 0++[g]=[g]:=rfl
  rw [hgd]
  rcases hI with ⟨rfl,j,rfl⟩ | ⟨hk0,j,hj,rfl⟩
  ·-- the first
   have hb0:h[0]? = some (boxBc 0 j):=hL _ (zW ..)
   have e0:∀ t:Heap,(h++t)[0]? = some (boxBc 0 j):=fun t=>by rw [zF hpos];exact hb0
   have e1:∀ (t:Heap) X,(h++t).set 0 X=h.set 0 X++t:=fun t X=>zu _ _ hpos
   refine ⟨.normal,[(0,boxBc 1 (h.length+2)),(h.length+2,cgLB [g])],h.set 0 (boxBc 1 (h.length+2))++[.cells eCg [g.ds.map .d],.cells eCg [g.ds.map .d],cgLB [g]],?_,fun rl=>?_,.inl ⟨rfl,.inr ⟨Nat.succ_pos _,h.length+2,by omega,?_⟩⟩⟩
   ·refine ⟨fun p hp=>?_,by simp,fun q hq hn=>?_,fun q hq=>?_⟩
    ·simp only [zp,List.not_mem_nil,or_false] at hp
     rcases hp with rfl | rfl
     ·rw [zF (by simpa using hpos),zN hpos]
     ·rw [zG (by simp)];simp
    ·simp only [ids,zU,zV,zp,List.not_mem_nil,or_false] at hn
     simp only [zb,List.length_cons,List.length_nil] at hq
     rcases Nat.lt_or_ge q h.length with h1 | h1
     ·rw [zF (by simpa using h1),zM (Ne.symm hn),zF h1]
     ·have:q=h.length:=by omega
      subst this
      rw [zG (by simp),zG (zL _)];simp
    ·simp only [ids,zU,zV,zp,List.not_mem_nil,or_false] at hq ⊢
     rcases hq with rfl | rfl
     ·exact .inl rfl
     ·exact .inr (by simp)
   ·refine W_block (W_reg ?_)
    simp only [xq,reduceIte,qE,qA,qL,qD,e0,e1,boxVc,sl0,zS,hp_g0,hp_g1,hp_s0,Cg.ds,Nat.reduceMul]
    rw [if_neg (by simp)]
    exact ⟨by decide,by decide,rfl⟩
   ·rw [← hgk,List.take_add_one,zB hkl];rfl
  ·-- the others
   obtain ⟨k,rfl⟩:∃ k',k=k'+1:=⟨k-1,by omega⟩
   have hb0:h[0]? = some (boxBc (k+1) j):=hL _ (zW ..)
   have hbj:h[j]? = some (cgLB (gs.take (k+1))):=hL _ (zZ _ (zW ..))
   have hjl:j<h.length:=(zA.1 hbj).1
   have e0:∀ t:Heap,(h++t)[0]? = some (boxBc (k+1) j):=fun t=>by rw [zF hpos];exact hb0
   have ej:∀ t:Heap,(h++t)[j]? = some (cgLB (gs.take (k+1))):=fun t=>by rw [zF hjl];exact hbj
   have e1:∀ (t:Heap) X,(h++t).set j X=h.set j X++t:=fun t X=>zu _ _ hjl
   have e2:∀ (t:Heap) X,(h.set j X++t)[0]? = some (boxBc (k+1) j):=fun t X=>by
    rw [zF (by simpa using hpos),zM hj];exact hb0
   have e3:∀ (t:Heap) X Y,(h.set j X++t).set 0 Y=(h.set j X).set 0 Y++t:=fun t X Y=>zu _ _ (by simpa using hpos)
   have hrl:(cgRows (gs.take (k+1))).length=k+1:=by simp [cgRows];omega
   have hsn:=cgBlock_snoc hkl
   rw [hgk] at hsn
   refine ⟨.normal,[(0,boxBc (k+1+1) j),(j,cgLB (gs.take (k+1+1)))],(h.set j (cgLB (gs.take (k+1+1)))).set 0 (boxBc (k+1+1) j)++[.cells eCg [g.ds.map .d],.cells eCg [g.ds.map .d]],?_,fun rl=>?_,.inl ⟨rfl,.inr ⟨Nat.succ_pos _,j,hj,rfl⟩⟩⟩
   ·refine ⟨fun p hp=>?_,by simp,fun q hq hn=>?_,fun q hq=>?_⟩
    ·simp only [zp,List.not_mem_nil,or_false] at hp
     rcases hp with rfl | rfl
     ·rw [zF (by simpa using hpos),zN (by simpa using hpos)]
     ·rw [zF (by simpa using hjl),zM (Ne.symm hj),zN hjl]
    ·simp only [ids,zU,zV,zp,List.not_mem_nil,or_false,not_or] at hn
     simp only [zb,List.length_cons,List.length_nil] at hq
     rcases Nat.lt_or_ge q h.length with h1 | h1
     ·rw [zF (by simpa using h1),zM (Ne.symm hn.1),zM (Ne.symm hn.2),zF h1]
     ·have:q=h.length:=by omega
      subst this
      rw [zG (by simp),zG (zL _)];simp
    ·simp only [ids,zU,zV,zp,List.not_mem_nil,or_false] at hq ⊢
     exact .inl hq
   ·refine W_block (W_reg ?_)
    simp only [xq,reduceIte,qE,qA,qL,qD,e0,ej,e1,e2,e3,boxVc,sl0,zS,hp_g0,hp_g1,hp_s0,Cg.ds,hrl]
    refine ⟨by omega,by simp only [maxLen,room] at *; omega,?_⟩
    simp only [Cg.ds,zU,zV] at hsn
    rw [hsn]
    rfl
 ·-- behind the loop
  intro L' h' T hI
  simp only [xq,reduceIte,qE,qA,qL,qD]
  rw [List.length_map] at hI
  rcases hI with ⟨hk,j,rfl⟩ | ⟨hk,j,hj,rfl⟩
  ·have hb0:h'[0]? = some (boxBc 0 j):=T.has _ (zW ..)
   have hgs:gs=[]:=zx hk
   subst hgs
   refine wR ?_
   simp only [xq,reduceIte,qE,qA,qL,qD,hb0,boxVc,sl0]
   refine W_ret (.frz ?_)
   simp only [xq,reduceIte,qE,qA,qL,qD]
   exact .d (.nil _)
  ·obtain ⟨k,hk'⟩:∃ k',gs.length=k'+1:=⟨gs.length-1,by omega⟩
   have hb0:h'[0]? = some (boxBc gs.length j):=T.has _ (zW ..)
   have hbj:h'[j]? = some (cgLB (gs.take gs.length)):=T.has _ (zZ _ (zW ..))
   rw [List.take_length] at hbj
   have hb0':h'[0]? = some (boxBc (k+1) j):=by rw [← hk'];exact hb0
   refine wR ?_
   simp only [xq,reduceIte,qE,qA,qL,qD,hb0',boxVc,sl0]
   refine W_ret (.frz ?_)
   simp only [xq,reduceIte,qE,qA,qL,qD]
   have:=frz_all (full:=true) hbj
   have hl:(cgRows gs).length=k+1:=by simp [cgRows,hk']
   rw [hl] at this
   exact this
 ·intro e0 L' h' T hE;exact hE.elim
theorem collectC_fn {f fA fG:FuncId} {NA:Nat} {caps:List A} (H:FnIs P f N [.t 2] (x_slices_Collect_706 fA)) (hN:1≤N) (HA:FnIs P fA NA [.t 4] x_slices_AppendSeq_772) (hNA:2≤NA) (gs:List Cg) (hG:GenD Γ P fG caps (gs.map fun g=>[cgA g]))
  (h0:A.underL 0 caps=true) (hlen:gs.length * 64≤room):FnP Γ P f [.fn fG caps] (.d (.sl eCg (cgRows gs))):=by
 refine .of_W H (by simpa using hN) ?_
 unfold x_slices_Collect_706
 refine wR ?_
 simp only [xq,reduceIte,qE,qA,qL,qD]
 refine wR ?_
 simp only [xq,reduceIte,qE,qA,qL,qD]
 refine c_fn (appendSeqC_fn HA hNA gs hG h0 hlen) (by simp [A.underL,A.under,h0]) ?_
 simp only [xq,reduceIte,qE,qA,qL,qD]
 refine W_ret (.frz ?_)
 simp only [xq,reduceIte,qE,qA,qL,qD]
 exact .same rfl
end Go.Proofs.YtlllnjhgjijnkaaDoor.Nx
namespace Go.Proofs.YtlllnjhgjijnkaaDoor.Nx
open Go
variable {P:Program} {N:Nat} {Γ:Tabs}
theorem frz_box {k:Nat} {h:Heap} {id:Nat} {e:Elt} {ds:List D} (hk:k≤id) (hv:h[id]? = some (.cells e [ds.map .d])):FrzA k h (.ptr id 1 0 0) (.iptr ds):=by
 refine FrzA.iptr (e:=e) (rows:=[ds.map .d]) (i:=0) (off:=0) hk hv rfl fun j d hj=>?_
 have hlt:=(zA.1 hj).1
 refine ⟨by simpa using hlt,?_⟩
 rw [Nat.zero_add,zC,zK,hj]
 exact .d d
theorem rest_fn {f f1:FuncId} (H:FnIs P f N [.t 4] (x_viewdiff_rest f1)) (hN:2≤N) (x b:Vw):FnP Γ P f [vwA x,vwA b] (.fn f1 [.iptr b.ds,.iptr x.ds]):=by
 refine .of_W H (by simpa using hN) ?_
 unfold x_viewdiff_rest
 simp only [vwA,Vw.ds,zU,zV]
 refine wR ?_;simp only [xq,reduceIte,qE,qA,qL,qD]
 refine wR ?_;simp only [xq,reduceIte,qE,qA,qL,qD]
 refine W_ret (.frz ?_)
 simp only [xq,reduceIte,qE,qA,qL,qD]
 refine .fn rfl fun j y hj=>?_
 rcases j with _ | _ | j
 ·cases hj;exact frz_box (zI _) (e:=eVw) (ds:=b.ds) rfl
 ·cases hj;exact frz_box (zI _) (e:=eVw) (ds:=x.ds) rfl
 ·simp at hj
def restXs (x b:Vw):List (List A):=(restV x b).map fun c=>[cgA c]
theorem splicesTo_pre {x b:Vw}:∀ {i n:Nat},i≤n→∃ t,splicesTo x b n=splicesTo x b i++t
 | i,0,h=>⟨[],by rw [Nat.le_zero.1 h];simp⟩
 | i,n+1,h=>by
  rcases Nat.lt_or_ge i (n+1) with h1 | h1
  ·obtain ⟨t,ht⟩:=splicesTo_pre (x:=x) (b:=b) (show i≤n by omega)
   exact ⟨t++splicesV n (x.rows.getD n []) (b.rows.getD n []),by rw [splicesTo,ht,zS]⟩
  ·have:i=n+1:=by omega
   subst this;exact ⟨[],by simp⟩
theorem restXs_row {x b:Vw} {i j:Nat} {nw:List Cg} (hi:i<b.rows.length) (hn:nw=splicesV i (x.rows.getD i []) (b.rows.getD i [])) (hj:j<nw.length):(restXs x b)[(splicesTo x b i).length+j]? = some [cgA nw[j]]:=by
 obtain ⟨t,ht⟩:=splicesTo_pre (x:=x) (b:=b) (show i+1≤b.rows.length from hi)
 rw [splicesTo,← hn] at ht
 rw [restXs,zK,restV,ht,zS,zS,zG (Nat.le_add_right _ _),Nat.add_sub_cancel_left,zF hj,zB hj]
 rfl
theorem restXs_cur {x b:Vw} {c:Cg} (hc:cursorV x b=[c]):(restXs x b)[(splicesTo x b b.rows.length).length]? = some [cgA c]:=by
 rw [restXs,zK,restV,hc,zG (zL _),Nat.sub_self];rfl
theorem restXs_len {x b:Vw}:(restXs x b).length=(splicesTo x b b.rows.length).length+(cursorV x b).length:=by simp [restXs,restV]
set_option maxHeartbeats 2000000 in
theorem rest1_gen {f fs:FuncId} (H:FnIs P f N [] (x_viewdiff_rest_1 fs)) (hN:3≤N) (x b:Vw) (hlen:b.rows.length≤x.rows.length) (hbl:b.rows.length≤1000) (hsx:Sm x 50000) (hsb:Sm b 50000)
  (Hs:∀ (row:Int) (a b:List Gl),a.length≤50000→b.length≤50000→FnP Γ P fs [.int row,.d (.sl eGl (glRows a)),.d (.sl eGl (glRows b))] (cgsA (splicesV row a b))) :
  GenD Γ P f [.iptr b.ds,.iptr x.ds] (restXs x b):=by
 refine ⟨H.enters,fun env bb id I E rounds L h hI hL hbb=>?_⟩
 refine .of_WT H (by simpa using hN) hbb (W_noTabs ?_)
 unfold x_viewdiff_rest_1
 refine W_seq ?_
 refine wR ?_;simp only [xq,reduceIte,qE,qA,qL,qD,Vw.ds,rwRows_len]
 refine W_block ?_
 let S:Nat→Heap→St:=fun i h=>⟨look [(0,.yld id),(1,.iptr b.ds),(2,.iptr x.ds),(10,.int b.rows.length),(11,.int i)],h⟩
 refine W_co (s':=S 0 h) (Co.keep _ (by simp [x_upd,x_look,Vw.ds])) ?_
 refine W_loop (fun m s=>∃ i L' h',i≤b.rows.length∧m=b.rows.length-i∧s=S i h'∧Turn L L' h h'∧I (splicesTo x b i).length L') ⟨0,L,h,zI _,rfl,rfl,.refl hL,hI⟩ ?_
 rintro m s ⟨i,L',h',hi,rfl,rfl,T,hI'⟩
 simp only [S]
 refine wR ?_;simp only [xq,reduceIte,qE,qA,qL,qD]
 refine W_seq (W_cond rfl (fun hc=>W_skip ?_) (fun hc=>W_exit ?_))
 ·have hlt:i<b.rows.length:=by simpa using hc
  have hltx:i<x.rows.length:=by omega
  have gx:x.rows.getD i []=x.rows[i]:=by rw [zC,zB hltx];rfl
  have gb:b.rows.getD i []=b.rows[i]:=by rw [zC,zB hlt];rfl
  have bx:=hsx.row _ (List.getElem_mem hltx)
  have bw:=hsb.row _ (List.getElem_mem hlt)
  have hS:=Hs i x.rows[i] b.rows[i] bx bw
  obtain ⟨nw,hnw⟩:∃ nw,nw=splicesV i x.rows[i] b.rows[i]:=⟨_,rfl⟩
  have hnl:nw.length≤200001:=by rw [hnw];exact splices_len bx bw
  rw [← hnw] at hS
  have hnw2:nw=splicesV i (x.rows.getD i []) (b.rows.getD i []):=by rw [gx,gb,hnw]
  have hto:splicesTo x b (i+1)=splicesTo x b i++nw:=by rw [splicesTo,← hnw2]
  simp only [xq,reduceIte,qE,qA,qL,qD]
  refine W_seq (W_block ?_)
  refine wR ?_;simp only [xq,reduceIte,qE,qA,qL,qD]
  refine W_seq (W_drw (by simp) ?_);simp only [xq,reduceIte,qE,qA,qL,qD,zr,zP,Vw.ds,rwRows_len,rwRows_get hltx,rwRows_get hlt,zQ]
  refine ⟨by omega,by omega,by omega,by omega,?_⟩
  refine c_fn (hS) rfl ?_;simp only [xq,reduceIte,qE,qA,qL,qD,cgRows_len]
  let S2:Nat→Heap→St:=fun j h=>⟨look [(0,.yld id),(1,.iptr b.ds),(2,.iptr x.ds),(10,.int b.rows.length),(11,.int i),(25,cgsA nw),(26,.int nw.length),(27,.int j)],h⟩
  refine W_block ?_
  refine W_co (s':=S2 0 h') (Co.keep _ (by simp [x_upd,x_look,Vw.ds])) ?_
  refine W_loop (fun m s=>∃ j L' h',j≤nw.length∧m=nw.length-j∧s=S2 j h'∧Turn L L' h h'∧I ((splicesTo x b i).length+j) L') ⟨0,L',h',zI _,rfl,rfl,T,hI'⟩ ?_
  clear T hI' L' h'
  rintro m s ⟨j,L',h',hj,rfl,rfl,T,hI'⟩
  simp only [S2]
  refine wR ?_;simp only [xq,reduceIte,qE,qA,qL,qD]
  refine W_seq (W_cond rfl (fun hc=>W_skip ?_) (fun hc=>W_exit ?_))
  ·have hjl:j<nw.length:=by simpa using hc
   obtain ⟨c,hcd⟩:∃ c,c=nw[j]:=⟨_,rfl⟩
   have w1:IntKind.i64.wrap ((j:Int)+1)=((j+1:Nat):Int):=by rw [i64_of (by omega)];omega
   have hx:=restXs_row hlt hnw2 hjl
   have hcg:(cgRows nw).getD j []=c.ds:=by rw [cgRows_get hjl,← hcd]
   rw [← hcd] at hx
   have Ta:=Turn.app T.has [cgB c]
   have hlen2:bb≤(h'++[cgB c]).length:=by have:=T.len;simp;omega
   simp only [xq,reduceIte,qE,qA,qL,qD]
   refine W_seq (W_block ?_)
   refine wR ?_;simp only [xq,reduceIte,qE,qA,qL,qD,cgRows_len,hcg,Cg.ds,zQ,hp_g0,hp_s0]
   refine ⟨by omega,by omega,?_⟩
   rcases rounds _ _ L' _ hx hI' Ta.has hlen2 with ⟨L2,h2,hR,T2,hI2⟩ | ⟨L2,h2,hR,T2,hE2⟩
   ·simp only [cgA,Cg.ds,zU,zV] at hR
    refine wR ?_;simp only [xq,reduceIte,qE,qA,qL,qD,hp_g0,Cg.ds]
    refine ce_yld hR ?_
    simp only [xq,reduceIte,qE,qA,qL,qD]
    refine W_cond rfl (fun hd=>by cases hd) (fun _=>W_skip ?_)
    simp only [xq,reduceIte,qE,qA,qL,qD]
    refine W_reg ?_;simp only [xq,reduceIte,qE,qA,qL,qD,w1]
    exact ⟨nw.length-(j+1),S2 (j+1) h2,by omega,Co.keep _ (by simp [x_upd,x_look,Vw.ds]),j+1,L2,h2,hjl,rfl,rfl,T.trans (Ta.trans T2),hI2⟩
   ·simp only [cgA,Cg.ds,zU,zV] at hR
    refine wR ?_;simp only [xq,reduceIte,qE,qA,qL,qD,hp_g0,Cg.ds]
    refine ce_yld hR ?_
    simp only [xq,reduceIte,qE,qA,qL,qD]
    refine W_cond rfl (fun _=>W_ret ?_) (fun hd=>by cases hd)
    simp only [xq,reduceIte,qE,qA,qL,qD]
    refine ⟨.inr trivial,?_⟩
    simp only [readRs]
    exact ⟨L2,T.trans (Ta.trans T2),.inr hE2⟩
  ·have hle:j=nw.length:=by simp at hc;omega
   subst hle
   have w1:IntKind.i64.wrap ((i:Int)+1)=((i+1:Nat):Int):=by rw [i64_of (by omega)];omega
   simp only [xq,reduceIte,qE,qA,qL,qD]
   refine W_reg ?_;simp only [xq,reduceIte,qE,qA,qL,qD,w1]
   exact ⟨b.rows.length-(i+1),S (i+1) h',by omega,Co.keep _ (by simp [x_upd,x_look,Vw.ds]),i+1,L',h',hlt,rfl,rfl,T,by rw [hto,zb];exact hI'⟩
 ·have hle:i=b.rows.length:=by simp at hc;omega
  subst hle
  simp only [xq,reduceIte,qE,qA,qL,qD]
  refine W_seq ?_
  refine W_cut (· = ⟨look [(0,.yld id),(1,.iptr b.ds),(55,.bool ((decide (x.row=b.row)&&decide (x.col=b.col))&&(x.vis == b.vis)))],h'⟩) (W_reg ?_) ?_
  ·cases e1:decide (x.row=b.row)
   ·simp only [xq,reduceIte,qE,qA,qL,qD,Vw.ds,e1,undefA,zE]
    exact ⟨_,Co.keep _ (by simp [x_upd,x_look]),rfl⟩
   ·cases e2:decide (x.col=b.col)
    ·simp only [xq,reduceIte,qE,qA,qL,qD,Vw.ds,e1,e2,undefA,zE]
     exact ⟨_,Co.keep _ (by simp [x_upd,x_look]),rfl⟩
    ·simp only [xq,reduceIte,qE,qA,qL,qD,Vw.ds,e1,e2,undefA,zE]
     exact ⟨_,Co.keep _ (by simp [x_upd,x_look]),rfl⟩
  rintro _ rfl
  refine W_cond rfl (fun hd=>?_) (fun hd=>W_skip ?_)
  ·have hcv:cursorV x b=[]:=by
    rw [cursorV,if_pos]
    simp only [zf,decide_eq_true_eq,beq_iff_eq] at hd
    exact ⟨hd.1.1,hd.1.2,hd.2⟩
   refine W_ret ?_
   simp only [xq,reduceIte,qE,qA,qL,qD]
   refine ⟨.inr trivial,?_⟩
   simp only [readRs]
   refine ⟨L',T,.inl ?_⟩
   rw [restXs_len,hcv];exact hI'
  ·let cc:Bool→Cg:=fun v=>⟨4,b.row,b.col,if v then 1 else 0,0,[]⟩
   have hcv:cursorV x b=[cc b.vis]:=by
    rw [cursorV,if_neg]
    rintro ⟨h1,h2,h3⟩
    simp [h1,h2,h3] at hd
   have hx:=restXs_cur hcv
   have hrl:(restXs x b).length=(splicesTo x b b.rows.length).length+1:=by rw [restXs_len,hcv];rfl
   simp only [xq,reduceIte,qE,qA,qL,qD]
   refine wR ?_;simp only [xq,reduceIte,qE,qA,qL,qD,Vw.ds,hp_g0,hp_s0]
   refine W_co (Co.viewLast (r2:=(cc false).ds.map .d) [(0,.yld id),(1,.iptr b.ds),(7,.ptr h'.length 1 0 0)] (by simp [x_upd,x_look,Vw.ds]) rfl ?_) ?_
   ·intro j y hj
    rcases j with _ | _ | _ | _ | _ | _ | j
    ·cases hj;exact .inl rfl
    ·cases hj;exact .inl rfl
    ·cases hj;exact .inl rfl
    ·cases hj;exact .inl rfl
    ·cases hj;exact .inl rfl
    ·cases hj;exact .inr ⟨.nil _,_,rfl⟩
    ·simp [cc,Cg.ds] at hj
   refine W_cut (· = ⟨look [(0,.yld id),(7,.ptr h'.length 1 0 0)],h'++[cgB (cc b.vis)]⟩) ?_ ?_
   ·refine wR ?_;simp only [xq,reduceIte,qE,qA,qL,qD,Vw.ds]
    refine W_cond rfl (fun hb=>?_) (fun hb=>W_skip ?_)
    ·rw [hb]
     refine W_reg ?_;simp only [xq,reduceIte,qE,qA,qL,qD,hp_g0,hp_s0,cc,Cg.ds]
     exact ⟨_,Co.keep _ (by simp [x_upd,x_look]),rfl⟩
    ·rw [hb]
     exact ⟨rfl,_,Co.keep _ (by simp [x_upd,x_look]),rfl⟩
   rintro _ rfl
   have Ta:=Turn.app T.has [cgB (cc b.vis)]
   have hlen2:bb≤(h'++[cgB (cc b.vis)]).length:=by have:=T.len;simp;omega
   generalize cc b.vis=c at hx Ta hlen2
   rcases rounds _ _ L' _ hx hI' Ta.has hlen2 with ⟨L2,h2,hR,T2,hI2⟩ | ⟨L2,h2,hR,T2,hE2⟩
   ·simp only [cgA,Cg.ds,zU,zV] at hR
    refine W_reg ?_;simp only [xq,reduceIte,qE,qA,qL,qD,hp_g0,Cg.ds]
    refine ce_yld hR ?_
    simp only [xq,reduceIte,qE,qA,qL,qD]
    refine ⟨.inl trivial,?_⟩
    simp only [readRs]
    exact ⟨L2,T.trans (Ta.trans T2),.inl (by rw [hrl];exact hI2)⟩
   ·simp only [cgA,Cg.ds,zU,zV] at hR
    refine W_reg ?_;simp only [xq,reduceIte,qE,qA,qL,qD,hp_g0,Cg.ds]
    refine ce_yld hR ?_
    simp only [xq,reduceIte,qE,qA,qL,qD]
    refine ⟨.inl trivial,?_⟩
    simp only [readRs]
    exact ⟨L2,T.trans (Ta.trans T2),.inr hE2⟩
end Go.Proofs.YtlllnjhgjijnkaaDoor.Nx
namespace Go.Proofs.YtlllnjhgjijnkaaDoor.Nx
open Go
variable {P:Program} {N:Nat} {Γ:Tabs}
set_option maxHeartbeats 1000000 in
theorem match_fn {f:FuncId} (H:FnIs P f N [.t 4] x_scrolldiff_match) (hN:2≤N) (a b:Vw):FnP Γ P f [vwA a,vwA b] (.bool (matchV a b)):=by
 refine .of_W H (by simpa using hN) ?_
 unfold x_scrolldiff_match
 simp only [vwA,Vw.ds,zU,zV]
 refine wR ?_;simp only [xq,reduceIte,qE,qA,qL,qD]
 unfold matchV
 cases e1:decide (a.height=b.height)
 ·refine wR ?_;simp only [xq,reduceIte,qE,qA,qL,qD,e1,undefA,zE,rwRows_len]
  refine W_ret (.tmp ?_ rfl)
  simp only [x_upd,reduceIte,Bool.false_and]
 ·cases e2:decide ((a.rows.length:Int)=a.height)
  ·refine wR ?_;simp only [xq,reduceIte,qE,qA,qL,qD,e1,e2,undefA,zE,rwRows_len]
   refine W_ret (.tmp ?_ rfl)
   simp only [x_upd,reduceIte,Bool.false_and,Bool.and_false]
  ·refine wR ?_;simp only [xq,reduceIte,qE,qA,qL,qD,e1,e2,undefA,zE,rwRows_len]
   refine W_ret (.tmp ?_ rfl)
   simp only [x_upd,reduceIte,Bool.true_and]
theorem sequal_fn {f fe:FuncId} (H:FnIs P f N [.t 4] (x_scrolldiff_equal fe)) (hN:2≤N) (He:∀ a b:List Gl,FnP Γ P fe [.d (.sl eGl (glRows a)),.d (.sl eGl (glRows b))] (.bool (decide (a=b)))) (a b:List Gl) :
  FnP Γ P f [.d (.sl eGl (glRows a)),.d (.sl eGl (glRows b))] (.bool (decide (a=b))):=by
 refine .of_W H (by simpa using hN) ?_
 unfold x_scrolldiff_equal
 refine wR ?_;simp only [xq,reduceIte,qE,qA,qL,qD]
 refine wR ?_;simp only [xq,reduceIte,qE,qA,qL,qD]
 refine c_fn (He a b) rfl ?_;simp only [xq,reduceIte,qE,qA,qL,qD]
 refine W_ret (.tmp ?_ rfl)
 simp only [x_upd,reduceIte]
abbrev RowEqOk (Γ:Tabs) (P:Program) (f:FuncId):Prop:=∀ a b:List Gl,FnP Γ P f [.d (.sl eGl (glRows a)),.d (.sl eGl (glRows b))] (.bool (decide (a=b)))
theorem gain2_fn {f fe:FuncId} (H:FnIs P f N [.t 4] (x_scrolldiff_gain_2 fe)) (hN:3≤N) (He:RowEqOk Γ P fe) (a b:Vw) (i:Nat) (ha:i<a.rows.length) (hb:i<b.rows.length) :
  FnP Γ P f [.int i,.iptr a.ds,.iptr b.ds] (.bool (decide (a.rows.getD i []=b.rows.getD i []))):=by
 refine .of_W H (by simpa using hN) ?_
 have ga:a.rows.getD i []=a.rows[i]:=by rw [zC,zB ha];rfl
 have gb:b.rows.getD i []=b.rows[i]:=by rw [zC,zB hb];rfl
 unfold x_scrolldiff_gain_2
 refine wR ?_;simp only [xq,reduceIte,qE,qA,qL,qD]
 refine W_seq (W_drw (by simp) ?_);simp only [xq,reduceIte,qE,qA,qL,qD,zr,zP,Vw.ds,rwRows_len,rwRows_get ha,rwRows_get hb,zQ]
 refine ⟨by omega,by omega,by omega,by omega,?_⟩
 refine c_fn (He a.rows[i] b.rows[i]) rfl ?_;simp only [xq,reduceIte,qE,qA,qL,qD]
 refine W_ret (.tmp ?_ rfl)
 simp only [x_upd,reduceIte,ga,gb]
theorem gain1_fn {f fe:FuncId} (H:FnIs P f N [.t 7] (x_scrolldiff_gain_1 fe)) (hN:6≤N) (He:RowEqOk Γ P fe) (a b:Vw) (top bot y:Int) (i:Nat) (hb:i<b.rows.length) (ht:0≤top) (hbo:bot≤a.rows.length) (hbl:b.rows.length≤1000) (hy : -1000≤y∧y≤1000) :
  FnP Γ P f [.int i,.iptr [.sc (.int .i64 y)],.iptr [.sc (.int .i64 top)],.iptr [.sc (.int .i64 bot)],.iptr a.ds,.iptr b.ds] (.bool (scrEq a.rows b.rows top bot y i)):=by
 refine .of_W H (by simpa using hN) ?_
 have gb:b.rows.getD i []=b.rows[i]:=by rw [zC,zB hb];rfl
 have w1:IntKind.i64.wrap ((i:Int)+y)=(i:Int)+y:=i64_of (by omega)
 unfold x_scrolldiff_gain_1
 refine wR ?_;simp only [xq,reduceIte,qE,qA,qL,qD]
 refine W_seq ?_
 refine wR ?_;simp only [xq,reduceIte,qE,qA,qL,qD,w1]
 let S:Bool→St:=fun c=>⟨look [(0,.int i),(4,.iptr a.ds),(5,.iptr b.ds),(8,.int ((i:Int)+y)),(19,.bool c)],[]⟩
 refine W_cut (· = S (decide (top≤(i:Int)+y)&&decide ((i:Int)+y<bot))) (W_reg ?_) ?_
 ·cases e1:decide (top≤(i:Int)+y)
  ·simp only [xq,reduceIte,qE,qA,qL,qD,e1,undefA,zE]
   exact ⟨_,Co.keep _ (by simp [x_upd,x_look]),rfl⟩
  ·simp only [xq,reduceIte,qE,qA,qL,qD,e1,undefA,zE]
   exact ⟨_,Co.keep _ (by simp [x_upd,x_look]),rfl⟩
 rintro _ rfl
 simp only [S]
 refine W_cond rfl (fun hd=>?_) (fun hd=>W_skip ?_)
 ·have hd:top≤(i:Int)+y∧(i:Int)+y<bot:=by simpa using hd
  obtain ⟨k,hk⟩:∃ k:Nat,(i:Int)+y=k:=⟨((i:Int)+y).toNat,by omega⟩
  have hka:k<a.rows.length:=by omega
  have ga:rowAt a.rows ((i:Int)+y)=a.rows[k]:=by rw [rowAt,hk,zQ,zC,zB hka];rfl
  rw [scrEq,if_pos hd,ga,gb]
  refine W_seq (W_drw (by simp) ?_);simp only [xq,reduceIte,qE,qA,qL,qD,zr,zP,Vw.ds,hk,rwRows_len,rwRows_get hka,rwRows_get hb,zQ]
  refine ⟨by omega,by omega,by omega,by omega,?_⟩
  refine c_fn (He a.rows[k] b.rows[i]) rfl ?_;simp only [xq,reduceIte,qE,qA,qL,qD]
  refine W_ret (.tmp ?_ rfl)
  simp only [x_upd,reduceIte]
 ·have hd:¬ (top≤(i:Int)+y∧(i:Int)+y<bot):=by simpa using hd
  rw [scrEq,if_neg hd,gb]
  simp only [xq,reduceIte,qE,qA,qL,qD]
  refine wR ?_;simp only [xq,reduceIte,qE,qA,qL,qD,Vw.ds,rwRows_len,rwRows_get hb,zQ,glRows_len]
  refine ⟨by omega,by omega,?_⟩
  refine W_ret (.tmp ?_ rfl)
  simp only [x_upd,reduceIte]
  congr 1
  rw [decide_eq_decide]
  constructor
  ·intro h;exact zx (by omega)
  ·intro h;rw [h];rfl
theorem cntB_bnd (p:Nat→Bool) (t:Nat):∀ k,0≤cntB p t k∧cntB p t k≤k
 | 0=>by simp [cntB]
 | k+1=>by
  have:=cntB_bnd p t k
  rw [cntB]
  split<;>omega
theorem count_fn {f g:FuncId} {caps:List A} (H:FnIs P f N [.t 6] x_scrolldiff_count) (hN:3≤N) (top bot:Nat) (hb:bot≤1000) (htb:top≤bot) (p:Nat→Bool) (h0:A.underL 0 caps=true)
  (Hg:∀ i:Nat,top≤i→i<bot→FnP Γ P g ([.int i]++caps) (.bool (p i))):FnP Γ P f [.int top,.int bot,.fn g caps] (.int (cntB p top (bot-top))):=by
 refine .of_W H (by simpa using hN) ?_
 unfold x_scrolldiff_count
 refine wR ?_;simp only [xq,reduceIte,qE,qA,qL,qD]
 refine wR ?_;simp only [xq,reduceIte,qE,qA,qL,qD]
 refine W_seq ?_
 refine wR ?_;simp only [xq,reduceIte,qE,qA,qL,qD]
 refine W_block ?_
 let S:Nat→St:=fun k=>⟨look [(1,.int bot),(2,.fn g caps),(7,.int (cntB p top k)),(8,.int ((top+k:Nat):Int))],[]⟩
 refine W_co (s':=S 0) (Co.keep _ (by simp [x_upd,x_look,cntB])) ?_
 refine W_loop (fun m s=>∃ k,top+k≤bot∧m=bot-(top+k)∧s=S k) ⟨0,by omega,rfl,rfl⟩ ?_
 rintro m s ⟨k,hk,rfl,rfl⟩
 have hcb:=cntB_bnd p top k
 simp only [S]
 refine W_seq ?_
 refine wR ?_;simp only [xq,reduceIte,qE,qA,qL,qD]
 refine W_cond rfl (fun hc=>W_skip ?_) (fun hc=>W_exit ?_)
 ·have hlt:top+k<bot:=by simp only [decide_eq_true_eq] at hc;omega
  have w1:IntKind.i64.wrap (((top+k:Nat):Int)+1)=((top+(k+1):Nat):Int):=by rw [i64_of (by omega)];omega
  have w2:IntKind.i64.wrap (cntB p top k+1)=cntB p top k+1:=i64_of (by omega)
  simp only [xq,reduceIte,qE,qA,qL,qD]
  refine W_seq (W_block ?_)
  refine wR ?_;simp only [xq,reduceIte,qE,qA,qL,qD]
  refine c_clo (Hg (top+k) (by omega) hlt) (by simp [A.underL,A.under,h0]) ?_
  simp only [xq,reduceIte,qE,qA,qL,qD]
  refine W_cond rfl (fun hd=>?_) (fun hd=>W_skip ?_)
  ·have hsu:cntB p top (k+1)=cntB p top k+1:=by rw [cntB,hd];rfl
   refine W_reg ?_;simp only [xq,reduceIte,qE,qA,qL,qD,w2]
   refine W_reg ?_;simp only [xq,reduceIte,qE,qA,qL,qD,w1]
   exact ⟨bot-(top+(k+1)),S (k+1),by omega,Co.keep _ (by simp [x_upd,x_look,hsu]),k+1,hlt,rfl,rfl⟩
  ·have hsu:cntB p top (k+1)=cntB p top k:=by rw [cntB,hd];simp
   simp only [xq,reduceIte,qE,qA,qL,qD]
   refine W_reg ?_;simp only [xq,reduceIte,qE,qA,qL,qD,w1]
   exact ⟨bot-(top+(k+1)),S (k+1),by omega,Co.keep _ (by simp [x_upd,x_look,hsu]),k+1,hlt,rfl,rfl⟩
 ·have hle:k=bot-top:=by simp only [decide_eq_false_iff_not] at hc;omega
  subst hle
  simp only [xq,reduceIte,qE,qA,qL,qD]
  refine wR ?_;simp only [xq,reduceIte,qE,qA,qL,qD]
  refine W_ret (.tmp ?_ rfl)
  simp only [x_upd,reduceIte]
theorem gain_fn {f f1 fc f2:FuncId} (H:FnIs P f N [.t 10] (x_scrolldiff_gain f1 fc f2)) (hN:5≤N) (a b:Vw) (top bot:Nat) (y:Int) (hbl:b.rows.length≤1000) (hab:a.rows.length=b.rows.length) (htb:top≤bot) (hbo:bot≤a.rows.length) (hy : -1000≤y∧y≤1000)
  (H1:∀ i:Nat,i<b.rows.length→FnP Γ P f1 [.int i,.iptr [.sc (.int .i64 y)],.iptr [.sc (.int .i64 top)],.iptr [.sc (.int .i64 bot)],.iptr a.ds,.iptr b.ds] (.bool (scrEq a.rows b.rows top bot y i)))
  (H2:∀ i:Nat,i<b.rows.length→FnP Γ P f2 [.int i,.iptr a.ds,.iptr b.ds] (.bool (decide (a.rows.getD i []=b.rows.getD i []))))
  (Hc:∀ (g:FuncId) (caps:List A) (p:Nat→Bool),A.underL 0 caps=true→(∀ i:Nat,top≤i→i<bot→FnP Γ P g ([.int i]++caps) (.bool (p i)))→FnP Γ P fc [.int top,.int bot,.fn g caps] (.int (cntB p top (bot-top)))) :
  FnP Γ P f [vwA a,vwA b,.int top,.int bot,.int y] (.int (gainV a.rows b.rows top bot y)):=by
 refine .of_W H (by simpa using hN) ?_
 have c1:=Hc f1 [.iptr [.sc (.int .i64 y)],.iptr [.sc (.int .i64 top)],.iptr [.sc (.int .i64 bot)],.iptr a.ds,.iptr b.ds] (scrEq a.rows b.rows top bot y) rfl (fun i _ hi=>H1 i (by omega))
 have c2:=Hc f2 [.iptr a.ds,.iptr b.ds] (fun i=>decide (a.rows.getD i []=b.rows.getD i [])) rfl (fun i _ hi=>H2 i (by omega))
 have b1:=cntB_bnd (scrEq a.rows b.rows top bot y) top (bot-top)
 have b2:=cntB_bnd (fun i=>decide (a.rows.getD i []=b.rows.getD i [])) top (bot-top)
 have hg:gainV a.rows b.rows top bot y=cntB (scrEq a.rows b.rows top bot y) top (bot-top)-cntB (fun i=>decide (a.rows.getD i []=b.rows.getD i [])) top (bot-top):=by
  rw [gainV,zQ,show ((bot:Int)-(top:Int)).toNat=bot-top by omega]
 rw [hg]
 generalize cntB (scrEq a.rows b.rows top bot y) top (bot-top)=n1 at *
 generalize cntB (fun i=>decide (a.rows.getD i []=b.rows.getD i [])) top (bot-top)=n2 at *
 have w1:IntKind.i64.wrap (n1-n2)=n1-n2:=i64_of (by omega)
 unfold x_scrolldiff_gain
 simp only [vwA,Vw.ds,zU,zV]
 refine wR ?_;simp only [xq,reduceIte,qE,qA,qL,qD]
 let S:St:=⟨look [(5,.iptr a.ds),(6,.iptr b.ds),(7,.iptr [.sc (.int .i64 top)]),(8,.iptr [.sc (.int .i64 bot)]),(9,.iptr [.sc (.int .i64 y)])],[]⟩
 refine W_co (s':=S) (Co.frz _ 0 ?_ (zI _) (zI _) u0) ?_
 ·intro p hp
  simp only [zp,List.not_mem_nil,or_false] at hp
  rcases hp with rfl | rfl | rfl | rfl | rfl
  ·exact frz_box (zI _) (e:=eVw) (ds:=a.ds) rfl
  ·exact frz_box (zI _) (e:=eVw) (ds:=b.ds) rfl
  ·exact frz_box (zI _) (e:=eInt) (ds:=[.sc (.int .i64 top)]) rfl
  ·exact frz_box (zI _) (e:=eInt) (ds:=[.sc (.int .i64 bot)]) rfl
  ·exact frz_box (zI _) (e:=eInt) (ds:=[.sc (.int .i64 y)]) rfl
 simp only [S]
 refine wR ?_;simp only [xq,reduceIte,qE,qA,qL,qD]
 refine c_fn (c1) rfl ?_;simp only [xq,reduceIte,qE,qA,qL,qD]
 refine wR ?_;simp only [xq,reduceIte,qE,qA,qL,qD]
 refine c_fn (c2) rfl ?_;simp only [xq,reduceIte,qE,qA,qL,qD,w1]
 refine W_ret (.tmp ?_ rfl)
 simp only [x_upd,reduceIte]
end Go.Proofs.YtlllnjhgjijnkaaDoor.Nx
namespace Go.Proofs.YtlllnjhgjijnkaaDoor.Nx
open Go
variable {P:Program} {N:Nat} {Γ:Tabs}
def Cand.ds (c:Cand):List D:=[.sc (.int .i64 c.gain),.sc (.int .i64 c.top),.sc (.int .i64 c.bot),.sc (.int .i64 c.by')]
def caA (c:Cand):A:=.agg (c.ds.map .d)
abbrev caB (c:Cand):HB:=.cells ⟨4,32⟩ [c.ds.map .d]
theorem ca_eq (c d:Cand):((c.gain == d.gain)&&((c.top == d.top)&&((c.bot == d.bot)&&(c.by' == d.by'))))=decide (c=d):=by
 cases c;cases d
 rw [Bool.eq_iff_iff]
 simp
theorem ca_eq0 (c:Cand):((c.gain == 0)&&((c.top == 0)&&((c.bot == 0)&&(c.by' == 0))))=decide (c=cand0):=ca_eq c cand0
theorem abs_mm {y:Int}:minmaxInt true y (0-y)=absI y:=by
 unfold minmaxInt absI
 simp only [if_true]
 split<;>omega
theorem under_vwB' {v:Vw} {k:Nat}:HB.under k (vwB v):=by
 intro r hr x hx
 simp only [List.mem_singleton] at hr
 subst hr
 obtain ⟨d,_,rfl⟩:=List.mem_map.1 hx
 rfl
theorem under_caB {c:Cand} {k:Nat}:HB.under k (caB c):=by
 intro r hr x hx
 simp only [List.mem_singleton] at hr
 subst hr
 obtain ⟨d,_,rfl⟩:=List.mem_map.1 hx
 rfl
set_option maxHeartbeats 1000000 in
theorem better_fn {f:FuncId} (H:FnIs P f N [.t 4] x_scrolldiff_candidate_better) (hN:2≤N) (c d:Cand) (hc : -1000≤c.by'∧c.by'≤1000) (hd : -1000≤d.by'∧d.by'≤1000):FnP Γ P f [caA c,caA d] (.bool (betterC c d)):=by
 refine .of_W H (by simpa using hN) ?_
 have w1:IntKind.i64.wrap (0-c.by')=0-c.by':=i64_of (by omega)
 have w2:IntKind.i64.wrap (0-d.by')=0-d.by':=i64_of (by omega)
 unfold x_scrolldiff_candidate_better
 simp only [caA,Cand.ds,zU,zV]
 refine wR ?_;simp only [xq,reduceIte,qE,qA,qL,qD]
 refine W_seq (W_block ?_)
 refine wR ?_;simp only [xq,reduceIte,qE,qA,qL,qD,ca_eq]
 repeat refine And.intro (by omega) ?_
 refine W_cond rfl (fun h0=>?_) (fun h0=>?_)
 ·have h0:=of_decide_eq_true h0
  refine wR ?_;simp only [xq,reduceIte,qE,qA,qL,qD]
  refine W_ret ?_
  simp only [xq,reduceIte,qE,qA,qL,qD]
  refine .tmp ?_ rfl
  simp only [x_upd,reduceIte,betterC,if_pos h0]
 have h0:=of_decide_eq_false h0
 refine wR ?_;simp only [xq,reduceIte,qE,qA,qL,qD]
 refine W_cond rfl (fun h1=>?_) (fun h1=>?_)
 ·have h1:c.gain≠d.gain:=by simpa using h1
  refine wR ?_;simp only [xq,reduceIte,qE,qA,qL,qD]
  refine W_ret ?_
  simp only [xq,reduceIte,qE,qA,qL,qD]
  refine .tmp ?_ rfl
  simp only [x_upd,reduceIte,betterC,if_neg h0,if_pos h1]
 have h1:¬ c.gain≠d.gain:=by simpa using h1
 refine wR ?_;simp only [xq,reduceIte,qE,qA,qL,qD,w1,w2,abs_mm]
 refine W_cond rfl (fun h2=>?_) (fun h2=>?_)
 ·have h2:absI c.by'≠absI d.by':=by simpa using h2
  refine wR ?_;simp only [xq,reduceIte,qE,qA,qL,qD,w1,w2,abs_mm]
  refine W_ret ?_
  simp only [xq,reduceIte,qE,qA,qL,qD]
  refine .tmp ?_ rfl
  simp only [x_upd,reduceIte,betterC,if_neg h0,if_neg h1,if_pos h2]
 have h2:¬ absI c.by'≠absI d.by':=by simpa using h2
 refine wR ?_;simp only [xq,reduceIte,qE,qA,qL,qD]
 refine W_cond rfl (fun h3=>?_) (fun h3=>?_)
 ·have h3:c.by'≠d.by':=by simpa using h3
  refine wR ?_;simp only [xq,reduceIte,qE,qA,qL,qD]
  refine W_ret ?_
  simp only [xq,reduceIte,qE,qA,qL,qD]
  refine .tmp ?_ rfl
  simp only [x_upd,reduceIte,betterC,if_neg h0,if_neg h1,if_neg h2,if_pos h3]
 have h3:¬ c.by'≠d.by':=by simpa using h3
 refine wR ?_;simp only [xq,reduceIte,qE,qA,qL,qD]
 refine W_cond rfl (fun h4=>?_) (fun h4=>W_skip ?_)
 ·have h4:c.top≠d.top:=by simpa using h4
  refine wR ?_;simp only [xq,reduceIte,qE,qA,qL,qD]
  refine W_ret ?_
  simp only [xq,reduceIte,qE,qA,qL,qD]
  refine .tmp ?_ rfl
  simp only [x_upd,reduceIte,betterC,if_neg h0,if_neg h1,if_neg h2,if_neg h3,if_pos h4]
 have h4:¬ c.top≠d.top:=by simpa using h4
 simp only [xq,reduceIte,qE,qA,qL,qD]
 refine wR ?_;simp only [xq,reduceIte,qE,qA,qL,qD]
 refine W_ret (.tmp ?_ rfl)
 simp only [x_upd,reduceIte,betterC,if_neg h0,if_neg h1,if_neg h2,if_neg h3,if_neg h4]
def CandOk (c:Cand):Prop := -1000≤c.by'∧c.by'≤1000
def candCond (a b:List (List Gl)) (y top:Int) (best:Cand) (bot:Int):Bool:=decide (2≤gainV a b top bot y)&&(decide (best=cand0)||betterC ⟨gainV a b top bot y,top,bot,y⟩ best)
theorem stepC_if {a b:List (List Gl)} {y top bot:Int} {best:Cand}:stepC a b y top best bot=if candCond a b y top best bot=true then ⟨gainV a b top bot y,top,bot,y⟩ else best:=by
 unfold stepC candCond
 congr 1
 simp only [zf,Bool.or_eq_true,decide_eq_true_eq]
def fndA (x:Cg × Bool):A:=.tup [cgA x.1,.bool x.2]
abbrev GainOk (Γ:Tabs) (P:Program) (f:FuncId) (a b:Vw):Prop:=∀ (top bot:Nat) (y:Int),top≤bot→bot≤a.rows.length → -1000≤y∧y≤1000→FnP Γ P f [vwA a,vwA b,.int top,.int bot,.int y] (.int (gainV a.rows b.rows top bot y))
set_option maxHeartbeats 2000000 in
theorem find_fn {f fm fg fb:FuncId} (H:FnIs P f N [.c 4 6 true,.t 5] (x_scrolldiff_Find fm fg fb)) (hN:2≤N) (a b:Vw) (hal:a.rows.length≤1000) (Hm:FnP Γ P fm [vwA a,vwA b] (.bool (matchV a b)))
  (Hg:matchV a b=true→GainOk Γ P fg a b) (Hb:∀ c d:Cand,CandOk c→CandOk d→FnP Γ P fb [caA c,caA d] (.bool (betterC c d))) :
  FnP Γ P f [vwA a,vwA b] (fndA (findV a b)):=by
 refine .of_W H (by simpa using hN) ?_
 unfold x_scrolldiff_Find
 have hm0:=Hm
 simp only [vwA,Vw.ds,zU,zV] at hm0 ⊢
 refine wR ?_;simp only [xq,reduceIte,qE,qA,qL,qD]
 refine W_seq ?_
 refine wR ?_;simp only [xq,reduceIte,qE,qA,qL,qD]
 refine c_fn (hm0) rfl ?_;simp only [xq,reduceIte,qE,qA,qL,qD]
 refine W_cond rfl (fun hk=>?_) (fun hk=>W_skip ?_)
 ·have hk:matchV a b=false:=by simpa using hk
  refine wR ?_;simp only [xq,reduceIte,qE,qA,qL,qD]
  refine W_ret ⟨.inr rfl,?_⟩
  simp only [readRs,readR,single,x_upd,reduceIte,qE,x_look,argS,xq,reduceIte,qE,qA,qL,qD,loadsTo]
  rw [findV,if_neg (by rw [hk];decide)]
  refine frzT2 (.agg rfl fun j y hj=>?_) (.same rfl)
  rcases j with _ | _ | _ | _ | _ | _ | j
  ·cases hj;exact .same rfl
  ·cases hj;exact .same rfl
  ·cases hj;exact .same rfl
  ·cases hj;exact .same rfl
  ·cases hj;exact .same rfl
  ·cases hj;exact .d (.nil _)
  ·simp [Cg.ds] at hj
 have hk:matchV a b=true:=by simpa using hk
 have Hg:=Hg hk
 simp only [xq,reduceIte,qE,qA,qL,qD]
 refine wR ?_;simp only [xq,reduceIte,qE,qA,qL,qD,rwRows_len]
 refine wR ?_;simp only [xq,reduceIte,qE,qA,qL,qD]
 obtain ⟨n,hn⟩:∃ n,n=a.rows.length:=⟨_,rfl⟩
 rw [← hn] at hal
 let zc:HB:=.cells eCg [[.int 0,.int 0,.int 0,.int 0,.int 0,.nil]]
 let Hp:Cand→Heap:=fun c=>[vwB a,vwB b,zc,caB c]
 have huH:∀ c,∀ B∈Hp c,HB.under 4 B:=by
  intro c B hB
  simp only [Hp,zp,List.not_mem_nil,or_false] at hB
  rcases hB with rfl | rfl | rfl | rfl
  ·exact under_vwB'
  ·exact under_vwB'
  ·intro r hr x hx
   simp only [List.mem_singleton] at hr
   subst hr
   simp only [zp,List.not_mem_nil,or_false] at hx
   rcases hx with rfl | rfl | rfl | rfl | rfl | rfl<;>rfl
  ·exact under_caB
 have tr:∀ (l:List (Nat × A)) (sl:Nat→A) (c:Cand) (t:Heap),(∀ p∈l,sl p.1=p.2∧p.2.under 4=true)→Co 0 ⟨sl,Hp c++t⟩ ⟨look l,Hp c⟩:=fun l sl c t hl=>by
  have:=Co.to (n0:=0) (s:=⟨sl,Hp c++t⟩) l 4 hl (zI _) (by simp [Hp]) (by simpa [Hp] using huH c)
  simpa [Hp] using this
 let base:List (Nat × A):=[(2,.ptr 0 1 0 0),(3,.ptr 1 1 0 0),(4,.ptr 2 1 0 0),(6,.int n),(7,.ptr 3 1 0 0)]
 refine W_cut (· = ⟨look [(4,.ptr 2 1 0 0),(7,.ptr 3 1 0 0)],Hp (bestC a.rows b.rows n)⟩) ?_ ?_
 ·have w0:IntKind.i64.wrap (1-(n:Int))=1-(n:Int):=i64_of (by omega)
  refine wR ?_;simp only [xq,reduceIte,qE,qA,qL,qD,← hn,w0]
  refine W_block ?_
  let S1:Int→Cand→St:=fun y c=>⟨look ((8,.int y)::base),Hp c⟩
  refine W_co (s':=S1 (1-n) cand0) (Co.keep _ (by simp [base,x_upd,x_look,← hn])) ?_
  refine W_loop (fun m s=>∃ y c,m=((n:Int)-y).toNat∧s=S1 y c∧CandOk c∧1-(n:Int)≤y∧(y≤n∨n=0)∧byC a.rows b.rows n ((n:Int)-y).toNat y c=bestC a.rows b.rows n) ⟨1-n,cand0,rfl,rfl,⟨by simp [cand0],by simp [cand0]⟩,by omega,by omega,by rw [bestC,show ((n:Int)-(1-n)).toNat=2 * n-1 by omega]⟩ ?_
  rintro m s ⟨y,c,rfl,rfl,hcok,hy1,hy2,hby⟩
  simp only [S1,base]
  refine W_seq ?_
  refine wR ?_;simp only [xq,reduceIte,qE,qA,qL,qD]
  refine W_cond rfl (fun hc=>W_skip ?_) (fun hc=>W_exit ?_)
  ·have hlt:y<n:=of_decide_eq_true hc
   obtain ⟨r,hr⟩:∃ r,((n:Int)-y).toNat=r+1:=⟨((n:Int)-y).toNat-1,by omega⟩
   rw [hr,byC] at hby
   have wy:IntKind.i64.wrap (y+1)=y+1:=i64_of (by omega)
   simp only [xq,reduceIte,qE,qA,qL,qD]
   refine W_seq (W_block ?_)
   refine wR ?_;simp only [xq,reduceIte,qE,qA,qL,qD]
   refine W_block ?_
   let S2:Nat→Cand→St:=fun t c=>⟨look ((27,.int n)::(28,.int t)::(8,.int y)::base),Hp c⟩
   refine W_co (s':=S2 0 c) (Co.keep _ (by simp [base,x_upd,x_look])) ?_
   obtain ⟨fin,hfin⟩:∃ fin,fin=topC a.rows b.rows n y n 0 c:=⟨_,rfl⟩
   rw [← hfin] at hby
   refine W_loop (fun m s=>∃ t c,t≤n∧m=n-t∧s=S2 t c∧CandOk c∧topC a.rows b.rows n y (n-t) t c=fin) ⟨0,c,zI _,rfl,rfl,hcok,by rw [hfin];rfl⟩ ?_
   clear hcok hfin c
   rintro m s ⟨t,c,ht,rfl,rfl,hcok,htop⟩
   simp only [S2,base]
   refine wR ?_;simp only [xq,reduceIte,qE,qA,qL,qD]
   refine W_seq (W_cond rfl (fun hc=>W_skip ?_) (fun hc=>W_exit ?_))
   ·have hlt2:t<n:=by simpa using hc
    obtain ⟨r2,hr2⟩:∃ r,n-t=r+1:=⟨n-t-1,by omega⟩
    rw [hr2,topC] at htop
    have wt:IntKind.i64.wrap ((t:Int)+1)=((t+1:Nat):Int):=by rw [i64_of (by omega)];omega
    have wn:IntKind.i64.wrap (0-y)=0-y:=i64_of (by omega)
    have ha:0≤absI y∧absI y≤1000:=by unfold absI;omega
    have wa:IntKind.i64.wrap ((t:Int)+absI y)=(t:Int)+absI y:=i64_of (by omega)
    have wb:IntKind.i64.wrap ((t:Int)+absI y+1)=(t:Int)+absI y+1:=i64_of (by omega)
    obtain ⟨bt,hbt⟩:∃ bt:Nat,(t:Int)+absI y+1=bt:=⟨((t:Int)+absI y+1).toNat,by omega⟩
    simp only [xq,reduceIte,qE,qA,qL,qD]
    refine W_seq (W_block ?_)
    refine wR ?_;simp only [xq,reduceIte,qE,qA,qL,qD]
    refine wR ?_;simp only [xq,reduceIte,qE,qA,qL,qD,wn,abs_mm,wa,wb]
    refine W_block ?_
    let S3:Nat→Cand→St:=fun u c=>⟨look ((27,.int n)::(28,.int t)::(8,.int y)::(9,.int t)::(10,.int u)::base),Hp c⟩
    refine W_co (s':=S3 bt c) (Co.keep _ (by simp [base,x_upd,x_look,hbt])) ?_
    obtain ⟨fin2,hfin2⟩:∃ fin,fin=(if y=0 then c else botC a.rows b.rows y t ((n:Int)+1-((t:Int)+absI y+1)).toNat ((t:Int)+absI y+1) c):=⟨_,rfl⟩
    rw [← hfin2] at htop
    have ht0:t+1≤bt:=by omega
    refine W_loop (fun m s=>∃ u c,t+1≤u∧m=n+1-u∧s=S3 u c∧CandOk c∧(if y=0 then c else botC a.rows b.rows y t ((n:Int)+1-u).toNat u c)=fin2) ⟨bt,c,ht0,rfl,rfl,hcok,by rw [hfin2,hbt]⟩ ?_
    clear hcok hfin2 hbt ht0 c
    rintro m s ⟨u,c,hu,rfl,rfl,hcok,hbot⟩
    simp only [S3,base]
    let T3:Bool→St:=fun z=>⟨look ((44,.bool z)::(27,.int n)::(28,.int t)::(8,.int y)::(9,.int t)::(10,.int u)::base),Hp c⟩
    refine W_seq (W_cut (· = T3 (!decide (y=0)&&decide ((u:Int)≤n))) (W_reg ?_) ?_)
    ·cases e1:decide (y=0)
     ·simp only [xq,reduceIte,qE,qA,qL,qD,e1,undefA,zE]
      exact ⟨_,Co.keep _ (by simp [base,x_upd,x_look]),rfl⟩
     ·simp only [xq,reduceIte,qE,qA,qL,qD,e1,undefA,zE]
      exact ⟨_,Co.keep _ (by simp [base,x_upd,x_look]),rfl⟩
    rintro _ rfl
    simp only [T3,base]
    refine W_cond rfl (fun hc=>W_skip ?_) (fun hc=>W_exit ?_)
    ·obtain ⟨hy0,hun⟩:¬ y=0∧u≤n:=by
      simp only [zf,Bool.not_eq_true',decide_eq_false_iff_not,decide_eq_true_eq] at hc
      exact ⟨hc.1,by omega⟩
     obtain ⟨r3,hr3⟩:∃ r,((n:Int)+1-u).toNat=r+1:=⟨((n:Int)+1-u).toNat-1,by omega⟩
     rw [if_neg hy0,hr3,botC,stepC_if] at hbot
     have wu:IntKind.i64.wrap ((u:Int)+1)=((u+1:Nat):Int):=by rw [i64_of (by omega)];omega
     have hG:=Hg t u y (by omega) (by omega) (by omega)
     simp only [vwA,Vw.ds,zU,zV] at hG
     obtain ⟨g,hgd⟩:∃ g,g=gainV a.rows b.rows t u y:=⟨_,rfl⟩
     obtain ⟨cc,hcc⟩:∃ cc:Bool,cc=candCond a.rows b.rows y t c u:=⟨_,rfl⟩
     have hcc2:=hcc
     rw [candCond] at hcc2
     rw [← hgd] at hG hbot hcc2
     rw [← hcc] at hbot
     have hcd:CandOk ⟨g,t,u,y⟩:=⟨by simp only;omega,by simp only;omega⟩
     have hB:=Hb ⟨g,t,u,y⟩ c hcd hcok
     simp only [caA,Cand.ds,zU,zV] at hB
     simp only [xq,reduceIte,qE,qA,qL,qD]
     refine W_seq (W_block ?_)
     refine wR ?_;simp only [xq,reduceIte,qE,qA,qL,qD,Hp,Vw.ds]
     refine c_fn (hG) rfl ?_;simp only [xq,reduceIte,qE,qA,qL,qD]
     let T4:Bool→St:=fun z=>⟨look ((69,.bool z)::(11,.ptr 4 1 0 0)::(27,.int n)::(28,.int t)::(8,.int y)::(9,.int t)::(10,.int u)::base),Hp c++[caB ⟨g,t,u,y⟩]⟩
     refine W_cut (· = T4 cc) (W_reg ?_) ?_
     ·rw [hcc2]
      cases e1:decide (2≤g)
      ·simp only [xq,reduceIte,qE,qA,qL,qD,e1,undefA,zE]
       exact ⟨_,Co.keep _ (by simp [base,x_upd,x_look]),rfl⟩
      ·cases e2:decide (c=cand0)
       ·simp only [xq,reduceIte,qE,qA,qL,qD,e1,Cand.ds,ca_eq0,e2,undefA,zE]
        repeat refine And.intro (by omega) ?_
        refine c_fn (hB) rfl ?_;simp only [xq,reduceIte,qE,qA,qL,qD,undefA,zE]
        exact ⟨_,Co.keep _ (by simp [base,x_upd,x_look]),rfl⟩
       ·simp only [xq,reduceIte,qE,qA,qL,qD,e1,Cand.ds,ca_eq0,e2,undefA,zE]
        repeat refine And.intro (by omega) ?_
        exact ⟨_,Co.keep _ (by simp [base,x_upd,x_look]),rfl⟩
     rintro _ rfl
     simp only [T4,base,Hp]
     refine W_cond rfl (fun hz=>?_) (fun hz=>W_skip ?_)
     ·rw [hz,if_pos rfl] at hbot
      refine W_reg ?_;simp only [xq,reduceIte,qE,qA,qL,qD,Cand.ds]
      refine W_reg ?_;simp only [xq,reduceIte,qE,qA,qL,qD,wu]
      refine ⟨n+1-(u+1),S3 (u+1) ⟨g,t,u,y⟩,by omega,tr _ _ ⟨g,t,u,y⟩ [caB ⟨g,t,u,y⟩] ?_,u+1,_,by omega,rfl,rfl,hcd,?_⟩
      ·simp [base,x_upd,x_look,A.under]
      ·rw [if_neg hy0,show ((n:Int)+1-((u+1:Nat):Int)).toNat=r3 by omega,show ((u+1:Nat):Int)=(u:Int)+1 by omega];exact hbot
     ·rw [hz,if_neg (by decide)] at hbot
      simp only [xq,reduceIte,qE,qA,qL,qD]
      refine W_reg ?_;simp only [xq,reduceIte,qE,qA,qL,qD,wu]
      refine ⟨n+1-(u+1),S3 (u+1) c,by omega,tr _ _ c [caB ⟨g,t,u,y⟩] ?_,u+1,_,by omega,rfl,rfl,hcok,?_⟩
      ·simp [base,x_upd,x_look,A.under]
      ·rw [if_neg hy0,show ((n:Int)+1-((u+1:Nat):Int)).toNat=r3 by omega,show ((u+1:Nat):Int)=(u:Int)+1 by omega];exact hbot
    ·have hend:(if y=0 then c else botC a.rows b.rows y t ((n:Int)+1-u).toNat u c)=c:=by
      simp only [Bool.and_eq_false_iff,Bool.not_eq_false',decide_eq_false_iff_not,decide_eq_true_eq] at hc
      split
      ·rfl
      ·rename_i hy0
       have:((n:Int)+1-u).toNat=0:=by
        rcases hc with hc | hc
        ·exact absurd hc hy0
        ·omega
       rw [this,botC]
     rw [hend] at hbot
     rw [← hbot] at htop
     simp only [xq,reduceIte,qE,qA,qL,qD]
     refine W_reg ?_;simp only [xq,reduceIte,qE,qA,qL,qD,wt]
     refine ⟨n-(t+1),S2 (t+1) c,by omega,Co.keep _ (by simp [base,x_upd,x_look]),t+1,c,hlt2,rfl,rfl,hcok,?_⟩
     rw [show n-(t+1)=r2 by omega];exact htop
   ·have hle:t=n:=by simp at hc;omega
    subst hle
    rw [Nat.sub_self,topC] at htop
    rw [← htop] at hby
    simp only [xq,reduceIte,qE,qA,qL,qD]
    refine W_reg ?_;simp only [xq,reduceIte,qE,qA,qL,qD,wy]
    refine ⟨((t:Int)-(y+1)).toNat,S1 (y+1) c,by omega,Co.keep _ (by simp [base,x_upd,x_look]),y+1,c,rfl,rfl,hcok,by omega,by omega,?_⟩
    rw [show ((t:Int)-(y+1)).toNat=r by omega];exact hby
  ·have hge:¬ y<n:=of_decide_eq_false hc
   rw [show ((n:Int)-y).toNat=0 by omega,byC] at hby
   simp only [xq,reduceIte,qE,qA,qL,qD]
   exact ⟨_,Co.keep [(4,.ptr 2 1 0 0),(7,.ptr 3 1 0 0)] (by simp [x_upd,x_look]),by rw [hby]⟩
 rintro _ rfl
 have hfd:findV a b=if (bestC a.rows b.rows n).gain<2 then (⟨0,0,0,0,0,[]⟩,false) else (⟨2,(bestC a.rows b.rows n).top,0,(bestC a.rows b.rows n).by',(bestC a.rows b.rows n).bot,[]⟩,true):=by
  rw [findV,if_pos hk,← hn]
 rw [hfd]
 generalize bestC a.rows b.rows n=c
 refine W_seq ?_
 refine wR ?_;simp only [xq,reduceIte,qE,qA,qL,qD,Hp,Cand.ds]
 have frz6:∀ (h:Heap) (p q r s t:Int) (z:Bool),FrzA 0 h (.tup [.agg [.int p,.int q,.int r,.int s,.int t,.nil],.bool z]) (fndA (⟨p,q,r,s,t,[]⟩,z)):=fun h p q r s t z=>by
  refine frzT2 (.agg rfl fun j y hj=>?_) (.same rfl)
  rcases j with _ | _ | _ | _ | _ | _ | j
  ·cases hj;exact .same rfl
  ·cases hj;exact .same rfl
  ·cases hj;exact .same rfl
  ·cases hj;exact .same rfl
  ·cases hj;exact .same rfl
  ·cases hj;exact .d (.nil _)
  ·simp [Cg.ds] at hj
 refine W_cond rfl (fun hd=>?_) (fun hd=>W_skip ?_)
 ·have hd:=of_decide_eq_true hd
  rw [if_pos hd]
  refine wR ?_;simp only [xq,reduceIte,qE,qA,qL,qD,zc]
  refine W_ret ⟨.inr rfl,?_⟩
  simp only [readRs,readR,single,x_upd,reduceIte,qE,x_look,argS,xq,reduceIte,qE,qA,qL,qD,loadsTo]
  exact frz6 _ _ _ _ _ _ _
 ·have hd:=of_decide_eq_false hd
  rw [if_neg hd]
  simp only [xq,reduceIte,qE,qA,qL,qD]
  refine wR ?_;simp only [xq,reduceIte,qE,qA,qL,qD,zc,Cand.ds]
  refine W_ret ⟨.inr rfl,?_⟩
  simp only [readRs,readR,single,x_upd,reduceIte,qE,x_look,argS,xq,reduceIte,qE,qA,qL,qD,loadsTo]
  exact frz6 _ _ _ _ _ _ _
end Go.Proofs.YtlllnjhgjijnkaaDoor.Nx

import Derived.Test.YthhjkfilfhmakaaDoorNxS1
import Derived.Test.YthhjkfilfhmakaaDoorNxW8
set_option linter.unusedSimpArgs false
set_option linter.unusedVariables false
set_option linter.unnecessarySimpa false
open Nat renaming reduceEqDiff → qE, reduceAdd → qA, reduceLT → qL, reduceLeDiff → qD
namespace Go.Proofs.YthhjkfilfhmakaaDoor.Nx
open Go
variable {P:Program} {N:Nat} {Γ:Tabs}
theorem hs_gl {h t:Heap} {q:Nat} {B:HB} (hq:h[q]? = some B):(h++t)[q]? = some B:=by
  rw [List.getElem?_append_left (List.getElem?_eq_some_iff.1 hq).1];exact hq
theorem hs_gk {h t:Heap} {k:Nat}:(h++t)[h.length+k]? = t[k]? := by rw [List.getElem?_append_right (by omega)];congr 1;omega
theorem hs_sk {h t:Heap} {k:Nat} {X:HB}:(h++t).set (h.length+k) X=h++t.set k X:=by rw [List.set_append_right _ _ (by omega)];congr 2;omega
theorem hs_g3 {a b c B:HB} {t t':Heap}:(a::b::c::(t++B::t'))[t.length+3]? = some B:=by simp
def CwsIs (t:Heap) (k:Nat) (l:List (List Ce)) (x:A):Prop:=(x = .nil∧l=[])∨∃ q,x = .ref (q+k) l.length 0 l.length true∧t[q]? = some (crBk l)∧l≠[]
def keepB (K:Nat→Bool) (p:Nat) (X:HB) (h:Heap):Heap:=h.mapIdx fun i B=>if i=p then X else if K i then B else .res
theorem keepB_len {K:Nat→Bool} {p:Nat} {X:HB} {h:Heap}:(keepB K p X h).length=h.length:=by simp [keepB]
theorem keepB_get {K:Nat→Bool} {p:Nat} {X:HB} {h:Heap} {i:Nat} {B:HB} (hi:h[i]? = some B):(keepB K p X h)[i]? = some (if i=p then X else if K i then B else .res):=by
  rw [keepB,List.getElem?_mapIdx,hi];rfl
theorem Co.gcRow {sl:Nat→A} {h:Heap} {p q:Nat} {pre:List (List A)} {L:List Ce} (K:Nat→Bool) (l:List (Nat × A)) (hp:h[p]? = some (.cells eRw (pre++[[.ref q L.length 0 L.length true]]))) (hq:h[q]? = some (.cells eCe ((ceRows L).map fun r=>r.map A.d)))
    (hkp:K p=true) (hkq:K q=false) (hpre:∀ r∈pre,∀ x∈r,x.under 0=true) (hl:∀ x∈l,sl x.1=x.2∧x.2.keptIn K=true)
    (hb:∀ id e rows,id≠p→K id=true→h[id]? = some (.cells e rows)→∀ r∈rows,∀ x∈r,x.keptIn K=true) :
    Co 0 ⟨sl,h⟩ ⟨look l,keepB K p (.cells eRw (pre++[[.d (.sl eCe (ceRows L))]])) h⟩:=by
  refine Co.gc (s:=⟨sl,h⟩) K l _ (fun x hx=>?_) (fun id hid=>absurd hid (Nat.not_lt_zero _)) keepB_len (fun id hid=>?_)
  · obtain ⟨h1,h2⟩:=hl x hx
    simp only;rw [h1];exact .same h2
  have hg:h[id]? = some h[id]:=List.getElem?_eq_getElem hid
  have hk2:=keepB_get (K:=K) (p:=p) (X:=.cells eRw (pre++[[.d (.sl eCe (ceRows L))]])) hg
  by_cases hip:id=p
  · subst hip
    rw [if_pos rfl] at hk2
    refine .inr ⟨hkp,.inr (.inr ⟨_,_,_,hp,hk2,by simp,fun i r r2 hr hr2=>?_⟩)⟩
    rcases Nat.lt_or_ge i pre.length with hlt | hge
    · rw [List.getElem?_append_left hlt] at hr hr2
      rw [hr] at hr2;cases hr2
      refine ⟨rfl,fun j y hj=>?_⟩
      have hy:=hpre r (List.mem_of_getElem? hr) y (List.mem_of_getElem? hj)
      rw [List.getD_eq_getElem?_getD,hj]
      exact .same (A.kept_under (n:=0) (fun id hid=>absurd hid (Nat.not_lt_zero _)) hy)
    · rw [List.getElem?_append_right hge] at hr hr2
      cases hqq:i-pre.length with
      | succ q'=>rw [hqq] at hr;simp at hr
      | zero =>
        rw [hqq] at hr hr2
        cases hr;cases hr2
        refine ⟨rfl,fun j y hj=>?_⟩
        cases j with
        | succ j=>simp at hj
        | zero =>
          cases hj
          have h1:FrzA 0 (onlyB q h) (.ref q L.length 0 L.length true) (.d (.sl eCe (ceRows L))):=by
            have:=frz_all (id:=q) (full:=true) (e:=eCe) (rows:=ceRows L) (h:=onlyB q h) (onlyB_get hq)
            rw [ceRows_length] at this
            exact this
          refine h1.toG fun id' e' rows' hi'=>?_
          rw [onlyB,List.getElem?_mapIdx] at hi'
          by_cases hd:id'=q
          · subst hd
            rw [hq] at hi'
            simp at hi'
            obtain ⟨rfl,rfl⟩:=hi'
            exact ⟨hkq,hq⟩
          · cases hx:h[id']? with
            | none=>rw [hx] at hi';simp at hi'
            | some B=>rw [hx] at hi';simp [hd] at hi'
  · rw [if_neg hip] at hk2
    cases hK:K id with
    | false=>rw [hK] at hk2;exact .inl ⟨hK,hk2⟩
    | true =>
      rw [hK,if_pos rfl] at hk2
      refine .inr ⟨hK,?_⟩
      cases hB:h[id] with
      | res=>rw [hB] at hg hk2;exact .inr (.inl ⟨hg,hk2⟩)
      | obj o=>rw [hB] at hg hk2;exact .inl ⟨o,hg,hk2⟩
      | cells e rows =>
        rw [hB] at hg hk2
        have hr:=hb id e rows hip hK hg
        refine .inr (.inr ⟨e,rows,rows,hg,hk2,rfl,fun i r r2 q1 q2=>?_⟩)
        rw [q1] at q2;cases q2
        refine ⟨rfl,fun j y hj=>?_⟩
        rw [List.getD_eq_getElem?_getD,hj]
        exact .same (hr r (List.mem_of_getElem? q1) y (List.mem_of_getElem? hj))
theorem keepB_cons3 {K:Nat→Bool} {p:Nat} {X a b c:HB} {t:Heap} (h0:K 0=true) (h1:K 1=true) (h2:K 2=true):keepB K (p+3) X (a::b::c::t)=a::b::c::keepB (fun i=>K (i+3)) p X t:=by
  simp [keepB,List.mapIdx_cons,h0,h1,h2,Nat.add_assoc]
theorem Co.rowDone {a b:HB} {w hh:Int} {n:Nat} {t tt:Heap} {p q:Nat} {o:List (List Ce)} {L:List Ce}
    (hp:tt[p]? = some (.cells eRw (((crRows o).map fun r=>r.map A.d)++[[.ref (q+3) L.length 0 L.length true]]))) (hq:tt[q]? = some (.cells eCe ((ceRows L).map fun r=>r.map A.d))) (hqt:t.length≤q) (hqp:q≠p)
    (htt:∀ i,i<t.length→i≠p→tt[i]? = t[i]?) (hut:∀ B∈t,HB.under 0 B) (ha:HB.under 0 a) (hb:HB.under 0 b) :
    ∃ t2,(∀ (sl:Nat→A) (l:List (Nat × A)),(∀ x∈l,sl x.1=x.2∧x.2.under 3=true)→Co 0 ⟨sl,a::b::oB w hh (.ref (p+3) n 0 n true)::tt⟩ ⟨look l,a::b::oB w hh (.ref (p+3) n 0 n true)::t2⟩)∧t2[p]? = some (crBk (o++[L]))∧∀ B∈t2,HB.under 0 B:=by
  let K:Nat→Bool:=fun i=>decide (i<t.length+3)||decide (i=p+3)
  have hX:(HB.cells eRw (((crRows o).map fun r=>r.map A.d)++[[.d (.sl eCe (ceRows L))]]))=crBk (o++[L]):=by simp [crBk,crRows]
  have k0:∀ i,i<3→K i=true:=fun i hi=>by simp only [K,decide_eq_true (show i<t.length+3 by omega),Bool.true_or]
  have und:∀ (e:Elt) (rows:List (List A)),HB.under 0 (.cells e rows)→∀ r∈rows,∀ x∈r,x.keptIn K=true:=fun e rows hu r hr x hx =>
    A.kept_under (n:=0) (fun id hid=>absurd hid (Nat.not_lt_zero _)) (hu r hr x hx)
  refine ⟨keepB (fun i=>K (i+3)) p (crBk (o++[L])) tt,?_,?_,?_⟩
  · intro sl l hl
    have:=Co.gcRow (sl:=sl) (h:=a::b::oB w hh (.ref (p+3) n 0 n true)::tt) (p:=p+3) (q:=q+3) (pre:=((crRows o).map fun r=>r.map A.d:List (List A))) (L:=L) K l (show tt[p]? = _ from hp) (show tt[q]? = _ from hq) (by simp [K]) (by simp only [K,Bool.or_eq_false_iff,decide_eq_false_iff_not];omega)
      (fun r hr x hx=>by
        rcases List.mem_map.1 hr with ⟨r',_,rfl⟩
        rcases List.mem_map.1 hx with ⟨d,_,rfl⟩
        rfl) (fun x hx=>⟨(hl x hx).1,A.kept_under k0 (hl x hx).2⟩) ?_
    · rw [keepB_cons3 (k0 0 (by decide)) (k0 1 (by decide)) (k0 2 (by decide)),hX] at this
      exact this
    · intro id e rows hip hK hg
      match id,hg with
      | 0,hg=>cases hg;exact und _ _ ha
      | 1,hg=>cases hg;exact und _ _ hb
      | 2,hg =>
        cases hg
        intro r hr x hx
        simp only [List.mem_cons,List.not_mem_nil,or_false] at hr
        subst hr
        simp only [List.mem_cons,List.not_mem_nil,or_false] at hx
        rcases hx with rfl | rfl | rfl
        · rfl
        · rfl
        · simp [A.keptIn,K]
      | id+3,hg =>
        have hg':tt[id]? = some (.cells e rows):=hg
        have hlt:id<t.length:=by simp only [K,Bool.or_eq_true,decide_eq_true_eq] at hK;omega
        rw [htt id hlt (by omega)] at hg'
        exact und _ _ (hut _ (List.mem_of_getElem? hg'))
  · have:=keepB_get (K:=fun i=>K (i+3)) (p:=p) (X:=crBk (o++[L])) hp
    rw [if_pos rfl] at this
    exact this
  · intro B hB
    obtain ⟨i,hi⟩:=List.mem_iff_getElem?.1 hB
    have hlt:i<tt.length:=by have:=(List.getElem?_eq_some_iff.1 hi).1;rwa [keepB_len] at this
    have hg:tt[i]? = some tt[i]:=List.getElem?_eq_getElem hlt
    rw [keepB_get hg] at hi
    cases hi
    by_cases hip:i=p
    · rw [if_pos hip];exact under_d
    · rw [if_neg hip]
      cases hK:K (i+3) with
      | false=>simp only [Bool.false_eq_true,if_false];trivial
      | true =>
        have hl2:i<t.length:=by simp only [K,Bool.or_eq_true,decide_eq_true_eq] at hK;omega
        rw [htt i hl2 hip] at hg
        simp only [if_true]
        exact hut _ (List.mem_of_getElem? hg)
set_option maxHeartbeats 2000000 in
theorem rwindow_fn {f fgc fck fft:FuncId} (H:FnIs P f N [.c 6 3 true,.t 7] (x_ref12_Window fgc fck fft)) (hN:3≤N) (b:List (List Ce)) (g:Gd) (back gc:Int) (chk:List Ce→Int) (fit:List Ce→List Ce) (hbl:b.length≤100000)
    (hgg:gc=0→g.h=g.rows.length∧g.rows.length≤1000) (hrl:∀ r∈g.rows,r.length≤100000) (Hgc:FnP Γ P fgc [gdA g] (.int gc))
    (Hck:∀ r∈b,FnP Γ P fck [.d (.sl eCe (ceRows r))] (.int (chk r))) (Hft:∀ r∈b,FnP Γ P fft [.d (.sl eCe (ceRows r)),.int g.w] (.d (.sl eCe (ceRows (fit r))))) :
    FnP Γ P f [.d (.sl eRw (crRows b)),gdA g,.int back] (gdE (winR b g back gc chk fit)):=by
  refine .of_W H (by simpa using hN) ?_
  unfold x_ref12_Window
  simp only [gdA,gdR] at Hgc ⊢
  refine W_seq (W_reg ?_);simp only [xq,reduceIte,qE,qA,qL,qD]
  refine W_seq (W_seq ?_)
  refine W_reg ?_;simp only [xq,reduceIte,qE,qA,qL,qD]
  refine c_fn (Hgc) rfl ?_;simp only [xq,reduceIte,qE,qA,qL,qD]
  refine W_cond rfl (fun hc=>?_) (fun hc=>W_skip ?_)
  · have hg0:gc≠0:=by simpa using hc
    refine W_seq (W_reg ?_);simp only [xq,reduceIte,qE,qA,qL,qD]
    refine W_ret ⟨.inr rfl,?_⟩
    simp only [readRs,readR,single,x_upd,reduceIte,qE,x_look,argS,xq,reduceIte,qE,qA,qL,qD,loadsTo,winR,if_pos hg0]
    exact frz_gd (.d (.nil _))
  have hg0:gc=0:=by simpa using hc
  obtain ⟨hgh,hgl⟩:=hgg hg0
  obtain ⟨w,hh,rows⟩:=g
  dsimp only at hgh hgl Hft hrl
  subst hgh
  simp only [xq,reduceIte,qE,qA,qL,qD]
  let Hp0:Heap:=[gB ⟨w,rows.length,rows⟩,zgB]
  let U:Bool→St:=fun c=>⟨look [(0,.d (.sl eRw (crRows b))),(2,.int back),(4,.ptr 0 1 0 0),(6,.ptr 1 1 0 0),(7,.int 0),(22,.bool c)],Hp0⟩
  refine W_seq (W_cutX (· = U (decide (back<0)||decide ((b.length:Int)<back))) rfl (fun K hK=>?_) ?_)
  · cases e:decide (back<0)
    · simp only [xq,reduceIte,qE,qA,qL,qD,e,crRows_len]
      refine hK _ _ (Co.keep _ ?_) rfl
      simp only [e,Bool.false_or];simp [x_upd,x_look]
    · simp only [xq,reduceIte,qE,qA,qL,qD,e]
      refine hK _ _ (Co.keep _ ?_) rfl
      simp only [e,Bool.true_or];simp [x_upd,x_look]
  rintro _ rfl
  refine W_cond rfl (fun hd=>?_) (fun hd=>W_skip ?_)
  · have hd:back<0∨(b.length:Int)<back:=by simpa using hd
    simp only [U,Hp0]
    refine W_seq (W_reg ?_);simp only [xq,reduceIte,qE,qA,qL,qD]
    refine W_ret ⟨.inr rfl,?_⟩
    simp only [readRs,readR,single,x_upd,reduceIte,qE,x_look,argS,xq,reduceIte,qE,qA,qL,qD,loadsTo,winR,hg0,ne_eq,not_true_eq_false,if_pos hd]
    exact frz_gd (.d (.nil _))
  have hd:¬ (back<0∨(b.length:Int)<back):=by
    simp only [Bool.or_eq_false_iff,decide_eq_false_iff_not] at hd
    omega
  obtain ⟨bk,rfl⟩:∃ bk:Nat,back=bk:=⟨back.toNat,by omega⟩
  have hbk:bk≤b.length:=by omega
  have hwin:∀ k,k<rows.length→winOk b rows bk chk k=false→(∀ i,i<k→winOk b rows bk chk i=true)→winR b ⟨w,rows.length,rows⟩ bk gc chk fit=(zeroGd,chk (winRow b rows bk k)):=by
    intro k hk hk0 hki
    have hf:((List.range rows.length).find? fun k => !winOk b rows bk chk k)=some k:=by
      rw [List.find?_range_eq_some]
      refine ⟨by simp [hk0],List.mem_range.2 hk,fun i hi=>by simp [hki i hi]⟩
    simp only [winR,hg0,ne_eq,not_true_eq_false,if_false,if_neg hd,Int.toNat_natCast,hf]
  have hwin0:(∀ i,i<rows.length→winOk b rows bk chk i=true)→winR b ⟨w,rows.length,rows⟩ bk gc chk fit=(⟨w,rows.length,winL b rows bk fit rows.length⟩,0):=by
    intro hki
    have hf:((List.range rows.length).find? fun k => !winOk b rows bk chk k)=none:=by
      rw [List.find?_eq_none]
      intro i hi
      simp [hki i (List.mem_range.1 hi)]
    simp only [winR,hg0,ne_eq,not_true_eq_false,if_false,if_neg hd,Int.toNat_natCast,hf]
  have wb:IntKind.i64.wrap ((b.length:Int)-(bk:Int))=((b.length-bk:Nat):Int):=by rw [i64_of (by omega)];omega
  simp only [U,Hp0]
  refine W_seq (W_reg ?_);simp only [xq,reduceIte,qE,qA,qL,qD,gdR]
  refine W_seq (W_seq ?_)
  refine W_reg ?_;simp only [xq,reduceIte,qE,qA,qL,qD,crRows_len,wb]
  refine W_block ?_
  let R:Nat→List (List Ce):=winL b rows bk fit
  let S:A→Heap→Nat→St:=fun x t k=>⟨look [(0,.d (.sl eRw (crRows b))),(2,.int bk),(4,.ptr 0 1 0 0),(6,.ptr 1 1 0 0),(7,.int 0),(8,.ptr 2 1 0 0),(9,.int ((b.length-bk+k:Nat):Int))],gB ⟨w,rows.length,rows⟩::zgB::oB w rows.length x::t⟩
  refine W_co (s':=S .nil [] 0) (Co.keep _ (by simp [x_upd,x_look])) ?_
  refine W_loop (fun m s=>∃ k x t,k≤rows.length∧m=rows.length-k∧s=S x t k∧CwsIs t 3 (R k) x∧(∀ B∈t,HB.under 0 B)∧∀ i,i<k→winOk b rows bk chk i=true) ⟨0,.nil,[],Nat.zero_le _,rfl,rfl,.inl ⟨rfl,rfl⟩,by simp,fun i hi=>absurd hi (Nat.not_lt_zero _)⟩ ?_
  rintro m s ⟨k,x,t,hk,rfl,rfl,ho,hut,hok⟩
  simp only [S]
  have wh:IntKind.i64.wrap (((b.length-bk:Nat):Int)+(rows.length:Int))=((b.length-bk+rows.length:Nat):Int):=by rw [i64_of (by omega)];omega
  refine W_seq (W_seq ?_)
  refine W_reg ?_;simp only [xq,reduceIte,qE,qA,qL,qD,crRows_len,wb,wh,gdR]
  refine W_cond rfl (fun hc=>W_skip ?_) (fun hc=>W_exit ?_)
  · have hlt:k<rows.length:=by have:=of_decide_eq_true hc;omega
    have w1:IntKind.i64.wrap (((b.length-bk+k:Nat):Int)+1)=((b.length-bk+(k+1):Nat):Int):=by rw [i64_of (by omega)];omega
    simp only [xq,reduceIte,qE,qA,qL,qD]
    have next:∀ (sl:Nat→A) (x2:A) (t2:Heap),sl 0 = .d (.sl eRw (crRows b))→sl 2 = .int bk→sl 4 = .ptr 0 1 0 0→sl 6 = .ptr 1 1 0 0→sl 7 = .int 0→sl 8 = .ptr 2 1 0 0→sl 9 = .int ((b.length-bk+(k+1):Nat):Int)→CwsIs t2 3 (R (k+1)) x2→(∀ B∈t2,HB.under 0 B)→winOk b rows bk chk k=true →
        ∃ m' s'',m'<rows.length-k∧Co 0 ⟨sl,gB ⟨w,rows.length,rows⟩::zgB::oB w rows.length x2::t2⟩ s''∧∃ k x t,k≤rows.length∧m'=rows.length-k∧s''=S x t k∧CwsIs t 3 (R k) x∧(∀ B∈t,HB.under 0 B)∧∀ i,i<k→winOk b rows bk chk i=true:=by
      intro sl x2 t2 q0 q2 q4 q6 q7 q8 q9 ho2 hu2 hok2
      refine ⟨rows.length-(k+1),S x2 t2 (k+1),by omega,Co.keep _ (by simp [q0,q2,q4,q6,q7,q8,q9]),k+1,x2,t2,hlt,rfl,rfl,ho2,hu2,fun i hi=>?_⟩
      rcases Nat.lt_succ_iff_lt_or_eq.1 hi with h | rfl
      · exact hok i h
      · exact hok2
    have hgu:HB.under 0 (gB ⟨w,rows.length,rows⟩):=fun r hr x hx=>by
      simp only [List.mem_cons,List.not_mem_nil,or_false] at hr
      subst hr
      simp only [gdR,List.mem_cons,List.not_mem_nil,or_false] at hx
      rcases hx with rfl | rfl | rfl<;>rfl
    have hzu:HB.under 0 zgB:=fun r hr x hx=>by
      simp only [List.mem_cons,List.not_mem_nil,or_false] at hr
      subst hr
      simp only [List.mem_cons,List.not_mem_nil,or_false] at hx
      rcases hx with rfl | rfl | rfl<;>rfl
    have hu1:∀ (L:List Ce) (y:HB),y=crBk [L]→HB.under 0 y:=fun L y hy=>by subst hy;exact under_d
    refine W_seq (W_block ?_)
    refine W_seq (W_seq ?_)
    refine W_reg ?_;simp only [xq,reduceIte,qE,qA,qL,qD,crRows_len]
    refine W_cond rfl (fun hd=>?_) (fun hd=>W_skip ?_)
    · have hge:bk≤k:=by have:=of_decide_eq_true hd;omega
      have hwo:winOut b rows bk fit k=rows[k-bk]'(by omega):=by
        rw [winOut,if_neg (by omega),winRow,if_neg (by omega),List.getD_eq_getElem?_getD,List.getElem?_eq_getElem (by omega)];rfl
      have hwk:winOk b rows bk chk k=true:=by simp only [winOk,decide_eq_false (show ¬ k<bk by omega),Bool.false_and,Bool.not_false]
      have w2:IntKind.i64.wrap (((b.length-bk+k:Nat):Int)-(b.length:Int))=((k-bk:Nat):Int):=by rw [i64_of (by omega)];omega
      have hlt2:k-bk<rows.length:=by omega
      have hll:=hrl _ (List.getElem_mem hlt2)
      have hgk:(crRows rows).getD (k-bk) []=[.sl eCe (ceRows rows[k-bk])]:=crRows_get hlt2
      have hRs:R (k+1)=R k++[rows[k-bk]]:=by rw [← hwo];exact winL_succ
      generalize rows[k-bk]=L at hll hgk hRs hwo
      have k1:(0:Int)≤((k-bk:Nat):Int):=by omega
      let l9:List (Nat × A):=[(0,.d (.sl eRw (crRows b))),(2,.int bk),(4,.ptr 0 1 0 0),(6,.ptr 1 1 0 0),(7,.int 0),(8,.ptr 2 1 0 0),(9,.int ((b.length-bk+(k+1):Nat):Int))]
      have k2:((k-bk:Nat):Int)<(rows.length:Int):=by omega
      refine W_seq ?_
      rcases ho with ⟨rfl,hnil⟩ | ⟨q,rfl,hq,hne⟩
      · refine W_drw (by simp [x_upd,x_look];exact ⟨rfl,rfl,rfl,rfl,rfl⟩) ?_
        simp only [xq,reduceIte,qE,qA,qL,qD,gdR,crRows_len,w2,k1,k2,hgk,Int.toNat_natCast,ceRows_length,hs_g3,hs_gk,hs_sk,hp_g0,hp_g1,hp_s0,hp_s1,List.append_assoc]
        rw [if_neg (by simp)]
        refine ⟨by simp only [room];omega,by simp only [maxLen];omega,by decide,by decide,?_⟩
        refine W_exit ?_
        simp only [xq,reduceIte,qE,qA,qL,qD]
        refine W_reg ?_
        simp only [xq,reduceIte,qE,qA,qL,qD,w1]
        obtain ⟨t2,c1,c2,c3⟩:=Co.rowDone (a:=gB ⟨w,rows.length,rows⟩) (b:=zgB) (w:=w) (hh:=rows.length) (n:=1) (t:=t) (tt:=t++[.cells eCe ((ceRows L).map fun r=>r.map A.d),.res,.cells eRw [[.ref (t.length+3) L.length 0 L.length true]],.cells eRw [[.ref (t.length+3) L.length 0 L.length true]]]) (p:=t.length+1+1+1) (q:=t.length) (o:=[]) (L:=L)
          (by rw [Nat.add_assoc,Nat.add_assoc,hs_gk];rfl) (by simp) (Nat.le_refl _) (by omega) (fun i hi _=>List.getElem?_append_left hi) hut hgu hzu
        obtain ⟨m',s'',h1,h2,h3⟩:=next (look l9) (.ref (t.length+1+1+1+3) 1 0 1 true) t2 rfl rfl rfl rfl rfl rfl rfl (.inr ⟨t.length+1+1+1,by rw [hRs,hnil];rfl,by rw [hRs,hnil];exact c2,by rw [hRs];simp⟩) c3 hwk
        exact ⟨m',s'',h1,Co.trans (c1 _ l9 (by simp [l9,x_upd,x_look,A.under,A.underL])) h2,h3⟩
      · have hql:=(List.getElem?_eq_some_iff.1 hq).1
        have gq:∀ t':Heap,(t++t')[q]? = some (crBk (R k)):=fun t'=>hs_gl hq
        have sq:∀ (t':Heap) X,(t++t').set q X=t.set q X++t':=fun t' X=>List.set_append_left _ _ hql
        have hRl:(R k).length=k:=winL_len
        refine W_drw (by simp [x_upd,x_look];exact ⟨rfl,rfl,rfl,rfl,rfl⟩) ?_
        simp only [xq,reduceIte,qE,qA,qL,qD,gdR,crRows_len,w2,k1,k2,hgk,Int.toNat_natCast,ceRows_length,hs_g3,hs_gk,hs_sk,hp_g0,hp_g1,hp_s0,hp_s1,List.append_assoc,gq,sq,hRl]
        refine ⟨by simp only [room];omega,by simp only [maxLen];omega,by simp only [room];omega,by simp only [maxLen];omega,?_⟩
        refine W_exit ?_
        simp only [xq,reduceIte,qE,qA,qL,qD]
        refine W_reg ?_
        simp only [xq,reduceIte,qE,qA,qL,qD,w1]
        obtain ⟨t2,c1,c2,c3⟩:=Co.rowDone (a:=gB ⟨w,rows.length,rows⟩) (b:=zgB) (w:=w) (hh:=rows.length) (n:=k+1) (t:=t)
          (tt:=t.set q (.cells eRw (((crRows (R k)).map fun r=>r.map A.d)++[[.ref (t.length+3) L.length 0 L.length true]]))++[.cells eCe ((ceRows L).map fun r=>r.map A.d),.res,.cells eRw [[.ref (t.length+3) L.length 0 L.length true]],.res]) (p:=q) (q:=t.length) (o:=R k) (L:=L)
          (by rw [List.getElem?_append_left (by simpa using hql),List.getElem?_set_self hql]) (by rw [List.getElem?_append_right (by simp)];simp) (Nat.le_refl _) (by omega) (fun i hi hip=>by rw [List.getElem?_append_left (by simpa using hi),List.getElem?_set_ne (Ne.symm hip)]) hut hgu hzu
        obtain ⟨m',s'',h1,h2,h3⟩:=next (look l9) (.ref (q+3) (k+1) 0 (k+1) true) t2 rfl rfl rfl rfl rfl rfl rfl (.inr ⟨q,by rw [hRs,List.length_append,hRl];rfl,by rw [hRs];exact c2,by rw [hRs];simp⟩) c3 hwk
        exact ⟨m',s'',h1,Co.trans (c1 _ l9 (by simp [l9,x_upd,x_look,A.under,A.underL])) h2,h3⟩
    · have hlo:k<bk:=by have:=of_decide_eq_false hd;omega
      have hmem:winRow b rows bk k∈b:=by
        rw [winRow,if_pos hlo,List.getD_eq_getElem?_getD,List.getElem?_eq_getElem (show b.length-bk+k<b.length by omega)]
        exact List.getElem_mem _
      have hgk:(crRows b).getD (b.length-bk+k) []=[.sl eCe (ceRows (winRow b rows bk k))]:=by
        rw [crRows_get (show b.length-bk+k<b.length by omega),winRow,if_pos hlo,List.getD_eq_getElem?_getD,List.getElem?_eq_getElem (show b.length-bk+k<b.length by omega)];rfl
      have hC:=Hck _ hmem
      have hF:=Hft _ hmem
      have hwo:winOut b rows bk fit k=fit (winRow b rows bk k):=by rw [winOut,if_pos hlo]
      have k1:(0:Int)≤((b.length-bk+k:Nat):Int):=by omega
      have k2:((b.length-bk+k:Nat):Int)<(b.length:Int):=by omega
      refine W_seq (W_reg ?_);simp only [xq,reduceIte,qE,qA,qL,qD,crRows_len,k1,k2,hgk,Int.toNat_natCast]
      refine c_fn (hC) rfl ?_;simp only [xq,reduceIte,qE,qA,qL,qD]
      refine W_seq (W_seq ?_)
      refine W_reg ?_;simp only [xq,reduceIte,qE,qA,qL,qD]
      refine W_cond rfl (fun hd=>?_) (fun hd=>W_skip ?_)
      · have hck:chk (winRow b rows bk k)≠0:=by simpa using hd
        have hwk:winOk b rows bk chk k=false:=by simp [winOk,hlo,hck]
        rw [hwin k hlt hwk hok]
        refine W_seq (W_reg ?_);simp only [xq,reduceIte,qE,qA,qL,qD]
        refine W_ret ⟨.inr rfl,?_⟩
        simp only [readRs,readR,single,x_upd,reduceIte,qE,x_look,argS,xq,reduceIte,qE,qA,qL,qD,loadsTo]
        exact frz_gd (h:=gB ⟨w,rows.length,rows⟩::zgB::oB w rows.length x::t) (.d (.nil _))
      have hck:chk (winRow b rows bk k)=0:=by simpa using hd
      have hwk:winOk b rows bk chk k=true:=by simp [winOk,hck]
      have hRs:R (k+1)=R k++[fit (winRow b rows bk k)]:=by rw [← hwo];exact winL_succ
      generalize fit (winRow b rows bk k)=L at hF hRs hwo
      rcases ho with ⟨rfl,hnil⟩ | ⟨q,rfl,hq,hne⟩
      · refine W_drw (by simp) ?_
        simp only [xq,reduceIte,qE,qA,qL,qD,gdR,crRows_len,k1,k2,hgk,Int.toNat_natCast]
        refine c_fn (hF) rfl ?_;simp only [xq,reduceIte,qE,qA,qL,qD,hs_g3,hs_gk,hs_sk,hp_g0,hp_g1,hp_s0,hp_s1,List.append_assoc]
        rw [if_neg (by simp)]
        refine ⟨by decide,by decide,?_⟩
        refine W_reg ?_;simp only [xq,reduceIte,qE,qA,qL,qD,w1]
        have he:(t++[crBk [L],crBk [L]])[t.length+1]? = some (crBk [L]):=by rw [hp_g1]
        refine next _ (.ref (t.length+1+3) 1 0 1 true) (t++[crBk [L],crBk [L]]) ?_ ?_ ?_ ?_ ?_ ?_ ?_ (.inr ⟨t.length+1,?_,?_,by rw [hRs];simp⟩) ?_ hwk
        iterate 7 rfl
        · rw [hRs,hnil];rfl
        · rw [hRs,hnil];exact he
        · intro B hB
          rcases List.mem_append.1 hB with hB | hB
          · exact hut B hB
          · simp only [List.mem_cons,List.not_mem_nil,or_false,or_self] at hB
            exact hu1 _ B hB
      · have hql:=(List.getElem?_eq_some_iff.1 hq).1
        have gq:∀ t':Heap,(t++t')[q]? = some (crBk (R k)):=fun t'=>hs_gl hq
        have sq:∀ (t':Heap) X,(t++t').set q X=t.set q X++t':=fun t' X=>List.set_append_left _ _ hql
        have hRl:(R k).length=k:=winL_len
        refine W_drw (by simp) ?_
        simp only [xq,reduceIte,qE,qA,qL,qD,gdR,crRows_len,k1,k2,hgk,Int.toNat_natCast]
        refine c_fn (hF) rfl ?_;simp only [xq,reduceIte,qE,qA,qL,qD,hs_g3,hs_gk,hs_sk,hp_g0,hp_g1,hp_s0,hp_s1,List.append_assoc,gq,sq,crRows_len,hRl]
        refine ⟨by simp only [room];omega,by simp only [maxLen];omega,?_⟩
        refine W_reg ?_;simp only [xq,reduceIte,qE,qA,qL,qD,w1]
        have e:crBk (R k++[L]) = .cells eRw (((crRows (R k)).map fun r=>r.map A.d)++[[.d (.sl eCe (ceRows L))]]):=by simp [crBk,crRows]
        refine next _ (.ref (q+3) (k+1) 0 (k+1) true) (t.set q (.cells eRw (((crRows (R k)).map fun r=>r.map A.d)++[[.d (.sl eCe (ceRows L))]]))++[crBk [L],.res]) ?_ ?_ ?_ ?_ ?_ ?_ ?_ (.inr ⟨q,?_,?_,by rw [hRs];simp⟩) ?_ hwk
        iterate 7 rfl
        · rw [hRs,List.length_append,hRl];rfl
        · rw [hRs,List.getElem?_append_left (by simpa using hql),List.getElem?_set_self hql,e]
        · intro B hB
          rcases List.mem_append.1 hB with hB | hB
          · rcases List.mem_or_eq_of_mem_set hB with hB | rfl
            · exact hut B hB
            · rw [← e];exact under_d
          · simp only [List.mem_cons,List.not_mem_nil,or_false] at hB
            rcases hB with rfl | rfl
            · exact hu1 _ _ rfl
            · trivial
  · have hle:k=rows.length:=by simp at hc;omega
    subst hle
    rw [hwin0 hok]
    simp only [xq,reduceIte,qE,qA,qL,qD]
    refine W_seq (W_reg ?_);simp only [xq,reduceIte,qE,qA,qL,qD]
    refine W_ret ⟨.inr rfl,?_⟩
    simp only [readRs,readR,single,xq,reduceIte,qE,qA,qL,qD,loadsTo,List.take]
    refine frz_gd ?_
    have hRl:(R rows.length).length=rows.length:=winL_len
    rcases ho with ⟨rfl,h0⟩ | ⟨q,rfl,hq,_⟩
    · rw [show winL b rows bk fit rows.length=[] from h0];exact .d (.nil _)
    · have:=frz_all (id:=q+3) (full:=true) (e:=eRw) (rows:=crRows (R rows.length)) (h:=gB ⟨w,rows.length,rows⟩ :: .cells eGd [[.int w,.int rows.length,.ref (q+3) (R rows.length).length 0 (R rows.length).length true]]::oB w rows.length (.ref (q+3) (R rows.length).length 0 (R rows.length).length true)::t) hq
      rw [crRows_len] at this
      exact this
end Go.Proofs.YthhjkfilfhmakaaDoor.Nx

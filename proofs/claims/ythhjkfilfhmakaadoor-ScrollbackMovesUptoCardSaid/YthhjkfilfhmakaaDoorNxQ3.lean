import Derived.Test.YthhjkfilfhmakaaDoorNxQ1
import Derived.Test.YthhjkfilfhmakaaDoorNxR1
import Derived.Test.YthhjkfilfhmakaaDoorNxEval
import Derived.Test.YthhjkfilfhmakaaDoorNxB0
set_option linter.unusedSimpArgs false
set_option linter.unusedVariables false
set_option linter.unnecessarySimpa false
open List renaming getElem?_eq_getElem → zB
open Nat renaming zero_le → zI
open Nat renaming reduceEqDiff → qE, reduceAdd → qA, reduceLT → qL, reduceLeDiff → qD
namespace Go.Proofs.YthhjkfilfhmakaaDoor.Nx
open Go
variable {P:Program} {N:Nat} {Γ:Tabs}
theorem rblank_fn {f:FuncId} (H:FnIs P f N [.c 2 5 true] x_ref07_blank) (hN:1≤N) (back:Int):FnP Γ P f [.int back] (ceA (blankC back)):=by
  refine .of_W H (by simpa using hN) ?_
  unfold x_ref07_blank
  refine W_seq (W_reg ?_)
  simp only [xq,reduceIte,qE,qA,qL,qD]
  refine W_seq (W_reg ?_)
  simp only [xq,reduceIte,qE,qA,qL,qD]
  refine W_ret ⟨.inr rfl,?_⟩
  simp only [readRs,readR,single,x_upd,reduceIte,qE,x_look,argS,xq,reduceIte,qE,qA,qL,qD,loadsTo]
  exact .same rfl
theorem copiedD_fn {f:FuncId} {Δ:Ctx} (H:FnIs P f N [.t 2] x_ref07_copied) (hN:1≤N) (l:List Ce) (hl:l.length≤100000) (h:Heap) (hb:Δ.b≤h.length) :
    FnD Δ P f [.d (.sl eCe (ceRows l))] h (.ref h.length l.length 0 l.length true) (h++[ceB' l]):=by
  refine .of_W H (by simpa using hN) hb ?_
  unfold x_ref07_copied
  refine W_seq (W_reg ?_)
  simp only [xq,reduceIte,qE,qA,qL,qD]
  refine W_seq (W_reg ?_)
  simp only [xq,reduceIte,qE,qA,qL,qD,hp_g0,hp_s0,ceRows_length]
  refine ⟨by simp only [room];omega,by simp only [maxLen];omega,W_ret ⟨.inr rfl,?_⟩⟩
  simp only [readRs,readR,single,x_upd,reduceIte,qE,x_look,xq,reduceIte,qE,qA,qL,qD]
theorem rowCk_last:∀ (n:Nat) (l:List Ce),l.length≤n→rowCk l=0→∀ c,l.getLast? = some c→c.width≠2
  | _,[],_,_,c,hc=>by simp at hc
  | 0,_::_,hn,_,_,_=>by simp at hn
  | n+1,a::l,hn,h,c,hc=>by
    rw [rowCk.eq_def] at h
    simp only at h
    split at h
    · cases h
    · split at h
      · split at h
        · split at h
          · split at h
            · cases h
            · rename_i d l'
              split at h
              · rename_i hd
                cases l' with
                | nil =>
                  simp at hc
                  subst hc hd
                  simp [pairC]
                | cons e l'' =>
                  refine rowCk_last n (e::l'') (by simp at hn ⊢; omega) h c ?_
                  rw [List.getLast?_cons_cons,List.getLast?_cons_cons] at hc
                  exact hc
              · cases h
          · rename_i hw2
            cases l with
            | nil=>simp at hc;subst hc;exact hw2
            | cons e l'' =>
              refine rowCk_last n (e::l'') (by simp at hn ⊢; omega) h c ?_
              rw [List.getLast?_cons_cons] at hc
              exact hc
        · cases h
      · cases h
theorem checkR_last {l:List Ce} (h:checkR l=0) {c:Ce} (hc:l.getLast? = some c):c.width≠2:=by
  unfold checkR at h
  split at h
  · cases h
  · exact rowCk_last _ l (Nat.le_refl _) h c hc
set_option maxHeartbeats 1000000 in
theorem rfit_fn {f fck fcp fb:FuncId} {Nc Nb:Nat} (H:FnIs P f N [.t 4] (x_ref07_Fit fck fcp fb)) (hN:2≤N) (Hcp:FnIs P fcp Nc [.t 2] x_ref07_copied) (hNc:1≤Nc) (Hb:FnIs P fb Nb [.c 2 5 true] x_ref07_blank) (hNb:1≤Nb)
    (l:List Ce) (w:Int) (Hck:FnP Γ P fck [.d (.sl eCe (ceRows l))] (.int (checkR l))) :
    FnP Γ P f [.d (.sl eCe (ceRows l)),.int w] (.d (.sl eCe (ceRows (fitR (checkR l) l w)))):=by
  refine .of_W H (by simpa using hN) ?_
  unfold x_ref07_Fit
  refine W_seq (W_reg ?_)
  simp only [xq,reduceIte,qE,qA,qL,qD]
  let U:Bool→St:=fun c=>⟨look [(0,.d (.sl eCe (ceRows l))),(1,.int w),(4,.nil),(16,.bool c)],[]⟩
  refine W_seq (W_cutX (· = U (((!decide (checkR l=0))||decide (w<1))||decide (132<w))) rfl (fun K hK=>?_) ?_)
  · simp only [xq,reduceIte,qE,qA,qL,qD]
    refine c_fn Hck rfl ?_
    cases e : !decide (checkR l=0)
    · simp only [xq,reduceIte,qE,qA,qL,qD,e]
      cases e2:decide (w<1)
      · simp only [xq,reduceIte,qE,qA,qL,qD,e2]
        exact hK _ _ (Co.keep _ (by simp [x_upd,x_look,e,e2])) rfl
      · simp only [xq,reduceIte,qE,qA,qL,qD,e2]
        exact hK _ _ (Co.keep _ (by simp [x_upd,x_look,e,e2])) rfl
    · simp only [xq,reduceIte,qE,qA,qL,qD,e]
      exact hK _ _ (Co.keep _ (by simp [x_upd,x_look,e])) rfl
  rintro _ rfl
  refine W_cond rfl (fun hc=>?_) (fun hc=>W_skip ?_)
  · have hc:checkR l≠0∨w<1∨132<w:=by
      simp only [Bool.or_eq_true,Bool.not_eq_true',decide_eq_false_iff_not,decide_eq_true_eq] at hc
      rcases hc with (h | h) | h
      · exact .inl h
      · exact .inr (.inl h)
      · exact .inr (.inr h)
    refine W_seq (W_reg ?_)
    simp only [U,xq,reduceIte,qE,qA,qL,qD]
    refine W_ret (.frz ?_)
    simp only [xq,reduceIte,qE,qA,qL,qD,fitR,if_pos hc]
    exact .d (.nil _)
  have hc':checkR l=0∧1≤w∧w≤132:=by
    simp only [Bool.or_eq_false_iff,Bool.not_eq_false',decide_eq_true_eq,decide_eq_false_iff_not] at hc
    exact ⟨hc.1.1,by omega,by omega⟩
  have hcn:¬ (checkR l≠0∨w<1∨132<w):=by rintro (h | h | h)<;>omega
  have hl12:1≤l.length∧l.length≤132:=by
    have h:=hc'.1
    unfold checkR at h
    split at h
    · cases h
    · omega
  obtain ⟨hl1,hl2⟩:=hl12
  obtain ⟨n,rfl⟩:∃ n:Nat,w=n:=⟨w.toNat,by omega⟩
  simp only [U,xq,reduceIte,qE,qA,qL,qD]
  refine W_seq (W_reg ?_)
  simp only [xq,reduceIte,qE,qA,qL,qD]
  refine ce_fn (copiedD_fn Hcp hNc l (by omega) [] (zI _)) ?_
  simp only [xq,reduceIte,qE,qA,qL,qD]
  let L:Nat→List Ce:=fun k=>l++List.replicate k (blankC (-1))
  have hLl:∀ k,(L k).length=l.length+k:=fun k=>by simp [L]
  have hLs:∀ k,((ceRows (L k)).map fun r=>r.map A.d)++[(blankC (-1)).row.map .d]=(ceRows (L (k+1))).map fun r=>r.map A.d:=fun k=>by
    simp [L,ceRows,List.replicate_succ']
  let S:Nat→St:=fun k=>⟨look [(1,.int n),(5,.ref 0 (l.length+k) 0 (l.length+k) true)],[ceB' (L k)]⟩
  have hS0:S 0=⟨look [(1,.int n),(5,.ref 0 l.length 0 l.length true)],[ceB' l]⟩:=by simp [S,L]
  refine W_co (s':=S 0) (by rw [hS0];exact Co.keep _ (by simp [x_upd,x_look])) ?_
  refine W_cut (· = S (n-l.length)) (W_block ?_) ?_
  · refine W_loop (fun m s=>∃ k,k≤n-l.length∧m=n-l.length-k∧s=S k) ⟨0,zI _,rfl,rfl⟩ ?_
    rintro m s ⟨k,hk,rfl,rfl⟩
    refine W_seq (W_seq (W_reg ?_))
    simp only [S,xq,reduceIte,qE,qA,qL,qD,ceRows_length,hLl]
    refine W_cond rfl (fun hc=>W_skip ?_) (fun hc=>W_exit ?_)
    · have hlt:l.length+k<n:=by simp only [decide_eq_true_eq] at hc;omega
      simp only [xq,reduceIte,qE,qA,qL,qD]
      refine W_block (W_reg ?_)
      simp only [xq,reduceIte,qE,qA,qL,qD]
      refine c_fn (rblank_fn Hb hNb _) rfl ?_
      have hs:=hLs k
      simp only [ceA,blankC,Ce.row,List.map_cons,List.map_nil] at hs ⊢
      simp only [xq,reduceIte,qE,qA,qL,qD,ceRows_length,hLl,hs,Nat.reduceMul]
      refine ⟨by simp only [room];omega,by simp only [maxLen];omega,?_⟩
      refine ⟨n-l.length-(k+1),S (k+1),by omega,Co.to _ 1 ?_ (zI _) (by simp) ?_,k+1,by omega,rfl,rfl⟩
      · simp [x_upd,x_look,A.under,Nat.add_assoc]
      · intro B hB
        simp only [List.take_succ_cons,List.take_zero,List.mem_cons,List.not_mem_nil,or_false] at hB
        subst hB
        exact under_d
    · have hle:k=n-l.length:=by simp only [decide_eq_false_iff_not] at hc;omega
      subst hle
      simp only [xq,reduceIte,qE,qA,qL,qD]
      exact ⟨S (n-l.length),Co.keep _ (by simp [x_upd,x_look]),rfl⟩
  rintro _ rfl
  obtain ⟨M,hM⟩:∃ M,M=L (n-l.length):=⟨_,rfl⟩
  have hMl:M.length=l.length+(n-l.length):=by rw [hM,hLl]
  have hMn:n≤M.length:=by omega
  have hn1:n-1<M.length:=by omega
  have hfl:fitR (checkR l) l n=if M[n-1].width=2 then (M.take n).set (n-1) (blankC M[n-1].back) else M.take n:=by
    simp only [fitR,if_neg hcn,Int.toNat_natCast,fitC]
    split
    · rename_i hge
      have ht:M.take n=l++List.replicate (n-l.length) (blankC (-1)):=by rw [List.take_of_length_le (by omega),hM]
      have hw2:M[n-1].width≠2:=by
        rcases Nat.eq_or_lt_of_le hge with h | h
        · have hMe:M=l:=by rw [hM];simp [L,h]
          subst hMe
          refine checkR_last hc'.1 ?_
          rw [List.getLast?_eq_getElem?,h];exact zB _
        · have:M[n-1]? = some (blankC (-1)):=by
            rw [hM];simp only [L]
            rw [List.getElem?_append_right (by omega),List.getElem?_replicate,if_pos (by omega)]
          rw [zB hn1] at this
          rw [Option.some.inj this];decide
      rw [if_neg hw2,ht]
    · rename_i hlt
      have hMe:M=l:=by rw [hM];simp [L,show n-l.length=0 by omega]
      subst hMe
      have:(M.take n).getLast? = some M[n-1]:=by
        rw [List.getLast?_eq_getElem?,List.length_take,Nat.min_eq_left (by omega),List.getElem?_take,if_pos (by omega),zB hn1]
      rw [this]
  have e1:IntKind.i64.wrap ((n:Int)-1)=((n-1:Nat):Int):=by rw [i64_of (by omega)];omega
  have hg:((ceRows M).map fun r=>r.map A.d)[n-1]? = some (M[n-1].row.map .d):=by simp [ceRows,hn1]
  have hset:∀ c:Ce,((ceRows M).map fun r=>r.map A.d).set (n-1) (c.row.map .d)=(ceRows (M.set (n-1) c)).map fun r=>r.map A.d:=fun c=>by
    simp [ceRows,List.map_set]
  have hres:∀ l':List Ce,l'.length=M.length→FrzA 0 [ceB' l'] (.ref 0 M.length 0 n true) (.d (.sl eCe (ceRows (l'.take n)))):=fun l' hl'=>by
    have:=frz_rows (k:=0) (id:=0) (off:=0) (len:=n) (full:=true) (e:=eCe) (rows:=ceRows l') (h:=[ceB' l']) (zI _) rfl (by rw [ceRows_length,hl'];omega)
    rw [ceRows_length,hl',List.drop_zero,ceRows_take] at this
    exact this
  have hSM:S (n-l.length)=⟨look [(1,.int n),(5,.ref 0 M.length 0 M.length true)],[ceB' M]⟩:=by
    simp only [S];rw [← hM,← hMl]
  rw [hSM]
  clear hSM
  refine W_seq (W_reg ?_)
  simp only [xq,reduceIte,qE,qA,qL,qD,ceRows_length,Int.sub_zero,Option.isNone_none,Bool.and_true]
  refine ⟨by omega,by omega,by omega,by omega,?_⟩
  let S2:St:=⟨look [(1,.int n),(5,.ref 0 M.length 0 n true)],[ceB' M]⟩
  refine W_co (s':=S2) (Co.keep _ (by simp [x_upd,x_look])) ?_
  let T:List Ce→St:=fun l'=>⟨look [(5,.ref 0 M.length 0 n true)],[ceB' l']⟩
  refine W_cut (fun s=>∃ l',l'.length=M.length∧l'.take n=fitR (checkR l) l n∧s=T l') ?_ ?_
  · refine W_seq (W_reg ?_)
    simp only [S2,xq,reduceIte,qE,qA,qL,qD,e1,ceRows_length,hg,Ce.row]
    refine ⟨by omega,by omega,?_⟩
    refine W_cond rfl (fun hd=>W_reg ?_) (fun hd=>W_skip ?_)
    · have hw:M[n-1].width=2:=by simpa using hd
      simp only [xq,reduceIte,qE,qA,qL,qD,e1,ceRows_length,hg,Ce.row]
      refine ⟨by omega,by omega,?_⟩
      refine c_fn (rblank_fn Hb hNb _) rfl ?_
      have hs:=hset (blankC M[n-1].back)
      simp only [ceA,blankC,Ce.row,List.map_cons,List.map_nil] at hs hg ⊢
      simp only [xq,reduceIte,qE,qA,qL,qD,ceRows_length,hg,hs]
      refine ⟨by omega,by omega,T (M.set (n-1) (blankC M[n-1].back)),?_,M.set (n-1) (blankC M[n-1].back),by simp,?_,rfl⟩
      · exact Co.keep _ (by simp [x_upd,x_look])
      · rw [hfl,if_pos hw,List.take_set]
    · have hw:¬ M[n-1].width=2:=by simpa using hd
      refine ⟨rfl,T M,?_,M,rfl,by rw [hfl,if_neg hw],rfl⟩
      exact Co.keep _ (by simp [x_upd,x_look])
  · rintro s ⟨l',h1,h2,rfl⟩
    refine W_seq (W_reg ?_)
    simp only [T,xq,reduceIte,qE,qA,qL,qD]
    refine W_ret (.frz ?_)
    simp only [xq,reduceIte,qE,qA,qL,qD,← h2]
    exact hres l' h1
end Go.Proofs.YthhjkfilfhmakaaDoor.Nx
namespace Go.Proofs.YthhjkfilfhmakaaDoor.Nx
open Go
variable {P:Program} {N:Nat} {Γ:Tabs}
abbrev atB (a b c:Int):HB:=.cells ⟨3,24⟩ [[.int a,.int b,.int c]]
def atD (a b c:Int):List D:=[.sc (.int .i64 a),.sc (.int .i64 b),.sc (.int .i64 c)]
abbrev atA (a b c:Int):A:=.agg [.int a,.int b,.int c]
theorem under_ints {e:Elt} {k:Nat} {l:List A} (h:∀ x∈l,x.under k=true):HB.under k (.cells e [l]):=by
  intro r hr x hx
  simp only [List.mem_cons,List.not_mem_nil,or_false] at hr
  subst hr
  exact h x hx
end Go.Proofs.YthhjkfilfhmakaaDoor.Nx
namespace Go.Proofs.YthhjkfilfhmakaaDoor.Nx
open Go
abbrev smallR (l:List Ce):Prop:=∀ c∈l,c.text.size≤1000
end Go.Proofs.YthhjkfilfhmakaaDoor.Nx
namespace Go.Proofs.YthhjkfilfhmakaaDoor.Nx
open Go
def mulOk (n:Nat):Option A→Bool
  | some (.tup [.d (.sc (.int .u64 a)),.d (.sc (.int .u64 b))])=>decide (a=0∧b=n)
  | _=>false
theorem mulOk_ok {n:Nat} {x:Option A} (h:mulOk n x=true):x=some (.tup [.d (.sc (.int .u64 0)),.d (.sc (.int .u64 n))]):=by
  unfold mulOk at h
  split at h
  · simp only [decide_eq_true_eq] at h
    obtain ⟨rfl,rfl⟩:=h
    rfl
  · cases h
theorem mul_of {P:Program} {Γ:Tabs} {o:Orc} (O:OrcOk (.all Γ.ctx P) o) {fm:FuncId} (h:(List.range 133).all (fun n=>mulOk n (o.pure fm [.d (.sc (.int .u64 1)),.d (.sc (.int .u64 n))]))=true) :
    ∀ n:Nat,n≤132→FnP Γ P fm [.d (.sc (.int .u64 1)),.d (.sc (.int .u64 n))] (.tup [.d (.sc (.int .u64 0)),.d (.sc (.int .u64 n))]):=fun n hn =>
  O.pure _ _ _ (mulOk_ok (List.all_eq_true.1 h n (List.mem_range.2 (by omega))))
end Go.Proofs.YthhjkfilfhmakaaDoor.Nx
namespace Go.Proofs.YthhjkfilfhmakaaDoor.Nx
open Go
def crOf:List D→Option (List Ce)
  | [.sl e rows]=>if e=eCe then rows.mapM ceOf else none
  | _=>none
theorem crOf_ok {r:List D} {l:List Ce} (h:crOf r=some l):r=[.sl eCe (ceRows l)]:=by
  unfold crOf at h
  split at h
  · split at h
    · rename_i he;subst he;rw [ceOfs_ok h]
    · cases h
  · cases h
theorem crOfs_ok:∀ {rows:List (List D)} {l:List (List Ce)},rows.mapM crOf=some l→rows=crRows l
  | [],l,h=>by simp at h;subst h;rfl
  | r::rows,l,h=>by
    simp only [List.mapM_cons,Option.bind_eq_bind,Option.pure_def,Option.bind_eq_some_iff,Option.some.injEq] at h
    obtain ⟨c,hc,l',hl,rfl⟩:=h
    rw [crOf_ok hc,crOfs_ok hl];rfl
end Go.Proofs.YthhjkfilfhmakaaDoor.Nx

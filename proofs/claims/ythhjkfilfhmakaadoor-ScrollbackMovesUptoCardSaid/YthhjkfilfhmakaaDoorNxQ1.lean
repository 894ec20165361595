import Derived.Test.YthhjkfilfhmakaaDoorNxB0
import Derived.Test.YthhjkfilfhmakaaDoorNxD15
set_option linter.unusedSimpArgs false
set_option linter.unusedVariables false
set_option linter.unnecessarySimpa false
open Nat renaming zero_le → zI
open Int renaming toNat_natCast → zQ
open List renaming not_mem_nil → zc, mem_cons → zp
open Nat renaming reduceEqDiff → qE, reduceAdd → qA, reduceLT → qL, reduceLeDiff → qD
namespace Go.Proofs.YthhjkfilfhmakaaDoor.Nx
open Go
variable {P:Program} {N:Nat} {Γ:Tabs}
def blankC (back:Int):Ce:=⟨⟨#[32]⟩,1, -1,back,0⟩
abbrev ceB' (l:List Ce):HB:=.cells eCe ((ceRows l).map fun r=>r.map A.d)
theorem cblank_fn {f:FuncId} (H:FnIs P f N [.c 2 5 true] x_cellrow_blank) (hN:1≤N) (back:Int):FnP Γ P f [.int back] (ceA (blankC back)):=by
  refine .of_W H (by simpa using hN) ?_
  unfold x_cellrow_blank
  refine W_seq (W_reg ?_)
  simp only [xq,reduceIte,qE,qA,qL,qD]
  refine W_seq (W_reg ?_)
  simp only [xq,reduceIte,qE,qA,qL,qD]
  refine W_ret ⟨.inr rfl,?_⟩
  simp only [readRs,readR,single,x_upd,reduceIte,qE,x_look,argS,xq,reduceIte,qE,qA,qL,qD,loadsTo]
  exact .same rfl
theorem cloneD_fn {f:FuncId} {Δ:Ctx} (H:FnIs P f N [.t 2] x_slices_Clone_750) (hN:1≤N) (l:List Ce) (hl:l≠[]) (h:Heap) (hb:Δ.b≤h.length) :
    FnD Δ P f [.d (.sl eCe (ceRows l))] h (.ref h.length l.length 0 l.length true) (h++[ceB' l]):=by
  refine .of_W H (by simpa using hN) hb (W_sl 0 rfl fun ⟨hm,hroom,_⟩=>?_)
  unfold x_slices_Clone_750
  refine W_nil 0 rfl (fun h0=>?_) ?_
  · exact absurd (List.map_eq_nil_iff.1 h0) hl
  · refine W_seq (W_reg ?_)
    simp only [xq,reduceIte,qE,qA,qL,qD]
    refine W_seq (W_seq (W_reg ?_))
    simp only [xq,reduceIte,qE,qA,qL,qD,x_eqnil,EqNil]
    refine W_cond (t:=false) (by simp [ev,x_upd]) (fun h=>by cases h) (fun _=>W_skip ?_)
    simp only [xq,reduceIte,qE,qA,qL,qD]
    refine W_seq (W_reg ?_)
    simp only [xq,reduceIte,qE,qA,qL,qD,hp_g0,hp_s0,ceRows_length]
    rw [ceRows_length] at hm hroom
    refine ⟨hroom,hm,W_ret ⟨.inr rfl,?_⟩⟩
    simp only [readRs,readR,single,x_upd,reduceIte,qE,x_look,xq,reduceIte,qE,qA,qL,qD]
def fitC (l:List Ce) (w:Nat):List Ce:=if l.length≤w then l++List.replicate (w-l.length) (blankC (-1)) else
  match (l.take w).getLast? with
  | some c=>if c.width=2 then (l.take w).set (w-1) (blankC c.back) else l.take w
  | none=>[]
def fitR (ck:Int) (l:List Ce) (w:Int):List Ce:=if ck≠0∨w<1∨132<w then [] else fitC l w.toNat
set_option maxHeartbeats 1000000 in
theorem fit_fn {f fck fcl fbs fb:FuncId} {Nc Nb:Nat} (H:FnIs P f N [.t 4] (x_cellrow_Fit fck fcl fbs fb)) (hN:2≤N) (Hcl:FnIs P fcl Nc [.t 2] x_slices_Clone_750) (hNc:1≤Nc) (Hb:FnIs P fb Nb [.c 2 5 true] x_cellrow_blank) (hNb:1≤Nb)
    (l:List Ce) (w ck:Int) (Hck:FnP Γ P fck [.d (.sl eCe (ceRows l))] (.int ck)) (hck:ck=0→1≤l.length∧l.length≤132)
    (Hbs:∀ n:Nat,w=l.length+n→n≤132→FnP Γ P fbs [.int n,.int (-1)] (.d (.sl eCe (ceRows (List.replicate n (blankC (-1))))))) :
    FnP Γ P f [.d (.sl eCe (ceRows l)),.int w] (.d (.sl eCe (ceRows (fitR ck l w)))):=by
  refine .of_W H (by simpa using hN) ?_
  unfold x_cellrow_Fit
  refine W_seq (W_reg ?_)
  simp only [xq,reduceIte,qE,qA,qL,qD]
  let U:Bool→St:=fun c=>⟨look [(0,.d (.sl eCe (ceRows l))),(1,.int w),(4,.nil),(17,.bool c)],[]⟩
  refine W_seq (W_cutX (· = U (((!decide (ck=0))||decide (w<1))||decide (132<w))) rfl (fun K hK=>?_) ?_)
  · simp only [xq,reduceIte,qE,qA,qL,qD]
    refine c_fn Hck rfl ?_
    cases e : !decide (ck=0)
    · simp only [xq,reduceIte,qE,qA,qL,qD,e]
      cases e2:decide (w<1)
      · simp only [xq,reduceIte,qE,qA,qL,qD,e2]
        exact hK _ _ (Co.keep _ (by simp [x_upd,x_look,e,e2])) rfl
      · simp only [xq,reduceIte,qE,qA,qL,qD,e2]
        exact hK _ _ (Co.keep _ (by simp [x_upd,x_look,e,e2])) rfl
    · simp only [xq,reduceIte,qE,qA,qL,qD,e]
      exact hK _ _ (Co.keep _ (by simp [x_upd,x_look,e])) rfl
  rintro _ rfl
  refine W_cond rfl (fun hc=>?_) (fun hc=>W_skip ?_)
  · have hc:ck≠0∨w<1∨132<w:=by
      simp only [Bool.or_eq_true,Bool.not_eq_true',decide_eq_false_iff_not,decide_eq_true_eq] at hc
      rcases hc with (h | h) | h
      · exact .inl h
      · exact .inr (.inl h)
      · exact .inr (.inr h)
    refine W_seq (W_reg ?_)
    simp only [U,xq,reduceIte,qE,qA,qL,qD]
    refine W_ret (.frz ?_)
    simp only [xq,reduceIte,qE,qA,qL,qD,fitR,if_pos hc]
    exact .d (.nil _)
  have hc':ck=0∧1≤w∧w≤132:=by
    simp only [Bool.or_eq_false_iff,Bool.not_eq_false',decide_eq_true_eq,decide_eq_false_iff_not] at hc
    exact ⟨hc.1.1,by omega,by omega⟩
  have hcn:¬ (ck≠0∨w<1∨132<w):=by rintro (h | h | h)<;>omega
  obtain ⟨hl1,hl2⟩:=hck hc'.1
  have hne:l≠[]:=by rintro rfl;simp at hl1
  obtain ⟨n,rfl⟩:∃ n:Nat,w=n:=⟨w.toNat,by omega⟩
  simp only [U,xq,reduceIte,qE,qA,qL,qD]
  refine W_seq (W_reg ?_)
  simp only [xq,reduceIte,qE,qA,qL,qD]
  refine ce_fn (cloneD_fn Hcl hNc l hne [] (zI _)) ?_
  simp only [xq,reduceIte,qE,qA,qL,qD]
  refine W_seq (W_seq (W_reg ?_))
  simp only [xq,reduceIte,qE,qA,qL,qD,ceRows_length]
  refine W_cond rfl (fun hd=>?_) (fun hd=>W_skip ?_)
  · have hge:l.length≤n:=by simpa using hd
    have e1:IntKind.i64.wrap ((n:Int)-(l.length:Int))=((n-l.length:Nat):Int):=by rw [i64_of (by omega)];omega
    have hB:=Hbs (n-l.length) (by omega) (by omega)
    have hcs:((ceRows l).map fun r=>r.map A.d)++((ceRows (List.replicate (n-l.length) (blankC (-1)))).map fun r=>r.map A.d)=(ceRows (l++List.replicate (n-l.length) (blankC (-1)))).map fun r=>r.map A.d:=by simp [ceRows]
    refine W_seq (W_reg ?_)
    simp only [xq,reduceIte,qE,qA,qL,qD,ceRows_length,e1]
    refine c_fn hB rfl ?_
    simp only [xq,reduceIte,qE,qA,qL,qD,ceRows_length,hcs,List.length_replicate]
    refine ⟨by simp only [room];omega,by simp only [maxLen];omega,?_⟩
    refine W_ret (.frz ?_)
    simp only [xq,reduceIte,qE,qA,qL,qD,fitR,if_neg hcn,zQ,fitC,if_pos hge]
    have:=frz_all (id:=0) (full:=true) (e:=eCe) (rows:=ceRows (l++List.replicate (n-l.length) (blankC (-1)))) (h:=[.cells eCe ((ceRows (l++List.replicate (n-l.length) (blankC (-1)))).map fun r=>r.map A.d)]) rfl
    rw [ceRows_length,List.length_append,List.length_replicate] at this
    exact this
  have hlt:n<l.length:=by simpa using hd
  have hn1:n-1<l.length:=by omega
  have e1:IntKind.i64.wrap ((n:Int)-1)=((n-1:Nat):Int):=by rw [i64_of (by omega)];omega
  have hg:((ceRows l).map fun r=>r.map A.d)[n-1]? = some (l[n-1].row.map .d):=by simp [ceRows,hn1]
  have hfl:fitR ck l n=if l[n-1].width=2 then (l.take n).set (n-1) (blankC l[n-1].back) else l.take n:=by
    simp only [fitR,if_neg hcn,zQ,fitC,if_neg (show ¬ l.length≤n by omega)]
    have:(l.take n).getLast? = some l[n-1]:=by
      rw [List.getLast?_eq_getElem?,List.length_take,Nat.min_eq_left (by omega),List.getElem?_take,if_pos (by omega),List.getElem?_eq_getElem hn1]
    rw [this]
  have hset:∀ c:Ce,((ceRows l).map fun r=>r.map A.d).set (n-1) (c.row.map .d)=(ceRows (l.set (n-1) c)).map fun r=>r.map A.d:=fun c=>by
    simp [ceRows,List.map_set]
  have hres:∀ l':List Ce,l'.length=l.length→FrzA 0 [ceB' l'] (.ref 0 l.length 0 n false) (.d (.sl eCe (ceRows (l'.take n)))):=fun l' hl'=>by
    have:=frz_rows (k:=0) (id:=0) (off:=0) (len:=n) (full:=false) (e:=eCe) (rows:=ceRows l') (h:=[ceB' l']) (zI _) rfl (by rw [ceRows_length,hl'];omega)
    rw [ceRows_length,hl',List.drop_zero,ceRows_take] at this
    exact this
  refine W_seq (W_reg ?_)
  simp only [xq,reduceIte,qE,qA,qL,qD,ceRows_length,Int.sub_zero,Option.isNone_some,Bool.and_false]
  refine ⟨by omega,by omega,by omega,by omega,?_⟩
  let S:St:=⟨look [(1,.int n),(5,.ref 0 l.length 0 n false)],[ceB' l]⟩
  refine W_co (s':=S) (Co.keep _ (by simp [x_upd,x_look])) ?_
  let T:List Ce→St:=fun l'=>⟨look [(5,.ref 0 l.length 0 n false)],[ceB' l']⟩
  have hend:∀ l':List Ce,l'.length=l.length→l'.take n=fitR ck l n→W Γ.ctx P N none 0 (.seq (.reg [
    { dst:=some 51,op:=.mov (.t 5) },
    { dst:=some 4,op:=.mov (.t 51) }]) .ret) (RetQ [.t 4] (.d (.sl eCe (ceRows (fitR ck l n))))) (T l'):=by
    intro l' hl' hf
    refine W_seq (W_reg ?_)
    simp only [T,xq,reduceIte,qE,qA,qL,qD]
    refine W_ret (.frz ?_)
    simp only [xq,reduceIte,qE,qA,qL,qD,← hf]
    exact hres l' hl'
  refine W_cut (fun s=>∃ l',l'.length=l.length∧l'.take n=fitR ck l n∧s=T l') ?_ ?_
  · refine W_seq (W_reg ?_)
    simp only [S,xq,reduceIte,qE,qA,qL,qD,e1,ceRows_length,hg,Ce.row]
    refine ⟨by omega,by omega,?_⟩
    refine W_seq (W_reg ?_)
    simp only [xq,reduceIte,qE,qA,qL,qD]
    refine W_cond rfl (fun hd=>W_reg ?_) (fun hd=>W_skip ?_)
    · have hw:l[n-1].width=2:=by simpa using hd
      simp only [xq,reduceIte,qE,qA,qL,qD,e1]
      refine c_fn (cblank_fn Hb hNb _) rfl ?_
      have hs:=hset (blankC l[n-1].back)
      simp only [ceA,blankC,Ce.row,List.map_cons,List.map_nil] at hs hg ⊢
      simp only [xq,reduceIte,qE,qA,qL,qD,ceRows_length,hg,hs]
      refine ⟨by omega,by omega,T (l.set (n-1) (blankC l[n-1].back)),?_,l.set (n-1) (blankC l[n-1].back),by simp,?_,rfl⟩
      · refine Co.to _ 1 ?_ (zI _) (by simp) ?_
        · simp [x_upd,x_look,A.under]
        · intro B hB
          simp only [List.take_succ_cons,List.take_zero,zp,zc,or_false] at hB
          subst hB
          exact under_d
      · rw [hfl,if_pos hw,List.take_set]
    · have hw:¬ l[n-1].width=2:=by simpa using hd
      refine ⟨rfl,T l,?_,l,rfl,by rw [hfl,if_neg hw],rfl⟩
      refine Co.to _ 1 ?_ (zI _) (by simp) ?_
      · simp [x_upd,x_look,A.under]
      · intro B hB
        simp only [List.take_succ_cons,List.take_zero,zp,zc,or_false] at hB
        subst hB
        exact under_d
  · rintro s ⟨l',h1,h2,rfl⟩
    exact hend l' h1 h2
end Go.Proofs.YthhjkfilfhmakaaDoor.Nx
namespace Go.Proofs.YthhjkfilfhmakaaDoor.Nx
open Go
variable {P:Program} {N:Nat} {Γ:Tabs}
abbrev zR:List A:=[.str ⟨#[]⟩,.int 0,.int 0,.int 0,.int 0]
def repB (c:Ce) (n k:Nat):List (List A):=List.replicate k (c.row.map .d)++List.replicate (n-k) zR
theorem repB_len {c:Ce} {n k:Nat} (hk:k≤n):(repB c n k).length=n:=by simp [repB];omega
theorem repeat_fn {f fm:FuncId} (H:FnIs P f N [.t 4] (x_slices_Repeat_750 fm)) (hN:2≤N) (c:Ce) (n:Nat) (hn:n≤132)
    (Hm:FnP Γ P fm [.d (.sc (.int .u64 1)),.d (.sc (.int .u64 n))] (.tup [.d (.sc (.int .u64 0)),.d (.sc (.int .u64 n))])) :
    FnP Γ P f [.d (.sl eCe (ceRows [c])),.int n] (.d (.sl eCe (ceRows (List.replicate n c)))):=by
  refine .of_W H (by simpa using hN) ?_
  have u1:IntKind.u64.wrap 1=1:=rfl
  have un:IntKind.u64.wrap (n:Int)=n:=by
    have:∀ n:Nat,n≤132→IntKind.u64.wrap (n:Int)=n:=by decide +kernel
    exact this n hn
  have wn:IntKind.i64.wrap (n:Int)=n:=i64_of (by omega)
  have d1:decide ((n:Int)<0)=false:=decide_eq_false (by omega)
  have d2:decide ((9223372036854775807:Int)<(n:Int))=false:=decide_eq_false (by omega)
  unfold x_slices_Repeat_750
  refine W_seq (W_reg ?_)
  simp only [xq,reduceIte,qE,qA,qL,qD]
  refine W_seq (W_seq (W_reg ?_))
  simp only [xq,reduceIte,qE,qA,qL,qD,d1]
  refine W_cond rfl (fun hc=>by cases hc) (fun _=>W_skip ?_)
  simp only [xq,reduceIte,qE,qA,qL,qD]
  refine W_seq (W_reg ?_)
  have hl1:(ceRows [c]).length=1:=rfl
  simp only [xq,reduceIte,qE,qA,qL,qD,hl1,Int.natCast_one,u1,un]
  refine c_fn Hm rfl ?_
  simp only [xq,reduceIte,qE,qA,qL,qD]
  refine W_seq (W_seq (W_reg ?_))
  simp only [xq,reduceIte,qE,qA,qL,qD,Int.lt_irrefl,decide_false,d2]
  refine W_cond rfl (fun hc=>by cases hc) (fun _=>W_skip ?_)
  simp only [xq,reduceIte,qE,qA,qL,qD]
  refine W_seq (W_reg ?_)
  simp only [xq,reduceIte,qE,qA,qL,qD,wn]
  refine ⟨by omega,by omega,by omega,by simp only [room];omega,?_⟩
  let S:Nat→St:=fun k=>⟨look [(7,.ref 0 n 0 n true),(8,.int k)],[.cells eCe (repB c n k)]⟩
  have h0:List.replicate n zR=repB c n 0:=by simp [repB]
  have hrow:(ceRows [c]).map (fun r=>r.map A.d)=[c.row.map .d]:=rfl
  have hend:W Γ.ctx P N none 0 (.seq (.reg [
    { dst:=some 47,op:=.mov (.t 7) },
    { dst:=some 4,op:=.mov (.t 47) }]) .ret) (RetQ [.t 4] (.d (.sl eCe (ceRows (List.replicate n c))))) (S n):=by
    refine W_seq (W_reg ?_)
    simp only [S,xq,reduceIte,qE,qA,qL,qD]
    refine W_ret (.frz ?_)
    simp only [xq,reduceIte,qE,qA,qL,qD]
    have hr:repB c n n=(ceRows (List.replicate n c)).map fun r=>r.map A.d:=by simp [repB,ceRows]
    have:=frz_all (id:=0) (full:=true) (e:=eCe) (rows:=ceRows (List.replicate n c)) (h:=[.cells eCe (repB c n n)]) (by rw [hr];rfl)
    rw [ceRows_length,List.length_replicate] at this
    exact this
  refine W_cut (· = S (min 1 n)) ?_ ?_
  · refine W_reg ?_
    simp only [xq,reduceIte,qE,qA,qL,qD,h0,hrow,repB_len (zI n)]
    refine ⟨S (min 1 n),?_,rfl⟩
    have hb:List.take (min 1 n) [c.row.map A.d]++List.drop (min 1 n) (repB c n 0)=repB c n (min 1 n):=by
      rcases Nat.eq_zero_or_pos n with h | h
      · subst h;simp [repB]
      · rw [Nat.min_eq_left h];simp [repB]
    rw [hb]
    exact Co.keep _ (by simp [x_upd,x_look])
  rintro _ rfl
  refine W_cut (· = S n) (W_block ?_) (by rintro _ rfl;exact hend)
  refine W_loop (fun m s=>∃ k,min 1 n≤k∧k≤n∧m=n-k∧s=S k) ⟨min 1 n,Nat.le_refl _,by omega,rfl,rfl⟩ ?_
  rintro m s ⟨k,hk1,hk,rfl,rfl⟩
  have hl:=repB_len (c:=c) hk
  refine W_seq (W_seq (W_reg ?_))
  simp only [S,xq,reduceIte,qE,qA,qL,qD,hl]
  refine W_cond rfl (fun hc=>W_skip ?_) (fun hc=>W_exit ?_)
  · have hlt:k<n:=by simpa using hc
    have hkp:0<k:=by omega
    simp only [xq,reduceIte,qE,qA,qL,qD]
    refine W_block (W_drw (by simp) ?_)
    have e1:IntKind.i64.wrap ((k:Int)+((min k (n-k):Nat):Int))=((k+min k (n-k):Nat):Int):=by rw [i64_of (by omega)];omega
    have e2:((n:Int)-(k:Int)).toNat=n-k:=by omega
    have hb:List.take k (repB c n k)++List.take (min k (n-k)) (List.take k (repB c n k))++List.drop (k+min k (n-k)) (repB c n k)=repB c n (k+min k (n-k)):=by
      have h1:List.take k (repB c n k)=List.replicate k (c.row.map .d):=by simp [repB]
      have h2:List.drop (k+min k (n-k)) (repB c n k)=List.replicate (n-(k+min k (n-k))) zR:=by
        simp only [repB,List.drop_append,List.length_replicate,List.drop_replicate]
        rw [show k-(k+min k (n-k))=0 by omega,List.replicate_zero,List.nil_append]
        congr 1;omega
      rw [h1,h2,List.take_replicate,Nat.min_eq_left (show min k (n-k)≤k by omega),List.replicate_append_replicate];rfl
    simp only [xq,reduceIte,qE,qA,qL,qD,hl,Int.sub_zero,e2]
    have e3:((k:Int)-((0:Nat):Int)).toNat=k:=by omega
    have hm:(List.take k (repB c n k)).length=k:=by rw [List.length_take,hl];omega
    simp only [hm,hl,List.drop_zero,e3,hb,e1]
    refine ⟨by omega,by omega,by omega,by omega,by omega,by omega,by omega,by omega,?_⟩
    refine ⟨n-(k+min k (n-k)),S (k+min k (n-k)),by omega,Co.keep _ ?_,k+min k (n-k),by omega,by omega,rfl,rfl⟩
    simp [x_upd,x_look]
  · have hle:k=n:=by simp at hc;omega
    subst hle
    simp only [xq,reduceIte,qE,qA,qL,qD]
    exact ⟨S k,Co.keep _ (by simp [x_upd,x_look]),rfl⟩
theorem blanks_fn {f fb fr:FuncId} {Nb:Nat} (H:FnIs P f N [.t 4] (x_cellrow_blanks fb fr)) (hN:2≤N) (Hb:FnIs P fb Nb [.c 2 5 true] x_cellrow_blank) (hNb:1≤Nb) (back:Int) (n:Nat)
    (Hr:∀ c:Ce,FnP Γ P fr [.d (.sl eCe (ceRows [c])),.int n] (.d (.sl eCe (ceRows (List.replicate n c))))):FnP Γ P f [.int n,.int back] (.d (.sl eCe (ceRows (List.replicate n (blankC back))))):=by
  refine .of_W H (by simpa using hN) ?_
  unfold x_cellrow_blanks
  refine W_seq (W_reg ?_)
  simp only [xq,reduceIte,qE,qA,qL,qD]
  refine W_sregC fun K hK=>?_
  refine runC_cut 3 (· = ⟨look [(0,.int n),(7,.d (.sl eCe (ceRows [blankC back])))],[]⟩) rfl (by intro h;cases h) (fun K1 hK1=>?_) ?_
  · simp only [xq,reduceIte,qE,qA,qL,qD]
    refine c_fn (cblank_fn Hb hNb back) rfl ?_
    simp only [ceA,blankC,Ce.row,xq,reduceIte,qE,qA,qL,qD,Nat.reduceMul]
    refine hK1 _ _ (Co.frz _ 0 ?_ (Nat.le_refl _) (zI _) (by simp)) rfl
    intro p hp
    simp only [zp,zc,or_false] at hp
    rcases hp with rfl | rfl
    · exact .same rfl
    · exact frz_all (id:=0) (full:=true) (e:=eCe) (rows:=ceRows [blankC back]) (h:=[.cells eCe ((ceRows [blankC back]).map fun r=>r.map A.d)]) rfl
  rintro _ rfl
  refine runC_end rfl ?_
  simp only [xq,reduceIte,qE,qA,qL,qD]
  refine c_fn (Hr _) rfl ?_
  simp only [xq,reduceIte,qE,qA,qL,qD]
  refine hK _ ?_
  refine W_ret (.tmp ?_ rfl)
  simp only [x_upd,reduceIte]
def blankRow (w:Int) (back:Int):List Ce:=if w<1∨132<w then [] else List.replicate w.toNat (blankC back)
theorem cBlank_fn {f fbs:FuncId} (H:FnIs P f N [.t 4] (x_cellrow_Blank fbs)) (hN:2≤N) (w a b c:Int) (Hb:∀ n:Nat,n≤132→FnP Γ P fbs [.int n,.int b] (.d (.sl eCe (ceRows (List.replicate n (blankC b)))))) :
    FnP Γ P f [.int w,.agg [.int a,.int b,.int c]] (.d (.sl eCe (ceRows (blankRow w b)))):=by
  refine .of_W H (by simpa using hN) ?_
  unfold x_cellrow_Blank
  refine W_seq (W_reg ?_)
  simp only [xq,reduceIte,qE,qA,qL,qD]
  let U:Bool→St:=fun t=>⟨look [(0,.int w),(3,.ptr 0 1 0 0),(4,.nil),(10,.bool t)],[.cells ⟨3,24⟩ [[.int a,.int b,.int c]]]⟩
  refine W_seq (W_cutX (· = U (decide (w<1)||decide (132<w))) rfl (fun K hK=>?_) ?_)
  · cases e:decide (w<1)
    · simp only [xq,reduceIte,qE,qA,qL,qD,e]
      exact hK _ _ (Co.keep _ (by simp [x_upd,x_look,e])) rfl
    · simp only [xq,reduceIte,qE,qA,qL,qD,e]
      exact hK _ _ (Co.keep _ (by simp [x_upd,x_look,e])) rfl
  rintro _ rfl
  refine W_cond rfl (fun hc=>?_) (fun hc=>W_skip ?_)
  · have hc:w<1∨132<w:=by simpa using hc
    refine W_seq (W_reg ?_)
    simp only [U,xq,reduceIte,qE,qA,qL,qD]
    refine W_ret (.frz ?_)
    simp only [xq,reduceIte,qE,qA,qL,qD,blankRow,if_pos hc]
    exact .d (.nil _)
  have hc:¬ (w<1∨132<w):=by simpa using hc
  obtain ⟨n,rfl⟩:∃ n:Nat,w=n:=⟨w.toNat,by omega⟩
  simp only [U,xq,reduceIte,qE,qA,qL,qD]
  refine W_seq (W_reg ?_)
  simp only [xq,reduceIte,qE,qA,qL,qD]
  refine c_fn (Hb n (by omega)) rfl ?_
  simp only [xq,reduceIte,qE,qA,qL,qD]
  refine W_ret (.frz ?_)
  simp only [xq,reduceIte,qE,qA,qL,qD,blankRow,if_neg hc,zQ]
  exact .same rfl
end Go.Proofs.YthhjkfilfhmakaaDoor.Nx

import Derived.Test.YthhjkfilfhmakaaDoorNxD15
import Derived.Test.YthhjkfilfhmakaaDoorNxWalk
set_option linter.unusedSimpArgs false
set_option linter.unusedVariables false
set_option linter.unnecessarySimpa false
open List renaming getElem?_eq_getElem → zB, getD_eq_getElem?_getD → zC, getElem?_map → zK, take_length → zh
open Nat renaming reduceEqDiff → qE, reduceAdd → qA, reduceLT → qL, reduceLeDiff → qD
namespace Go.Proofs.YthhjkfilfhmakaaDoor.Nx
open Go
structure Ce where
  text:ByteArray
  width:Int
  fore:Int
  back:Int
  flags:Int
abbrev eCe:Elt:=⟨5,48⟩
def Ce.row (c:Ce):List D:=[.sc (.string c.text),.sc (.int .i64 c.width),.sc (.int .i64 c.fore),.sc (.int .i64 c.back),.sc (.int .i64 c.flags)]
def ceRows (l:List Ce):List (List D):=l.map Ce.row
theorem ceRows_get {l:List Ce} {i:Nat} (hi:i<l.length):(ceRows l).getD i []=l[i].row:=by
  rw [zC,ceRows,zK,zB hi];rfl
end Go.Proofs.YthhjkfilfhmakaaDoor.Nx
namespace Go.Proofs.YthhjkfilfhmakaaDoor.Nx
open Go
variable {P:Program} {N:Nat} {Γ:Tabs}
deriving instance DecidableEq for Ce
theorem ceRows_length {l:List Ce}:(ceRows l).length=l.length:=by simp [ceRows]
theorem ceRows_take {l:List Ce} {n:Nat}:(ceRows l).take n=ceRows (l.take n):=by simp [ceRows,List.map_take]
theorem ce_eq (x y:Ce):(decide (x.text=y.text)&&((x.width == y.width)&&((x.fore == y.fore)&&((x.back == y.back)&&(x.flags == y.flags)))))=decide (x=y):=by
  cases x;cases y
  rw [Bool.eq_iff_iff]
  simp
def ceA (c:Ce):A:=.agg (c.row.map .d)
def pairC (c:Ce):Ce:=⟨⟨#[]⟩,0,c.fore,c.back,c.flags⟩
def ceOf:List D→Option Ce
  | [.sc (.string t),.sc (.int .i64 w),.sc (.int .i64 a),.sc (.int .i64 b),.sc (.int .i64 c)]=>some ⟨t,w,a,b,c⟩
  | _=>none
theorem ceOf_ok {r:List D} {c:Ce} (h:ceOf r=some c):r=c.row:=by
  unfold ceOf at h
  split at h
  · cases h;rfl
  · cases h
theorem ceOfs_ok:∀ {rows:List (List D)} {l:List Ce},rows.mapM ceOf=some l→rows=ceRows l
  | [],l,h=>by simp at h;subst h;rfl
  | r::rows,l,h=>by
    simp only [List.mapM_cons,Option.bind_eq_bind,Option.pure_def,Option.bind_eq_some_iff,Option.some.injEq] at h
    obtain ⟨c,hc,l',hl,rfl⟩:=h
    rw [ceOf_ok hc,ceOfs_ok hl];rfl
abbrev eRw:Elt:=⟨1,24⟩
def crRows (l:List (List Ce)):List (List D):=l.map fun r=>[.sl eCe (ceRows r)]
theorem crRows_len {l:List (List Ce)}:(crRows l).length=l.length:=by simp [crRows]
theorem crRows_get {l:List (List Ce)} {i:Nat} (hi:i<l.length):(crRows l).getD i []=[.sl eCe (ceRows l[i])]:=by
  rw [zC,crRows,zK,zB hi];rfl
theorem under_d {e:Elt} {rows:List (List D)} {k:Nat}:HB.under k (.cells e (rows.map fun r=>r.map A.d)):=by
  intro r hr x hx
  obtain ⟨r',_,rfl⟩:=List.mem_map.1 hr
  obtain ⟨d,_,rfl⟩:=List.mem_map.1 hx
  rfl
def greatC (l:List Ce):Bool:=decide (140<l.length)||l.any fun c=>decide (40<c.text.size)
theorem greatC_small {l:List Ce} (h:greatC l=false):l.length≤140∧∀ c∈l,c.text.size≤40:=by
  simp only [greatC,Bool.or_eq_false_iff,decide_eq_false_iff_not] at h
  refine ⟨by omega,fun c hc=>?_⟩
  have:=List.any_eq_false.1 h.2 c hc
  simp only [decide_eq_true_eq] at this;omega
theorem greatC_fn {f:FuncId} (H:FnIs P f N [.t 2] x_ref07_Great) (hN:1≤N) (l:List Ce):FnP Γ P f [.d (.sl eCe (ceRows l))] (.bool (greatC l)):=by
  refine .of_W H (by simpa using hN) (W_sl 0 rfl fun ⟨_,hroom,_⟩=>?_)
  have hlr:l.length≤room:=le_of_mul (by rw [ceRows_length] at hroom;exact hroom)
  unfold x_ref07_Great
  refine W_seq (W_reg ?_)
  simp only [xq,reduceIte,qE,qA,qL,qD]
  refine W_seq (W_seq (W_reg ?_))
  simp only [xq,reduceIte,qE,qA,qL,qD,ceRows_length]
  refine W_cond rfl (fun hc=>?_) (fun hc=>W_skip ?_)
  · refine W_seq (W_reg ?_)
    simp only [xq,reduceIte,qE,qA,qL,qD]
    have hlt:140<l.length:=by simp at hc;omega
    refine W_ret (.tmp ?_ rfl)
    simp [x_upd,greatC,hlt]
  · have hle:¬ 140<l.length:=by simp at hc;omega
    simp only [xq,reduceIte,qE,qA,qL,qD]
    refine W_seq (W_seq (W_reg ?_))
    simp only [xq,reduceIte,qE,qA,qL,qD]
    refine W_block ?_
    let S:Nat→St:=fun i=>⟨look [(0,.d (.sl eCe (ceRows l))),(3,.int i)],[]⟩
    refine W_co (s':=S 0) (Co.keep _ (by simp [x_upd,x_look])) ?_
    refine W_loop (fun m s=>∃ i,i≤l.length∧m=l.length-i∧s=S i∧(l.take i).any (fun g=>decide (40<g.text.size))=false) ⟨0,Nat.zero_le _,rfl,rfl,by simp⟩ ?_
    rintro m s ⟨i,hi,rfl,rfl,hpre⟩
    refine W_seq (W_seq (W_reg ?_))
    simp only [xq,reduceIte,qE,qA,qL,qD,ceRows_length,S]
    refine W_cond rfl (fun hc=>W_skip ?_) (fun hc=>W_exit ?_)
    · have hlt:i<l.length:=by simpa using hc
      simp only [xq,reduceIte,qE,qA,qL,qD]
      refine W_seq (W_block (W_seq (W_reg ?_)))
      simp only [xq,reduceIte,qE,qA,qL,qD,ceRows_get hlt,Ce.row,ceRows_length]
      refine ⟨by omega,by omega,?_⟩
      refine W_cond rfl (fun hd=>?_) (fun hd=>W_skip ?_)
      · refine W_seq (W_reg ?_)
        simp only [xq,reduceIte,qE,qA,qL,qD]
        refine W_ret ?_
        simp only [xq,reduceIte,qE,qA,qL,qD]
        refine .tmp ?_ rfl
        have hbig:40<l[i].text.size:=by simp at hd;omega
        have:greatC l=true:=by
          simp only [greatC,Bool.or_eq_true,List.any_eq_true]
          exact .inr ⟨l[i],List.getElem_mem hlt,by simpa using hbig⟩
        simp [x_upd,this]
      · have he:decide (40<l[i].text.size)=false:=by simp at hd;simp;omega
        simp only [xq,reduceIte,qE,qA,qL,qD]
        refine W_reg ?_
        simp only [xq,reduceIte,qE,qA,qL,qD]
        refine ⟨l.length-(i+1),S (i+1),by omega,Co.keep _ ?_,i+1,hlt,rfl,rfl,any_take_succ hlt hpre he⟩
        simp [x_upd,x_look,i64_succ hlt hlr]
    · have hle':i=l.length:=by simp at hc;omega
      subst hle'
      rw [zh] at hpre
      simp only [xq,reduceIte,qE,qA,qL,qD]
      refine W_seq (W_reg ?_)
      simp only [xq,reduceIte,qE,qA,qL,qD]
      refine W_ret (.tmp ?_ rfl)
      simp [x_upd,greatC,hle,hpre]
end Go.Proofs.YthhjkfilfhmakaaDoor.Nx
namespace Go.Proofs.YthhjkfilfhmakaaDoor.Nx
open Go
variable {P:Program} {N:Nat} {Γ:Tabs}
theorem cloneC_fn {f:FuncId} (H:FnIs P f N [.t 2] x_slices_Clone_750) (hN:1≤N) (rows:List (List D)):FnP Γ P f [.d (.sl eCe rows)] (.d (.sl eCe rows)):=by
  refine .of_W H (by simpa using hN) (W_sl 0 rfl fun ⟨hm,hroom,_⟩=>?_)
  unfold x_slices_Clone_750
  refine W_nil 0 rfl (fun h0=>?_) ?_
  · subst h0
    refine W_seq (W_reg ?_)
    simp only [xq,reduceIte,qE,qA,qL,qD]
    refine W_seq (W_seq (W_reg ?_))
    simp only [xq,reduceIte,qE,qA,qL,qD,x_eqnil,EqNil]
    refine W_cond (t:=true) (by simp [ev,x_upd]) (fun _=>?_) (fun h=>by cases h)
    refine W_seq (W_reg ?_)
    simp only [xq,reduceIte,qE,qA,qL,qD]
    refine W_ret (.frz ?_)
    simp only [xq,reduceIte,qE,qA,qL,qD]
    exact .d (.nil _)
  · refine W_seq (W_reg ?_)
    simp only [xq,reduceIte,qE,qA,qL,qD]
    refine W_seq (W_seq (W_reg ?_))
    simp only [xq,reduceIte,qE,qA,qL,qD,x_eqnil,EqNil]
    refine W_cond (t:=false) (by simp [ev,x_upd]) (fun h=>by cases h) (fun _=>W_skip ?_)
    simp only [xq,reduceIte,qE,qA,qL,qD]
    refine W_seq (W_reg ?_)
    simp only [xq,reduceIte,qE,qA,qL,qD]
    refine ⟨hroom,hm,W_ret (.frz ?_)⟩
    simp only [xq,reduceIte,qE,qA,qL,qD]
    exact frz_all (id:=0) (full:=true) (e:=eCe) (h:=[HB.cells eCe (rows.map fun r=>r.map .d)]) (rows:=rows) rfl
theorem sameC_fn {f:FuncId} (H:FnIs P f N [.t 4] x_ref07_Same) (hN:2≤N) (a b:List Ce):FnP Γ P f [.d (.sl eCe (ceRows a)),.d (.sl eCe (ceRows b))] (.bool (decide (a=b))):=by
  refine .of_W H (by simpa using hN) (W_sl 0 rfl fun ⟨_,hroom,_⟩=>?_)
  have hlr:a.length≤room:=le_of_mul (by rw [ceRows_length] at hroom;exact hroom)
  unfold x_ref07_Same
  refine W_seq (W_reg ?_)
  simp only [xq,reduceIte,qE,qA,qL,qD]
  refine W_seq (W_seq (W_reg ?_))
  simp only [xq,reduceIte,qE,qA,qL,qD,ceRows_length]
  refine W_cond rfl (fun hc=>?_) (fun hc=>W_skip ?_)
  · refine W_seq (W_reg ?_)
    simp only [xq,reduceIte,qE,qA,qL,qD]
    have hne:a≠b:=by rintro rfl;simp at hc
    refine W_ret (.tmp ?_ rfl)
    simp [x_upd,hne]
  · have hlen:a.length=b.length:=by simp at hc;omega
    simp only [xq,reduceIte,qE,qA,qL,qD]
    refine W_seq (W_seq (W_reg ?_))
    simp only [xq,reduceIte,qE,qA,qL,qD]
    refine W_block ?_
    let S:Nat→St:=fun i=>⟨look [(0,.d (.sl eCe (ceRows a))),(1,.d (.sl eCe (ceRows b))),(5,.int i)],[]⟩
    refine W_co (s':=S 0) (Co.keep _ (by simp [x_upd,x_look])) ?_
    refine W_loop (fun m s=>∃ i,i≤a.length∧m=a.length-i∧s=S i∧a.take i=b.take i) ⟨0,Nat.zero_le _,rfl,rfl,by simp⟩ ?_
    rintro m s ⟨i,hi,rfl,rfl,hpre⟩
    refine W_seq (W_seq (W_reg ?_))
    simp only [xq,reduceIte,qE,qA,qL,qD,S,ceRows_length]
    refine W_cond rfl (fun hc=>W_skip ?_) (fun hc=>W_exit ?_)
    · have hlt:i<a.length:=by simpa using hc
      have hltb:i<b.length:=by omega
      have he:=ce_eq a[i] b[i]
      simp only [xq,reduceIte,qE,qA,qL,qD]
      refine W_seq (W_block (W_seq (W_drw (by simp) ?_)))
      simp only [xq,reduceIte,qE,qA,qL,qD,ceRows_get hlt,ceRows_get hltb,Ce.row,ceRows_length,he]
      refine ⟨by omega,by omega,by omega,by omega,?_⟩
      refine W_cond rfl (fun hd=>?_) (fun hd=>W_skip ?_)
      · refine W_seq (W_reg ?_)
        simp only [xq,reduceIte,qE,qA,qL,qD]
        have hne:a≠b:=by
          rintro rfl
          simp at hd
        refine W_ret ?_
        simp only [xq,reduceIte,qE,qA,qL,qD]
        refine .tmp ?_ rfl
        simp [x_upd,hne]
      · have he:a[i]=b[i]:=by simpa using hd
        simp only [xq,reduceIte,qE,qA,qL,qD]
        refine W_reg ?_
        simp only [xq,reduceIte,qE,qA,qL,qD]
        refine ⟨a.length-(i+1),S (i+1),by omega,Co.keep _ ?_,i+1,hlt,rfl,rfl,take_eq_succ hlt hltb hpre he⟩
        simp [x_upd,x_look,i64_succ hlt hlr]
    · have hle:i=a.length:=by simp at hc;omega
      have heq:a=b:=by
        subst hle
        rw [zh,hlen,zh] at hpre
        exact hpre
      simp only [xq,reduceIte,qE,qA,qL,qD]
      refine W_seq (W_reg ?_)
      simp only [xq,reduceIte,qE,qA,qL,qD]
      refine W_ret (.tmp ?_ rfl)
      simp [x_upd,heq]
end Go.Proofs.YthhjkfilfhmakaaDoor.Nx

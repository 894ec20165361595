import Derived.Test.YtadfkfgjhaijiaaDoorNxE19
set_option linter.unusedSimpArgs false
set_option linter.unusedVariables false
set_option linter.unnecessarySimpa false
open Nat renaming zero_le → zI
open List renaming mem_cons_self → zW, mem_cons_of_mem → zZ
open Nat renaming reduceEqDiff → qE, reduceAdd → qA, reduceLT → qL, reduceLeDiff → qD
namespace Go.Proofs.YtadfkfgjhaijiaaDoor.Nx
open Go
variable {P:Program} {N:Nat} {Γ:Tabs}
def inRows (l:List Nat):List (List D):=l.map fun (n:Nat)=>[.sc (.int .i64 (n:Int))]
theorem inRows_len {l:List Nat}:(inRows l).length=l.length:=by simp [inRows]
abbrev insA (l:List Nat):A:=.d (.sl eInt (inRows l))
abbrev inLB (l:List Nat):HB:=.cells eInt ((inRows l).map fun r=>r.map A.d)
def InsIs (h:Heap) (l:List Nat) (x:A):Prop:=(x = .nil∧l=[])∨∃ q,x = .ref q l.length 0 l.length true∧h[q]? = some (inLB l)∧l≠[]
theorem InsIs.frz {h:Heap} {l:List Nat} {x:A} (o:InsIs h l x):FrzA 0 h x (insA l):=by
  rcases o with ⟨rfl,rfl⟩ | ⟨q,rfl,hq,_⟩
  · exact .d (.nil _)
  · have:=frz_all (id:=q) (full:=true) (e:=eInt) hq
    rw [inRows_len] at this
    exact this
end Go.Proofs.YtadfkfgjhaijiaaDoor.Nx
namespace Go.Proofs.YtadfkfgjhaijiaaDoor.Nx
open Go
theorem greatRow_small {l:List Gl} (h:greatRow l=false):l.length≤140∧∀ g∈l,g.text.size≤40:=by
  simp only [greatRow,Bool.or_eq_false_iff,decide_eq_false_iff_not,List.any_eq_false,decide_eq_true_eq] at h
  exact ⟨by omega,fun g hg=>by have:=h.2 g hg;omega⟩
structure CgSm (c:Cg):Prop where
  len:c.gl.length≤140
  txt:∀ g∈c.gl,g.text.size≤40
theorem CgSm.ok {c:Cg} (h:CgSm c):CgOk c:=⟨by have:=h.len;omega,fun g hg=>by have:=h.txt g hg;omega⟩
theorem Sm.mono {v:Vw} {m n:Nat} (h:Sm v m) (hm:m≤n):Sm v n:=⟨fun r hr=>Nat.le_trans (h.row r hr) hm,h.txt⟩
theorem space_size:spaceGl.text.size=1:=by decide +kernel
theorem cutW_len {w:Int} {l:List Gl}:(cutW w l).length≤l.length:=by
  obtain ⟨n,hn⟩:=cutW_pre w l
  rw [hn,List.length_take];omega
theorem sizeR_len {w:Int} {l:List Gl}:(sizeR w l).length≤l.length:=Nat.le_trans (trim_len _) cutW_len
theorem spliceR_len {l g:List Gl} {a b:Nat}:(spliceR l a b g).length≤max l.length a+g.length:=by
  have:=trim_len ((padR l a).take a++g++(padR l a).drop (a+b))
  have hp:=padR_len (l:=l) (n:=a)
  simp only [List.length_append,List.length_take,List.length_drop,hp] at this
  unfold spliceR
  omega
theorem rowAt_len {rows:List (List Gl)} {m:Int} {n:Nat} (h:∀ r∈rows,r.length≤n):(rowAt rows m).length≤n:=by
  unfold rowAt
  rcases getD_mem (rows:=rows) (n:=m.toNat) with h1 | h1
  · rw [h1];exact zI _
  · exact h _ h1
theorem rowAt_txt {rows:List (List Gl)} {m:Int} (h:∀ r∈rows,∀ g∈r,g.text.size≤1000):∀ g∈rowAt rows m,g.text.size≤1000:=by
  unfold rowAt
  rcases getD_mem (rows:=rows) (n:=m.toNat) with h1 | h1
  · rw [h1];simp
  · exact h _ h1
theorem Sm.step {v:Vw} {n k:Nat} (h:Sm v n) {c:Cg} (hc:chgC v c=0) (hl:c.gl.length≤k) (ht:∀ g∈c.gl,g.text.size≤1000):Sm (stepV v c) (n+(264+k)):=by
  obtain ⟨h1,h2,h3,h4⟩:=chgC_zero hc
  unfold stepV
  split
  · refine ⟨fun r hr=>?_,fun r hr g hg=>?_⟩
    · obtain ⟨l,hl',rfl⟩:=sizeV_rows hr
      have:=sizeR_len (w:=c.col) (l:=l)
      rcases hl' with rfl | hl'
      · rw [List.length_nil] at this;omega
      · have:=h.row l hl';omega
    · obtain ⟨l,hl',rfl⟩:=sizeV_rows hr
      have:=sizeR_mem hg
      rcases hl' with rfl | hl'
      · simp at this
      · exact h.txt l hl' g this
  · rename_i hk1
    split
    · refine ⟨fun r hr=>?_,fun r hr g hg=>?_⟩
      · rcases scrollL_mem hr with rfl | hr
        · exact zI _
        · have:=h.row r hr;omega
      · rcases scrollL_mem hr with rfl | hr
        · simp at hg
        · exact h.txt r hr g hg
    · rename_i hk2
      split
      · rename_i hk3
        rw [rangeG,if_neg hk1,if_neg hk2,if_pos hk3] at h3
        simp only [Bool.and_eq_true,btw_iff] at h3
        refine ⟨fun r hr=>?_,fun r hr g hg=>?_⟩
        · rcases List.mem_or_eq_of_mem_set hr with hr | rfl
          · have:=h.row r hr;omega
          · have h5:=spliceR_len (l:=rowAt v.rows c.row) (g:=c.gl) (a:=c.col.toNat) (b:=c.count.toNat)
            have h6:=rowAt_len (m:=c.row) h.row
            omega
        · rcases List.mem_or_eq_of_mem_set hr with hr | rfl
          · exact h.txt r hr g hg
          · rcases spliceR_mem hg with hg | hg | rfl
            · exact rowAt_txt h.txt g hg
            · exact ht g hg
            · rw [space_size];decide
      · exact ⟨fun r hr=>by have:=h.row r hr;omega,h.txt⟩
theorem runOk_of:∀ {l:List Cg} {v:Vw} {n:Nat},Sm v n→(∀ c∈l,CgSm c)→n+404 * l.length≤50000→RunOk v l
  | [],v,n,hv,_,hb=>hv.mono (by simp at hb;exact hb)
  | c::l,v,n,hv,hc,hb=>by
    rw [List.length_cons] at hb
    refine ⟨hv.mono (by omega),fun hk=>?_⟩
    have h1:=hc c (zW ..)
    exact runOk_of (hv.step hk h1.len fun g hg=>by have:=h1.txt g hg;omega) (fun d hd=>hc d (zZ _ hd)) (by omega)
theorem runV_sm:∀ {l:List Cg} {v:Vw} {n:Nat} {i:Int},Sm v n→(∀ c∈l,CgSm c)→(runV v i l).2.2=0→Sm (runV v i l).1 (n+404 * l.length)
  | [],v,n,i,hv,_,h=>by
    rw [runV] at h ⊢
    split at h
    · cases h
    · rename_i hw;rw [if_neg hw];exact hv.mono (by simp)
  | c::l,v,n,i,hv,hc,h=>by
    rw [runV] at h ⊢
    split at h
    · rename_i hk
      rw [if_pos hk,List.length_cons]
      have h1:=hc c (zW ..)
      exact (runV_sm (hv.step hk h1.len fun g hg=>by have:=h1.txt g hg;omega) (fun d hd=>hc d (zZ _ hd)) h).mono (by omega)
    · rename_i hk;exact absurd h hk
theorem applyV_sm {l:List Cg} {v:Vw} {n:Nat} (hv:Sm v n) (hc:∀ c∈l,CgSm c) (h:(applyV v l).2.2=0):Sm (applyV v l).1 (n+404 * l.length):=by
  unfold applyV at h ⊢
  split at h
  · rename_i hk;rw [if_pos hk];exact runV_sm hv hc h
  · cases h
def greatL (l:List Cg):Bool:=decide (30<l.length)||l.any fun c=>greatRow c.gl
theorem greatL_small {l:List Cg} (h:greatL l=false):l.length≤30∧∀ c∈l,CgSm c:=by
  simp only [greatL,Bool.or_eq_false_iff,decide_eq_false_iff_not,List.any_eq_false] at h
  refine ⟨by omega,fun c hc=>?_⟩
  have:=greatRow_small (by simpa using h.2 c hc)
  exact ⟨this.1,this.2⟩
theorem greatV_sm {v:Vw} (h:greatV v=false):Sm v 140∧v.rows.length≤12:=by
  have h0:=h
  simp only [greatV,Bool.or_eq_false_iff,decide_eq_false_iff_not,List.any_eq_false] at h
  refine ⟨⟨fun r hr=>(greatRow_small (by simpa using h.2 r hr)).1,fun r hr g hg=>greatV_small h0 r hr g hg⟩,by have:=h.1.1;omega⟩
end Go.Proofs.YtadfkfgjhaijiaaDoor.Nx
namespace Go.Proofs.YtadfkfgjhaijiaaDoor.Nx
open Go
variable {P:Program} {N:Nat} {Γ:Tabs}
theorem great19_fn {f fg:FuncId} (H:FnIs P f N [.t 2] (x_ref19_Great fg)) (hN:1≤N) (Hg:∀ l:List Gl,FnP Γ P fg [.d (.sl eGl (glRows l))] (.bool (greatRow l))) (l:List Cg):FnP Γ P f [cgsA l] (.bool (greatL l)):=by
  refine .of_W H (by simpa using hN) ?_
  unfold x_ref19_Great
  refine W_seq (W_reg ?_);simp only [xq,reduceIte,qE,qA,qL,qD]
  refine W_seq ?_
  refine W_seq (W_reg ?_);simp only [xq,reduceIte,qE,qA,qL,qD,cgRows_len]
  refine W_cond rfl (fun hk=>?_) (fun hk=>W_skip ?_)
  · refine W_seq (W_reg ?_);simp only [xq,reduceIte,qE,qA,qL,qD]
    refine W_ret (.tmp ?_ rfl)
    have hk:30<l.length:=by simp at hk;omega
    simp only [x_upd,reduceIte,greatL,decide_eq_true hk,Bool.true_or]
  have hk:¬ 30<l.length:=by simp at hk;omega
  simp only [xq,reduceIte,qE,qA,qL,qD]
  refine W_seq ?_
  refine W_seq (W_reg ?_);simp only [xq,reduceIte,qE,qA,qL,qD]
  refine W_block ?_
  let S:Nat→St:=fun i=>⟨look [(0,cgsA l),(3,.int i)],[]⟩
  refine W_co (s':=S 0) (Co.keep _ (by simp [x_upd,x_look])) ?_
  refine W_loop (fun m s=>∃ i,i≤l.length∧m=l.length-i∧s=S i∧((l.take i).any fun c=>greatRow c.gl)=false) ⟨0,zI _,rfl,rfl,by simp⟩ ?_
  rintro m s ⟨i,hi,rfl,rfl,hpre⟩
  simp only [S]
  refine W_seq (W_seq ?_)
  refine W_reg ?_;simp only [xq,reduceIte,qE,qA,qL,qD,cgRows_len]
  refine W_cond rfl (fun hc=>W_skip ?_) (fun hc=>W_exit ?_)
  · have hlt:i<l.length:=by simpa using hc
    simp only [xq,reduceIte,qE,qA,qL,qD]
    refine W_seq (W_block ?_)
    refine W_seq (W_reg ?_);simp only [xq,reduceIte,qE,qA,qL,qD,cgRows_len,cgRows_get hlt,Cg.ds,Int.toNat_natCast]
    refine ⟨by omega,by omega,?_⟩
    refine c_fn (Hg l[i].gl) rfl ?_;simp only [xq,reduceIte,qE,qA,qL,qD]
    refine W_cond rfl (fun hd=>?_) (fun hd=>W_skip ?_)
    · refine W_seq (W_reg ?_);simp only [xq,reduceIte,qE,qA,qL,qD]
      refine W_ret ?_
      simp only [xq,reduceIte,qE,qA,qL,qD]
      refine .tmp ?_ rfl
      have:(l.any fun c=>greatRow c.gl)=true:=List.any_eq_true.2 ⟨_,List.getElem_mem hlt,hd⟩
      simp only [x_upd,reduceIte,greatL,this,Bool.or_true]
    · simp only [xq,reduceIte,qE,qA,qL,qD]
      refine W_reg ?_;simp only [xq,reduceIte,qE,qA,qL,qD,i64_succ hlt (show l.length≤room by simp only [room];omega)]
      exact ⟨l.length-(i+1),S (i+1),by omega,Co.keep _ (by simp [x_upd,x_look]),i+1,hlt,rfl,rfl,any_take_succ hlt hpre hd⟩
  · have hle:i=l.length:=by simp at hc;omega
    subst hle
    rw [List.take_length] at hpre
    simp only [xq,reduceIte,qE,qA,qL,qD]
    refine W_seq (W_reg ?_);simp only [xq,reduceIte,qE,qA,qL,qD]
    refine W_ret (.tmp ?_ rfl)
    simp only [x_upd,reduceIte,greatL,hpre,decide_eq_false hk,Bool.or_false]
theorem grt_fn {f fv fl:FuncId} (H:FnIs P f N [.t 4] (x_law19_great fv fl)) (hN:2≤N) (v:Vw) (l:List Cg) (Hv:FnP Γ P fv [vwA v] (.bool (greatV v))) (Hl:FnP Γ P fl [cgsA l] (.bool (greatL l))):FnP Γ P f [vwA v,cgsA l] (.bool (greatV v||greatL l)):=by
  refine .of_W H (by simpa using hN) ?_
  unfold x_law19_great
  simp only [vwA,Vw.ds,List.map_cons,List.map_nil] at Hv ⊢
  refine W_seq (W_reg ?_);simp only [xq,reduceIte,qE,qA,qL,qD]
  refine W_seq (W_reg ?_);simp only [xq,reduceIte,qE,qA,qL,qD]
  refine c_fn (Hv) rfl ?_;simp only [xq,reduceIte,qE,qA,qL,qD]
  cases greatV v
  · simp only [xq,reduceIte,qE,qA,qL,qD]
    refine c_fn (Hl) rfl ?_;simp only [xq,reduceIte,qE,qA,qL,qD]
    refine W_ret (.tmp ?_ rfl)
    simp only [x_upd,reduceIte,Bool.false_or]
  · simp only [xq,reduceIte,qE,qA,qL,qD,Bool.true_eq_false,undefA]
    refine W_ret (.tmp ?_ rfl)
    simp only [x_upd,reduceIte,Bool.true_or]
abbrev GrtOk (Γ:Tabs) (P:Program) (f:FuncId):Prop:=∀ (v:Vw) (l:List Cg),FnP Γ P f [vwA v,cgsA l] (.bool (greatV v||greatL l))
abbrev ApOk (Γ:Tabs) (P:Program) (f:FuncId):Prop:=∀ (v:Vw) (l:List Cg),RunOk v l→(∀ c∈l,CgOk c)→FnP Γ P f [vwA v,cgsA l] (apA (applyV v l))
abbrev InvOk (Γ:Tabs) (P:Program) (f:FuncId):Prop:=∀ (v:Vw) (l:List Cg),RunOk v l→(∀ c∈l,CgOk c)→((applyV v l).2.2=0→Sm (applyV v l).1 50000)→FnP Γ P f [vwA v,cgsA l] (iv2 (invV v l))
abbrev VchkOk (Γ:Tabs) (P:Program) (f:FuncId):Prop:=∀ v:Vw,Sm v 50000→FnP Γ P f [vwA v] (.int (viewC v))
abbrev SameOk (Γ:Tabs) (P:Program) (f:FuncId):Prop:=∀ v u:Vw,FnP Γ P f [vwA v,vwA u] (.bool (decide (v=u)))
theorem small_of {v:Vw} {l:List Cg} (h:(greatV v||greatL l)=false):Sm v 140∧v.rows.length≤12∧l.length≤30∧(∀ c∈l,CgSm c)∧RunOk v l∧((applyV v l).2.2=0→Sm (applyV v l).1 20000):=by
  rw [Bool.or_eq_false_iff] at h
  obtain ⟨h1,h2⟩:=greatV_sm h.1
  obtain ⟨h3,h4⟩:=greatL_small h.2
  exact ⟨h1,h2,h3,h4,runOk_of h1 h4 (by omega),fun h5=>(applyV_sm h1 h4 h5).mono (by omega)⟩
end Go.Proofs.YtadfkfgjhaijiaaDoor.Nx

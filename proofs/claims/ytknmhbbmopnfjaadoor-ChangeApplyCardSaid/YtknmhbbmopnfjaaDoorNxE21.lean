import Derived.Test.YtknmhbbmopnfjaaDoorNxE19
set_option linter.unusedSimpArgs false
set_option linter.unusedVariables false
set_option linter.unnecessarySimpa false
open Nat renaming reduceEqDiff → qE, reduceAdd → qA, reduceLT → qL, reduceLeDiff → qD
namespace Go.Proofs.YtknmhbbmopnfjaaDoor.Nx
open Go
variable {P:Program} {N:Nat} {Γ:Tabs}
def chkV (v:Vw) (c:Cg):Int:=if viewC v=0 then chgC v c else 1
theorem change_check_fn {f fv fo fc:FuncId} (H:FnIs P f N [.t 4] (x_change_Check fv fo fc)) (hN:2≤N) (v:Vw) (c:Cg) (hs:Sm v 50000) (hc:∀ g∈c.gl,g.text.size≤1000) (Hv:FnP Γ P fv [vwA v] (.int (viewC v))) (Ho:OpenTOk Γ.ctx P fo)
    (Hc:∀ {v:Vw} (c:Cg),Ed v→∀ {m:Nat},Sm v m→m≤100000→(∀ g∈c.gl,g.text.size≤1000)→∀ {h:Heap} {id k:Nat} {R:List (List A)},EdIs h id v k R→FnD Γ.ctx P fc [.ptr id 1 0 0,cgA c] h (.int (chgC v c)) h) :
    FnP Γ P f [vwA v,cgA c] (.int (chkV v c)):=by
  refine .of_W H (by simpa using hN) ?_
  unfold x_change_Check
  have hv0:=Hv
  simp only [vwA,Vw.ds,cgA,Cg.ds,List.map_cons,List.map_nil] at hv0 ⊢
  refine W_seq (W_reg ?_);simp only [xq,reduceIte,qE,qA,qL,qD]
  refine W_seq ?_
  refine W_seq (W_reg ?_);simp only [xq,reduceIte,qE,qA,qL,qD]
  refine c_fn (hv0) rfl ?_;simp only [xq,reduceIte,qE,qA,qL,qD]
  refine W_cond rfl (fun hk=>?_) (fun hk=>W_skip ?_)
  · have hk:¬ viewC v=0:=by simpa using hk
    refine W_seq (W_reg ?_);simp only [xq,reduceIte,qE,qA,qL,qD]
    refine W_ret ?_
    simp only [xq,reduceIte,qE,qA,qL,qD]
    refine .tmp ?_ rfl
    simp only [x_upd,reduceIte,chkV,if_neg hk]
  have hk:viewC v=0:=by simpa using hk
  obtain ⟨hed,_⟩:=viewC_zero.1 hk
  have hsz:=szOk_iff.1 hed.sz
  have hlen:=hed.len
  obtain ⟨t,id,k0,R0,hF,he0,hid,hle,hkeep⟩:=Ho v (by intro h;rw [h] at hlen;simp at hlen;omega) (by omega) [vwB v,cgB c]
  have hC:=Hc c hed hs (by omega) hc he0
  have h1:([vwB v,cgB c]++t)[1]? = some (cgB c):=hkeep 1 eCg [c.ds.map .d] rfl rfl (by simp at hid;omega)
  simp only [vwA,Vw.ds,cgA,Cg.ds,List.map_cons,List.map_nil] at hF hC h1
  simp only [xq,reduceIte,qE,qA,qL,qD]
  refine W_seq (W_drw (by simp) ?_);simp only [xq,reduceIte,qE,qA,qL,qD,List.replicate_zero,List.append_nil]
  refine cr_fn hF ?_
  simp only [xq,reduceIte,qE,qA,qL,qD,h1,Cg.ds]
  refine cr_fn (t:=[]) (by rw [List.append_nil];exact hC) ?_
  simp only [xq,reduceIte,qE,qA,qL,qD]
  refine W_ret (.tmp ?_ rfl)
  simp only [x_upd,reduceIte,chkV,if_pos hk]
def inRows (l:List Nat):List (List D):=l.map fun (n:Nat)=>[.sc (.int .i64 (n:Int))]
theorem inRows_len {l:List Nat}:(inRows l).length=l.length:=by simp [inRows]
theorem inRows_get {l:List Nat} {i:Nat} (hi:i<l.length):(inRows l).getD i []=[.sc (.int .i64 l[i])]:=by
  rw [inRows,List.getD_eq_getElem?_getD,List.getElem?_map,List.getElem?_eq_getElem hi];rfl
theorem inRows_app {a b:List Nat}:inRows (a++b)=inRows a++inRows b:=by simp [inRows]
abbrev insA (l:List Nat):A:=.d (.sl eInt (inRows l))
abbrev inLB (l:List Nat):HB:=.cells eInt ((inRows l).map fun r=>r.map A.d)
def InsIs (h:Heap) (l:List Nat) (x:A):Prop:=(x = .nil∧l=[])∨∃ q,x = .ref q l.length 0 l.length true∧h[q]? = some (inLB l)∧l≠[]
theorem InsIs.frz {h:Heap} {l:List Nat} {x:A} (o:InsIs h l x):FrzA 0 h x (insA l):=by
  rcases o with ⟨rfl,rfl⟩ | ⟨q,rfl,hq,_⟩
  · exact .d (.nil _)
  · have:=frz_all (id:=q) (full:=true) (e:=eInt) hq
    rw [inRows_len] at this
    exact this
def difP (a b:List (List Gl)) (i:Nat):Bool:=decide (b.length≤i) || !decide (a.getD i []=b.getD i [])
theorem rowsDiff_succ {a b:List (List Gl)} {i:Nat}:(List.range (i+1)).filter (difP a b)=(List.range i).filter (difP a b)++(if difP a b i then [i] else []):=by
  rw [List.range_succ,List.filter_append]
  congr 1
  rw [List.filter_cons,List.filter_nil]
theorem filt_len {p:Nat→Bool} {n:Nat}:((List.range n).filter p).length≤n:=by
  have:=List.length_filter_le p (List.range n)
  simpa using this
set_option maxHeartbeats 1000000 in
theorem rows19_fn {f fp fe:FuncId} (H:FnIs P f N [.t 4] (x_change_Rows fp fe)) (hN:2≤N) (v:Vw) (l:List Cg) (hrl:(applyV v l).1.rows.length≤1000) (Hp:FnP Γ P fp [vwA v,cgsA l] (apA (applyV v l)))
    (He:∀ a b:List Gl,FnP Γ P fe [.d (.sl eGl (glRows a)),.d (.sl eGl (glRows b))] (.bool (decide (a=b)))):FnP Γ P f [vwA v,cgsA l] (insA (rowsV v l)):=by
  refine .of_W H (by simpa using hN) ?_
  obtain ⟨w,i0,er,hap⟩:∃ w i e,applyV v l=(w,i,e):=⟨_,_,_,rfl⟩
  unfold rowsV
  rw [hap] at Hp hrl ⊢
  simp only at hrl ⊢
  unfold x_change_Rows
  simp only [apA,vwA,Vw.ds,List.map_cons,List.map_nil] at Hp ⊢
  refine W_seq (W_reg ?_);simp only [xq,reduceIte,qE,qA,qL,qD]
  refine W_seq (W_reg ?_);simp only [xq,reduceIte,qE,qA,qL,qD]
  refine c_fn (Hp) rfl ?_;simp only [xq,reduceIte,qE,qA,qL,qD]
  refine W_seq ?_
  refine W_seq (W_reg ?_);simp only [xq,reduceIte,qE,qA,qL,qD]
  refine W_cond rfl (fun hk=>?_) (fun hk=>W_skip ?_)
  · have hk:¬ er=0:=by simpa using hk
    refine W_seq (W_reg ?_);simp only [xq,reduceIte,qE,qA,qL,qD]
    refine W_ret ?_
    simp only [xq,reduceIte,qE,qA,qL,qD]
    rw [if_neg hk]
    exact .frz (.d (.nil _))
  have hk:er=0:=by simpa using hk
  subst hk
  rw [if_pos rfl]
  simp only [xq,reduceIte,qE,qA,qL,qD]
  refine W_seq (W_reg ?_);simp only [xq,reduceIte,qE,qA,qL,qD]
  refine W_seq ?_
  refine W_seq (W_reg ?_);simp only [xq,reduceIte,qE,qA,qL,qD,rwRows_len]
  refine W_block ?_
  let S:A→Heap→Nat→St:=fun x t i=>⟨look [(2,.ptr 0 1 0 0),(8,x),(21,.d (.sl eRw (rwRows w.rows))),(22,.int w.rows.length),(23,.int i)],vwB v::vwB w::t⟩
  refine W_co (s':=S .nil [] 0) (Co.keep _ (by simp [x_upd,x_look])) ?_
  refine W_loop (fun m s=>∃ i x t,i≤w.rows.length∧m=w.rows.length-i∧s=S x t i∧InsIs (vwB v::vwB w::t) ((List.range i).filter (difP w.rows v.rows)) x) ⟨0,.nil,[],Nat.zero_le _,rfl,rfl,.inl ⟨rfl,rfl⟩⟩ ?_
  rintro m s ⟨i,x,t,hi,rfl,rfl,ho⟩
  simp only [S]
  refine W_seq (W_reg ?_);simp only [xq,reduceIte,qE,qA,qL,qD]
  refine W_seq (W_cond rfl (fun hc=>W_skip ?_) (fun hc=>W_exit ?_))
  · have hlt:i<w.rows.length:=by simpa using hc
    have w1:IntKind.i64.wrap ((i:Int)+1)=((i+1:Nat):Int):=by rw [i64_of (by omega)];omega
    have ga:w.rows.getD i []=w.rows[i]:=by rw [List.getD_eq_getElem?_getD,List.getElem?_eq_getElem hlt];rfl
    simp only [xq,reduceIte,qE,qA,qL,qD]
    refine W_seq (W_block ?_)
    refine W_seq (W_reg ?_);simp only [xq,reduceIte,qE,qA,qL,qD,rwRows_len,rwRows_get hlt,Int.toNat_natCast]
    refine ⟨by omega,by omega,?_⟩
    refine W_cut (· = ⟨look [(2,.ptr 0 1 0 0),(8,x),(9,.int i),(21,.d (.sl eRw (rwRows w.rows))),(22,.int w.rows.length),(23,.int i),(42,.bool (difP w.rows v.rows i))],vwB v::vwB w::t⟩) (W_reg ?_) ?_
    · by_cases hle:v.rows.length≤i
      · have e1:decide ((v.rows.length:Int)≤(i:Int))=true:=decide_eq_true (by omega)
        simp only [xq,reduceIte,qE,qA,qL,qD,Vw.ds,rwRows_len,e1,undefA,Bool.true_eq_false]
        refine ⟨_,Co.keep _ ?_,rfl⟩
        simp [x_upd,x_look,difP,hle]
      · have e1:decide ((v.rows.length:Int)≤(i:Int))=false:=decide_eq_false (by omega)
        have hlv:i<v.rows.length:=by omega
        have gb:v.rows.getD i []=v.rows[i]:=by rw [List.getD_eq_getElem?_getD,List.getElem?_eq_getElem hlv];rfl
        simp only [xq,reduceIte,qE,qA,qL,qD,Vw.ds,rwRows_len,rwRows_get hlv,e1,Int.toNat_natCast]
        refine ⟨by omega,by omega,?_⟩
        refine c_fn (He w.rows[i] v.rows[i]) rfl ?_;simp only [xq,reduceIte,qE,qA,qL,qD]
        refine ⟨_,Co.keep _ ?_,rfl⟩
        simp only [difP,decide_eq_false hle,Bool.false_or,ga,gb]
        simp [x_upd,x_look]
    rintro _ rfl
    have hsu:=rowsDiff_succ (a:=w.rows) (b:=v.rows) (i:=i)
    obtain ⟨o,hod⟩:∃ o,o=(List.range i).filter (difP w.rows v.rows):=⟨_,rfl⟩
    have hol:o.length≤i:=by rw [hod];exact filt_len
    rw [← hod] at ho hsu
    refine W_cond rfl (fun hd=>?_) (fun hd=>W_skip ?_)
    · rw [hd,if_pos rfl] at hsu
      rcases ho with ⟨rfl,hnil⟩ | ⟨q,rfl,hq,hne⟩
      · rw [hnil] at hsu
        refine W_reg ?_;simp only [xq,reduceIte,qE,qA,qL,qD,List.append_assoc,hp_g0,hp_g1]
        rw [if_neg (by simp)]
        refine ⟨by decide,by decide,?_⟩
        refine W_reg ?_;simp only [xq,reduceIte,qE,qA,qL,qD,w1]
        refine ⟨w.rows.length-(i+1),S (.ref (t.length+3) 1 0 1 true) (t++[inLB [i],inLB [i]]) (i+1),by omega,Co.keep _ (by simp [x_upd,x_look]),i+1,_,_,hlt,rfl,rfl,.inr ⟨t.length+3,by rw [hsu];rfl,?_,by rw [hsu];simp⟩⟩
        rw [hsu]
        show (vwB v::vwB w::t++[inLB [i],inLB [i]])[(vwB v::vwB w::t).length+1]? = _
        rw [hp_g1];rfl
      · obtain ⟨k,rfl⟩:∃ k,q=k+2:=by
          rcases q with _ | _ | k
          · simp at hq
          · simp at hq
          · exact ⟨k,rfl⟩
        have hq':t[k]? = some (inLB o):=by simpa using hq
        have hql:=(List.getElem?_eq_some_iff.1 hq').1
        have gq:∀ t':Heap,(t++t')[k]? = some (inLB o):=fun t'=>hp_gl hq'
        have sq:∀ (t':Heap) X,(t++t').set k X=t.set k X++t':=fun t' X=>List.set_append_left _ _ hql
        refine W_reg ?_;simp only [xq,reduceIte,qE,qA,qL,qD,List.append_assoc,hp_g0,gq,sq,inRows_len]
        refine ⟨by simp only [room];omega,by simp only [maxLen];omega,?_⟩
        refine W_reg ?_;simp only [xq,reduceIte,qE,qA,qL,qD,w1]
        refine ⟨w.rows.length-(i+1),S (.ref (k+2) (o.length+1) 0 (o.length+1) true) (t.set k (inLB (o++[i]))++[inLB [i]]) (i+1),by omega,?_,i+1,_,_,hlt,rfl,rfl,.inr ⟨k+2,by rw [hsu,List.length_append];rfl,?_,by rw [hsu];simp⟩⟩
        · have:inLB (o++[i]) = .cells eInt ((inRows o).map (fun r=>r.map A.d)++[[.int i]]):=by simp only [inLB,inRows_app,List.map_append];rfl
          rw [this]
          exact Co.keep _ (by simp [x_upd,x_look])
        · rw [hsu]
          show (t.set k (inLB (o++[i]))++[inLB [i]])[k]? = _
          rw [List.getElem?_append_left (by simpa using hql),List.getElem?_set_self hql]
    · rw [hd,if_neg (by simp),List.append_nil] at hsu
      simp only [xq,reduceIte,qE,qA,qL,qD]
      refine W_reg ?_;simp only [xq,reduceIte,qE,qA,qL,qD,w1]
      exact ⟨w.rows.length-(i+1),S x t (i+1),by omega,Co.keep _ (by simp [x_upd,x_look]),i+1,x,t,hlt,rfl,rfl,by rw [hsu];exact ho⟩
  · have hle:i=w.rows.length:=by simp at hc;omega
    subst hle
    simp only [xq,reduceIte,qE,qA,qL,qD]
    refine W_seq (W_reg ?_);simp only [xq,reduceIte,qE,qA,qL,qD]
    refine W_ret (.frz ?_)
    simp only [xq,reduceIte,qE,qA,qL,qD]
    exact ho.frz
end Go.Proofs.YtknmhbbmopnfjaaDoor.Nx
namespace Go.Proofs.YtknmhbbmopnfjaaDoor.Nx
open Go
theorem greatRow_small {l:List Gl} (h:greatRow l=false):l.length≤140∧∀ g∈l,g.text.size≤40:=by
  simp only [greatRow,Bool.or_eq_false_iff,decide_eq_false_iff_not,List.any_eq_false,decide_eq_true_eq] at h
  exact ⟨by omega,fun g hg=>by have:=h.2 g hg;omega⟩
structure CgSm (c:Cg):Prop where
  len:c.gl.length≤140
  txt:∀ g∈c.gl,g.text.size≤40
theorem CgSm.ok {c:Cg} (h:CgSm c):CgOk c:=⟨by have:=h.len;omega,fun g hg=>by have:=h.txt g hg;omega⟩
theorem Sm.mono {v:Vw} {m n:Nat} (h:Sm v m) (hm:m≤n):Sm v n:=⟨fun r hr=>Nat.le_trans (h.row r hr) hm,h.txt⟩
theorem space_size:spaceGl.text.size=1:=by decide +kernel
theorem cutW_len {w:Int} {l:List Gl}:(cutW w l).length≤l.length:=by
  obtain ⟨n,hn⟩:=cutW_pre w l
  rw [hn,List.length_take];omega
theorem sizeR_len {w:Int} {l:List Gl}:(sizeR w l).length≤l.length:=Nat.le_trans (trim_len _) cutW_len
theorem spliceR_len {l g:List Gl} {a b:Nat}:(spliceR l a b g).length≤max l.length a+g.length:=by
  have:=trim_len ((padR l a).take a++g++(padR l a).drop (a+b))
  have hp:=padR_len (l:=l) (n:=a)
  simp only [List.length_append,List.length_take,List.length_drop,hp] at this
  unfold spliceR
  omega
theorem rowAt_len {rows:List (List Gl)} {m:Int} {n:Nat} (h:∀ r∈rows,r.length≤n):(rowAt rows m).length≤n:=by
  unfold rowAt
  rcases getD_mem (rows:=rows) (n:=m.toNat) with h1 | h1
  · rw [h1];exact Nat.zero_le _
  · exact h _ h1
theorem rowAt_txt {rows:List (List Gl)} {m:Int} (h:∀ r∈rows,∀ g∈r,g.text.size≤1000):∀ g∈rowAt rows m,g.text.size≤1000:=by
  unfold rowAt
  rcases getD_mem (rows:=rows) (n:=m.toNat) with h1 | h1
  · rw [h1];simp
  · exact h _ h1
theorem Sm.step {v:Vw} {n k:Nat} (h:Sm v n) {c:Cg} (hc:chgC v c=0) (hl:c.gl.length≤k) (ht:∀ g∈c.gl,g.text.size≤1000):Sm (stepV v c) (n+(264+k)):=by
  obtain ⟨h1,h2,h3,h4⟩:=chgC_zero hc
  unfold stepV
  split
  · refine ⟨fun r hr=>?_,fun r hr g hg=>?_⟩
    · obtain ⟨l,hl',rfl⟩:=sizeV_rows hr
      have:=sizeR_len (w:=c.col) (l:=l)
      rcases hl' with rfl | hl'
      · rw [List.length_nil] at this;omega
      · have:=h.row l hl';omega
    · obtain ⟨l,hl',rfl⟩:=sizeV_rows hr
      have:=sizeR_mem hg
      rcases hl' with rfl | hl'
      · simp at this
      · exact h.txt l hl' g this
  · rename_i hk1
    split
    · refine ⟨fun r hr=>?_,fun r hr g hg=>?_⟩
      · rcases scrollL_mem hr with rfl | hr
        · exact Nat.zero_le _
        · have:=h.row r hr;omega
      · rcases scrollL_mem hr with rfl | hr
        · simp at hg
        · exact h.txt r hr g hg
    · rename_i hk2
      split
      · rename_i hk3
        rw [rangeG,if_neg hk1,if_neg hk2,if_pos hk3] at h3
        simp only [Bool.and_eq_true,btw_iff] at h3
        refine ⟨fun r hr=>?_,fun r hr g hg=>?_⟩
        · rcases List.mem_or_eq_of_mem_set hr with hr | rfl
          · have:=h.row r hr;omega
          · have h5:=spliceR_len (l:=rowAt v.rows c.row) (g:=c.gl) (a:=c.col.toNat) (b:=c.count.toNat)
            have h6:=rowAt_len (m:=c.row) h.row
            omega
        · rcases List.mem_or_eq_of_mem_set hr with hr | rfl
          · exact h.txt r hr g hg
          · rcases spliceR_mem hg with hg | hg | rfl
            · exact rowAt_txt h.txt g hg
            · exact ht g hg
            · rw [space_size];decide
      · exact ⟨fun r hr=>by have:=h.row r hr;omega,h.txt⟩
theorem runOk_of:∀ {l:List Cg} {v:Vw} {n:Nat},Sm v n→(∀ c∈l,CgSm c)→n+404 * l.length≤50000→RunOk v l
  | [],v,n,hv,_,hb=>hv.mono (by simp at hb;exact hb)
  | c::l,v,n,hv,hc,hb=>by
    rw [List.length_cons] at hb
    refine ⟨hv.mono (by omega),fun hk=>?_⟩
    have h1:=hc c (List.mem_cons_self ..)
    exact runOk_of (hv.step hk h1.len fun g hg=>by have:=h1.txt g hg;omega) (fun d hd=>hc d (List.mem_cons_of_mem _ hd)) (by omega)
theorem runV_sm:∀ {l:List Cg} {v:Vw} {n:Nat} {i:Int},Sm v n→(∀ c∈l,CgSm c)→(runV v i l).2.2=0→Sm (runV v i l).1 (n+404 * l.length)
  | [],v,n,i,hv,_,h=>by
    rw [runV] at h ⊢
    split at h
    · cases h
    · rename_i hw;rw [if_neg hw];exact hv.mono (by simp)
  | c::l,v,n,i,hv,hc,h=>by
    rw [runV] at h ⊢
    split at h
    · rename_i hk
      rw [if_pos hk,List.length_cons]
      have h1:=hc c (List.mem_cons_self ..)
      exact (runV_sm (hv.step hk h1.len fun g hg=>by have:=h1.txt g hg;omega) (fun d hd=>hc d (List.mem_cons_of_mem _ hd)) h).mono (by omega)
    · rename_i hk;exact absurd h hk
theorem applyV_sm {l:List Cg} {v:Vw} {n:Nat} (hv:Sm v n) (hc:∀ c∈l,CgSm c) (h:(applyV v l).2.2=0):Sm (applyV v l).1 (n+404 * l.length):=by
  unfold applyV at h ⊢
  split at h
  · rename_i hk;rw [if_pos hk];exact runV_sm hv hc h
  · cases h
def greatL (l:List Cg):Bool:=decide (30<l.length)||l.any fun c=>greatRow c.gl
theorem greatL_small {l:List Cg} (h:greatL l=false):l.length≤30∧∀ c∈l,CgSm c:=by
  simp only [greatL,Bool.or_eq_false_iff,decide_eq_false_iff_not,List.any_eq_false] at h
  refine ⟨by omega,fun c hc=>?_⟩
  have:=greatRow_small (by simpa using h.2 c hc)
  exact ⟨this.1,this.2⟩
theorem greatV_sm {v:Vw} (h:greatV v=false):Sm v 140∧v.rows.length≤12:=by
  have h0:=h
  simp only [greatV,Bool.or_eq_false_iff,decide_eq_false_iff_not,List.any_eq_false] at h
  refine ⟨⟨fun r hr=>(greatRow_small (by simpa using h.2 r hr)).1,fun r hr g hg=>greatV_small h0 r hr g hg⟩,by have:=h.1.1;omega⟩
end Go.Proofs.YtknmhbbmopnfjaaDoor.Nx
namespace Go.Proofs.YtknmhbbmopnfjaaDoor.Nx
open Go
variable {P:Program} {N:Nat} {Γ:Tabs}
theorem great19_fn {f fg:FuncId} (H:FnIs P f N [.t 2] (x_ref19_Great fg)) (hN:1≤N) (Hg:∀ l:List Gl,FnP Γ P fg [.d (.sl eGl (glRows l))] (.bool (greatRow l))) (l:List Cg):FnP Γ P f [cgsA l] (.bool (greatL l)):=by
  refine .of_W H (by simpa using hN) ?_
  unfold x_ref19_Great
  refine W_seq (W_reg ?_);simp only [xq,reduceIte,qE,qA,qL,qD]
  refine W_seq ?_
  refine W_seq (W_reg ?_);simp only [xq,reduceIte,qE,qA,qL,qD,cgRows_len]
  refine W_cond rfl (fun hk=>?_) (fun hk=>W_skip ?_)
  · refine W_seq (W_reg ?_);simp only [xq,reduceIte,qE,qA,qL,qD]
    refine W_ret (.tmp ?_ rfl)
    have hk:30<l.length:=by simp at hk;omega
    simp only [x_upd,reduceIte,greatL,decide_eq_true hk,Bool.true_or]
  have hk:¬ 30<l.length:=by simp at hk;omega
  simp only [xq,reduceIte,qE,qA,qL,qD]
  refine W_seq ?_
  refine W_seq (W_reg ?_);simp only [xq,reduceIte,qE,qA,qL,qD]
  refine W_block ?_
  let S:Nat→St:=fun i=>⟨look [(0,cgsA l),(3,.int i)],[]⟩
  refine W_co (s':=S 0) (Co.keep _ (by simp [x_upd,x_look])) ?_
  refine W_loop (fun m s=>∃ i,i≤l.length∧m=l.length-i∧s=S i∧((l.take i).any fun c=>greatRow c.gl)=false) ⟨0,Nat.zero_le _,rfl,rfl,by simp⟩ ?_
  rintro m s ⟨i,hi,rfl,rfl,hpre⟩
  simp only [S]
  refine W_seq (W_seq ?_)
  refine W_reg ?_;simp only [xq,reduceIte,qE,qA,qL,qD,cgRows_len]
  refine W_cond rfl (fun hc=>W_skip ?_) (fun hc=>W_exit ?_)
  · have hlt:i<l.length:=by simpa using hc
    simp only [xq,reduceIte,qE,qA,qL,qD]
    refine W_seq (W_block ?_)
    refine W_seq (W_reg ?_);simp only [xq,reduceIte,qE,qA,qL,qD,cgRows_len,cgRows_get hlt,Cg.ds,Int.toNat_natCast]
    refine ⟨by omega,by omega,?_⟩
    refine c_fn (Hg l[i].gl) rfl ?_;simp only [xq,reduceIte,qE,qA,qL,qD]
    refine W_cond rfl (fun hd=>?_) (fun hd=>W_skip ?_)
    · refine W_seq (W_reg ?_);simp only [xq,reduceIte,qE,qA,qL,qD]
      refine W_ret ?_
      simp only [xq,reduceIte,qE,qA,qL,qD]
      refine .tmp ?_ rfl
      have:(l.any fun c=>greatRow c.gl)=true:=List.any_eq_true.2 ⟨_,List.getElem_mem hlt,hd⟩
      simp only [x_upd,reduceIte,greatL,this,Bool.or_true]
    · simp only [xq,reduceIte,qE,qA,qL,qD]
      refine W_reg ?_;simp only [xq,reduceIte,qE,qA,qL,qD,i64_succ hlt (show l.length≤room by simp only [room];omega)]
      exact ⟨l.length-(i+1),S (i+1),by omega,Co.keep _ (by simp [x_upd,x_look]),i+1,hlt,rfl,rfl,any_take_succ hlt hpre hd⟩
  · have hle:i=l.length:=by simp at hc;omega
    subst hle
    rw [List.take_length] at hpre
    simp only [xq,reduceIte,qE,qA,qL,qD]
    refine W_seq (W_reg ?_);simp only [xq,reduceIte,qE,qA,qL,qD]
    refine W_ret (.tmp ?_ rfl)
    simp only [x_upd,reduceIte,greatL,hpre,decide_eq_false hk,Bool.or_false]
theorem sameInts_fn {f:FuncId} (H:FnIs P f N [.t 4] x_ref19_SameInts) (hN:2≤N) (a b:List Nat):FnP Γ P f [insA a,insA b] (.bool (decide (a=b))):=by
  refine .of_W H (by simpa using hN) (W_sl 0 rfl fun ⟨_,hroom,_⟩=>?_)
  have hlr:a.length≤room:=le_of_mul (by rw [inRows_len] at hroom;exact hroom)
  unfold x_ref19_SameInts
  refine W_seq (W_reg ?_);simp only [xq,reduceIte,qE,qA,qL,qD]
  refine W_seq ?_
  refine W_seq (W_reg ?_);simp only [xq,reduceIte,qE,qA,qL,qD,inRows_len]
  refine W_cond rfl (fun hc=>?_) (fun hc=>W_skip ?_)
  · refine W_seq (W_reg ?_);simp only [xq,reduceIte,qE,qA,qL,qD]
    have hne:a≠b:=by rintro rfl;simp at hc
    refine W_ret (.tmp ?_ rfl)
    simp [x_upd,hne]
  have hlen:a.length=b.length:=by simp at hc;omega
  simp only [xq,reduceIte,qE,qA,qL,qD]
  refine W_seq ?_
  refine W_seq (W_reg ?_);simp only [xq,reduceIte,qE,qA,qL,qD]
  refine W_block ?_
  let S:Nat→St:=fun i=>⟨look [(0,insA a),(1,insA b),(5,.int i)],[]⟩
  refine W_co (s':=S 0) (Co.keep _ (by simp [x_upd,x_look])) ?_
  refine W_loop (fun m s=>∃ i,i≤a.length∧m=a.length-i∧s=S i∧a.take i=b.take i) ⟨0,Nat.zero_le _,rfl,rfl,by simp⟩ ?_
  rintro m s ⟨i,hi,rfl,rfl,hpre⟩
  simp only [S]
  refine W_seq (W_seq ?_)
  refine W_reg ?_;simp only [xq,reduceIte,qE,qA,qL,qD,inRows_len]
  refine W_cond rfl (fun hc=>W_skip ?_) (fun hc=>W_exit ?_)
  · have hlt:i<a.length:=by simpa using hc
    have hltb:i<b.length:=by omega
    simp only [xq,reduceIte,qE,qA,qL,qD]
    refine W_seq (W_block ?_)
    refine W_seq (W_drw (by simp) ?_);simp only [xq,reduceIte,qE,qA,qL,qD,inRows_len,inRows_get hlt,inRows_get hltb,Int.toNat_natCast,List.replicate_zero,List.append_nil]
    refine ⟨by omega,by omega,by omega,by omega,?_⟩
    refine W_cond rfl (fun hd=>?_) (fun hd=>W_skip ?_)
    · refine W_seq (W_reg ?_);simp only [xq,reduceIte,qE,qA,qL,qD]
      have hne:a≠b:=by rintro rfl;simp at hd
      refine W_ret ?_
      simp only [xq,reduceIte,qE,qA,qL,qD]
      refine .tmp ?_ rfl
      simp [x_upd,hne]
    · have he:a[i]=b[i]:=by simp at hd;omega
      simp only [xq,reduceIte,qE,qA,qL,qD]
      refine W_reg ?_;simp only [xq,reduceIte,qE,qA,qL,qD,i64_succ hlt hlr]
      exact ⟨a.length-(i+1),S (i+1),by omega,Co.keep _ (by simp [x_upd,x_look]),i+1,hlt,rfl,rfl,take_eq_succ hlt hltb hpre he⟩
  · have hle:i=a.length:=by simp at hc;omega
    have heq:a=b:=by
      subst hle
      rw [List.take_length,hlen,List.take_length] at hpre
      exact hpre
    simp only [xq,reduceIte,qE,qA,qL,qD]
    refine W_seq (W_reg ?_);simp only [xq,reduceIte,qE,qA,qL,qD]
    refine W_ret (.tmp ?_ rfl)
    simp [x_upd,heq]
theorem grt_fn {f fv fl:FuncId} (H:FnIs P f N [.t 4] (x_law19_great fv fl)) (hN:2≤N) (v:Vw) (l:List Cg) (Hv:FnP Γ P fv [vwA v] (.bool (greatV v))) (Hl:FnP Γ P fl [cgsA l] (.bool (greatL l))):FnP Γ P f [vwA v,cgsA l] (.bool (greatV v||greatL l)):=by
  refine .of_W H (by simpa using hN) ?_
  unfold x_law19_great
  simp only [vwA,Vw.ds,List.map_cons,List.map_nil] at Hv ⊢
  refine W_seq (W_reg ?_);simp only [xq,reduceIte,qE,qA,qL,qD]
  refine W_seq (W_reg ?_);simp only [xq,reduceIte,qE,qA,qL,qD]
  refine c_fn (Hv) rfl ?_;simp only [xq,reduceIte,qE,qA,qL,qD]
  cases greatV v
  · simp only [xq,reduceIte,qE,qA,qL,qD]
    refine c_fn (Hl) rfl ?_;simp only [xq,reduceIte,qE,qA,qL,qD]
    refine W_ret (.tmp ?_ rfl)
    simp only [x_upd,reduceIte,Bool.false_or]
  · simp only [xq,reduceIte,qE,qA,qL,qD,Bool.true_eq_false,undefA]
    refine W_ret (.tmp ?_ rfl)
    simp only [x_upd,reduceIte,Bool.true_or]
abbrev GrtOk (Γ:Tabs) (P:Program) (f:FuncId):Prop:=∀ (v:Vw) (l:List Cg),FnP Γ P f [vwA v,cgsA l] (.bool (greatV v||greatL l))
abbrev ApOk (Γ:Tabs) (P:Program) (f:FuncId):Prop:=∀ (v:Vw) (l:List Cg),RunOk v l→(∀ c∈l,CgOk c)→FnP Γ P f [vwA v,cgsA l] (apA (applyV v l))
abbrev InvOk (Γ:Tabs) (P:Program) (f:FuncId):Prop:=∀ (v:Vw) (l:List Cg),RunOk v l→(∀ c∈l,CgOk c)→((applyV v l).2.2=0→Sm (applyV v l).1 50000)→FnP Γ P f [vwA v,cgsA l] (iv2 (invV v l))
abbrev ChkOk (Γ:Tabs) (P:Program) (f:FuncId):Prop:=∀ (v:Vw) (c:Cg),Sm v 50000→(∀ g∈c.gl,g.text.size≤1000)→FnP Γ P f [vwA v,cgA c] (.int (chkV v c))
abbrev VchkOk (Γ:Tabs) (P:Program) (f:FuncId):Prop:=∀ v:Vw,Sm v 50000→FnP Γ P f [vwA v] (.int (viewC v))
abbrev SameOk (Γ:Tabs) (P:Program) (f:FuncId):Prop:=∀ v u:Vw,FnP Γ P f [vwA v,vwA u] (.bool (decide (v=u)))
theorem small_of {v:Vw} {l:List Cg} (h:(greatV v||greatL l)=false):Sm v 140∧v.rows.length≤12∧l.length≤30∧(∀ c∈l,CgSm c)∧RunOk v l∧((applyV v l).2.2=0→Sm (applyV v l).1 20000):=by
  rw [Bool.or_eq_false_iff] at h
  obtain ⟨h1,h2⟩:=greatV_sm h.1
  obtain ⟨h3,h4⟩:=greatL_small h.2
  exact ⟨h1,h2,h3,h4,runOk_of h1 h4 (by omega),fun h5=>(applyV_sm h1 h4 h5).mono (by omega)⟩
end Go.Proofs.YtknmhbbmopnfjaaDoor.Nx

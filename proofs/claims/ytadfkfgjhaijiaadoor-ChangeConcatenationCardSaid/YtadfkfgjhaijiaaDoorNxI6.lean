import Derived.Test.YtadfkfgjhaijiaaDoorNxE21
import Derived.Test.YtadfkfgjhaijiaaDoorNxW8
set_option linter.unusedSimpArgs false
set_option linter.unusedVariables false
set_option linter.unnecessarySimpa false
open List renaming getElem?_eq_some_iff → zA, getElem?_eq_getElem → zB, getD_eq_getElem?_getD → zC, getElem?_map → zK, getElem?_set_self → zN, map_cons → zU, map_nil → zV, mem_of_getElem? → zY
open Nat renaming zero_le → zI
open Int renaming toNat_natCast → zQ
open Nat renaming reduceEqDiff → qE, reduceAdd → qA, reduceLT → qL, reduceLeDiff → qD
namespace Go.Proofs.YtadfkfgjhaijiaaDoor.Nx
open Go
variable {P:Program} {N:Nat} {Γ:Tabs}
theorem frzN_rows {h:Heap} {q:Nat} {e:Elt} {rows:List (List D)} (hs:∀ r∈rows,∀ d∈r,∃ v,d = .sc v) (hq:h[q]? = some (.cells e (rows.map fun r=>r.map .d))):FrzN h (.ref q rows.length 0 rows.length true) (.sl e rows):=by
  have hlen:(rows.map fun r=>r.map A.d).length=rows.length:=by simp
  rw [← hlen]
  have get:∀ i r,rows[i]? = some r→(rows.map fun r=>r.map A.d).getD (0+i) []=r.map .d:=by
    intro i r hi
    rw [Nat.zero_add,zC,zK,hi];rfl
  refine .ref hq hlen.symm (fun i r hi=>?_) (fun i r j d hi hj=>?_)
  · rw [get i r hi];simp
  · rw [get i r hi]
    obtain ⟨v,rfl⟩:=hs r (zY hi) d (zY hj)
    have:(r.map A.d).getD j .any = .d (.sc v):=by rw [zC,zK,hj];rfl
    rw [this];exact .sc v
theorem glRows_sc {l:List Gl}:∀ r∈glRows l,∀ d∈r,∃ v,d = .sc v:=by
  intro r hr d hd
  obtain ⟨g,_,rfl⟩:=List.mem_map.1 hr
  simp only [Gl.row,List.mem_cons,List.not_mem_nil,or_false] at hd
  rcases hd with rfl | rfl | rfl<;>exact ⟨_,rfl⟩
theorem rowAt_frzN {h:Heap} {x:A} {r:List Gl} (hr:RowAt h x r):FrzN h x (.sl eGl (glRows r)):=by
  rcases hr with ⟨rfl,rfl⟩ | ⟨q,rfl,hq⟩
  · exact .nil _
  · have:=frzN_rows (e:=eGl) glRows_sc hq
    rw [glRows_len] at this
    exact this
theorem EdIs.frzN {h:Heap} {id:Nat} {v:Vw} {k:Nat} {R:List (List A)} (e:EdIs h id v k R):FrzN h (.ref k R.length 0 v.rows.length true) (.sl eRw (rwRows v.rows)):=by
  have get:∀ {i:Nat} {r:List D},(rwRows v.rows)[i]? = some r→∃ (hi:i<v.rows.length) (x:A),r=[.sl eGl (glRows v.rows[i])]∧R.getD (0+i) []=[x]∧RowAt h x v.rows[i]:=by
    intro i r hi
    have hlt:i<v.rows.length:=by have:=(zA.1 hi).1;rwa [rwRows_len] at this
    obtain ⟨x,h1,h2⟩:=e.row i _ (zB hlt)
    refine ⟨hlt,x,?_,?_,h2⟩
    · rw [rwRows,zK,zB hlt] at hi
      simpa using hi.symm
    · rw [Nat.zero_add,zC,h1];rfl
  refine .ref e.hk (rwRows_len) (fun i r hi=>?_) (fun i r j d hi hj=>?_)
  · obtain ⟨_,x,rfl,h2,_⟩:=get hi
    rw [h2];rfl
  · obtain ⟨_,x,rfl,h2,h3⟩:=get hi
    rw [h2]
    match j,hj with
    | 0,hj=>simp at hj;subst hj;exact rowAt_frzN h3
    | j+1,hj=>simp at hj
theorem EdIs.frzVN {h:Heap} {id:Nat} {v:Vw} {k:Nat} {R:List (List A)} (e:EdIs h id v k R):FrzNA h (.agg (edRow v k R.length)) (vwA v):=by
  refine .agg rfl fun j y hj=>?_
  rcases j with _ | _ | _ | _ | _ | _ | j
  · cases hj;exact .d (.sc _)
  · cases hj;exact .d (.sc _)
  · cases hj;exact .d e.frzN
  · cases hj;exact .d (.sc _)
  · cases hj;exact .d (.sc _)
  · cases hj;exact .d (.sc _)
  · simp [Vw.ds] at hj
theorem frzN_zero {h:Heap}:FrzNA h (.agg zrow) (vwA zeroV):=by
  refine .agg rfl fun j y hj=>?_
  rcases j with _ | _ | _ | _ | _ | _ | j
  · cases hj;exact .d (.sc _)
  · cases hj;exact .d (.sc _)
  · cases hj;exact .d (.nil _)
  · cases hj;exact .d (.sc _)
  · cases hj;exact .d (.sc _)
  · cases hj;exact .d (.sc _)
  · simp [zeroV,Vw.ds] at hj
theorem frzNT3 {h:Heap} {x y z x' y' z':A} (h1:FrzNA h x x') (h2:FrzNA h y y') (h3:FrzNA h z z'):FrzNA h (.tup [x,y,z]) (.tup [x',y',z']):=by
  refine .tup rfl fun j u hj=>?_
  rcases j with _ | _ | _ | j
  · cases hj;exact h1
  · cases hj;exact h2
  · cases hj;exact h3
  · simp at hj
theorem retApN {sl:Nat→A} {h:Heap} {x:Vw × Int × Int} {row:List A} (h4:sl 4 = .ptr 1 1 0 0) (h1:h[1]? = some (.cells eVw [row])) (hl:row.length=6) (hf:FrzNA h (.agg row) (vwA x.1)) (h5:sl 5 = .int x.2.1) (h6:sl 6 = .int x.2.2) :
    RetN [.c 4 6 true,.t 5,.t 6] (apA x) .ret ⟨sl,h⟩:=by
  obtain ⟨a,b,c,d,e,g,rfl⟩:∃ a b c d e g,row=[a,b,c,d,e,g]:=by
    match row,hl with
    | [a,b,c,d,e,g],_=>exact ⟨a,b,c,d,e,g,rfl⟩
  refine ⟨.inr rfl,?_⟩
  simp only [readRs,readR,single,h4,h5,h6,h1,xq,reduceIte,qE,qA,qL,qD]
  simp only [loadsTo,if_true,List.take,xq,reduceIte,qE,qA,qL,qD]
  exact frzNT3 (y:=.int x.2.1) (y':=.int x.2.1) (z:=.int x.2.2) (z':=.int x.2.2) hf (.d (.sc _)) (.d (.sc _))
set_option maxHeartbeats 2000000 in
theorem applyN_fn {f fv fo fc fa fw:FuncId} {Δ:Ctx} (H:FnIs P f N [.c 4 6 true,.t 5,.t 6] (x_change_Apply fv fo fc fa fw)) (hN:2≤N) (v:Vw) (l:List Cg) (hrun:RunOk v l) (hl:∀ c∈l,CgOk c) (Hv:FnP Γ P fv [vwA v] (.int (viewC v)))
    (Ho:v.rows≠[]→v.rows.length≤1000→∀ h:Heap,∃ h' id k R,FnD Γ.ctx P fo [vwA v] h (.ptr id 1 0 0) h'∧EdIs h' id v k R∧h.length≤id∧h.length≤h'.length∧Keep6 h h' id)
    (Hc:∀ {v:Vw} (c:Cg),Ed v→∀ {m:Nat},Sm v m→m≤100000→(∀ g∈c.gl,g.text.size≤1000)→∀ {h:Heap} {id k:Nat} {R:List (List A)},EdIs h id v k R→FnD Γ.ctx P fc [.ptr id 1 0 0,cgA c] h (.int (chgC v c)) h)
    (Ha:EdStep Γ.ctx P fa StepPre stepV) (Hw:∀ l,FnP Γ P fw [.d (.sl eGl (glRows l))] (.int (widthN l))):FnN Γ P f [vwA v,cgsA l] (apA (applyV v l)):=by
  refine FnN.of_W H (by simpa using hN) (W_sl 1 rfl fun ⟨hmx,hroom,_⟩=>?_)
  rw [cgRows_len] at hroom hmx
  have hlr:l.length≤room:=le_of_mul hroom
  simp only [room] at hlr
  unfold x_change_Apply
  have hv0:=Hv
  simp only [vwA,Vw.ds,zU,zV] at hv0 ⊢
  refine W_seq (W_reg ?_);simp only [xq,reduceIte,qE,qA,qL,qD]
  refine W_seq ?_
  refine W_seq (W_reg ?_);simp only [xq,reduceIte,qE,qA,qL,qD]
  refine c_fn (hv0) rfl ?_;simp only [xq,reduceIte,qE,qA,qL,qD]
  refine W_cond rfl (fun hk=>?_) (fun hk=>W_skip ?_)
  · have hk:¬ viewC v=0:=by simpa using hk
    refine W_seq (W_reg ?_);simp only [xq,reduceIte,qE,qA,qL,qD]
    refine W_ret ?_
    simp only [xq,reduceIte,qE,qA,qL,qD]
    refine retApN (row:=zrow) rfl rfl rfl ?_ ?_ ?_<;>simp only [applyV,if_neg hk]
    · exact frzN_zero
    · rfl
    · rfl
  have hk:viewC v=0:=by simpa using hk
  obtain ⟨hed,_⟩:=viewC_zero.1 hk
  have hsz:=szOk_iff.1 hed.sz
  have hlen:=hed.len
  have hap:applyV v l=runV v 0 l:=by rw [applyV,if_pos hk]
  rw [hap]
  obtain ⟨h0,id,k0,R0,hF,he0,hid,hle,hkeep⟩:=Ho (by intro h;rw [h] at hlen;simp at hlen;omega) (by omega) [vwB v,zeroB]
  simp only [vwA,Vw.ds,zU,zV] at hF
  simp only [xq,reduceIte,qE,qA,qL,qD]
  have hF':FnD Γ.ctx P fo [vwA v] [vwB v,zeroB] (.ptr id 1 0 0) h0:=hF
  simp only [vwA,Vw.ds,zU,zV] at hF'
  have h1z:h0[1]? = some zeroB:=hkeep 1 eVw [zrow] rfl rfl (by simp at hid;omega)
  have hid1:id≠1:=by simp at hid;omega
  refine W_seq (W_reg ?_);simp only [xq,reduceIte,qE,qA,qL,qD]
  refine ce_fn hF' ?_
  simp only [xq,reduceIte,qE,qA,qL,qD]
  refine W_seq ?_
  refine W_seq (W_reg ?_);simp only [xq,reduceIte,qE,qA,qL,qD,cgRows_len]
  refine W_block ?_
  let S:Heap→Nat→St:=fun hp i=>⟨look [(1,cgsA l),(4,.ptr 1 1 0 0),(7,.ptr id 1 0 0),(19,cgsA l),(20,.int l.length),(21,.int i)],hp⟩
  refine W_co (s':=S h0 0) (Co.keep _ (by simp [x_upd,x_look])) ?_
  refine W_loop (fun m s=>∃ (i:Nat) (w:Vw) (hp:Heap) (k:Nat) (R:List (List A)),i≤l.length∧m=l.length-i∧s=S hp i∧runV w i (l.drop i)=runV v 0 l∧Ed w∧RunOk w (l.drop i)∧EdIs hp id w k R∧hp[1]? = some zeroB)
    ⟨0,v,h0,k0,R0,zI _,rfl,rfl,rfl,hed,hrun,he0,h1z⟩ ?_
  rintro m s ⟨i,w,hp,k,R,hi,rfl,rfl,hrw,hew,hrk,he,hz⟩
  have hp1:1<hp.length:=(zA.1 hz).1
  simp only [S]
  refine W_seq (W_reg ?_);simp only [xq,reduceIte,qE,qA,qL,qD]
  refine W_seq (W_cond rfl (fun hc=>W_skip ?_) (fun hc=>W_exit ?_))
  · have hlt:i<l.length:=by simpa using hc
    have w1:IntKind.i64.wrap ((i:Int)+1)=((i+1:Nat):Int):=by rw [i64_of (by omega)];omega
    obtain ⟨c,hcd⟩:∃ c,c=l[i]:=⟨_,rfl⟩
    have hcm:c∈l:=by rw [hcd];exact List.getElem_mem hlt
    have hok:=hl c hcm
    rw [List.drop_eq_getElem_cons hlt,← hcd] at hrw hrk
    have hC:=Hc c hew hrk.1 (by omega) hok.txt (he.app [cgB c])
    simp only [xq,reduceIte,qE,qA,qL,qD]
    have hcd':l[i]=c:=hcd.symm
    have hcg:(cgRows l).getD i []=c.ds:=by rw [cgRows_get hlt,← hcd]
    simp only [cgA,Cg.ds,zU,zV] at hC
    refine W_seq (W_block ?_)
    refine W_seq (W_reg ?_);simp only [xq,reduceIte,qE,qA,qL,qD,cgRows_len,hcg,Cg.ds,zQ,hp_g0,hp_s0]
    refine ⟨by omega,by omega,?_⟩
    refine W_seq ?_
    refine W_seq (W_reg ?_);simp only [xq,reduceIte,qE,qA,qL,qD,hp_g0]
    refine ce_fn hC ?_
    simp only [xq,reduceIte,qE,qA,qL,qD]
    refine W_seq (W_reg ?_);simp only [xq,reduceIte,qE,qA,qL,qD]
    refine W_cond rfl (fun hd=>?_) (fun hd=>W_skip ?_)
    · have hd:¬ chgC w c=0:=by simpa using hd
      rw [runV,if_neg hd] at hrw
      have z1:(hp++[cgB c])[1]? = some zeroB:=hp_gl hz
      refine W_seq (W_reg ?_);simp only [xq,reduceIte,qE,qA,qL,qD,z1]
      refine W_ret ?_
      simp only [xq,reduceIte,qE,qA,qL,qD]
      rw [← hrw]
      refine retApN (row:=zrow) rfl ?_ rfl frzN_zero rfl rfl
      rw [zN (by simp;omega)]
    · have hd:chgC w c=0:=by simpa using hd
      rw [runV,if_pos hd] at hrw
      obtain ⟨h',k',R',hA,hl',he',hk6⟩:=Ha (v:=w) (c:=c) ⟨hew,hd,fun r hr=>hrk.1.row r hr,hok.len⟩ (h:=hp++[cgB c]) (zI _) (he.app _)
      simp only [cgA,Cg.ds,zU,zV] at hA
      simp only [xq,reduceIte,qE,qA,qL,qD]
      refine W_reg ?_;simp only [xq,reduceIte,qE,qA,qL,qD,hp_g0,Cg.ds]
      refine ce_fn hA ?_
      simp only [xq,reduceIte,qE,qA,qL,qD]
      refine W_reg ?_;simp only [xq,reduceIte,qE,qA,qL,qD,w1]
      exact ⟨l.length-(i+1),S h' (i+1),by omega,Co.keep _ (by simp [x_upd,x_look]),i+1,stepV w c,h',k',R',hlt,rfl,rfl,hrw,hew.step hd,hrk.2 hd,he',hk6 1 eVw [zrow] (by rw [List.getElem?_append_left hp1];exact hz) rfl (Ne.symm hid1)⟩
  · have hle:i=l.length:=by simp at hc;omega
    subst hle
    rw [List.drop_length,runV] at hrw
    simp only [xq,reduceIte,qE,qA,qL,qD]
    refine W_seq ?_
    refine W_seq (W_reg ?_);simp only [xq,reduceIte,qE,qA,qL,qD,he.hid,he.hk,edRow]
    refine W_block ?_
    let T:Nat→St:=fun j=>⟨look [(1,cgsA l),(4,.ptr 1 1 0 0),(7,.ptr id 1 0 0),(42,.ref k R.length 0 w.rows.length true),(43,.int w.rows.length),(44,.int j)],hp⟩
    refine W_co (s':=T 0) (Co.keep _ (by simp [x_upd,x_look])) ?_
    have hwl:=hew.len
    have hws:=szOk_iff.1 hew.sz
    refine W_loop (fun m s=>∃ j:Nat,j≤w.rows.length∧m=w.rows.length-j∧s=T j∧((w.rows.take j).any fun r=>decide (w.width<(widthN r:Int)))=false) ⟨0,zI _,rfl,rfl,by simp⟩ ?_
    rintro m s ⟨j,hj,rfl,rfl,hwide⟩
    simp only [T]
    refine W_seq (W_reg ?_);simp only [xq,reduceIte,qE,qA,qL,qD]
    refine W_seq (W_cond rfl (fun hc=>W_skip ?_) (fun hc=>W_exit ?_))
    · have hlt:j<w.rows.length:=by simpa using hc
      have w1:IntKind.i64.wrap ((j:Int)+1)=((j+1:Nat):Int):=by rw [i64_of (by omega)];omega
      obtain ⟨x,hx1,hx2⟩:=he.row j _ (zB hlt)
      have hjR:j<R.length:=(zA.1 hx1).1
      have hW:FnD Γ.ctx P fw [x] hp (.int (widthN w.rows[j])) hp:=(Hw w.rows[j]).lend flat_sc' (.cons (.d (rowAt_frz hx2)) .nil)
      simp only [xq,reduceIte,qE,qA,qL,qD]
      refine W_seq (W_block ?_)
      refine W_seq (W_reg ?_);simp only [xq,reduceIte,qE,qA,qL,qD,he.hk,hx1,zQ]
      repeat refine And.intro (by omega) ?_
      refine W_seq (W_drw (by simp) ?_)
      simp only [xq,reduceIte,qE,qA,qL,qD]
      refine cr_fn (t:=[]) (by rw [List.append_nil];exact hW) ?_
      simp only [xq,reduceIte,qE,qA,qL,qD,he.hid,edRow,List.append_nil]
      refine W_cond rfl (fun hd=>?_) (fun hd=>W_skip ?_)
      · have hd:w.width<(widthN w.rows[j]:Int):=by simpa using hd
        have hwd:wideV w=true:=by
          rw [wideV,List.any_eq_true]
          exact ⟨_,List.getElem_mem hlt,by simpa using hd⟩
        rw [hwd,if_pos rfl] at hrw
        refine W_seq (W_reg ?_);simp only [xq,reduceIte,qE,qA,qL,qD,hz,cgRows_len]
        refine W_ret ?_
        simp only [xq,reduceIte,qE,qA,qL,qD]
        rw [← hrw]
        refine retApN (row:=zrow) rfl ?_ rfl frzN_zero rfl rfl
        rw [zN hp1]
      · have hd:¬ w.width<(widthN w.rows[j]:Int):=by simpa using hd
        simp only [xq,reduceIte,qE,qA,qL,qD]
        refine W_reg ?_;simp only [xq,reduceIte,qE,qA,qL,qD,w1]
        refine ⟨w.rows.length-(j+1),T (j+1),by omega,Co.keep _ (by simp [x_upd,x_look]),j+1,hlt,rfl,rfl,?_⟩
        rw [List.take_add_one,zB hlt,Option.toList_some,List.any_append,hwide]
        simpa using hd
    · have hje:j=w.rows.length:=by simp at hc;omega
      subst hje
      rw [List.take_length] at hwide
      have hwd:wideV w=false:=hwide
      rw [hwd,if_neg Bool.false_ne_true] at hrw
      simp only [xq,reduceIte,qE,qA,qL,qD]
      refine W_seq (W_reg ?_);simp only [xq,reduceIte,qE,qA,qL,qD,he.hid,hz,edRow]
      refine W_ret ?_
      rw [← hrw]
      exact retApN (row:=edRow w k R.length) rfl (by rw [zN hp1];rfl) rfl (he.setOther hz hid1).frzVN rfl rfl
abbrev ApNOk (Γ:Tabs) (P:Program) (f:FuncId):Prop:=∀ (v:Vw) (l:List Cg),RunOk v l→(∀ c∈l,CgOk c)→FnN Γ P f [vwA v,cgsA l] (apA (applyV v l))
theorem ApNOk.lend {f:FuncId} (H:ApNOk Γ P f) {v:Vw} {l:List Cg} (h1:RunOk v l) (h2:∀ c∈l,CgOk c) {h:Heap} {x y:A} (hx:FrzA 0 h x (vwA v)) (hy:FrzA 0 h y (cgsA l)):FnD Γ.ctx P f [x,y] h (apA (applyV v l)) h :=
  FnN.lend (Γ:=Γ.ctx) (H v l h1 h2) (.cons hx (.cons hy .nil))
end Go.Proofs.YtadfkfgjhaijiaaDoor.Nx

import Derived.Test.YthhjkfilfhmakaaDoorNxS10
import Derived.Test.YthhjkfilfhmakaaDoorNxG13
import Derived.Test.YthhjkfilfhmakaaDoorNxDL
set_option linter.unusedSimpArgs false
set_option linter.unusedVariables false
set_option linter.unnecessarySimpa false
open Nat renaming reduceEqDiff → qE, reduceAdd → qA, reduceLT → qL, reduceLeDiff → qD
namespace Go.Proofs.YthhjkfilfhmakaaDoor.Nx
open Go
variable {P:Program} {N:Nat} {Γ:Tabs}
theorem fitC_self' {l:List Ce}:fitC l l.length=l:=by rw [fitC_le (Nat.le_refl _),Nat.sub_self];simp
theorem fitR_self {l:List Ce} {w:Int} (h:checkR l=0) (hw:(l.length:Int)=w) (h1:1≤w) (h2:w≤132):fitR (checkR l) l w=l:=by
  rw [fitR_ok' h h1 h2,show w.toNat=l.length by omega,fitC_self']
theorem wrapS_blank {w b:Int}:(blankRow w b).length≤1000∧∀ c∈blankRow w b,c.text.size≤1000:=⟨by have:=blankRow_len (w:=w) (b:=b);omega,blankRow_small⟩
def upG (g:Gd) (n:Nat) (b:Int):Gd:=⟨g.w,g.h,g.rows.drop n++List.replicate n (blankRow g.w b)⟩
theorem scroll_upG {g:Gd} {n:Nat} {b:Int} (hck:gridCk g=0) (hn:n≤g.rows.length):scrollR g 0 g.h n b=(upG g n b,g.rows.take n,0):=by
  obtain ⟨w,h,rows⟩:=g
  have hh:=(gridCk_h hck).1
  have hp:=gridCk_pos hck
  dsimp only at hh hp hn ⊢
  have:=scrollR_up (w:=w) (h:=h) (b:=b) (A:=[]) (M:=rows) (C:=[]) (m:=n) (t:=0) (bt:=rows.length) (by simpa using hck) rfl (by simp) hp hn
  simp only [List.nil_append,List.append_nil] at this
  rw [hh]
  simp only [upG]
  rw [hh] at this
  exact this
theorem upG_ck {g:Gd} {n:Nat} {b:Int} (hck:gridCk g=0) (hn:n≤g.rows.length):gridCk (upG g n b)=0:=by
  obtain ⟨w,h,rows⟩:=g
  have:=gridCk_mid (w:=w) (h:=h) (b:=b) (A:=[]) (M:=rows) (M':=rows.drop n++List.replicate n (blankRow w b)) (C:=[]) (by simpa using hck) (by simp;dsimp only at hn;omega) (fun r hr=>by
    rcases List.mem_append.1 hr with h | h
    · exact .inl (List.mem_of_mem_drop h)
    · exact .inr (List.eq_of_mem_replicate h))
  simpa [upG] using this
theorem upG_small {g:Gd} {n:Nat} {b:Int} (hs:g.small):(upG g n b).small:=by
  intro r hr
  rcases List.mem_append.1 hr with h | h
  · exact hs r (List.mem_of_mem_drop h)
  · rw [List.eq_of_mem_replicate h];exact wrapS_blank
theorem win_back {b:List (List Ce)} {g:Gd} {n:Nat} {bg:Int} (hck:gridCk g=0) (hn:n≤g.rows.length):winV (b++g.rows.take n) (upG g n bg) n=(g,0):=by
  have hh:=gridCk_h hck
  have hr:=gridCk_rows hck
  have hl:(g.rows.take n).length=n:=by rw [List.length_take];omega
  have hul:(upG g n bg).rows.length=g.rows.length:=by simp [upG];omega
  have hrow:∀ k (hk:k<g.rows.length),winRow (b++g.rows.take n) (upG g n bg).rows n k=g.rows[k]:=by
    intro k hk
    rw [winRow]
    split
    · rename_i hlt
      rw [List.getD_eq_getElem?_getD,List.length_append,hl,List.getElem?_append_right (by omega),show b.length+n-n+k-b.length=k by omega,List.getElem?_take,if_pos hlt,List.getElem?_eq_getElem hk];rfl
    · rename_i hge
      have h2:(upG g n bg).rows=g.rows.drop n++List.replicate n (blankRow g.w bg):=rfl
      rw [h2,List.getD_eq_getElem?_getD,List.getElem?_append_left (by rw [List.length_drop];omega),List.getElem?_drop,show n+(k-n)=k by omega,List.getElem?_eq_getElem hk];rfl
  rw [winV_of (upG_ck hck hn) ⟨by omega,by simp only [List.length_append,hl];omega⟩ (fun k hk=>by
    rw [hul] at hk
    rw [Int.toNat_natCast,winOk,hrow k hk,(hr _ (List.getElem_mem hk)).2];simp)]
  rw [hul]
  have he:winL (b++g.rows.take n) (upG g n bg).rows (n:Int).toNat (fun r=>fitR (checkR r) r (upG g n bg).w) g.rows.length=g.rows:=by
    rw [Int.toNat_natCast]
    apply List.ext_getElem
    · rw [winL_len]
    · intro k h1 h2
      simp only [winL,List.getElem_map,List.getElem_range]
      rw [winOut,hrow k h2]
      split
      · exact fitR_self (hr _ (List.getElem_mem h2)).2 (hr _ (List.getElem_mem h2)).1 hh.2.2.1 hh.2.2.2
      · rfl
  rw [he]
  rfl
set_option maxHeartbeats 1000000 in
theorem continuesLaw_fn {f fg f8 fa fs fp fw fe:FuncId} (H:FnIs P f N [.t 8] (x_law12_ScrollbackContinues fg f8 fa fs fp fw fe)) (hN:4≤N) (Hg:GreatOk Γ P fg) (H8:RightOk Γ P f8) (Ha:FnP Γ P fa [] (.bool true)) (Hs:ScrollOk Γ P fs) (Hp:PushOk Γ P fp) (Hw:WinOk Γ P fw) (He:SameGOk Γ P fe)
    (b:List (List Ce)) (g:Gd) (t:Int) (ht:0≤t∧t≤255) (a1 a2 a3:Int):FnP Γ P f [.d (.sl eRw (crRows b)),gdA g,.d (.sc (.int .u8 t)),atA a1 a2 a3] (.bool true):=by
  refine .of_W H (by simpa using hN) ?_
  unfold x_law12_ScrollbackContinues
  have hG:=Hg b
  have hG2:=H8 g
  simp only [gdA,gdR,atA] at hG2 ⊢
  refine W_seq (W_reg ?_);simp only [xq,reduceIte,qE,qA,qL,qD]
  let U:Bool→St:=fun c=>⟨look [(0,.d (.sl eRw (crRows b))),(2,.d (.sc (.int .u8 t))),(5,.ptr 0 1 0 0),(7,.ptr 1 1 0 0),(22,.bool c)],[gB g,atB a1 a2 a3]⟩
  refine W_seq (W_cutX (· = U (great12 b || !rightG g)) rfl (fun K hK=>?_) ?_)
  · cases hg:great12 b<;>cases hg2:rightG g<;>simp only [hg,hg2,Bool.false_eq_true,if_true,if_false] at hG hG2
    all_goals simp only [xq,reduceIte,qE,qA,qL,qD,gdR]
    all_goals refine c_fn hG (by simp [A.underL,A.under]) ?_
    all_goals simp only [gdR,xq,reduceIte,qE,qA,qL,qD,Int.lt_irrefl,decide_false,show decide ((0:Int)<1)=true from rfl]
    · refine c_fn hG2 (by simp [A.underL,A.under]) ?_
      simp only [xq,reduceIte,qE,qA,qL,qD]
      exact hK _ _ (Co.keep _ (by simp [x_upd,x_look,hg,hg2])) rfl
    · refine c_fn hG2 (by simp [A.underL,A.under]) ?_
      simp only [xq,reduceIte,qE,qA,qL,qD]
      exact hK _ _ (Co.keep _ (by simp [x_upd,x_look,hg,hg2])) rfl
    · exact hK _ _ (Co.keep _ (by simp [x_upd,x_look,hg,hg2])) rfl
    · exact hK _ _ (Co.keep _ (by simp [x_upd,x_look,hg,hg2])) rfl
  rintro _ rfl
  refine W_cond rfl (fun hc=>?_) (fun hc=>W_skip ?_)
  · refine W_seq (W_reg ?_);simp only [xq,reduceIte,qE,qA,qL,qD,U]
    refine c_fn (Ha) rfl ?_;simp only [xq,reduceIte,qE,qA,qL,qD]
    refine W_ret (.tmp ?_ rfl)
    simp only [x_upd,reduceIte]
  rw [Bool.or_eq_false_iff,Bool.not_eq_false'] at hc
  obtain ⟨hbl,hbr⟩:=great12_small hc.1
  have hb:smallL b:=fun r hr=>⟨by have:=(hbr r hr).1;omega,fun c hc=>by have:=(hbr r hr).2 c hc;omega⟩
  obtain ⟨hck,hsm,hl10⟩:=rightG_ok hc.2
  have hh:=gridCk_h hck
  have hp1:=gridCk_pos hck
  obtain ⟨n,hn⟩:∃ n:Nat,t.tmod (g.h+1)=n:=⟨(t.tmod (g.h+1)).toNat,by have:=Int.tmod_nonneg (g.h+1) ht.1;omega⟩
  have hnl:n≤g.rows.length:=by have:=Int.tmod_lt_of_pos t (show (0:Int)<g.h+1 by omega);omega
  have w1:IntKind.i64.wrap t=t:=i64_of (by omega)
  have w2:IntKind.i64.wrap (g.h+1)=g.h+1:=i64_of (by omega)
  have hS:=Hs g hsm 0 g.h n a1 a2 a3
  rw [scroll_upG hck hnl] at hS
  have hP:=Hp b (g.rows.take n) (by omega) (by rw [List.length_take];omega)
  rw [lastN_all (by simp only [List.length_append,List.length_take];omega)] at hP
  have hW:=Hw (b++g.rows.take n) (upG g n a2) n (by simp only [List.length_append,List.length_take];omega) (fun r hr=>by
    rcases List.mem_append.1 hr with h | h
    · exact hb r h
    · exact hsm r (List.mem_of_mem_take h)) (upG_small hsm)
  rw [win_back hck hnl] at hW
  have hE:=He g g
  rw [decide_eq_true rfl] at hE
  generalize upG g n a2=X at hS hW
  simp only [gdE,gdA,gdR,scrollA,atA] at hS hW hE
  simp only [U]
  refine W_seq (W_reg ?_);simp only [xq,reduceIte,qE,qA,qL,qD,gdR,b_rem (k:=.i64) (show g.h+1≠0 by omega),w1,w2,hn]
  refine W_seq (W_reg ?_);simp only [xq,reduceIte,qE,qA,qL,qD,gdR]
  refine c_fn (hS) rfl ?_;simp only [xq,reduceIte,qE,qA,qL,qD]
  refine W_seq (W_drw (by simp) ?_)
  simp only [xq,reduceIte,qE,qA,qL,qD]
  refine c_fn (hP) rfl ?_;simp only [xq,reduceIte,qE,qA,qL,qD]
  refine c_fn (hW) rfl ?_;simp only [xq,reduceIte,qE,qA,qL,qD]
  refine W_sreg fun K hK=>?_
  simp only [xq,reduceIte,qE,qA,qL,qD,gdR,decide_true]
  refine c_fn hE (by simp [A.underL,A.under]) ?_
  simp only [xq,reduceIte,qE,qA,qL,qD]
  refine c_fn Ha rfl ?_
  simp only [xq,reduceIte,qE,qA,qL,qD]
  refine hK _ ?_
  refine W_ret (.tmp ?_ rfl)
  simp only [x_upd,reduceIte]
end Go.Proofs.YthhjkfilfhmakaaDoor.Nx

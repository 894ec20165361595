import Derived.Test.YthhjkfilfhmakaaDoorNxS12
import Derived.Test.YthhjkfilfhmakaaDoorNxS7
import Derived.Test.YthhjkfilfhmakaaDoorNxDL
set_option linter.unusedSimpArgs false
set_option linter.unusedVariables false
set_option linter.unnecessarySimpa false
open List renaming getElem?_eq_getElem → zB, not_mem_nil → zc, mem_cons → zp
open Bool renaming true_eq_false → zE
open Nat renaming zero_le → zI
open Nat renaming reduceEqDiff → qE, reduceAdd → qA, reduceLT → qL, reduceLeDiff → qD
namespace Go.Proofs.YthhjkfilfhmakaaDoor.Nx
open Go
variable {P:Program} {N:Nat} {Γ:Tabs}
set_option maxHeartbeats 2000000 in
theorem movesLaw_fn {f fp f8 fa fw fe fl fsr ff fs:FuncId} (H:FnIs P f N [.t 4] (x_law12_ScrollbackMoves fp f8 fa fw fe fl fsr ff fs)) (hN:2≤N) (b:List (List Ce)) (g:Gd) (Hp:FnP Γ P fp [.d (.sl eRw (crRows b))] (.bool (properB b))) (H8:FnP Γ P f8 [gdA g] (.int (if rightG g then 1 else 0)))
    (Ha:FnP Γ P fa [] (.bool true)) (Hw:WinOk Γ P fw) (He:SameGOk Γ P fe) (Hl:LineOk Γ P fl) (Hsr:SRowsOk Γ P fsr) (Hf:∀ l:List Ce,smallR l→∀ w:Int,FnP Γ P ff [.d (.sl eCe (ceRows l)),.int w] (.d (.sl eCe (ceRows (fitR (checkR l) l w))))) (Hs:SCellsOk Γ P fs) :
    FnP Γ P f [.d (.sl eRw (crRows b)),gdA g] (.bool true):=by
  refine .of_W H (by simpa using hN) ?_
  unfold x_law12_ScrollbackMoves
  simp only [gdA,gdR] at H8 ⊢
  refine W_seq (W_reg ?_);simp only [xq,reduceIte,qE,qA,qL,qD]
  let U:Bool→St:=fun c=>⟨look [(0,.d (.sl eRw (crRows b))),(3,.ptr 0 1 0 0),(19,.bool c)],[gB g]⟩
  refine W_seq (W_cutX (· = U (!properB b || !rightG g)) rfl (fun K hK=>?_) ?_)
  · cases hg:properB b<;>cases hg2:rightG g<;>simp only [hg,hg2,Bool.false_eq_true,if_true,if_false] at Hp H8
    all_goals simp only [xq,reduceIte,qE,qA,qL,qD,gdR]
    all_goals refine c_fn Hp (by simp [A.underL,A.under]) ?_
    all_goals simp only [gdR,xq,reduceIte,qE,qA,qL,qD,Bool.not_true,Bool.not_false]
    · exact hK _ _ (Co.keep _ (by simp [x_upd,x_look,hg,hg2])) rfl
    · exact hK _ _ (Co.keep _ (by simp [x_upd,x_look,hg,hg2])) rfl
    · refine c_fn H8 (by simp [A.underL,A.under]) ?_
      simp only [xq,reduceIte,qE,qA,qL,qD]
      exact hK _ _ (Co.keep _ (by simp [x_upd,x_look,hg,hg2])) rfl
    · refine c_fn H8 (by simp [A.underL,A.under]) ?_
      simp only [xq,reduceIte,qE,qA,qL,qD]
      exact hK _ _ (Co.keep _ (by simp [x_upd,x_look,hg,hg2])) rfl
  rintro _ rfl
  refine W_cond rfl (fun hc=>?_) (fun hc=>W_skip ?_)
  · refine W_seq (W_reg ?_);simp only [xq,reduceIte,qE,qA,qL,qD,U]
    refine c_fn (Ha) rfl ?_;simp only [xq,reduceIte,qE,qA,qL,qD]
    refine W_ret (.tmp ?_ rfl)
    simp only [x_upd,reduceIte]
  rw [Bool.or_eq_false_iff,Bool.not_eq_false',Bool.not_eq_false'] at hc
  have hpb:=hc.1
  simp only [properB,Bool.and_eq_true,List.all_eq_true,decide_eq_true_eq,Bool.not_eq_true'] at hpb
  obtain ⟨hck0,hgr⟩:=hpb
  obtain ⟨hbl,hbr⟩:=great12_small hgr
  have hb:smallL b:=fun r hr=>⟨by have:=(hbr r hr).1;omega,fun c hc=>by have:=(hbr r hr).2 c hc;omega⟩
  obtain ⟨hck,hsm,hl10⟩:=rightG_ok hc.2
  have hh:=gridCk_h hck
  have hp1:=gridCk_pos hck
  have hX:∀ k:Nat,k≤b.length→FnP Γ P fw [.d (.sl eRw (crRows b)),gdA g,.int k] (gdE (⟨g.w,g.h,winL b g.rows k (fun r=>fitR (checkR r) r g.w) g.rows.length⟩,0)):=fun k hk=>by
    have:=Hw b g k (by omega) hb hsm
    rwa [winV_proper hck hck0 hk] at this
  obtain ⟨w,h,rows⟩:=g
  dsimp only at hh hp1 hX hl10
  obtain ⟨hhr,_,_,_⟩:=hh
  subst hhr
  obtain ⟨n,hn⟩:∃ n,rows.length=n+1:=⟨rows.length-1,by omega⟩
  let fit:List Ce→List Ce:=fun r=>fitR (checkR r) r w
  let X:Nat→Gd:=fun k=>⟨w,rows.length,winL b rows k fit rows.length⟩
  have hX0:X 0=⟨w,rows.length,rows⟩:=by simp only [X,winL_zero]
  have hW0:=hX 0 (zI _)
  rw [show (⟨w,rows.length,winL b rows 0 fit rows.length⟩:Gd)=⟨w,rows.length,rows⟩ from hX0] at hW0
  have hE:=He ⟨w,rows.length,rows⟩ ⟨w,rows.length,rows⟩
  rw [decide_eq_true rfl] at hE
  simp only [gdE,gdA,gdR,Int.natCast_zero] at hW0 hE
  simp only [U]
  refine W_seq (W_reg ?_);simp only [xq,reduceIte,qE,qA,qL,qD,gdR]
  refine c_fn (hW0) rfl ?_;simp only [xq,reduceIte,qE,qA,qL,qD]
  refine W_seq (W_seq ?_)
  refine W_reg ?_;simp only [xq,reduceIte,qE,qA,qL,qD,gdR]
  refine c_fn (hE) rfl ?_;simp only [xq,reduceIte,qE,qA,qL,qD]
  refine W_cond rfl (fun hd=>by cases hd) (fun hd=>W_skip ?_)
  refine W_seq (W_seq ?_)
  refine W_reg ?_;simp only [xq,reduceIte,qE,qA,qL,qD]
  refine W_block ?_
  let S:Nat→St:=fun k=>⟨look [(0,.d (.sl eRw (crRows b))),(3,.ptr 0 1 0 0),(5,.ptr 1 1 0 0),(7,.int ((k+1:Nat):Int))],[gB ⟨w,rows.length,rows⟩,gB (X k)]⟩
  refine W_co (s':=S 0) (by simp only [S,hX0];exact Co.keep _ (by simp [x_upd,x_look])) ?_
  refine W_loop (fun m s=>∃ k,k≤b.length∧m=b.length-k∧s=S k) ⟨0,zI _,rfl,rfl⟩ ?_
  rintro m s ⟨k,hk,rfl,rfl⟩
  simp only [S]
  refine W_seq (W_seq ?_)
  refine W_reg ?_;simp only [xq,reduceIte,qE,qA,qL,qD,crRows_len]
  refine W_cond rfl (fun hc=>W_skip ?_) (fun hc=>W_exit ?_)
  · have hlt:k<b.length:=by have:=of_decide_eq_true hc;omega
    have hW:=hX (k+1) hlt
    have hL:=Hl b (by omega) k
    rw [lineA_in hlt] at hL
    have w1:IntKind.i64.wrap (((k+1:Nat):Int)-1)=(k:Int):=by rw [i64_of (by omega)];omega
    have w2:IntKind.i64.wrap (((k+1:Nat):Int)+1)=((k+1+1:Nat):Int):=by rw [i64_of (by omega)];omega
    obtain ⟨n1,n2⟩:=winL_next (rows:=rows) (fit:=fit) (n:=n) hlt
    rw [← hn] at n1 n2
    obtain ⟨L,hLd⟩:∃ L,L=b[b.length-1-k]:=⟨_,rfl⟩
    have hLm:L∈b:=by rw [hLd];exact List.getElem_mem _
    rw [← hLd] at hL
    have hbg:b.getD (b.length-1-k) []=L:=by rw [hLd,List.getD_eq_getElem?_getD,zB (by omega)];rfl
    rw [hbg] at n2
    have hF:=Hf L (hb L hLm).2 w
    obtain ⟨Y,hY⟩:∃ Y,Y=winL b rows (k+1) fit rows.length:=⟨_,rfl⟩
    have hYl:Y.length=rows.length:=by rw [hY,winL_len]
    rw [← hY] at n1 n2
    have hW:FnP Γ P fw [.d (.sl eRw (crRows b)),gdA ⟨w,rows.length,rows⟩,.int ((k+1:Nat):Int)] (gdE (⟨w,rows.length,Y⟩,0)):=by rw [hY];exact hW
    obtain ⟨Z,hZ⟩:∃ Z,Z=winL b rows k fit rows.length:=⟨_,rfl⟩
    have hZl:Z.length=rows.length:=by rw [hZ,winL_len]
    have hXk:X k=⟨w,rows.length,Z⟩:=by rw [hZ]
    have hXk1:X (k+1)=⟨w,rows.length,Y⟩:=by rw [hY]
    rw [← hZ] at n1
    have hR:=Hsr (Y.drop 1) (Z.take n)
    rw [decide_eq_true n1] at hR
    have hC:=Hs (fit L) (fit L)
    rw [decide_eq_true rfl] at hC
    simp only [gdE,gdA,gdR] at hW
    rw [hXk]
    simp only [xq,reduceIte,qE,qA,qL,qD]
    refine W_seq (W_block ?_)
    refine W_seq (W_reg ?_);simp only [xq,reduceIte,qE,qA,qL,qD,gdR]
    refine c_fn (hW) rfl ?_;simp only [xq,reduceIte,qE,qA,qL,qD]
    refine W_seq (W_reg ?_);simp only [xq,reduceIte,qE,qA,qL,qD,w1]
    refine c_fn (hL) rfl ?_;simp only [xq,reduceIte,qE,qA,qL,qD]
    refine W_seq (W_seq (W_drw (by simp) ?_))
    simp only [List.replicate_zero,List.append_nil]
    refine run_take 6 fun K1 hK1=>?_
    simp only [xq,reduceIte,qE,qA,qL,qD,undefA,zE,decide_true,Bool.not_true]
    refine hK1 _ ?_
    clear hK1
    refine run_take 8 fun K1 hK1=>?_
    simp only [xq,reduceIte,qE,qA,qL,qD,gdR,undefA,zE,decide_true,Bool.not_true,crRows_len,hYl]
    refine hK1 _ ?_
    clear hK1
    have wn:IntKind.i64.wrap ((rows.length:Int)-1)=(n:Int):=by rw [i64_of (by omega)];omega
    have cd:(crRows Y).drop 1=crRows (Y.drop 1):=by simp [crRows,List.map_drop]
    have ct:(crRows Z).take n=crRows (Z.take n):=by simp [crRows,List.map_take]
    have hYd:(Y.drop 1).length=n:=by rw [List.length_drop,hYl];omega
    refine run_take 13 fun K1 hK1=>?_
    have e72:List.take ((rows.length:Int)-1).toNat (List.drop (Int.toNat 1) (crRows Y))=crRows (Y.drop 1):=by
      rw [show Int.toNat 1=1 from rfl,cd,List.take_of_length_le (by rw [crRows_len];omega)]
    have e78:List.take ((n:Int)-((0:Nat):Int)).toNat (crRows Z)=crRows (Z.take n):=by
      rw [show ((n:Int)-((0:Nat):Int)).toNat=n by omega,ct]
    simp only [xq,reduceIte,qE,qA,qL,qD,gdR,undefA,zE,crRows_len,hYl,hZl,wn,e72,e78]
    refine ⟨by omega,by omega,by omega,by omega,by omega,by omega,by omega,by omega,?_⟩
    refine c_fn hR (by simp [A.underL,A.under]) ?_
    simp only [xq,reduceIte,qE,qA,qL,qD,undefA,zE,Bool.not_true]
    refine hK1 _ ?_
    clear hK1
    have hY0:0<Y.length:=by omega
    have hg0:(crRows Y).getD 0 []=[.sl eCe (ceRows (fit L))]:=by
      rw [crRows_get hY0]
      rw [zB hY0] at n2
      rw [Option.some.inj n2]
    simp only [xq,reduceIte,qE,qA,qL,qD,gdR,undefA,zE,crRows_len,hYl,hg0,Int.toNat_zero]
    refine ⟨by omega,by omega,?_⟩
    refine c_fn hF (by simp [A.underL,A.under]) ?_
    simp only [xq,reduceIte,qE,qA,qL,qD,undefA,zE]
    refine c_fn hC (by simp [A.underL,A.under]) ?_
    simp only [xq,reduceIte,qE,qA,qL,qD,undefA,zE,Bool.not_true]
    refine W_cond rfl (fun hd=>by cases hd) (fun hd=>W_skip ?_)
    simp only [xq,reduceIte,qE,qA,qL,qD]
    refine W_reg ?_;simp only [xq,reduceIte,qE,qA,qL,qD,gdR]
    refine W_reg ?_;simp only [xq,reduceIte,qE,qA,qL,qD,w2]
    refine ⟨b.length-(k+1),S (k+1),by omega,?_,k+1,hlt,rfl,rfl⟩
    simp only [S,hXk1]
    refine Co.to (s:=⟨_,gB ⟨w,rows.length,rows⟩::gB ⟨w,rows.length,Y⟩::_⟩) [(0,.d (.sl eRw (crRows b))),(3,.ptr 0 1 0 0),(5,.ptr 1 1 0 0),(7,.int ((k+1+1:Nat):Int))] 2 (by simp [x_upd,x_look,A.under]) (zI _) (by simp) ?_
    intro B hB
    simp only [List.take_succ_cons,List.take_zero,zp,zc,or_false] at hB
    rcases hB with rfl | rfl
    · intro r hr x hx
      simp only [List.mem_singleton] at hr
      subst hr
      simp only [gdR,zp,zc,or_false] at hx
      rcases hx with rfl | rfl | rfl<;>rfl
    · intro r hr x hx
      simp only [List.mem_singleton] at hr
      subst hr
      simp only [gdR,zp,zc,or_false] at hx
      rcases hx with rfl | rfl | rfl<;>rfl
  · have hle:k=b.length:=by simp at hc;omega
    subst hle
    simp only [xq,reduceIte,qE,qA,qL,qD]
    refine W_seq (W_reg ?_);simp only [xq,reduceIte,qE,qA,qL,qD]
    refine c_fn (Ha) rfl ?_;simp only [xq,reduceIte,qE,qA,qL,qD]
    refine W_ret (.tmp ?_ rfl)
    simp only [x_upd,reduceIte]
end Go.Proofs.YthhjkfilfhmakaaDoor.Nx

import Derived.Test.YthhjkfilfhmakaaDoorNxB4
import Derived.Test.YthhjkfilfhmakaaDoorNxWalk
import Derived.Shelf.Spec.SlicesGrow
import Derived.Test.YthhjkfilfhmakaaDoorNxG0
set_option linter.unusedSimpArgs false
set_option linter.unusedVariables false
set_option linter.unnecessarySimpa false
open List renaming getElem?_eq_some_iff → zA, getElem?_eq_getElem → zB, getD_eq_getElem?_getD → zC, getElem?_append_left → zF, getElem?_set_ne → zM, getElem?_set_self → zN, append_assoc → zS, mem_cons_self → zW, mem_cons_of_mem → zZ, not_mem_nil → zc, getElem_mem → zi, mem_cons → zp, set_append_left → zu
open Nat renaming zero_le → zI
open Int renaming toNat_natCast → zQ
open Nat renaming reduceEqDiff → qE, reduceAdd → qA, reduceLT → qL, reduceLeDiff → qD
namespace Go.Proofs.YthhjkfilfhmakaaDoor.Nx
open Go
variable {P:Program} {N:Nat} {Γ:Tabs}
def great12 (l:List (List Ce)):Bool:=decide (12<l.length)||l.any greatC
theorem great12_fn {f fg:FuncId} (H:FnIs P f N [.t 2] (x_ref12_Great fg)) (hN:1≤N) (Hg:∀ l,FnP Γ P fg [.d (.sl eCe (ceRows l))] (.bool (greatC l))) (l:List (List Ce)):FnP Γ P f [.d (.sl eRw (crRows l))] (.int (if great12 l then 1 else 0)):=by
  refine .of_W H (by simpa using hN) (W_sl 0 rfl fun ⟨_,hroom,_⟩=>?_)
  have hlr:l.length≤room:=le_of_mul (by rw [crRows_len] at hroom;exact hroom)
  have c1:decide ((12:Int)<(l.length:Int))=decide (12<l.length):=by rw [Bool.eq_iff_iff];simp only [decide_eq_true_eq];omega
  unfold x_ref12_Great
  refine W_seq (W_reg ?_)
  simp only [xq,reduceIte,qE,qA,qL,qD]
  refine W_seq (W_seq (W_reg ?_))
  simp only [xq,reduceIte,qE,qA,qL,qD,crRows_len,c1]
  refine W_cond rfl (fun hc=>?_) (fun hc=>W_skip ?_)
  · refine W_seq (W_reg ?_)
    simp only [xq,reduceIte,qE,qA,qL,qD]
    refine W_ret (.tmp ?_ rfl)
    simp only [x_upd,reduceIte,great12,hc,Bool.true_or]
  · rename_i hg0
    simp only [xq,reduceIte,qE,qA,qL,qD]
    refine W_seq (W_seq (W_reg ?_))
    simp only [xq,reduceIte,qE,qA,qL,qD]
    refine W_block ?_
    let S:Nat→St:=fun i=>⟨look [(0,.d (.sl eRw (crRows l))),(3,.int i)],[]⟩
    refine W_co (s':=S 0) (Co.keep _ (by simp [x_upd,x_look])) ?_
    refine W_loop (fun m s=>∃ i,i≤l.length∧m=l.length-i∧s=S i∧(l.take i).any greatC=false) ⟨0,zI _,rfl,rfl,by simp⟩ ?_
    rintro m s ⟨i,hi,rfl,rfl,hpre⟩
    refine W_seq (W_seq (W_reg ?_))
    simp only [S,xq,reduceIte,qE,qA,qL,qD,crRows_len]
    refine W_cond rfl (fun hc=>W_skip ?_) (fun hc=>W_exit ?_)
    · have hlt:i<l.length:=by simpa using hc
      simp only [xq,reduceIte,qE,qA,qL,qD]
      refine W_seq (W_block (W_seq (W_reg ?_)))
      simp only [xq,reduceIte,qE,qA,qL,qD,crRows_get hlt,crRows_len]
      refine ⟨by omega,by omega,?_⟩
      refine c_fn (Hg _) rfl ?_
      simp only [xq,reduceIte,qE,qA,qL,qD]
      refine W_cond rfl (fun hd=>?_) (fun hd=>W_skip ?_)
      · refine W_seq (W_reg ?_)
        simp only [xq,reduceIte,qE,qA,qL,qD]
        refine W_ret ?_
        simp only [xq,reduceIte,qE,qA,qL,qD]
        refine .tmp ?_ rfl
        have:l.any greatC=true:=List.any_eq_true.2 ⟨l[i],zi hlt,hd⟩
        simp only [x_upd,reduceIte,great12,this,Bool.or_true]
      · simp only [xq,reduceIte,qE,qA,qL,qD]
        refine W_reg ?_
        simp only [xq,reduceIte,qE,qA,qL,qD]
        refine ⟨l.length-(i+1),S (i+1),by omega,Co.keep _ ?_,i+1,hlt,rfl,rfl,any_take_succ hlt hpre hd⟩
        simp [x_upd,x_look,i64_succ hlt hlr]
    · have hle:i=l.length:=by simp at hc;omega
      subst hle
      rw [List.take_length] at hpre
      have hgf:great12 l=false:=by rw [great12,hpre,Bool.or_false];assumption
      simp only [xq,reduceIte,qE,qA,qL,qD]
      refine W_seq (W_reg ?_)
      simp only [xq,reduceIte,qE,qA,qL,qD]
      refine W_ret (.tmp ?_ rfl)
      simp only [x_upd,reduceIte,hgf,Bool.false_eq_true]
end Go.Proofs.YthhjkfilfhmakaaDoor.Nx
namespace Go.Proofs.YthhjkfilfhmakaaDoor.Nx
open Go
variable {P:Program} {N:Nat} {Γ:Tabs}
theorem frz_tup2 {h:Heap} {x y x' y':A} (h1:FrzA 0 h x x') (h2:FrzA 0 h y y'):FrzA 0 h (.tup [x,y]) (.tup [x',y']):=by
  refine .tup rfl fun k z hk=>?_
  rcases k with _ | _ | k
  · cases hk;exact h1
  · cases hk;exact h2
  · simp at hk
def lineR (b:List (List Ce)) (back:Int):List Ce:=if 0≤back∧back<b.length then b.getD (b.length-1-back.toNat) [] else []
def lineE (b:List (List Ce)) (back:Int):Int:=if 0≤back∧back<b.length then 0 else 2
def lineA (b:List (List Ce)) (back:Int):A:=.tup [.d (.sl eCe (ceRows (lineR b back))),.int (lineE b back)]
theorem line_aux {b:List (List Ce)} {back:Int} (h:0≤back∧back<b.length):(crRows b).getD (b.length-1-back.toNat) []=[.sl eCe (ceRows (lineR b back))]:=by
  have hlt:b.length-1-back.toNat<b.length:=by omega
  rw [crRows_get hlt,lineR,if_pos h,zC,zB hlt];rfl
theorem line_fn {f fc:FuncId} (H:FnIs P f N [.t 4,.t 5] (x_scrollback_Line fc)) (hN:2≤N) (Hc:∀ rows,FnP Γ P fc [.d (.sl eCe rows)] (.d (.sl eCe rows))) (b:List (List Ce)) (hl:b.length≤100000) (back:Int) :
    FnP Γ P f [.d (.sl eRw (crRows b)),.int back] (lineA b back):=by
  refine .of_W H (by simpa using hN) ?_
  unfold x_scrollback_Line
  refine W_seq (W_reg ?_)
  simp only [xq,reduceIte,qE,qA,qL,qD]
  let U:Bool→St:=fun c=>⟨look [(0,.d (.sl eRw (crRows b))),(1,.int back),(13,.bool c)],[]⟩
  refine W_seq (W_cutX (· = U (decide (back<0)||decide ((b.length:Int)≤back))) rfl (fun K hK=>?_) ?_)
  · cases e:decide (back<0)<;>simp only [xq,reduceIte,qE,qA,qL,qD,crRows_len,e]
    all_goals (refine hK _ _ (Co.keep _ ?_) rfl;simp only [e,Bool.true_or,Bool.false_or];simp [x_upd,x_look])
  rintro _ rfl
  refine W_cond rfl (fun hc=>?_) (fun hc=>W_skip ?_)
  · have hc:¬ (0≤back∧back<b.length):=by simp only [Bool.or_eq_true,decide_eq_true_eq] at hc;omega
    refine W_seq (W_reg ?_)
    simp only [U,xq,reduceIte,qE,qA,qL,qD]
    refine W_ret ⟨.inr rfl,?_⟩
    simp only [readRs,readR,single,x_upd,reduceIte,qE,lineA,lineR,lineE,if_neg hc]
    exact frz_tup2 (.d (.nil _)) (.same rfl)
  · have hc:0≤back∧back<b.length:=by simp only [Bool.or_eq_false_iff,decide_eq_false_iff_not] at hc;omega
    have e1:IntKind.i64.wrap ((b.length:Int)-1)=(b.length:Int)-1:=i64_of (by omega)
    have e2:IntKind.i64.wrap ((b.length:Int)-1-back)=((b.length-1-back.toNat:Nat):Int):=by rw [i64_of (by omega)];omega
    have ha:=line_aux hc
    simp only [U,xq,reduceIte,qE,qA,qL,qD]
    refine W_seq (W_reg ?_)
    simp only [xq,reduceIte,qE,qA,qL,qD,crRows_len,e1,e2,ha]
    refine ⟨by omega,by omega,?_⟩
    refine c_fn (Hc _) rfl ?_
    simp only [xq,reduceIte,qE,qA,qL,qD]
    refine W_ret ⟨.inr rfl,?_⟩
    simp only [readRs,readR,single,x_upd,reduceIte,qE,lineA,lineE,if_pos hc]
    exact frz_tup2 (.same rfl) (.same rfl)
end Go.Proofs.YthhjkfilfhmakaaDoor.Nx
namespace Go.Proofs.YthhjkfilfhmakaaDoor.Nx
open Go
variable {P:Program} {N:Nat} {Γ:Tabs}
def winRow (b rows:List (List Ce)) (back k:Nat):List Ce:=if k<back then b.getD (b.length-back+k) [] else rows.getD (k-back) []
def winXs (b rows:List (List Ce)) (back n:Nat):List (List A):=(List.range n).map fun k=>[.d (.sl eCe (ceRows (winRow b rows back k))),.bool (decide (k<back))]
theorem winXs_len {b rows:List (List Ce)} {back n:Nat}:(winXs b rows back n).length=n:=by simp [winXs]
theorem winXs_get {b rows:List (List Ce)} {back n k:Nat} (hk:k<n):(winXs b rows back n)[k]? = some [.d (.sl eCe (ceRows (winRow b rows back k))),.bool (decide (k<back))]:=by
  simp [winXs,hk]
theorem visible1_gen {f:FuncId} (H:FnIs P f N [] x_scrollback_visible_1) (hN:4≤N) (b:List (List Ce)) (w:Int) (rows:List (List Ce)) (back:Nat) (hb:back≤b.length) (hbl:b.length≤100000) (hgl:rows.length≤100000) :
    GenD Γ P f [.iptr [.sl eRw (crRows b)],.iptr [.sc (.int .i64 back)],.iptr (Gd.ds ⟨w,rows.length,rows⟩)] (winXs b rows back rows.length):=by
  refine ⟨H.enters,fun env bb id I E rounds L h hI hL hbb=>?_⟩
  refine .of_WT H (by simpa using hN) hbb (W_noTabs ?_)
  have e1:IntKind.i64.wrap ((b.length:Int)-(back:Int))=((b.length-back:Nat):Int):=by rw [i64_of (by omega)];omega
  have e2:IntKind.i64.wrap (((b.length-back:Nat):Int)+(rows.length:Int))=((b.length-back+rows.length:Nat):Int):=by rw [i64_of (by omega)];omega
  unfold x_scrollback_visible_1
  refine W_seq (W_reg ?_)
  simp only [xq,reduceIte,qE,qA,qL,qD,Gd.ds,crRows_len,e1]
  refine W_block ?_
  let S:Nat→Heap→St:=fun k h=>⟨look [(0,.yld id),(1,.iptr [.sl eRw (crRows b)]),(2,.iptr [.sc (.int .i64 back)]),(3,.iptr [.sc (.int .i64 w),.sc (.int .i64 rows.length),.sl eRw (crRows rows)]),(5,.int ((b.length-back+k:Nat):Int))],h⟩
  refine W_co (s':=S 0 h) (Co.keep _ (by simp [x_upd,x_look])) ?_
  refine W_loop (fun m s=>∃ k L' h',k≤rows.length∧m=rows.length-k∧s=S k h'∧Turn L L' h h'∧I k L') ⟨0,L,h,zI _,rfl,rfl,.refl hL,hI⟩ ?_
  rintro m s ⟨k,L',h',hk,rfl,rfl,T,hI'⟩
  refine W_seq (W_seq (W_reg ?_))
  simp only [xq,reduceIte,qE,qA,qL,qD,S,crRows_len,e1,e2]
  refine W_cond rfl (fun hc=>W_skip ?_) (fun hc=>W_exit ?_)
  · have hlt:k<rows.length:=by simp only [decide_eq_true_eq] at hc;omega
    simp only [xq,reduceIte,qE,qA,qL,qD]
    let T1:St:=⟨look [(0,.yld id),(1,.iptr [.sl eRw (crRows b)]),(2,.iptr [.sc (.int .i64 back)]),(3,.iptr [.sc (.int .i64 w),.sc (.int .i64 rows.length),.sl eRw (crRows rows)]),(5,.int ((b.length-back+k:Nat):Int)),
      (6,.d (.sl eCe (ceRows (winRow b rows back k)))),(7,.bool (decide (k<back)))],h'⟩
    have e3:decide (((b.length-back+k:Nat):Int)<(b.length:Int))=decide (k<back):=by rw [decide_eq_decide];omega
    refine W_seq (W_block (W_seq (W_drw (by simp) ?_)))
    simp only [xq,reduceIte,qE,qA,qL,qD,crRows_len,e3]
    refine W_cut (· = T1) ?_ ?_
    · refine W_seq (W_reg ?_)
      simp only [xq,reduceIte,qE,qA,qL,qD]
      refine W_cond rfl (fun hd=>W_reg ?_) (fun hd=>W_reg ?_)
      · have hlb:k<back:=by simpa using hd
        have hg1:(crRows b).getD (b.length-back+k) []=[.sl eCe (ceRows (winRow b rows back k))]:=by
          rw [crRows_get (show b.length-back+k<b.length by omega),winRow,if_pos hlb,zC,zB (show b.length-back+k<b.length by omega)];rfl
        simp only [xq,reduceIte,qE,qA,qL,qD,crRows_len,hg1]
        refine ⟨by omega,by omega,T1,?_,rfl⟩
        exact Co.keep _ (by simp [x_upd,x_look])
      · have hlb:¬ k<back:=by simpa using hd
        have e4:IntKind.i64.wrap (((b.length-back+k:Nat):Int)-(b.length:Int))=((k-back:Nat):Int):=by rw [i64_of (by omega)];omega
        have hg1:(crRows rows).getD (k-back) []=[.sl eCe (ceRows (winRow b rows back k))]:=by
          rw [crRows_get (show k-back<rows.length by omega),winRow,if_neg hlb,zC,zB (show k-back<rows.length by omega)];rfl
        simp only [xq,reduceIte,qE,qA,qL,qD,crRows_len,e4,hg1]
        refine ⟨by omega,by omega,T1,?_,rfl⟩
        exact Co.keep _ (by simp [x_upd,x_look])
    rintro _ rfl
    refine W_seq (W_reg ?_)
    simp only [T1,xq,reduceIte,qE,qA,qL,qD]
    have hlen2:bb≤h'.length:=by have:=T.len;omega
    rcases rounds _ _ L' _ (winXs_get hlt) hI' T.has hlen2 with ⟨L2,h2,hR,T2,hI2⟩ | ⟨L2,h2,hR,T2,hE2⟩
    · refine ce_yld hR ?_
      simp only [xq,reduceIte,qE,qA,qL,qD]
      refine W_cond rfl (fun hd=>by cases hd) (fun _=>W_skip ?_)
      simp only [xq,reduceIte,qE,qA,qL,qD]
      refine W_reg ?_
      simp only [xq,reduceIte,qE,qA,qL,qD]
      refine ⟨rows.length-(k+1),S (k+1) h2,by omega,Co.keep _ ?_,k+1,L2,h2,hlt,rfl,rfl,T.trans T2,hI2⟩
      have e5:IntKind.i64.wrap (((b.length-back:Nat):Int)+(k:Int)+1)=((b.length-back:Nat):Int)+((k:Int)+1):=by rw [i64_of (by omega)];omega
      simp [x_upd,x_look,e5]
    · refine ce_yld hR ?_
      simp only [xq,reduceIte,qE,qA,qL,qD]
      refine W_cond rfl (fun _=>W_ret ?_) (fun hd=>by cases hd)
      simp only [xq,reduceIte,qE,qA,qL,qD]
      refine ⟨.inr trivial,?_⟩
      simp only [readRs]
      exact ⟨L2,T.trans T2,.inr hE2⟩
  · have hle:k=rows.length:=by simp only [decide_eq_false_iff_not] at hc;omega
    subst hle
    simp only [xq,reduceIte,qE,qA,qL,qD]
    refine ⟨.inl trivial,?_⟩
    simp only [readRs]
    exact ⟨L',T,.inl (by rw [winXs_len];exact hI')⟩
theorem visible_fn {f f1:FuncId} (H:FnIs P f N [.t 6] (x_scrollback_visible f1)) (hN:3≤N) (b:List (List Ce)) (g:Gd) (back:Int) :
    FnP Γ P f [.d (.sl eRw (crRows b)),gdA g,.int back] (.fn f1 [.iptr [.sl eRw (crRows b)],.iptr [.sc (.int .i64 back)],.iptr g.ds]):=by
  refine .of_W H (by simpa using hN) ?_
  unfold x_scrollback_visible
  refine W_seq (W_reg ?_)
  simp only [gdA,gdR,xq,reduceIte,qE,qA,qL,qD]
  refine W_seq (W_reg ?_)
  simp only [xq,reduceIte,qE,qA,qL,qD]
  refine W_ret (.frz ?_)
  simp only [xq,reduceIte,qE,qA,qL,qD]
  refine .fn rfl fun j y hj=>?_
  rcases j with _ | _ | _ | j
  · cases hj
    refine FrzA.iptr (rows:=[[.d (.sl eRw (crRows b))]]) (i:=0) (off:=0) (id:=0) (zI 0) rfl rfl fun k d hk=>?_
    cases k with
    | zero=>cases hk;exact ⟨by simp,.d _⟩
    | succ k=>simp at hk
  · cases hj
    refine FrzA.iptr (rows:=[[.int back]]) (i:=0) (off:=0) (id:=2) (zI 2) rfl rfl fun k d hk=>?_
    cases k with
    | zero=>cases hk;exact ⟨by simp,.d _⟩
    | succ k=>simp at hk
  · cases hj
    refine FrzA.iptr (rows:=[gdR g]) (i:=0) (off:=0) (id:=1) (zI 1) rfl rfl fun k d hk=>?_
    rcases k with _ | _ | _ | k
    · cases hk;exact ⟨by simp [gdR],.d _⟩
    · cases hk;exact ⟨by simp [gdR],.d _⟩
    · cases hk;exact ⟨by simp [gdR],.d _⟩
    · simp [Gd.ds] at hk
  · simp at hj
end Go.Proofs.YthhjkfilfhmakaaDoor.Nx
namespace Go.Proofs.YthhjkfilfhmakaaDoor.Nx
open Go
variable {P:Program} {N:Nat} {Γ:Tabs}
def winOk (b rows:List (List Ce)) (back:Nat) (chk:List Ce→Int) (k:Nat):Bool := !(decide (k<back)&&decide (chk (winRow b rows back k)≠0))
def winOut (b rows:List (List Ce)) (back:Nat) (fit:List Ce→List Ce) (k:Nat):List Ce:=if k<back then fit (winRow b rows back k) else winRow b rows back k
def winL (b rows:List (List Ce)) (back:Nat) (fit:List Ce→List Ce) (n:Nat):List (List Ce):=(List.range n).map (winOut b rows back fit)
theorem winL_len {b rows:List (List Ce)} {back:Nat} {fit:List Ce→List Ce} {n:Nat}:(winL b rows back fit n).length=n:=by simp [winL]
theorem winL_succ {b rows:List (List Ce)} {back:Nat} {fit:List Ce→List Ce} {n:Nat}:winL b rows back fit (n+1)=winL b rows back fit n++[winOut b rows back fit n]:=by simp [winL,List.range_succ]
def winR (b:List (List Ce)) (g:Gd) (back gc:Int) (chk:List Ce→Int) (fit:List Ce→List Ce):Gd × Int :=
  if gc≠0 then (zeroGd,1) else if back<0∨(b.length:Int)<back then (zeroGd,2) else
    match (List.range g.rows.length).find? fun k => !winOk b g.rows back.toNat chk k with
    | some k=>(zeroGd,chk (winRow b g.rows back.toNat k))
    | none=>(⟨g.w,g.h,winL b g.rows back.toNat fit g.rows.length⟩,0)
def winI (g:Gd) (b:List (List Ce)) (back:Nat) (chk:List Ce→Int) (fit:List Ce→List Ce) (k:Nat) (L:List (Nat × HB)):Prop :=
  (∀ i,i<k→winOk b g.rows back chk i=true) ∧
  ((k=0∧L=[(0,gB g),(1,zgB),(2,iB 0),(3,oB g.w g.h .nil)])∨(0<k∧∃ j,3<j∧L=[(0,gB g),(1,zgB),(2,iB 0),(3,oB g.w g.h (.ref j k 0 k true)),(j,crBk (winL b g.rows back fit k))]))
def winE (g:Gd) (b:List (List Ce)) (back:Nat) (chk:List Ce→Int) (n:Nat) (e:Exit) (L:List (Nat × HB)):Prop :=
  e = .ret∧∃ k,k<n∧(∀ i,i<k→winOk b g.rows back chk i=true)∧winOk b g.rows back chk k=false∧L=[(1,zgB),(2,iB (chk (winRow b g.rows back k)))]
set_option maxHeartbeats 1000000 in
theorem window_fn {f fgc fv f1 fck fft fcl:FuncId} (H:FnIs P f N [.c 6 3 true,.c 7 1 false] (x_scrollback_Window fgc fv fck fft fcl)) (hN:3≤N) (b:List (List Ce)) (g:Gd) (back gc:Int) (chk:List Ce→Int) (fit:List Ce→List Ce) (hbl:b.length≤100000)
    (hgg:gc=0→g.h=g.rows.length∧g.rows.length≤1000) (Hgc:FnP Γ P fgc [gdA g] (.int gc)) (Hv:FnP Γ P fv [.d (.sl eRw (crRows b)),gdA g,.int back] (.fn f1 [.iptr [.sl eRw (crRows b)],.iptr [.sc (.int .i64 back)],.iptr g.ds]))
    (HG:∀ (w:Int) (rows:List (List Ce)) (bk:Nat),bk≤b.length→rows.length≤100000→GenD Γ P f1 [.iptr [.sl eRw (crRows b)],.iptr [.sc (.int .i64 bk)],.iptr (Gd.ds ⟨w,rows.length,rows⟩)] (winXs b rows bk rows.length))
    (Hck:∀ r∈b,FnP Γ P fck [.d (.sl eCe (ceRows r))] (.int (chk r))) (Hft:∀ r∈b,FnP Γ P fft [.d (.sl eCe (ceRows r)),.int g.w] (.d (.sl eCe (ceRows (fit r))))) (Hcl:∀ rows,FnP Γ P fcl [.d (.sl eCe rows)] (.d (.sl eCe rows))) :
    FnP Γ P f [.d (.sl eRw (crRows b)),gdA g,.int back] (gdE (winR b g back gc chk fit)):=by
  refine .of_W H (by simpa using hN) ?_
  unfold x_scrollback_Window
  refine W_seq (W_reg ?_)
  simp only [gdA,gdR,xq,reduceIte,qE,qA,qL,qD]
  have Hgc':=Hgc
  simp only [gdA,gdR] at Hgc'
  refine W_seq (W_seq (W_reg ?_))
  simp only [xq,reduceIte,qE,qA,qL,qD]
  refine c_fn Hgc' (by simp [A.underL,A.under]) ?_
  simp only [xq,reduceIte,qE,qA,qL,qD]
  refine W_cond rfl (fun hc=>?_) (fun hc=>W_skip ?_)
  · have hg0:gc≠0:=by simpa using hc
    refine W_seq (W_reg ?_)
    simp only [xq,reduceIte,qE,qA,qL,qD]
    refine W_ret ⟨.inr rfl,?_⟩
    simp only [readRs,readR,single,x_upd,reduceIte,qE,x_look,argS,xq,reduceIte,qE,qA,qL,qD,loadsTo,winR,if_pos hg0]
    exact frz_gd (.d (.nil _))
  have hg0:gc=0:=by simpa using hc
  obtain ⟨hgh,hgl⟩:=hgg hg0
  obtain ⟨w,hh,rows⟩:=g
  dsimp only at hgh hgl Hft
  subst hgh
  simp only [xq,reduceIte,qE,qA,qL,qD]
  let Hp0:Heap:=[gB ⟨w,rows.length,rows⟩,zgB,iB 0]
  let U:Bool→St:=fun c=>⟨look [(0,.d (.sl eRw (crRows b))),(2,.int back),(4,.ptr 0 1 0 0),(6,.ptr 1 1 0 0),(7,.ptr 2 1 0 0),(23,.bool c)],Hp0⟩
  let V:St:=⟨look [(0,.d (.sl eRw (crRows b))),(2,.int back),(4,.ptr 0 1 0 0),(6,.ptr 1 1 0 0),(7,.ptr 2 1 0 0)],Hp0⟩
  refine W_seq (W_cutX (· = U (decide (back<0)||decide ((b.length:Int)<back))) rfl (fun K hK=>?_) ?_)
  · cases e:decide (back<0)
    · simp only [xq,reduceIte,qE,qA,qL,qD,e,crRows_len]
      refine hK _ _ (Co.keep _ ?_) rfl
      simp only [e,Bool.false_or];simp [x_upd,x_look]
    · simp only [xq,reduceIte,qE,qA,qL,qD,e]
      refine hK _ _ (Co.keep _ ?_) rfl
      simp only [e,Bool.true_or];simp [x_upd,x_look]
  rintro _ rfl
  refine W_cond rfl (fun hd=>?_) (fun hd=>W_skip ?_)
  · have hd:back<0∨(b.length:Int)<back:=by simpa using hd
    refine W_seq (W_reg ?_)
    simp only [U,Hp0,xq,reduceIte,qE,qA,qL,qD]
    refine W_ret ⟨.inr rfl,?_⟩
    simp only [readRs,readR,single,x_upd,reduceIte,qE,x_look,argS,xq,reduceIte,qE,qA,qL,qD,loadsTo,winR,hg0,ne_eq,not_true_eq_false,if_pos hd]
    exact frz_gd (.d (.nil _))
  have hd:¬ (back<0∨(b.length:Int)<back):=by
    simp only [Bool.or_eq_false_iff,decide_eq_false_iff_not] at hd
    omega
  obtain ⟨bk,rfl⟩:∃ bk:Nat,back=bk:=⟨back.toNat,by omega⟩
  have hbk:bk≤b.length:=by omega
  simp only [U,Hp0,xq,reduceIte,qE,qA,qL,qD]
  refine W_seq (W_reg ?_)
  simp only [gdR,xq,reduceIte,qE,qA,qL,qD]
  have Hv':=Hv
  simp only [gdA,gdR] at Hv'
  refine W_seq (W_seq (W_reg ?_))
  simp only [gdR,xq,reduceIte,qE,qA,qL,qD]
  refine c_fn Hv' (by simp [A.underL,A.under]) ?_
  simp only [xq,reduceIte,qE,qA,qL,qD]
  let gg:Gd:=⟨w,rows.length,rows⟩
  have hwin:∀ k,k<rows.length→winOk b rows bk chk k=false→(∀ i,i<k→winOk b rows bk chk i=true)→winR b gg bk gc chk fit=(zeroGd,chk (winRow b rows bk k)):=by
    intro k hk hk0 hki
    have hf:((List.range rows.length).find? fun k => !winOk b rows bk chk k)=some k:=by
      rw [List.find?_range_eq_some]
      refine ⟨by simp [hk0],List.mem_range.2 hk,fun i hi=>by simp [hki i hi]⟩
    simp only [winR,gg,hg0,ne_eq,not_true_eq_false,if_false,if_neg hd,zQ,hf]
  have hwin0:(∀ i,i<rows.length→winOk b rows bk chk i=true)→winR b gg bk gc chk fit=(⟨w,rows.length,winL b rows bk fit rows.length⟩,0):=by
    intro hki
    have hf:((List.range rows.length).find? fun k => !winOk b rows bk chk k)=none:=by
      rw [List.find?_eq_none]
      intro i hi
      simp [hki i (List.mem_range.1 hi)]
    simp only [winR,gg,hg0,ne_eq,not_true_eq_false,if_false,if_neg hd,zQ,hf]
  let fnv:A:=.fn f1 [.iptr [.sl eRw (crRows b)],.iptr [.sc (.int .i64 (bk:Int))],.iptr gg.ds]
  let sl0:Nat→A:=look [(4,.ptr 0 1 0 0),(6,.ptr 1 1 0 0),(7,.ptr 2 1 0 0),(8,.ptr 3 1 0 0),(33,fnv)]
  refine W_co (s':=⟨sl0,[gB gg,zgB,iB 0,oB w rows.length .nil]⟩) (by simp only [sl0];exact Co.keep _ (by simp [x_upd,x_look,fnv,gg])) ?_
  refine W_block (W_range (Γ:=Γ.ctx) (xs:=winXs b rows bk rows.length) (f:=f1) (caps:=[.iptr [.sl eRw (crRows b)],.iptr [.sc (.int .i64 (bk:Int))],.iptr gg.ds]) rfl (HG w rows bk hbk (by omega)) (winI gg b bk chk fit) (winE gg b bk chk rows.length)
    [(0,gB gg),(1,zgB),(2,iB 0),(3,oB w rows.length .nil)] ⟨fun i hi=>absurd hi (Nat.not_lt_zero _),.inl ⟨rfl,rfl⟩⟩ ?_
    (fun k _=>upd (upd (upd (upd sl0 34 (.d (.sl eCe (ceRows (winRow b rows bk k))))) 35 (.bool (decide (k<bk)))) 9 (.d (.sl eCe (ceRows (winRow b rows bk k))))) 10 (.bool (decide (k<bk)))) (fun _=>[]) ?_ ?_ ?_ ?_ ?_)
  · intro p hp
    simp only [zp,zc,or_false] at hp
    rcases hp with rfl | rfl | rfl | rfl<;>rfl
  · intro k xa hk
    have hkl:k<rows.length:=by have:=(zA.1 hk).1;rwa [winXs_len] at this
    rw [winXs_get hkl] at hk
    cases hk;rfl
  · intro k xa h rl hk hlt
    have hkl:k<rows.length:=by have:=(zA.1 hk).1;rwa [winXs_len] at this
    rw [winXs_get hkl] at hk
    cases hk
    refine W_seq (W_reg ?_)
    simp only [xq,reduceIte,qE,qA,qL,qD,setAll]
    refine W_reg ?_
    simp only [xq,reduceIte,qE,qA,qL,qD,setAll]
  · -- a round
    intro k xa L h hk hI hL hlt
    have hkl:k<rows.length:=by have:=(zA.1 hk).1;rwa [winXs_len] at this
    rw [winXs_get hkl] at hk
    cases hk
    obtain ⟨hok,hL'⟩:=hI
    simp only [List.append_nil]
    simp only [List.length_cons,List.length_nil] at hlt
    have h0:h[0]? = some (gB gg):=by rcases hL' with ⟨_,rfl⟩ | ⟨_,j,_,rfl⟩<;>exact hL _ (zW ..)
    have h1:h[1]? = some zgB:=by rcases hL' with ⟨_,rfl⟩ | ⟨_,j,_,rfl⟩<;>exact hL _ (zZ _ (zW ..))
    have h2:h[2]? = some (iB 0):=by rcases hL' with ⟨_,rfl⟩ | ⟨_,j,_,rfl⟩<;>exact hL _ (zZ _ (zZ _ (zW ..)))
    by_cases hbad:winOk b rows bk chk k=false
    · -- a row that is not proper
      have hold:k<bk:=by
        simp only [winOk,Bool.not_eq_false',Bool.and_eq_true,decide_eq_true_eq] at hbad;exact hbad.1
      have hck:chk (winRow b rows bk k)≠0:=by
        simp only [winOk,Bool.not_eq_false',Bool.and_eq_true,decide_eq_true_eq] at hbad;exact hbad.2
      have hmem:winRow b rows bk k∈b:=by
        rw [winRow,if_pos hold,zC,zB (show b.length-bk+k<b.length by omega)]
        exact zi _
      have hC:=Hck _ hmem
      have hs1:(h.set 1 zgB).length=h.length:=by simp
      refine ⟨.ret,[(1,zgB),(2,iB (chk (winRow b rows bk k)))],(h.set 1 zgB).set 2 (iB (chk (winRow b rows bk k))),?_,fun rl=>?_,.inr ⟨.inl rfl,rfl,k,hkl,hok,hbad,rfl⟩⟩
      · refine ⟨fun p hp=>?_,by simp,fun q hq hn=>?_,fun q hq=>?_⟩
        · simp only [zp,zc,or_false] at hp
          rcases hp with rfl | rfl
          · rw [zM (by decide),zN (by omega)]
          · rw [zN (by simp;omega)]
        · have hn1:q≠1:=by rintro rfl;refine hn ?_;rcases hL' with ⟨_,rfl⟩ | ⟨_,j,_,rfl⟩<;>simp [ids]
          have hn2:q≠2:=by rintro rfl;refine hn ?_;rcases hL' with ⟨_,rfl⟩ | ⟨_,j,_,rfl⟩<;>simp [ids]
          rw [zM (Ne.symm hn2),zM (Ne.symm hn1)]
        · refine .inl ?_
          simp only [ids,List.map_cons,List.map_nil,zp,zc,or_false] at hq
          rcases hq with rfl | rfl<;>rcases hL' with ⟨_,rfl⟩ | ⟨_,j,_,rfl⟩<;>simp [ids]
      · refine W_block (W_seq (W_seq (W_reg ?_)))
        simp only [xq,reduceIte,qE,qA,qL,qD,sl0,decide_eq_true hold]
        refine W_cond rfl (fun _=>?_) (fun hf=>by cases hf)
        refine W_seq (W_seq (W_reg ?_))
        simp only [xq,reduceIte,qE,qA,qL,qD]
        refine c_fn hC rfl ?_
        simp only [xq,reduceIte,qE,qA,qL,qD]
        refine W_seq (W_reg ?_)
        simp only [xq,reduceIte,qE,qA,qL,qD]
        refine W_cond rfl (fun _=>?_) (fun hf=>by simp [hck] at hf)
        refine W_seq (W_reg ?_)
        have h2s:(h.set 1 zgB)[2]? = some (iB 0):=by rw [zM (by decide)];exact h2
        simp only [xq,reduceIte,qE,qA,qL,qD,h1,h2s]
        refine W_ret ?_
        simp only [xq,reduceIte,qE,qA,qL,qD]
    · have hgood:winOk b rows bk chk k=true:=by simpa using hbad
      have hok':∀ i,i<k+1→winOk b rows bk chk i=true:=fun i hi=>by
        rcases Nat.lt_succ_iff_lt_or_eq.1 hi with h | rfl
        · exact hok i h
        · exact hgood
      let sl1:Nat→A:=look [(4,.ptr 0 1 0 0),(6,.ptr 1 1 0 0),(7,.ptr 2 1 0 0),(8,.ptr 3 1 0 0),(9,.d (.sl eCe (ceRows (winOut b rows bk fit k))))]
      have hfirst:∀ rl,W Γ.ctx P N rl h.length (.seq (.reg [
          { dst:=some 36,op:=.mov (.t 10) }])
        (.cond (.t 36)
          (.seq (.seq (.reg [
            { dst:=some 37,op:=.mov (.t 9) },
            { dst:=some 38,op:=.call (.f fck) [(.t 37)] },
            { dst:=some 11,op:=.mov (.t 38) }])
          (.seq (.reg [
            { dst:=some 39,op:=.mov (.t 11) },
            { dst:=some 40,op:=.bin .neq (.t 39) (.k (.int 0)) }])
          (.cond (.t 40)
            (.seq (.reg [
              { dst:=some 41,op:=.build [(.int 0),(.int 0),.nil] [] },
              { dst:=some 42,op:=.mov (.t 11) },
              { dst:=none,op:=.store 3 (.t 6) (.t 41) },
              { dst:=none,op:=.store 1 (.t 7) (.t 42) }])
            .ret)
            .skip)))
          (.reg [
            { dst:=some 43,op:=.mov (.t 9) },
            { dst:=some 44,op:=.faddr 0 (.t 4) },
            { dst:=some 45,op:=.load 1 false (.t 44) },
            { dst:=some 46,op:=.call (.f fft) [(.t 43),(.t 45)] },
            { dst:=some 9,op:=.mov (.t 46) }]))
          .skip)) (fun e s'=>e = .normal∧∃ s1,Co h.length s' s1∧s1=⟨sl1,h⟩)
          ⟨upd (upd (upd (upd sl0 34 (.d (.sl eCe (ceRows (winRow b rows bk k))))) 35 (.bool (decide (k<bk)))) 9 (.d (.sl eCe (ceRows (winRow b rows bk k))))) 10 (.bool (decide (k<bk))),h⟩:=by
        intro rl
        refine W_seq (W_reg ?_)
        simp only [xq,reduceIte,qE,qA,qL,qD,sl0]
        refine W_cond rfl (fun hd=>?_) (fun hd=>W_skip ?_)
        · have hold:k<bk:=by simpa using hd
          have hck:chk (winRow b rows bk k)=0:=by
            simpa [winOk,hold] using hgood
          have hmem:winRow b rows bk k∈b:=by
            rw [winRow,if_pos hold,zC,zB (show b.length-bk+k<b.length by omega)]
            exact zi _
          have hC:=Hck _ hmem
          rw [hck] at hC
          refine W_seq (W_seq (W_reg ?_))
          simp only [xq,reduceIte,qE,qA,qL,qD]
          refine c_fn hC rfl ?_
          simp only [xq,reduceIte,qE,qA,qL,qD]
          refine W_seq (W_reg ?_)
          simp only [xq,reduceIte,qE,qA,qL,qD]
          refine W_cond rfl (fun hf=>by simp at hf) (fun _=>W_skip ?_)
          simp only [xq,reduceIte,qE,qA,qL,qD]
          refine W_reg ?_
          simp only [xq,reduceIte,qE,qA,qL,qD,h0,gg,gdR]
          refine c_fn (Hft _ hmem) rfl ?_
          simp only [xq,reduceIte,qE,qA,qL,qD]
          refine ⟨_,Co.keep _ ?_,rfl⟩
          simp [x_upd,x_look,winOut,hold]
        · have hold:¬ k<bk:=by simpa using hd
          refine ⟨rfl,_,Co.keep _ ?_,rfl⟩
          simp [x_upd,x_look,winOut,hold]
      rcases hL' with ⟨rfl,rfl⟩ | ⟨hk0,j,hj,rfl⟩
      · -- the first
        have h3:h[3]? = some (oB w rows.length .nil):=hL _ (zZ _ (zZ _ (zZ _ (zW ..))))
        have e3:∀ t:Heap,(h++t)[3]? = some (oB w rows.length .nil):=fun t=>by rw [zF (by omega)];exact h3
        have s3:∀ (t:Heap) X,(h++t).set 3 X=h.set 3 X++t:=fun t X=>zu _ _ (by omega)
        have hR1:crBk (winL b rows bk fit (0+1)) = .cells eRw [[.d (.sl eCe (ceRows (winOut b rows bk fit 0)))]]:=by simp [winL,crRows,List.range_succ]
        refine ⟨.normal,[(0,gB gg),(1,zgB),(2,iB 0),(3,oB w rows.length (.ref (h.length+1) 1 0 1 true)),(h.length+1,crBk (winL b rows bk fit (0+1)))],
          h.set 3 (oB w rows.length (.ref (h.length+1) 1 0 1 true))++[.cells eRw [[.d (.sl eCe (ceRows (winOut b rows bk fit 0)))]],.cells eRw [[.d (.sl eCe (ceRows (winOut b rows bk fit 0)))]]],?_,fun rl=>?_,
          .inl ⟨rfl,hok',.inr ⟨Nat.succ_pos _,h.length+1,by omega,rfl⟩⟩⟩
        · refine ⟨fun p hp=>?_,by simp,fun q hq hn=>?_,fun q hq=>?_⟩
          · simp only [zp,zc,or_false] at hp
            rcases hp with rfl | rfl | rfl | rfl | rfl
            · rw [zF (by simp;omega),zM (by simp)];exact h0
            · rw [zF (by simp;omega),zM (by simp)];exact h1
            · rw [zF (by simp;omega),zM (by simp)];exact h2
            · rw [zF (by simp;omega),zN (by omega)]
            · rw [hR1,List.getElem?_append_right (by simp)];simp
          · have hn3:q≠3:=by rintro rfl;exact hn (by simp [ids])
            rw [zF (by simpa using hq),zM (Ne.symm hn3)]
          · simp only [ids,List.map_cons,List.map_nil,zp,zc,or_false] at hq ⊢
            rcases hq with rfl | rfl | rfl | rfl | rfl
            · simp
            · simp
            · simp
            · simp
            · right;omega
        · refine W_block (W_cut (· = ⟨sl1,h⟩) (hfirst rl) ?_)
          rintro _ rfl
          refine W_drw (by simp) ?_
          simp only [xq,reduceIte,qE,qA,qL,qD,sl1,e3]
          refine c_fn (Hcl _) rfl ?_
          simp only [xq,reduceIte,qE,qA,qL,qD,e3,s3,zS,hp_g0,hp_g1,hp_s0,hp_s1]
          rw [if_neg (by simp)]
          exact ⟨by decide,by decide⟩
      · -- the others
        obtain ⟨k,rfl⟩:∃ k',k=k'+1:=⟨k-1,by omega⟩
        have h3:h[3]? = some (oB w rows.length (.ref j (k+1) 0 (k+1) true)):=hL _ (zZ _ (zZ _ (zZ _ (zW ..))))
        have hbj:h[j]? = some (crBk (winL b rows bk fit (k+1))):=hL _ (zZ _ (zZ _ (zZ _ (zZ _ (zW ..)))))
        have hjl:j<h.length:=(zA.1 hbj).1
        have hj3:j≠3:=by omega
        have e3:∀ t:Heap,(h++t)[3]? = some (oB w rows.length (.ref j (k+1) 0 (k+1) true)):=fun t=>by rw [zF (by omega)];exact h3
        have ej:∀ t:Heap,(h++t)[j]? = some (crBk (winL b rows bk fit (k+1))):=fun t=>by rw [zF hjl];exact hbj
        have sj:∀ (t:Heap) X,(h++t).set j X=h.set j X++t:=fun t X=>zu _ _ hjl
        have e3':∀ (t:Heap) X,(h.set j X++t)[3]? = some (oB w rows.length (.ref j (k+1) 0 (k+1) true)):=fun t X=>by
          rw [zF (by simp;omega),zM hj3];exact h3
        have s3:∀ (t:Heap) X Y,(h.set j X++t).set 3 Y=(h.set j X).set 3 Y++t:=fun t X Y=>zu _ _ (by simp;omega)
        have hll:((crRows (winL b rows bk fit (k+1))).map fun r=>r.map A.d).length=k+1:=by simp [crRows,winL]
        have hR1:((crRows (winL b rows bk fit (k+1))).map fun r=>r.map A.d)++[[.d (.sl eCe (ceRows (winOut b rows bk fit (k+1))))]]=(crRows (winL b rows bk fit (k+1+1))).map fun r=>r.map A.d:=by
          rw [winL_succ (n:=k+1)];simp [crRows]
        refine ⟨.normal,[(0,gB gg),(1,zgB),(2,iB 0),(3,oB w rows.length (.ref j (k+1+1) 0 (k+1+1) true)),(j,crBk (winL b rows bk fit (k+1+1)))],
          (h.set j (crBk (winL b rows bk fit (k+1+1)))).set 3 (oB w rows.length (.ref j (k+1+1) 0 (k+1+1) true))++[.cells eRw [[.d (.sl eCe (ceRows (winOut b rows bk fit (k+1))))]],.res],?_,fun rl=>?_,
          .inl ⟨rfl,hok',.inr ⟨Nat.succ_pos _,j,hj,rfl⟩⟩⟩
        · refine ⟨fun p hp=>?_,by simp,fun q hq hn=>?_,fun q hq=>?_⟩
          · simp only [zp,zc,or_false] at hp
            rcases hp with rfl | rfl | rfl | rfl | rfl
            · rw [zF (by simp;omega),zM (by simp),zM (by simp;omega)];exact h0
            · rw [zF (by simp;omega),zM (by simp),zM (by simp;omega)];exact h1
            · rw [zF (by simp;omega),zM (by simp),zM (by simp;omega)];exact h2
            · rw [zF (by simp;omega),zN (by simp;omega)]
            · rw [zF (by simp;omega),zM (by simp;omega),zN hjl]
          · have hn3:q≠3:=by rintro rfl;exact hn (by simp [ids])
            have hnj:q≠j:=by rintro rfl;exact hn (by simp [ids])
            rw [zF (by simpa using hq),zM (Ne.symm hn3),zM (Ne.symm hnj)]
          · exact .inl (by simpa [ids] using hq)
        · refine W_block (W_cut (· = ⟨sl1,h⟩) (hfirst rl) ?_)
          rintro _ rfl
          refine W_drw (by simp) ?_
          simp only [xq,reduceIte,qE,qA,qL,qD,sl1,e3]
          refine c_fn (Hcl _) rfl ?_
          simp only [xq,reduceIte,qE,qA,qL,qD,e3,e3',s3,ej,sj,zS,hp_g0,hp_g1,hp_s0,hp_s1,hll,hR1]
          exact ⟨by simp only [room];omega,by simp only [maxLen];omega⟩
  · intro L' h' T hI
    rw [winXs_len] at hI
    obtain ⟨hok,hL⟩:=hI
    simp only [xq,reduceIte,qE,qA,qL,qD]
    rw [hwin0 hok]
    rcases hL with ⟨hk,rfl⟩ | ⟨hk,j,hj,rfl⟩
    · have h1:h'[1]? = some zgB:=T.has _ (zZ _ (zW ..))
      have h2:h'[2]? = some (iB 0):=T.has _ (zZ _ (zZ _ (zW ..)))
      have h3:h'[3]? = some (oB w rows.length .nil):=T.has _ (zZ _ (zZ _ (zZ _ (zW ..))))
      have hl3:=(zA.1 h3).1
      have h2s:∀ X,(h'.set 1 X)[2]? = some (iB 0):=fun X=>by rw [zM (by decide)];exact h2
      have h1s:∀ X Y,((h'.set 1 X).set 2 Y)[1]? = some X:=fun X Y=>by rw [zM (by decide),zN (by omega)]
      have h2t:∀ X Y,((h'.set 1 X).set 2 Y)[2]? = some Y:=fun X Y=>by rw [zN (by simp;omega)]
      refine W_seq (W_reg ?_)
      simp only [xq,reduceIte,qE,qA,qL,qD,sl0,h1,h2,h3,h2s]
      refine W_ret ⟨.inr rfl,?_⟩
      simp only [readRs,readR,single,x_upd,reduceIte,qE,x_look,xq,reduceIte,qE,qA,qL,qD,loadsTo,h1s,h2t]
      have hR0:winL b rows bk fit rows.length=[]:=by rw [hk];rfl
      rw [hR0]
      exact frz_gd (.d (.nil _))
    · have h1:h'[1]? = some zgB:=T.has _ (zZ _ (zW ..))
      have h2:h'[2]? = some (iB 0):=T.has _ (zZ _ (zZ _ (zW ..)))
      have h3:h'[3]? = some (oB w rows.length (.ref j rows.length 0 rows.length true)):=T.has _ (zZ _ (zZ _ (zZ _ (zW ..))))
      have hbj:h'[j]? = some (crBk (winL b rows bk fit rows.length)):=T.has _ (zZ _ (zZ _ (zZ _ (zZ _ (zW ..)))))
      have hl3:=(zA.1 h3).1
      have h2s:∀ X,(h'.set 1 X)[2]? = some (iB 0):=fun X=>by rw [zM (by decide)];exact h2
      have h1s:∀ X Y,((h'.set 1 X).set 2 Y)[1]? = some X:=fun X Y=>by rw [zM (by decide),zN (by omega)]
      have h2t:∀ X Y,((h'.set 1 X).set 2 Y)[2]? = some Y:=fun X Y=>by rw [zN (by simp;omega)]
      have hjt:∀ X Y,((h'.set 1 X).set 2 Y)[j]? = some (crBk (winL b rows bk fit rows.length)):=fun X Y=>by rw [zM (by omega),zM (by omega)];exact hbj
      refine W_seq (W_reg ?_)
      simp only [xq,reduceIte,qE,qA,qL,qD,sl0,h1,h2,h3,h2s]
      refine W_ret ⟨.inr rfl,?_⟩
      simp only [readRs,readR,single,x_upd,reduceIte,qE,x_look,xq,reduceIte,qE,qA,qL,qD,loadsTo,h1s,h2t]
      refine frz_gd ?_
      have:=frz_all (full:=true) (hjt (oB w rows.length (.ref j rows.length 0 rows.length true)) (iB 0))
      rw [crRows_len,winL_len] at this
      exact this
  · intro e0 L' h' T hE
    obtain ⟨rfl,k,hk,hki,hkb,rfl⟩:=hE
    have h1:h'[1]? = some zgB:=T.has _ (zW ..)
    have h2:h'[2]? = some (iB (chk (winRow b rows bk k))):=T.has _ (zZ _ (zW ..))
    simp only [xq,reduceIte,qE,qA,qL,qD]
    refine ⟨.inr rfl,?_⟩
    rw [hwin k hk hkb hki]
    simp only [readRs,readR,single,x_upd,reduceIte,qE,x_look,xq,reduceIte,qE,qA,qL,qD,loadsTo,sl0,h1,h2]
    exact frz_gd (.d (.nil _))
end Go.Proofs.YthhjkfilfhmakaaDoor.Nx

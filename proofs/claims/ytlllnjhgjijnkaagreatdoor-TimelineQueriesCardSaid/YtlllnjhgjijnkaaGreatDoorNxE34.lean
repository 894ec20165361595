import Derived.Test.YtlllnjhgjijnkaaGreatDoorNxE21
import Derived.Test.YtlllnjhgjijnkaaGreatDoorNxP15n
set_option linter.unusedSimpArgs false
set_option linter.unusedVariables false
set_option linter.unnecessarySimpa false
open List renaming getElem?_eq_getElem → zB, getD_eq_getElem?_getD → zC, append_assoc → zS
open Nat renaming zero_le → zI
open Nat renaming reduceEqDiff → qE, reduceAdd → qA, reduceLT → qL, reduceLeDiff → qD
namespace Go.Proofs.YtlllnjhgjijnkaaGreatDoor.Nx
open Go
section
variable {P:Program} {N:Nat} {Γ:Tabs}
theorem Co.nild {n0:Nat} {s:St} (n:Nat) (e:Elt) (hs:s.slots n = .nil):Co n0 s ⟨upd s.slots n (.d (.sl e [])),s.heap⟩ :=
 fun z M ρ a w hz S=>⟨ρ,⟨S.bnd,S.sim,fun m=>by
  show RepA w M _ _ (upd s.slots n _ m) _
  unfold upd
  by_cases hm:m=n
  ·rw [if_pos hm,hm]
   have:=S.slots n
   rw [hs] at this
   generalize valAt a.tmps n=v at this
   cases this
   exact .d (.nil (zI _) (fun _=>rfl))
  ·rw [if_neg hm]
   exact S.slots m,S.size,S.nlt,S.tabs,S.defers⟩,.refl _ _ _ _ hz.2⟩
theorem refTrimL_fn {f fb:FuncId} (H:FnIs P f N [.t 2] (x_ref15_Trim fb)) (hN:1≤N) (Hb:∀ g,FnP Γ P fb [glA g] (.bool (decide (g=spaceGl)))) (l:List Gl) (hl:l.length≤1000000) :
  FnP Γ P f [.d (.sl eGl (glRows l))] (.d (.sl eGl (glRows (trimGl l)))):=by
 refine .of_W H (by simpa using hN) ?_
 have hlr:l.length≤room:=by simp only [room];omega
 unfold x_ref15_Trim
 refine wR ?_
 simp only [xq,reduceIte,qE,qA,qL,qD]
 refine wR ?_
 simp only [xq,reduceIte,qE,qA,qL,qD,glRows_len]
 refine W_seq (W_block ?_)
 let S:Nat→St:=fun i=>⟨look [(0,.d (.sl eGl (glRows l))),(3,.int i)],[]⟩
 refine W_co (s':=S l.length) (Co.keep _ (by simp [x_upd,x_look])) ?_
 refine W_loop (fun m s=>m≤l.length∧s=S m∧trimN l l.length=trimN l m) ⟨Nat.le_refl _,rfl,rfl⟩ ?_
 rintro m s ⟨hm,rfl,htr⟩
 have fin:∀ (sl:Nat→A) (n:Nat),sl 0 = .d (.sl eGl (glRows l))→sl 3 = .int n→n=trimN l l.length→W (Tabs.ctx Γ) P N none 0 (.seq (.reg [
  { dst:=some 18,op:=.bslice ⟨3,32⟩ [(.str ⟨#[]⟩),(.bool false),(.int 0)] 0 [] },
  { dst:=some 19,op:=.mov (.t 0) },
  { dst:=some 20,op:=.mov (.t 3) },
  { dst:=some 21,op:=.slice ⟨3,32⟩ (.t 19) none (some (.t 20)) none },
  { dst:=some 22,op:=.append ⟨3,32⟩ (.t 18) (.t 21) },
  { dst:=some 2,op:=.mov (.t 22) }]) .ret) (RetQ [.t 2] (.d (.sl eGl (glRows (trimGl l))))) ⟨sl,[]⟩:=by
  intro sl n h0 h3 hn
  have hnl:n≤l.length:=by rw [hn];exact trimN_le l _
  have ht:l.take n=trimGl l:=by rw [trimGl,hn]
  have htl:(trimGl l).length=n:=by rw [trimGl_len,hn]
  refine wR ?_
  simp only [xq,reduceIte,qE,qA,qL,qD,h0,h3,glRows_len,Int.natCast_zero,Int.sub_zero,glRows_take,ht,htl]
  refine ⟨by omega,by omega,by omega,by omega,by simp only [room];omega,by simp only [maxLen];omega,?_⟩
  refine W_ret (.frz ?_)
  simp only [xq,reduceIte,qE,qA,qL,qD]
  have:=frz_all (id:=0) (full:=true) (e:=eGl) (rows:=glRows (trimGl l)) (h:=[.cells eGl ((glRows (trimGl l)).map fun r=>r.map A.d)]) rfl
  rw [glRows_len,htl] at this
  exact this
 cases m with
 | zero =>
  refine W_seq (wR ?_)
  simp only [xq,reduceIte,qE,qA,qL,qD,S,Int.natCast_zero,Int.lt_irrefl,decide_false]
  refine W_cond rfl (fun hc=>by cases hc) (fun _=>W_exit ?_)
  simp only [xq,reduceIte,qE,qA,qL,qD]
  exact fin _ 0 rfl rfl htr.symm
 | succ n =>
  have hpos:decide ((0:Int)<((n+1:Nat):Int))=true:=decide_eq_true (by omega)
  have hlt:n<l.length:=by omega
  have hB:=Hb l[n]
  simp only [glA,Gl.row,List.map_cons,List.map_nil] at hB
  refine W_seq (wR ?_)
  simp only [xq,reduceIte,qE,qA,qL,qD,S,hpos,i64_pred (show n≤room by omega),glRows_get hlt,Gl.row,glRows_len]
  refine ⟨by omega,by omega,?_⟩
  refine c_fn hB rfl ?_
  simp only [xq,reduceIte,qE,qA,qL,qD]
  refine W_cond rfl (fun hc=>W_skip ?_) (fun hc=>W_exit ?_)
  ·have he:l[n]=spaceGl:=by simpa using hc
   simp only [xq,reduceIte,qE,qA,qL,qD]
   refine W_block (W_reg ?_)
   simp only [xq,reduceIte,qE,qA,qL,qD]
   refine ⟨n,S n,Nat.lt_succ_self _,Co.keep _ ?_,by omega,rfl,?_⟩
   ·simp [x_upd,x_look,i64_nat (show n≤room by omega)]
   ·rw [htr];simp [trimN,zB hlt,he]
  ·have he:l[n]≠spaceGl:=by simpa using hc
   simp only [xq,reduceIte,qE,qA,qL,qD]
   refine fin _ (n+1) rfl rfl ?_
   rw [htr];simp [trimN,zB hlt,he]
theorem widthN_take1 {l:List Gl} {n:Nat} (hn:n<l.length):widthN (l.take (n+1))=widthN (l.take n)+gw l[n]:=by
 induction l generalizing n with
 | nil=>simp at hn
 | cons g l ih =>
  cases n with
  | zero=>simp [widthN]
  | succ n =>
   rw [List.take_succ_cons,widthN,ih (by simpa using hn),List.take_succ_cons,widthN,List.getElem_cons_succ];omega
theorem cutW_split:∀ (n:Nat) (l:List Gl) (w:Int),(widthN (l.take n):Int)≤w→cutW w l=l.take n++cutW (w-(widthN (l.take n):Nat)) (l.drop n)
 | 0,l,w,_=>by simp [widthN]
 | n+1,[],w,_=>by simp [widthN]
 | n+1,g::l,w,h=>by
  rw [List.take_succ_cons,widthN] at h
  have hg:¬ w<(gw g:Nat):=by omega
  rw [cutW,if_neg hg,cutW_split n l _ (by omega),List.take_succ_cons,List.drop_succ_cons,widthN,List.cons_append]
  congr 3
  omega
theorem cutW_stop {l:List Gl} {n:Nat} {w:Int} (h:(widthN (l.take n):Int)≤w) (hs:l.length≤n∨w<(widthN (l.take (n+1)):Int)):cutW w l=l.take n:=by
 rw [cutW_split n l w h]
 rcases Nat.lt_or_ge n l.length with hn | hn
 ·rcases hs with hs | hs
  ·omega
  ·rw [widthN_take1 hn] at hs
   rw [List.drop_eq_getElem_cons hn,cutW,if_pos (by omega),List.append_nil]
 ·rw [List.drop_eq_nil_of_le hn,cutW,List.append_nil]
abbrev rwLE (l:List (List Gl)):HB:=.cells eRw ((rwRows l).map fun r=>r.map A.d)
def RwsIs (t:Heap) (k:Nat) (l:List (List Gl)) (x:A):Prop:=(x = .nil∧l=[])∨∃ q,x = .ref (q+k) l.length 0 l.length true∧t[q]? = some (rwLE l)∧l≠[]
theorem rwRows_app {a b:List (List Gl)}:rwRows (a++b)=rwRows a++rwRows b:=by simp [rwRows]
def outRow (v:Vw) (x:A):List A:=[.int v.width,.int v.height,x,.int v.row,.int v.col,.bool v.vis]
abbrev outB (v:Vw) (x:A):HB:=.cells eVw [outRow v x]
theorem out_frz {h t:Heap} {v:Vw} {x:A} (ho:RwsIs t h.length v.rows x):FrzA 0 (h++t) (.agg (outRow v x)) (vwA v):=by
 refine .agg rfl fun j y hj=>?_
 rcases j with _ | _ | _ | _ | _ | _ | j
 ·cases hj;exact .same rfl
 ·cases hj;exact .same rfl
 ·cases hj
  simp only [outRow,List.getD_cons_succ,List.getD_cons_zero]
  rcases ho with ⟨rfl,h0⟩ | ⟨q,rfl,hq,_⟩
  ·rw [h0];exact .d (.nil _)
  ·have:=frz_all (id:=q+h.length) (full:=true) (e:=eRw) (rows:=rwRows v.rows) (h:=h++t) (by rw [Nat.add_comm,hp_gk];exact hq)
   rw [rwRows_len] at this
   exact this
 ·cases hj;exact .same rfl
 ·cases hj;exact .same rfl
 ·cases hj;exact .same rfl
 ·simp [Vw.ds] at hj
end
section
variable {P:Program} {N:Nat} {Γ:Tabs}
theorem range_snoc {α:Type} (f:Nat→α) (i:Nat):(List.range (i+1)).map f=(List.range i).map f++[f i]:=by rw [List.range_succ,List.map_append];rfl
theorem hq_g0 {a b c B:HB} {t t':Heap}:(a::b::c::(t++B::t'))[t.length+3]? = some B:=by simp
set_option maxHeartbeats 2000000 in
theorem rsized_fn {f fw ft:FuncId} (H:FnIs P f N [.c 6 6 true] (x_ref19_sized fw ft)) (hN:3≤N) (Hw:∀ l:List Gl,FnP Γ P fw [.d (.sl eGl (glRows l))] (.int (widthN l))) (Ht:∀ l:List Gl,l.length≤1000000→FnP Γ P ft [.d (.sl eGl (glRows l))] (.d (.sl eGl (glRows (trimGl l)))))
  (v:Vw) (h w:Int) (hh:1≤h∧h≤60) (hw:0≤w∧w≤1000) (hr:∀ r∈v.rows,r.length≤50000) (hvl:v.rows.length≤1000):FnP Γ P f [vwA v,.int h,.int w] (vwA (sizeV v h w)):=by
 refine .of_W H (by simpa using hN) ?_
 obtain ⟨n,hn⟩:∃ n:Nat,h=n:=⟨h.toNat,by omega⟩
 subst hn
 let rw':Nat→List Gl:=fun i=>sizeR w (v.rows.getD i [])
 let acc:Nat→List (List Gl):=fun i=>(List.range i).map rw'
 have haccl:∀ i,(acc i).length=i:=fun i=>by simp [acc]
 have haccs:∀ i,acc (i+1)=acc i++[rw' i]:=fun i=>range_snoc rw' i
 let v0:Vw:=⟨w,n,[],v.row,v.col,v.vis⟩
 unfold x_ref19_sized
 simp only [vwA,Vw.ds,List.map_cons,List.map_nil]
 refine wR ?_;simp only [xq,reduceIte,qE,qA,qL,qD]
 refine wR ?_;simp only [xq,reduceIte,qE,qA,qL,qD]
 refine wR ?_;simp only [xq,reduceIte,qE,qA,qL,qD]
 refine wR ?_;simp only [xq,reduceIte,qE,qA,qL,qD]
 refine wR ?_;simp only [xq,reduceIte,qE,qA,qL,qD]
 refine W_seq ?_
 refine wR ?_;simp only [xq,reduceIte,qE,qA,qL,qD]
 refine W_block ?_
 let S:A→Heap→Nat→St:=fun x t i=>⟨look [(1,.int n),(2,.int w),(3,.ptr 0 1 0 0),(6,.ptr 1 1 0 0),(7,.ptr 2 1 0 0),(8,.int i)],vwB v::zeroB::outB v0 x::t⟩
 refine W_co (s':=S .nil [] 0) (Co.keep _ (by simp [x_upd,x_look])) ?_
 refine W_loop (fun m s=>∃ i x t,i≤n∧m=n-i∧s=S x t i∧RwsIs t 3 (acc i) x) ⟨0,.nil,[],zI _,rfl,rfl,.inl ⟨rfl,rfl⟩⟩ ?_
 rintro m s ⟨i,x,t,hi,rfl,rfl,ho⟩
 simp only [S]
 refine W_seq (W_seq ?_)
 refine W_reg ?_;simp only [xq,reduceIte,qE,qA,qL,qD]
 refine W_cond rfl (fun hc=>W_skip ?_) (fun hc=>W_exit ?_)
 ·have hlt:i<n:=by simpa using hc
  have w1:IntKind.i64.wrap ((i:Int)+1)=((i+1:Nat):Int):=by rw [i64_of (by omega)];omega
  simp only [xq,reduceIte,qE,qA,qL,qD]
  refine W_seq (W_block ?_)
  refine wR ?_;simp only [xq,reduceIte,qE,qA,qL,qD]
  obtain ⟨l,hl⟩:∃ l,l=v.rows.getD i []:=⟨_,rfl⟩
  have hll:l.length≤50000:=by
   rw [hl]
   rcases getD_mem (rows:=v.rows) (n:=i) with h1 | h1
   ·rw [h1];exact zI _
   ·exact hr _ h1
  refine W_cut (· = ⟨look [(1,.int n),(2,.int w),(3,.ptr 0 1 0 0),(6,.ptr 1 1 0 0),(7,.ptr 2 1 0 0),(8,.int i),(9,.d (.sl eGl (glRows l)))],vwB v::zeroB::outB v0 x::t⟩) ?_ ?_
  ·refine wR ?_;simp only [xq,reduceIte,qE,qA,qL,qD,Vw.ds,rwRows_len]
   refine W_cond rfl (fun hd=>?_) (fun hd=>W_skip ?_)
   ·have hlv:i<v.rows.length:=by simpa using hd
    have gv:l=v.rows[i]:=by rw [hl,zC,zB hlv];rfl
    refine W_reg ?_;simp only [xq,reduceIte,qE,qA,qL,qD,Vw.ds,rwRows_len,rwRows_get hlv,Int.toNat_natCast]
    refine ⟨by omega,by omega,?_⟩
    rw [gv]
    exact ⟨_,Co.keep _ (by simp [x_upd,x_look]),rfl⟩
   ·have hlv:v.rows.length≤i:=by simp at hd;omega
    have gv:l=[]:=by rw [hl,zC,List.getElem?_eq_none hlv];rfl
    rw [gv]
    refine ⟨rfl,_,Co.trans (Co.nild 9 eGl (by simp [x_upd])) (Co.keep _ (by simp [x_upd,x_look,glRows])),rfl⟩
  rintro _ rfl
  refine wR ?_;simp only [xq,reduceIte,qE,qA,qL,qD]
  let T:Nat→St:=fun j=>⟨look [(1,.int n),(2,.int w),(3,.ptr 0 1 0 0),(6,.ptr 1 1 0 0),(7,.ptr 2 1 0 0),(8,.int i),(9,.d (.sl eGl (glRows l))),(10,.int j)],vwB v::zeroB::outB v0 x::t⟩
  refine W_cut (fun s=>∃ j,s=T j∧j≤l.length∧l.take j=cutW w l) ?_ ?_
  ·refine W_block ?_
   refine W_co (s':=T 0) (Co.keep _ (by simp [x_upd,x_look])) ?_
   refine W_loop (fun m s=>∃ j,j≤l.length∧m=l.length-j∧s=T j∧(widthN (l.take j):Int)≤w) ⟨0,zI _,rfl,rfl,by simp [widthN,hw.1]⟩ ?_
   rintro m s ⟨j,hj,rfl,rfl,hwid⟩
   simp only [T]
   by_cases hjl:j<l.length
   ·have d1:decide ((j:Int)<(l.length:Int))=true:=decide_eq_true (by omega)
    have w2:IntKind.i64.wrap ((j:Int)+1)=((j+1:Nat):Int):=by rw [i64_of (by omega)];omega
    refine W_seq (W_seq ?_)
    refine W_reg ?_;simp only [xq,reduceIte,qE,qA,qL,qD,glRows_len,d1,w2,Int.natCast_zero,Int.sub_zero,glRows_take]
    refine ⟨by omega,by omega,by omega,by omega,?_⟩
    refine c_fn (Hw (l.take (j+1))) rfl ?_;simp only [xq,reduceIte,qE,qA,qL,qD]
    refine W_cond rfl (fun hd=>W_skip ?_) (fun hd=>W_exit ?_)
    ·have hd:(widthN (l.take (j+1)):Int)≤w:=by simpa using hd
     simp only [xq,reduceIte,qE,qA,qL,qD]
     refine W_block ?_
     refine W_reg ?_;simp only [xq,reduceIte,qE,qA,qL,qD,w2]
     exact ⟨l.length-(j+1),T (j+1),by omega,Co.keep _ (by simp [x_upd,x_look]),j+1,hjl,rfl,rfl,hd⟩
    ·have hd:w<(widthN (l.take (j+1)):Int):=by simpa using hd
     simp only [xq,reduceIte,qE,qA,qL,qD]
     exact ⟨T j,Co.keep _ (by simp [x_upd,x_look]),j,rfl,hj,(cutW_stop hwid (.inr hd)).symm⟩
   ·have d1:decide ((j:Int)<(l.length:Int))=false:=decide_eq_false (by omega)
    refine W_seq (W_seq ?_)
    refine W_reg ?_;simp only [xq,reduceIte,qE,qA,qL,qD,glRows_len,d1,undefA,Bool.true_eq_false]
    refine W_cond rfl (fun hd=>by cases hd) (fun hd=>W_exit ?_)
    simp only [xq,reduceIte,qE,qA,qL,qD]
    exact ⟨T j,Co.keep _ (by simp [x_upd,x_look]),j,rfl,hj,(cutW_stop hwid (.inl (by omega))).symm⟩
  rintro _ ⟨j,rfl,hj,hcut⟩
  have htr:trimGl (l.take j)=rw' i:=by rw [hcut];simp only [rw',sizeR,hl]
  have hT:=Ht (l.take j) (by rw [List.length_take];omega)
  rw [htr] at hT
  simp only [T]
  have next:∀ (sl:Nat→A) (x2:A) (t2:Heap),sl 1 = .int n→sl 2 = .int w→sl 3 = .ptr 0 1 0 0→sl 6 = .ptr 1 1 0 0→sl 7 = .ptr 2 1 0 0→sl 8 = .int ((i+1:Nat):Int)→RwsIs t2 3 (acc i++[rw' i]) x2 →
    ∃ m' s'',m'<n-i∧Co 0 ⟨sl,vwB v::zeroB::outB v0 x2::t2⟩ s''∧∃ i x t,i≤n∧m'=n-i∧s''=S x t i∧RwsIs t 3 (acc i) x:=by
   intro sl x2 t2 q1 q2 q3 q6 q7 q8 ho2
   refine ⟨n-(i+1),S x2 t2 (i+1),by omega,Co.keep _ (by simp [q1,q2,q3,q6,q7,q8]),i+1,x2,t2,hlt,rfl,rfl,by rw [haccs];exact ho2⟩
  rcases ho with ⟨rfl,hnil⟩ | ⟨q,rfl,hq,hne⟩
  ·refine W_drw (by simp) ?_
   simp only [xq,reduceIte,qE,qA,qL,qD,glRows_len,Int.natCast_zero,Int.sub_zero,glRows_take,outRow]
   refine ⟨by omega,by omega,by omega,by omega,?_⟩
   refine c_fn (hT) rfl ?_;simp only [xq,reduceIte,qE,qA,qL,qD,hq_g0,hp_gk,hp_sk,hp_g0,hp_g1,hp_s0,hp_s1,zS]
   rw [if_neg (by simp)]
   refine ⟨by decide,by decide,?_⟩
   simp only [xq,reduceIte,qE,qA,qL,qD,outRow]
   refine W_reg ?_;simp only [xq,reduceIte,qE,qA,qL,qD,w1]
   have he:(t++[rwLE [rw' i],rwLE [rw' i]])[t.length+1]? = some (rwLE [rw' i]):=by rw [hp_g1]
   refine next _ (.ref (t.length+1+3) 1 0 1 true) (t++[rwLE [rw' i],rwLE [rw' i]]) rfl rfl rfl rfl rfl rfl (.inr ⟨t.length+1,?_,?_,by simp⟩)
   ·rw [hnil];rfl
   ·rw [hnil];exact he
  ·have hql:=(List.getElem?_eq_some_iff.1 hq).1
   have gq:∀ t':Heap,(t++t')[q]? = some (rwLE (acc i)):=fun t'=>hp_gl hq
   have sq:∀ (t':Heap) X,(t++t').set q X=t.set q X++t':=fun t' X=>List.set_append_left _ _ hql
   refine W_drw (by simp) ?_
   simp only [xq,reduceIte,qE,qA,qL,qD,glRows_len,Int.natCast_zero,Int.sub_zero,glRows_take,outRow]
   refine ⟨by omega,by omega,by omega,by omega,?_⟩
   refine c_fn (hT) rfl ?_;simp only [xq,reduceIte,qE,qA,qL,qD,hq_g0,hp_gk,hp_sk,hp_g0,hp_g1,hp_s0,hp_s1,zS,gq,sq,rwRows_len,haccl]
   refine ⟨by simp only [room];omega,by simp only [maxLen];omega,?_⟩
   simp only [xq,reduceIte,qE,qA,qL,qD,outRow]
   refine W_reg ?_;simp only [xq,reduceIte,qE,qA,qL,qD,w1]
   have e:rwLE (acc i++[rw' i]) = .cells eRw (((rwRows (acc i)).map fun r=>r.map A.d)++[[.d (.sl eGl (glRows (rw' i)))]]):=by simp only [rwLE,rwRows_app,List.map_append];rfl
   refine next _ (.ref (q+3) (i+1) 0 (i+1) true) (t.set q (.cells eRw (((rwRows (acc i)).map fun r=>r.map A.d)++[[.d (.sl eGl (glRows (rw' i)))]]))++[rwLE [rw' i],.res]) ?_ ?_ ?_ ?_ ?_ ?_ (.inr ⟨q,?_,?_,by simp⟩)
   iterate 6 rfl
   ·rw [List.length_append,haccl];rfl
   ·rw [List.getElem?_append_left (by simpa using hql),List.getElem?_set_self hql,e]
 ·have hle:i=n:=by simp at hc;omega
  subst hle
  have w3:IntKind.i64.wrap ((i:Int)-1)=(i:Int)-1:=i64_of (by omega)
  have w4:IntKind.i64.wrap (w-1)=w-1:=i64_of (by omega)
  have mn:∀ a b:Int,minmaxInt false a b=min a b:=fun a b=>by unfold minmaxInt;simp only [Bool.false_eq_true,if_false];split<;>omega
  simp only [xq,reduceIte,qE,qA,qL,qD]
  refine wR ?_;simp only [xq,reduceIte,qE,qA,qL,qD,Vw.ds,outRow,w3,mn]
  refine wR ?_;simp only [xq,reduceIte,qE,qA,qL,qD,Vw.ds,outRow,w4,mn]
  refine wR ?_;simp only [xq,reduceIte,qE,qA,qL,qD,Vw.ds,outRow]
  refine W_ret ⟨.inr rfl,?_⟩
  simp only [readRs,readR,single,xq,reduceIte,qE,qA,qL,qD,loadsTo,List.take]
  exact out_frz (h:=[vwB v,outB (sizeV v i w) x,outB (sizeV v i w) x]) (t:=t) (v:=sizeV v i w) ho
end
end Go.Proofs.YtlllnjhgjijnkaaGreatDoor.Nx

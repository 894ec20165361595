import Derived.Test.YtigfbnglplbbpaaGreatDoorNxT1
import Derived.Test.YtigfbnglplbbpaaGreatDoorNxI6
set_option linter.unusedSimpArgs false
set_option linter.unusedVariables false
set_option linter.unnecessarySimpa false
open Nat renaming zero_le → zI
open Int renaming toNat_natCast → zQ
open Nat renaming reduceEqDiff → qE, reduceAdd → qA, reduceLT → qL, reduceLeDiff → qD
namespace Go.Proofs.YtigfbnglplbbpaaGreatDoor.Nx
open Go Go.Lib Go.Proofs Go.Shelf
variable {P:Program} {Γ:Tabs}
def extVV (fA:FuncId) (R:Vw→Vw→A) (f:FuncId) (args:List A):Option A :=
 if f=fA then match args with
  | [x,y]=>match vwOf x,vwOf y with
   | some v,some u=>if (greatV v||greatV u)=false then some (R v u) else none
   | _,_=>none
  | _=>none
 else none
theorem extVV_ok {fA:FuncId} {R:Vw→Vw→A} (H:∀ v u,greatV v=false→greatV u=false→FnP Γ P fA [vwA v,vwA u] (R v u)):∀ f args r,extVV fA R f args=some r→FnP Γ P f args r:=by
 intro f args r h
 unfold extVV at h
 split at h
 ·rename_i hf;subst hf
  split at h
  ·split at h
   ·rename_i v u hv hu
    split at h
    ·rename_i hg
     cases h
     rw [vwOf_ok hv,vwOf_ok hu]
     rw [Bool.or_eq_false_iff] at hg
     exact H v u hg.1 hg.2
    ·cases h
   ·cases h
  ·cases h
 ·cases h
end Go.Proofs.YtigfbnglplbbpaaGreatDoor.Nx
namespace Go.Proofs.YtigfbnglplbbpaaGreatDoor.Nx
open Go
variable {P:Program} {N:Nat} {Γ:Tabs}
set_option maxHeartbeats 1000000 in
theorem rcost20_fn {f fc:FuncId} (H:FnIs P f N [.t 2] (x_ref20_Cost fc)) (hN:1≤N) (Hc:Cost1Ok Γ P fc):CostOk Γ P f:=by
 intro l hl
 refine .of_W H (by simpa using hN) ?_
 have hll:=hl.len
 unfold x_ref20_Cost
 refine wR ?_;simp only [xq,reduceIte,qE,qA,qL,qD]
 refine wR ?_;simp only [xq,reduceIte,qE,qA,qL,qD]
 refine W_seq ?_
 refine wR ?_;simp only [xq,reduceIte,qE,qA,qL,qD]
 refine W_block ?_
 let S:Nat→St:=fun i=>⟨look [(0,cgsA l),(3,.int (cost20 (l.take i))),(4,.int i)],[]⟩
 refine W_co (s':=S 0) (Co.keep _ (by simp [x_upd,x_look,cost20])) ?_
 refine W_loop (fun m s=>∃ i,i≤l.length∧m=l.length-i∧s=S i) ⟨0,zI _,rfl,rfl⟩ ?_
 rintro m s ⟨i,hi,rfl,rfl⟩
 simp only [S]
 refine W_seq ?_
 refine wR ?_;simp only [xq,reduceIte,qE,qA,qL,qD,cgRows_len]
 refine W_cond rfl (fun hc=>W_skip ?_) (fun hc=>W_exit ?_)
 ·have hlt:i<l.length:=by simpa using hc
  have w1:IntKind.i64.wrap ((i:Int)+1)=((i+1:Nat):Int):=by rw [i64_of (by omega)];omega
  have hb:=hl.bnd i
  have hgl:=hl.gl _ (List.getElem_mem hlt)
  have hsu:=cost20_succ hlt
  have hone:=cgRows_one hlt
  have hcc:costC l[i]=if l[i].kind=1∨l[i].kind=4 then 1 else if l[i].kind=2 then 3 else if l[i].kind=3 then cost1 l[i] else 0:=rfl
  obtain ⟨c,hcd⟩:∃ c,c=l[i]:=⟨_,rfl⟩
  have hcg:(cgRows l).getD i []=c.ds:=by rw [cgRows_get hlt,← hcd]
  rw [← hcd] at hgl hsu hone hcc
  have hC:=Hc c hgl
  have hcb:=costC_bnd hgl
  obtain ⟨n0,hn0⟩:∃ n,n=cost20 (l.take i):=⟨_,rfl⟩
  rw [← hn0] at hb hsu
  simp only [← hn0]
  simp only [xq,reduceIte,qE,qA,qL,qD]
  let T:Int→St:=fun n=>⟨look [(0,cgsA l),(3,.int n),(4,.int i)],[]⟩
  refine W_cut (· = T (n0+costC c)) ?_ ?_
  ·refine W_block ?_
   let V:St:=⟨look [(0,cgsA l),(3,.int n0),(4,.int i),(15,.int c.kind)],[]⟩
   refine wR ?_;simp only [xq,reduceIte,qE,qA,qL,qD,cgRows_len,hcg,Cg.ds,zQ]
   refine ⟨by omega,by omega,?_⟩
   refine W_co (s':=V) (Co.keep _ (by simp [x_upd,x_look])) ?_
   have fin:∀ (sl:Nat→A) (h:Heap) (n:Int),sl 0=cgsA l→sl 3 = .int n→sl 4 = .int i→n=n0+costC c→∃ s1,Co 0 ⟨sl,h⟩ s1∧s1=T (n0+costC c):=by
    intro sl h n q0 q3 q4 hn
    refine ⟨_,Co.to (s:=⟨sl,h⟩) [(0,cgsA l),(3,.int n),(4,.int i)] 0 ?_ (zI _) (zI _) u0,?_⟩
    ·simp [q0,q3,q4,A.under]
    ·rw [hn];rfl
   simp only [V]
   refine W_block ?_
   refine W_cut (· = ⟨look [(0,cgsA l),(3,.int n0),(4,.int i),(15,.int c.kind),(16,.bool (decide (c.kind=1)||decide (c.kind=4)))],[]⟩) ?_ ?_
   ·refine wR ?_;simp only [xq,reduceIte,qE,qA,qL,qD]
    refine W_cond rfl (fun hd=>W_skip ?_) (fun hd=>W_reg ?_)
    ·exact ⟨rfl,_,Co.keep _ (by simp [x_upd,x_look,hd]),rfl⟩
    ·simp only [xq,reduceIte,qE,qA,qL,qD]
     exact ⟨_,Co.keep _ (by simp [x_upd,x_look,hd]),rfl⟩
   rintro _ rfl
   refine W_cond rfl (fun hd=>?_) (fun hd=>?_)
   ·have hd:c.kind=1∨c.kind=4:=by simpa using hd
    rw [if_pos hd] at hcc
    have w2:IntKind.i64.wrap (n0+1)=n0+1:=i64_of (by omega)
    refine W_reg ?_;simp only [xq,reduceIte,qE,qA,qL,qD,w2]
    exact fin _ _ (n0+1) rfl rfl rfl (by rw [hcc])
   have hd:¬ (c.kind=1∨c.kind=4):=by simpa using hd
   rw [if_neg hd] at hcc
   refine wR ?_;simp only [xq,reduceIte,qE,qA,qL,qD]
   refine W_cond rfl (fun hd2=>?_) (fun hd2=>?_)
   ·have hd2:=of_decide_eq_true hd2
    rw [if_pos hd2] at hcc
    have w2:IntKind.i64.wrap (n0+3)=n0+3:=i64_of (by omega)
    refine W_reg ?_;simp only [xq,reduceIte,qE,qA,qL,qD,w2]
    exact fin _ _ (n0+3) rfl rfl rfl (by rw [hcc])
   have hd2:=of_decide_eq_false hd2
   rw [if_neg hd2] at hcc
   refine wR ?_;simp only [xq,reduceIte,qE,qA,qL,qD]
   refine W_cond rfl (fun hd3=>?_) (fun hd3=>W_skip ?_)
   ·have hd3:=of_decide_eq_true hd3
    rw [if_pos hd3] at hcc
    have w2:IntKind.i64.wrap (n0+cost1 c)=n0+cost1 c:=by rw [← hcc];exact i64_of (by omega)
    refine W_reg ?_;simp only [xq,reduceIte,qE,qA,qL,qD,w1,zQ,show (((i+1:Nat):Int)-(i:Int)).toNat=1 by omega,hone,cgRows_len]
    repeat refine And.intro (by omega) ?_
    refine c_fn (hC) rfl ?_;simp only [xq,reduceIte,qE,qA,qL,qD,w2]
    exact fin _ _ (n0+cost1 c) rfl rfl rfl (by rw [hcc])
   ·have hd3:=of_decide_eq_false hd3
    rw [if_neg hd3] at hcc
    simp only [xq,reduceIte,qE,qA,qL,qD]
    exact fin _ _ n0 rfl rfl rfl (by rw [hcc,Int.add_zero])
  rintro _ rfl
  simp only [T]
  refine W_reg ?_;simp only [xq,reduceIte,qE,qA,qL,qD,w1]
  exact ⟨l.length-(i+1),S (i+1),by omega,Co.keep _ (by simp [x_upd,x_look,hsu]),i+1,hlt,rfl,rfl⟩
 ·have hle:i=l.length:=by simp at hc;omega
  subst hle
  simp only [xq,reduceIte,qE,qA,qL,qD]
  refine wR ?_;simp only [xq,reduceIte,qE,qA,qL,qD]
  refine W_ret (.tmp ?_ rfl)
  simp only [x_upd,reduceIte,List.take_length,xq,reduceIte,qE,qA,qL,qD]
theorem rcost17_fn {f:FuncId} (H:FnIs P f N [.t 2] x_ref17_Cost) (hN:1≤N):Cost1Ok Γ P f:=by
 intro c hg
 refine .of_W H (by simpa using hN) ?_
 unfold x_ref17_Cost
 refine wR ?_;simp only [xq,reduceIte,qE,qA,qL,qD]
 refine wR ?_;simp only [xq,reduceIte,qE,qA,qL,qD]
 refine W_seq ?_
 refine wR ?_;simp only [xq,reduceIte,qE,qA,qL,qD]
 refine W_block ?_
 let S:Nat→Int→St:=fun i n=>⟨look [(0,cgsA [c]),(3,.int n),(4,.int i)],[]⟩
 refine W_co (s':=S 0 0) (Co.keep _ (by simp [x_upd,x_look])) ?_
 refine W_loop (fun m s=>(m=1∧s=S 0 0)∨(m=0∧s=S 1 (cost1 c))) (.inl ⟨rfl,rfl⟩) ?_
 rintro m s (⟨rfl,rfl⟩ | ⟨rfl,rfl⟩)
 ·simp only [S]
  refine W_seq ?_
  refine wR ?_;simp only [xq,reduceIte,qE,qA,qL,qD,cgRows_len]
  refine W_cond rfl (fun hc=>W_skip ?_) (fun hc=>by cases hc)
  have hcg:(cgRows [c]).getD 0 []=c.ds:=rfl
  obtain ⟨k,hk⟩:∃ k,k=max 0 (min c.count 1000):=⟨_,rfl⟩
  have hk1:0≤k∧k≤1000:=by omega
  have w2:IntKind.i64.wrap (0+2)=2:=by decide
  have w3:IntKind.i64.wrap (2+k)=2+k:=i64_of (by omega)
  have w4:IntKind.i64.wrap (2+k+c.gl.length)=cost1 c:=by rw [i64_of (by omega),hk];rfl
  have w1:IntKind.i64.wrap (0+1)=1:=by decide
  simp only [xq,reduceIte,qE,qA,qL,qD]
  refine W_seq (W_block ?_)
  refine wR ?_;simp only [xq,reduceIte,qE,qA,qL,qD,cgRows_len,hcg,Cg.ds,(by decide:Int.toNat 0=0),Int.natCast_zero]
  refine ⟨by decide,by decide,?_⟩
  refine W_cut (· = ⟨look [(0,cgsA [c]),(3,.int 0),(4,.int 0),(5,.int (max 0 c.count))],[]⟩) ?_ ?_
  ·refine wR ?_;simp only [xq,reduceIte,qE,qA,qL,qD]
   refine W_cond rfl (fun hd=>?_) (fun hd=>W_skip ?_)
   ·have hd:=of_decide_eq_true hd
    refine W_reg ?_;simp only [xq,reduceIte,qE,qA,qL,qD]
    exact ⟨_,Co.keep _ (by simp [x_upd,x_look,show max 0 c.count=0 by omega]),rfl⟩
   ·have hd:=of_decide_eq_false hd
    exact ⟨rfl,_,Co.keep _ (by simp [x_upd,x_look,show max 0 c.count=c.count by omega]),rfl⟩
  rintro _ rfl
  refine W_cut (· = ⟨look [(0,cgsA [c]),(3,.int 0),(4,.int 0),(5,.int k)],[]⟩) ?_ ?_
  ·refine wR ?_;simp only [xq,reduceIte,qE,qA,qL,qD]
   refine W_cond rfl (fun hd=>?_) (fun hd=>W_skip ?_)
   ·have hd:=of_decide_eq_true hd
    refine W_reg ?_;simp only [xq,reduceIte,qE,qA,qL,qD]
    exact ⟨_,Co.keep _ (by simp [x_upd,x_look,show k=1000 by omega]),rfl⟩
   ·have hd:=of_decide_eq_false hd
    exact ⟨rfl,_,Co.keep _ (by simp [x_upd,x_look,show k=max 0 c.count by omega]),rfl⟩
  rintro _ rfl
  refine W_reg ?_;simp only [xq,reduceIte,qE,qA,qL,qD,cgRows_len,hcg,Cg.ds,glRows_len,w2,w3,w4,(by decide:Int.toNat 0=0),Int.natCast_zero]
  refine ⟨by decide,by decide,?_⟩
  refine W_reg ?_;simp only [xq,reduceIte,qE,qA,qL,qD,w1]
  exact ⟨0,S 1 (cost1 c),by decide,Co.keep _ (by simp [x_upd,x_look]),.inr ⟨rfl,rfl⟩⟩
 ·simp only [S]
  refine W_seq ?_
  refine wR ?_;simp only [xq,reduceIte,qE,qA,qL,qD,cgRows_len]
  refine W_cond rfl (fun hc=>by cases hc) (fun hc=>W_exit ?_)
  simp only [xq,reduceIte,qE,qA,qL,qD]
  refine wR ?_;simp only [xq,reduceIte,qE,qA,qL,qD]
  refine W_ret (.tmp ?_ rfl)
  simp only [x_upd,reduceIte]
def InsR (h:Heap) (l:List Nat) (x:A):Prop:=∃ q,x = .ref q l.length 0 l.length true∧h[q]? = some (inLB l)
theorem InsR.frz {h:Heap} {l:List Nat} {x:A} (o:InsR h l x):FrzA 0 h x (insA l):=by
 obtain ⟨q,rfl,hq⟩:=o
 have:=frz_all (id:=q) (full:=true) (e:=eInt) hq
 rw [inRows_len] at this
 exact this
end Go.Proofs.YtigfbnglplbbpaaGreatDoor.Nx

import Derived.Test.YtlllnjhgjijnkaaGreatDoorNxJ9
import Derived.Test.YtlllnjhgjijnkaaGreatDoorNxE29
set_option linter.unusedSimpArgs false
set_option linter.unusedVariables false
set_option linter.unnecessarySimpa false
open List renaming getElem?_eq_getElem → zB
open Bool renaming true_eq_false → zE
open Int renaming toNat_natCast → zQ
open Nat renaming reduceEqDiff → qE, reduceAdd → qA, reduceLT → qL, reduceLeDiff → qD
namespace Go.Proofs.YtlllnjhgjijnkaaGreatDoor.Nx
open Go
variable {P:Program} {N:Nat} {Γ:Tabs}
abbrev TSameOk (Γ:Tabs) (P:Program) (f:FuncId):Prop:=∀ a b:Tl,FnP Γ P f [tlA a,tlA b] (.bool (decide (a=b)))
def headT (a b:Tl):Bool:=((decide (a.first=b.first)&&decide (a.began=b.began))&&decide (a.base=b.base))&&decide (a.steps.length=b.steps.length)
theorem headT_eq {a b:Tl} (h:headT a b=true) (hs:a.steps=b.steps):a=b:=by
 simp only [headT,Bool.and_eq_true,decide_eq_true_eq] at h
 obtain ⟨⟨⟨h1,h2⟩,h3⟩,_⟩:=h
 cases a;cases b;simp only at h1 h2 h3 hs;subst h1 h2 h3 hs;rfl
set_option maxHeartbeats 2000000 in
theorem tsame_fn {f fv fc:FuncId} (H:FnIs P f N [.t 4] (x_ref21_Same fv fc)) (hN:2≤N) (Hv:SameOk Γ P fv) (Hc:CgsSameOk Γ P fc):TSameOk Γ P f:=by
 intro a b
 refine .of_W H (by simpa using hN) ?_
 have hv:=Hv a.base b.base
 unfold x_ref21_Same
 simp only [tlA,vwA,Vw.ds,Tl.ds,List.map_cons,List.map_nil] at hv ⊢
 refine W_aggsl 0 8 rfl rfl fun ⟨_,hmx,_⟩=>?_
 rw [stRows_len] at hmx
 have hmx:=le_of_mul hmx
 simp only [room] at hmx
 have fin:∀ (sl:Nat→A) (h:Heap) (r:Bool),sl 4 = .bool r→decide (a=b)=r→RetQ [.t 4] (.bool (decide (a=b))) .ret ⟨sl,h⟩:=fun sl h r h2 hr=>by
  rw [hr];exact .tmp h2 rfl
 refine wR ?_;simp only [xq,reduceIte,qE,qA,qL,qD]
 refine W_seq ?_
 refine W_cut (· = ⟨look [(2,.ptr 0 1 0 0),(3,.ptr 1 1 0 0),(34,.bool (!headT a b))],[tlB a,tlB b]⟩) (W_reg ?_) ?_
 ·refine run_take 6 fun K1 hK1=>?_
  simp only [xq,reduceIte,qE,qA,qL,qD]
  refine hK1 _ ?_
  clear hK1 K1
  refine run_take 7 fun K1 hK1=>?_
  cases e1:decide (a.first=b.first)
  ·simp only [xq,reduceIte,qE,qA,qL,qD,undefA,zE]
   refine hK1 _ ?_
   clear hK1 K1
   simp only [xq,reduceIte,qE,qA,qL,qD,undefA,zE]
   exact ⟨_,Co.keep _ (by simp [x_upd,x_look,headT,e1,Tl.ds]),rfl⟩
  ·simp only [xq,reduceIte,qE,qA,qL,qD,undefA,zE]
   refine hK1 _ ?_
   clear hK1 K1
   refine run_take 8 fun K1 hK1=>?_
   cases e2:decide (a.began=b.began)
   ·simp only [xq,reduceIte,qE,qA,qL,qD,undefA,zE]
    refine hK1 _ ?_
    clear hK1 K1
    simp only [xq,reduceIte,qE,qA,qL,qD,undefA,zE]
    exact ⟨_,Co.keep _ (by simp [x_upd,x_look,headT,e1,e2,Tl.ds]),rfl⟩
   ·simp only [xq,reduceIte,qE,qA,qL,qD,undefA,zE]
    refine c_fn (hv) rfl ?_;simp only [xq,reduceIte,qE,qA,qL,qD]
    refine hK1 _ ?_
    clear hK1 K1
    cases e3:decide (a.base=b.base)
    ·simp only [xq,reduceIte,qE,qA,qL,qD,undefA,zE]
     exact ⟨_,Co.keep _ (by simp [x_upd,x_look,headT,e1,e2,e3,Tl.ds]),rfl⟩
    ·simp only [xq,reduceIte,qE,qA,qL,qD,undefA,zE,stRows_len]
     refine ⟨_,Co.keep _ ?_,rfl⟩
     have:decide ((a.steps.length:Int)=(b.steps.length:Int))=decide (a.steps.length=b.steps.length):=by rw [decide_eq_decide];omega
     simp [x_upd,x_look,headT,e1,e2,e3,Tl.ds,this]
 rintro _ rfl
 refine W_cond rfl (fun h1=>?_) (fun h1=>W_skip ?_)
 ·have h1:headT a b=false:=by simpa using h1
  refine wR ?_;simp only [xq,reduceIte,qE,qA,qL,qD]
  refine W_ret (fin _ _ false rfl ?_)
  refine decide_eq_false ?_
  rintro rfl
  simp [headT] at h1
 have h1:headT a b=true:=by simpa using h1
 have hlen:a.steps.length=b.steps.length:=by simp only [headT,Bool.and_eq_true,decide_eq_true_eq] at h1;exact h1.2
 simp only [xq,reduceIte,qE,qA,qL,qD]
 refine W_seq ?_
 refine wR ?_;simp only [xq,reduceIte,qE,qA,qL,qD]
 refine W_block ?_
 let S:Nat→St:=fun i=>⟨look [(2,.ptr 0 1 0 0),(3,.ptr 1 1 0 0),(5,.int i)],[tlB a,tlB b]⟩
 refine W_co (s':=S 0) (Co.keep _ (by simp [x_upd,x_look])) ?_
 refine W_loop (fun m s=>∃ i,i≤a.steps.length∧m=a.steps.length-i∧s=S i∧a.steps.take i=b.steps.take i) ⟨0,Nat.zero_le _,rfl,rfl,by simp⟩ ?_
 rintro m s ⟨i,hi,rfl,rfl,hpre⟩
 simp only [S]
 refine W_seq (W_seq ?_)
 refine W_reg ?_;simp only [xq,reduceIte,qE,qA,qL,qD,Tl.ds,stRows_len]
 refine W_cond rfl (fun hc=>W_skip ?_) (fun hc=>W_exit ?_)
 ·have hlt:i<a.steps.length:=by simpa using hc
  have hltb:i<b.steps.length:=by omega
  have w1:IntKind.i64.wrap ((i:Int)+1)=((i+1:Nat):Int):=by rw [i64_of (by omega)];omega
  obtain ⟨x,hx⟩:∃ x,x=a.steps[i]:=⟨_,rfl⟩
  obtain ⟨y,hy⟩:∃ y,y=b.steps[i]:=⟨_,rfl⟩
  have hxr:(stRows a.steps).getD i []=x.ds:=by rw [stRows_get hlt,hx]
  have hyr:(stRows b.steps).getD i []=y.ds:=by rw [stRows_get hltb,hy]
  have hcs:=Hc x.chs y.chs
  simp only [xq,reduceIte,qE,qA,qL,qD]
  refine W_seq (W_block ?_)
  refine W_cut (· = ⟨look [(2,.ptr 0 1 0 0),(3,.ptr 1 1 0 0),(5,.int i),(70,.bool (!decide (x.time=y.time) || !decide (x.chs=y.chs)))],[tlB a,tlB b]⟩) (W_drw (by simp) ?_) ?_
  ·refine run_take 14 fun K1 hK1=>?_
   simp only [xq,reduceIte,qE,qA,qL,qD,Tl.ds,stRows_len,hxr,hyr,Stp.ds,zQ]
   repeat refine And.intro (by omega) ?_
   refine hK1 _ ?_
   clear hK1 K1
   cases e1:decide (x.time=y.time)
   ·simp only [xq,reduceIte,qE,qA,qL,qD,undefA,zE]
    exact ⟨_,Co.keep _ (by simp [x_upd,x_look]),rfl⟩
   ·simp only [xq,reduceIte,qE,qA,qL,qD,Tl.ds,stRows_len,hxr,hyr,Stp.ds,zQ,undefA,zE]
    repeat refine And.intro (by omega) ?_
    refine c_fn (hcs) rfl ?_;simp only [xq,reduceIte,qE,qA,qL,qD]
    exact ⟨_,Co.keep _ (by simp [x_upd,x_look]),rfl⟩
  rintro _ rfl
  refine W_cond rfl (fun h2=>?_) (fun h2=>W_skip ?_)
  ·refine wR ?_;simp only [xq,reduceIte,qE,qA,qL,qD]
   refine W_ret (fin _ _ false rfl ?_)
   refine decide_eq_false ?_
   rintro rfl
   rw [← hy] at hx
   subst hx
   simp at h2
  ·have hxy:x=y:=by
    simp only [Bool.or_eq_false_iff,Bool.not_eq_false',decide_eq_true_eq] at h2
    cases x;cases y;simp only at h2;obtain ⟨rfl,rfl⟩:=h2;rfl
   simp only [xq,reduceIte,qE,qA,qL,qD]
   refine W_reg ?_;simp only [xq,reduceIte,qE,qA,qL,qD,w1]
   refine ⟨a.steps.length-(i+1),S (i+1),by omega,Co.keep _ (by simp [x_upd,x_look]),i+1,hlt,rfl,rfl,?_⟩
   rw [List.take_add_one,List.take_add_one,hpre,zB hlt,zB hltb,← hx,← hy,hxy]
 ·have hie:i=a.steps.length:=by simp at hc;omega
  subst hie
  rw [List.take_length,hlen,List.take_length] at hpre
  simp only [xq,reduceIte,qE,qA,qL,qD]
  refine wR ?_;simp only [xq,reduceIte,qE,qA,qL,qD]
  exact W_ret (fin _ _ true rfl (decide_eq_true (headT_eq h1 hpre)))
end Go.Proofs.YtlllnjhgjijnkaaGreatDoor.Nx

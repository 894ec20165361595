import Derived.Test.YtlllnjhgjijnkaaDoorNxJ11
import Derived.Test.YtlllnjhgjijnkaaDoorNxEval
import Derived.Test.YtlllnjhgjijnkaaDoorNxDL
set_option linter.unusedSimpArgs false
set_option linter.unusedVariables false
set_option linter.unnecessarySimpa false
open Nat renaming zero_le → zI
open Int renaming toNat_natCast → zQ
open List renaming append_assoc → zS, map_cons → zU, map_nil → zV, not_mem_nil → zc, mem_cons → zp
open Nat renaming reduceEqDiff → qE, reduceAdd → qA, reduceLT → qL, reduceLeDiff → qD
namespace Go.Proofs.YtlllnjhgjijnkaaDoor.Nx
open Go
variable {P:Program} {N:Nat} {Γ:Tabs}
def liV:Vw:=⟨2,1,[[]],0,0,true⟩
def liW:Vw:=⟨2,1,[[⟨⟨#[120]⟩,false,0⟩]],0,0,true⟩
theorem momsL_sm {v w:Vw} (sv:Sm v 140) (sw:Sm w 140) {a n:Nat}:∀ x∈mmL v w a::momsL v w a n,Sm x.view 140:=by
 have hm:∀ i,Sm (mmL v w i).view 140:=fun i=>by
  unfold mmL;simp only;split
  ·exact sv
  ·exact sw
 intro x hx
 rcases zp.1 hx with rfl | hx
 ·exact hm a
 ·simp only [momsL,List.mem_map] at hx
  obtain ⟨k,_,rfl⟩:=hx
  exact hm _
theorem tlOf_base {a:Int} {m:Mom} {l:List Mom}:(tlOf a m l).base=m.view:=rfl
theorem tlOf_steps {a:Int} {m:Mom} {l:List Mom}:(tlOf a m l).steps=stpsOf m l:=rfl
theorem tlOf_began {a:Int} {m:Mom} {l:List Mom}:(tlOf a m l).began=m.time:=rfl
theorem tlOf_first' {a:Int} {m:Mom} {l:List Mom}:(tlOf a m l).first=a:=rfl
theorem tok_limT {v w:Vw} {i:Nat} (h:MomsOk (mmL v w (i-200)) (momsL v w (i-200) (min i 200))) (sv:Sm v 140) (sw:Sm w 140):TOk (limT v w i).base (limT v w i).steps:=by
 rw [limT,tlOf_base,tlOf_steps]
 exact tok_of h (momsL_sm sv sw)
set_option maxHeartbeats 4000000 in
theorem limitLaw21_fn {f fn fa ft fe fl fk:FuncId} (H:FnIs P f N [.t 2] (x_law21_TimelineLimit fn fa ft fe fl fk)) (hN:1≤N) (Hn:TNewOk Γ P fn) (Ha:TAddOk Γ P fa) (Ht:TAtOk Γ P ft) (He:SameOk Γ P fe) (Hl:TLastOk Γ P fl) (Hk:FnP Γ P fk [] (.bool true))
  (hv:viewC liV=0) (hw:viewC liW=0) (n:Nat) (hn:n≤255):FnP Γ P f [.sc (.int .u8 (n:Int))] (.bool true):=by
 refine .of_W H (by simpa using hN) ?_
 unfold x_law21_TimelineLimit
 have hne:liV≠liW:=by decide
 have sv:Sm liV 140:=⟨by simp [liV],by simp [liV]⟩
 have sw:Sm liW 140:=⟨by simp [liW],by intro r hr g hg;simp only [liW,zp,zc,or_false] at hr;subst hr;simp only [zp,zc,or_false] at hg;subst hg;decide⟩
 have hnew:FnP Γ P fn [vwA liV,.int 0] (tlA (limT liV liW 0)):=by
  have:=Hn liV 0 (sv.mono (by omega))
  rw [limT_zero (w:=liW) hv] at this
  exact this
 have hsm:∀ i,Sm (mmL liV liW i).view 140:=fun i=>by
  unfold mmL;simp only;split
  ·exact sv
  ·exact sw
 have hokL:∀ i,i≤255→MomsOk (mmL liV liW (i-200)) (momsL liV liW (i-200) (min i 200)):=fun i hi=>momsL_ok hv hw (by omega)
 have htokL:∀ i,i≤255→TOk (limT liV liW i).base (limT liV liW i).steps:=fun i hi=>tok_limT (hokL i hi) sv sw
 have hadd:∀ i,i+1≤255→FnP Γ P fa [tlA (limT liV liW i),vwA (mmL liV liW (i+1)).view,.int ((i+1:Nat):Int)] (tlE (limT liV liW (i+1),0)):=fun i hi=>by
  have:=Ha (limT liV liW i) (mmL liV liW (i+1)).view ((i+1:Nat):Int) (htokL i (by omega)) (hsm _) (by
   rw [limT,tlOf_base,tlOf_steps,finV_of (hokL i (by omega)),momsL_last];exact hsm _)
  rw [limT_succ hv hw hne i hi] at this
  exact this
 have hat:FnP Γ P ft [tlA (limT liV liW n),.int (n:Int)] (vwE ((mmL liV liW n).view,0)):=by
  have:=Ht (limT liV liW n) n (htokL n hn)
  rw [limT_at hv hw n hn] at this
  exact this
 have hfirst:(limT liV liW n).first=((n-200:Nat):Int):=by rw [limT,tlOf_first']
 have hbegan:(limT liV liW n).began=((n-200:Nat):Int):=by rw [limT,tlOf_began];rfl
 have hslen:(limT liV liW n).steps.length=min n 200:=by
  rw [limT,tlOf_steps,stpsOf_len,momsL_len]
 have hlast:FnP Γ P fl [tlA (limT liV liW n)] (.int (n:Int)):=by
  have:=Hl (limT liV liW n) (by rw [hfirst];omega) (by rw [hslen];omega)
  rw [show lastT (limT liV liW n)=(n:Int) by rw [lastT,hfirst,hslen];omega] at this
  exact this
 have heq:=He (mmL liV liW n).view (mmL liV liW n).view
 rw [decide_eq_true rfl] at heq
 refine wR ?_;simp only [xq,reduceIte,qE,qA,qL,qD]
 refine wR ?_;simp only [xq,reduceIte,qE,qA,qL,qD]
 refine wR ?_;simp only [xq,reduceIte,qE,qA,qL,qD]
 refine wR ?_;simp only [xq,reduceIte,qE,qA,qL,qD]
 refine W_co (Co.frz [(0,.sc (.int .u8 (n:Int))),(3,.iptr liV.ds),(4,.iptr liW.ds)] 0 ?_ (zI _) (zI _) (by simp)) ?_
 ·intro p hp
  simp only [zp,zc,or_false] at hp
  rcases hp with rfl | rfl | rfl
  ·exact .same rfl
  ·exact (frz_ok (dflt:=⟨3,32⟩) 10).1 _ _ rfl
  ·exact (frz_ok (dflt:=⟨3,32⟩) 10).1 _ _ rfl
 simp only [List.take_zero]
 simp only [tlA,Tl.ds,vwA,Vw.ds,zU,zV] at hnew
 refine wR ?_;simp only [xq,reduceIte,qE,qA,qL,qD,Vw.ds]
 refine c_fn (hnew) rfl ?_;simp only [xq,reduceIte,qE,qA,qL,qD]
 refine W_seq ?_
 refine wR ?_;simp only [xq,reduceIte,qE,qA,qL,qD]
 refine W_block ?_
 let S:Nat→Heap→St:=fun i hp=>⟨look [(0,.sc (.int .u8 (n:Int))),(3,.iptr liV.ds),(4,.iptr liW.ds),(5,.ptr 0 1 0 0),(6,.int ((i+1:Nat):Int))],hp⟩
 refine W_co (s':=S 0 [tlB (limT liV liW 0)]) (Co.keep _ (by simp [x_upd,x_look,Vw.ds])) ?_
 refine W_loop (fun m s=>∃ i hp,i≤n∧m=n-i∧s=S i hp∧hp[0]? = some (tlB (limT liV liW i))) ⟨0,_,zI _,rfl,rfl,rfl⟩ ?_
 rintro mm s ⟨i,hp,hi,rfl,rfl,hp0⟩
 have hpl:0<hp.length:=(List.getElem?_eq_some_iff.1 hp0).1
 have wn:IntKind.i64.wrap (n:Int)=(n:Int):=i64_of (by omega)
 simp only [S]
 refine W_seq (W_seq ?_)
 refine W_reg ?_;simp only [xq,reduceIte,qE,qA,qL,qD,wn]
 refine W_cond rfl (fun hc=>W_skip ?_) (fun hc=>W_exit ?_)
 ·have hlt:i+1≤n:=by have:=of_decide_eq_true hc;omega
  have w1:IntKind.i64.wrap (((i+1:Nat):Int)+1)=((i+1+1:Nat):Int):=by rw [i64_of (by omega)];omega
  have hA:=hadd i (by omega)
  have hmv:(mmL liV liW (i+1)).view=if (i+1) % 2=0 then liV else liW:=rfl
  have hrem:(((i+1:Nat):Int)).tmod 2=(((i+1) % 2:Nat):Int):=by rw [Int.tmod_eq_emod_of_nonneg (by omega)];omega
  have g0:∀ tt:Heap,(hp++tt)[0]? = some (tlB (limT liV liW i)):=fun tt=>hp_gl hp0
  simp only [xq,reduceIte,qE,qA,qL,qD]
  refine W_seq (W_block ?_)
  refine W_cut (· = ⟨look [(0,.sc (.int .u8 (n:Int))),(3,.iptr liV.ds),(4,.iptr liW.ds),(5,.ptr 0 1 0 0),(6,.int ((i+1:Nat):Int)),(7,.ptr hp.length 1 0 0),(8,.int 0)],hp++[tlB (limT liV liW (i+1))]⟩) (W_drw (by simp) ?_) ?_
  ·simp only [tlE,tlA,Tl.ds,vwA,Vw.ds,zU,zV] at hA
   generalize limT liV liW (i+1)=t' at *
   generalize limT liV liW i=t at *
   rcases Nat.mod_two_eq_zero_or_one (i+1) with h2 | h2
   ·rw [h2] at hrem
    rw [hmv,if_pos h2] at hA
    simp only [xq,reduceIte,qE,qA,qL,qD,g0,Tl.ds,Vw.ds,b_rem (show (2:Int)≠0 by decide),hrem,zQ,Nat.zero_mul]
    repeat refine And.intro (by omega) ?_
    refine c_fn (hA) rfl ?_;simp only [xq,reduceIte,qE,qA,qL,qD,hp_g0,hp_g1,hp_gk,hp_s0,hp_sk,Tl.ds,zS]
    exact ⟨_,Co.keep [(0,.sc (.int .u8 (n:Int))),(3,.iptr liV.ds),(4,.iptr liW.ds),(5,.ptr 0 1 0 0),(6,.int ((i+1:Nat):Int)),(7,.ptr hp.length 1 0 0),(8,.int 0)] (by simp [x_upd,x_look,Vw.ds]),rfl⟩
   ·rw [h2] at hrem
    rw [hmv,if_neg (by omega)] at hA
    simp only [xq,reduceIte,qE,qA,qL,qD,g0,Tl.ds,Vw.ds,b_rem (show (2:Int)≠0 by decide),hrem,zQ,Nat.zero_mul]
    repeat refine And.intro (by omega) ?_
    refine c_fn (hA) rfl ?_;simp only [xq,reduceIte,qE,qA,qL,qD,hp_g0,hp_g1,hp_gk,hp_s0,hp_sk,Tl.ds,zS]
    exact ⟨_,Co.keep [(0,.sc (.int .u8 (n:Int))),(3,.iptr liV.ds),(4,.iptr liW.ds),(5,.ptr 0 1 0 0),(6,.int ((i+1:Nat):Int)),(7,.ptr hp.length 1 0 0),(8,.int 0)] (by simp [x_upd,x_look,Vw.ds]),rfl⟩
  rintro _ rfl
  refine W_seq (W_seq ?_)
  refine W_reg ?_;simp only [xq,reduceIte,qE,qA,qL,qD,(by decide:decide ((0:Int)=0)=true)]
  refine W_cond rfl (fun h=>by cases h) (fun _=>W_skip ?_)
  simp only [xq,reduceIte,qE,qA,qL,qD]
  have e1:∀ (tt:Heap) X,(hp++tt).set 0 X=hp.set 0 X++tt:=fun tt X=>List.set_append_left _ _ hpl
  refine W_reg ?_;simp only [xq,reduceIte,qE,qA,qL,qD,g0,e1,hp_gk,hp_g0,Tl.ds]
  repeat refine And.intro (by omega) ?_
  refine W_reg ?_;simp only [xq,reduceIte,qE,qA,qL,qD,w1]
  exact ⟨n-(i+1),S (i+1) _,by omega,Co.keep _ (by simp [x_upd,x_look]),i+1,_,hlt,rfl,rfl,by rw [List.getElem?_append_left (by simpa using hpl),List.getElem?_set_self hpl];rfl⟩
 ·have hie:i=n:=by have:=of_decide_eq_false hc;omega
  subst hie
  have sq:(stRows (limT liV liW i).steps).length=min i 200:=by rw [stRows_len,hslen]
  have hrem:((i:Int)).tmod 2=((i % 2:Nat):Int):=by rw [Int.tmod_eq_emod_of_nonneg (by omega)];omega
  have hmv:(mmL liV liW i).view=if i % 2=0 then liV else liW:=rfl
  have w5:minmaxInt true 0 (IntKind.i64.wrap ((i:Int)-200))=((i-200:Nat):Int):=by
   rw [i64_of (by omega)];simp only [minmaxInt,if_true];split<;>omega
  have w6:minmaxInt false (i:Int) 200=((min i 200:Nat):Int):=by
   clear hrem
   simp only [minmaxInt,Bool.false_eq_true,if_false];split<;>omega
  have d0:decide ((0:Int)=0)=true:=by decide
  have d1:decide ((i:Int)=(i:Int))=true:=decide_eq_true rfl
  have d2:decide (((i-200:Nat):Int)=((i-200:Nat):Int))=true:=decide_eq_true rfl
  have d3:decide (((min i 200:Nat):Int)=((min i 200:Nat):Int))=true:=decide_eq_true rfl
  generalize i-200=a at *
  generalize min i 200=b at *
  have hvw:(mmL liV liW i).view=liV∧i % 2=0∨(mmL liV liW i).view=liW∧i % 2=1:=by
   rw [hmv];split
   ·exact .inl ⟨rfl,by assumption⟩
   ·exact .inr ⟨rfl,by omega⟩
  clear hv hw hnew hokL htokL hadd hsm hmv
  generalize (mmL liV liW i).view=mv at *
  generalize limT liV liW i=t at *
  have g0:∀ tt:Heap,(hp++tt)[0]? = some (tlB t):=fun tt=>hp_gl hp0
  simp only [tlA,Tl.ds,vwE,vwA,Vw.ds,zU,zV] at hat hlast heq
  simp only [xq,reduceIte,qE,qA,qL,qD]
  refine wR ?_;simp only [xq,reduceIte,qE,qA,qL,qD,hp0,wn,Tl.ds]
  repeat refine And.intro (by omega) ?_
  refine c_fn (hat) rfl ?_;simp only [xq,reduceIte,qE,qA,qL,qD,Tl.ds,hp_g0,hp_g1,hp_gk,hp_s0,hp_sk]
  refine W_co (s':=⟨look [(0,.sc (.int .u8 (i:Int))),(3,.iptr liV.ds),(4,.iptr liW.ds),(5,.ptr 0 1 0 0),(9,.ptr hp.length 1 0 0),(10,.int 0)],hp++[vwB mv]⟩) (Co.keep _ (by simp [x_upd,x_look,Vw.ds])) ?_
  refine W_seq (W_drw (by simp) ?_)
  refine run_take 13 fun K1 hK1=>?_
  rcases hvw with ⟨rfl,h2⟩ | ⟨rfl,h2⟩
  all_goals rw [h2] at hrem
  all_goals simp only [xq,reduceIte,qE,qA,qL,qD,List.replicate_zero,hp_g0,hp_gk,d0,wn,Vw.ds,b_rem (show (2:Int)≠0 by decide),hrem,zQ,Nat.zero_mul]
  all_goals repeat refine And.intro (by omega) ?_
  all_goals refine c_fn (heq) rfl ?_;simp only [xq,reduceIte,qE,qA,qL,qD]
  all_goals refine hK1 _ ?_
  all_goals clear hK1 K1
  all_goals refine run_take 7 fun K1 hK1=>?_
  all_goals simp only [xq,reduceIte,qE,qA,qL,qD,Tl.ds,g0,wn]
  all_goals repeat refine And.intro (by omega) ?_
  all_goals refine c_fn (hlast) rfl ?_;simp only [xq,reduceIte,qE,qA,qL,qD,d1]
  all_goals refine hK1 _ ?_
  all_goals clear hK1 K1
  all_goals refine run_take 9 fun K1 hK1=>?_
  all_goals simp only [xq,reduceIte,qE,qA,qL,qD,Tl.ds,g0,wn,hfirst,w5,d2]
  all_goals repeat refine And.intro (by omega) ?_
  all_goals refine hK1 _ ?_
  all_goals clear hK1 K1
  all_goals refine run_take 9 fun K1 hK1=>?_
  all_goals simp only [xq,reduceIte,qE,qA,qL,qD,Tl.ds,g0,wn,sq,w6,d3]
  all_goals repeat refine And.intro (by omega) ?_
  all_goals refine hK1 _ ?_
  all_goals clear hK1 K1
  all_goals simp only [xq,reduceIte,qE,qA,qL,qD,Tl.ds,g0,wn,hfirst,hbegan,d2]
  all_goals repeat refine And.intro (by omega) ?_
  all_goals refine c_fn (Hk) rfl ?_;simp only [xq,reduceIte,qE,qA,qL,qD]
  all_goals refine W_ret (.tmp ?_ rfl)
  all_goals simp only [x_upd,reduceIte]
end Go.Proofs.YtlllnjhgjijnkaaDoor.Nx

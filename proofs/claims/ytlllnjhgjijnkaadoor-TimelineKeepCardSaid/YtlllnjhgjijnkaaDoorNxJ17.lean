import Derived.Test.YtlllnjhgjijnkaaDoorNxJ15
import Derived.Test.YtlllnjhgjijnkaaDoorNxDL
set_option linter.unusedSimpArgs false
set_option linter.unusedVariables false
set_option linter.unnecessarySimpa false
open List renaming getD_eq_getElem?_getD → zC, getElem?_map → zK, append_assoc → zS, map_cons → zU, map_nil → zV, mem_of_getElem? → zY, length_cons → za, getElem?_drop → zl, mem_cons → zp
open Bool renaming true_eq_false → zE
open Nat renaming reduceEqDiff → qE, reduceAdd → qA, reduceLT → qL, reduceLeDiff → qD
namespace Go.Proofs.YtlllnjhgjijnkaaDoor.Nx
open Go
variable {P:Program} {N:Nat} {Γ:Tabs}
theorem cnt_drop:∀ {d:Nat} {l:List Mom} {m x:Mom} {r:List Mom} {n:Int},MomsOk m l→(m::l).drop d=x::r→x.time≤n→(l.filter fun y=>decide (y.time≤n)).length=d+(r.filter fun y=>decide (y.time≤n)).length
 | 0,l,m,x,r,n,_,h,_=>by
  rw [List.drop_zero] at h
  injection h with h1 h2
  subst h2;omega
 | d+1,[],m,x,r,n,_,h,_=>by simp at h
 | d+1,y::l,m,x,r,n,hok,h,hx=>by
  rw [List.drop_succ_cons] at h
  have ih:=cnt_drop (d:=d) hok.2.2.2 h hx
  have hm:x∈y::l:=List.mem_of_mem_drop (i:=d) (by rw [h];exact List.mem_cons_self ..)
  have hy:y.time≤x.time:=by
   rcases zp.1 hm with rfl | hm
   ·exact Int.le_refl _
   ·exact MomsOk.sorted hok.2.2.2 x hm
  rw [List.filter_cons,if_pos (by simpa using Int.le_trans hy hx),za,ih]
  omega
set_option maxHeartbeats 4000000 in
theorem keepLaw21_fn {f fb fa fk fc fl ft fw fe:FuncId} (H:FnIs P f N [.t 4] (x_law21_TimelineKeep fb fa fk fc fl ft fw fe)) (hN:2≤N) (Hb:BuildOk Γ P fb) (Ha:FnP Γ P fa [] (.bool true)) (Hk:TKeepOk Γ P fk) (Hc:TCheckOk Γ P fc) (Hl:TLastOk Γ P fl)
  (Ht:TAtOk Γ P ft) (Hw:TWhenOk Γ P fw) (He:SameOk Γ P fe) (l:List Mom) (n:Int) (hn:0≤n∧n≤255):FnP Γ P f [mosA l,.sc (.int .u8 n)] (.bool true):=by
 refine .of_W H (by simpa using hN) ?_
 obtain ⟨r,hr⟩:∃ r,buildR l=r:=⟨_,rfl⟩
 have hb:=Hb l
 rw [hr] at hb
 unfold x_law21_TimelineKeep
 simp only [buE,tlA,Tl.ds,zU,zV] at hb
 refine wR ?_;simp only [xq,reduceIte,qE,qA,qL,qD]
 refine wR ?_;simp only [xq,reduceIte,qE,qA,qL,qD]
 refine c_fn (hb) rfl ?_;simp only [xq,reduceIte,qE,qA,qL,qD]
 refine W_co (s':=⟨look [(1,.sc (.int .u8 n)),(5,.ptr 0 1 0 0),(6,mosA r.2.1),(7,.bool r.2.2)],[tlB r.1]⟩) (Co.keep _ (by simp [x_upd,x_look])) ?_
 refine W_seq ?_
 refine wR ?_;simp only [xq,reduceIte,qE,qA,qL,qD]
 rcases buildR_ok hr with hz | ⟨m0,ins,rfl,hok,hin,hsm⟩
 ·refine W_cond (t:=true) (by simp [ev,x_upd,hz]) (fun _=>?_) (fun h=>by cases h)
  refine wR ?_;simp only [xq,reduceIte,qE,qA,qL,qD]
  refine c_fn (Ha) rfl ?_;simp only [xq,reduceIte,qE,qA,qL,qD]
  refine W_ret (.tmp ?_ rfl)
  simp only [x_upd,reduceIte]
 refine W_cond rfl (fun h=>by cases h) (fun _=>W_skip ?_)
 obtain ⟨k,hk1,hk9,hkn⟩:∃ k:Nat,1≤k∧k≤9∧IntKind.i64.wrap ((IntKind.i64.wrap n).tmod 9+1)=(k:Int):=by
  have h1:IntKind.i64.wrap n=n:=i64_of (by omega)
  have h2:n.tmod 9=n % 9:=Int.tmod_eq_emod_of_nonneg hn.1
  refine ⟨(n % 9+1).toNat,by omega,by omega,?_⟩
  rw [h1,h2,i64_of (by omega)];omega
 obtain ⟨x,rs,hdr,hkp,hokx,hrl⟩:=keepT_of hok (by omega) hk1
 obtain ⟨d,hd⟩:∃ d,d=ins.length+1-k:=⟨_,rfl⟩
 rw [← hd] at hdr hkp
 have hdl:=congrArg List.length hdr
 rw [List.length_drop,za,za] at hdl
 have hsx:∀ y∈x::rs,Sm y.view 140:=fun y hy=>hsm y (List.mem_of_mem_drop (i:=d) (by rw [hdr];exact hy))
 have htok:=tok_of hok hsm
 have hutok:=tok_of hokx hsx
 have hkeep:=Hk (tlOf 0 m0 ins) k htok
 rw [hkp] at hkeep
 have hc:=Hc (tlOf (d:Int) x rs) hutok
 rw [chkT_of hokx (by omega) (by omega)] at hc
 have hl1:=Hl (tlOf 0 m0 ins) (by rw [tlOf_first];omega) (by show (stpsOf m0 ins).length≤_;rw [stpsOf_len];omega)
 have hl2:=Hl (tlOf (d:Int) x rs) (by rw [tlOf_first];omega) (by show (stpsOf x rs).length≤_;rw [stpsOf_len];omega)
 rw [show lastT (tlOf 0 m0 ins)=(ins.length:Int) by show (0:Int)+((stpsOf m0 ins).length:Int)=_;rw [stpsOf_len];omega] at hl1
 rw [show lastT (tlOf (d:Int) x rs)=(ins.length:Int) by show (d:Int)+((stpsOf x rs).length:Int)=_;rw [stpsOf_len];omega] at hl2
 have hat:∀ (i:Nat),FnP Γ P ft [tlA (tlOf (d:Int) x rs),.int i] (vwE (if i<d then (zeroV,2) else if i<ins.length+1 then (((m0::ins).map (·.view)).getD i zeroV,0) else (zeroV,2))):=fun i=>by
  have:=Ht (tlOf (d:Int) x rs) i hutok
  rw [atT_of hokx (by omega) (by omega)] at this
  by_cases h1:i<d
  ·rw [if_neg (by omega)] at this;rw [if_pos h1];exact this
  ·rw [if_neg h1]
   by_cases h2:i<ins.length+1
   ·rw [if_pos (by omega),← hdr] at this
    rw [if_pos h2]
    have e:(((m0::ins).drop d).map (·.view)).getD ((i:Int)-(d:Int)).toNat zeroV=((m0::ins).map (·.view)).getD i zeroV:=by
     rw [zC,zC,List.map_drop,zl]
     congr 2;omega
    rw [e] at this
    exact this
   ·rw [if_neg (by omega)] at this;rw [if_neg h2];exact this
 have hw1:∀ n:Int,FnP Γ P fw [tlA (tlOf 0 m0 ins),.int n] (.tup [.int (if n<m0.time then ((0,2):Int × Int) else (0+((ins.filter fun x=>decide (x.time≤n)).length:Int),0)).1,.int (if n<m0.time then ((0,2):Int × Int) else (0+((ins.filter fun x=>decide (x.time≤n)).length:Int),0)).2]):=fun n=>by
  have:=Hw (tlOf 0 m0 ins) n htok
  rw [whenT_of hok (by omega) (by omega)] at this
  exact this
 have hw2:∀ n:Int,FnP Γ P fw [tlA (tlOf (d:Int) x rs),.int n] (.tup [.int (if n<x.time then ((0,2):Int × Int) else ((d:Int)+((rs.filter fun x=>decide (x.time≤n)).length:Int),0)).1,.int (if n<x.time then ((0,2):Int × Int) else ((d:Int)+((rs.filter fun x=>decide (x.time≤n)).length:Int),0)).2]):=fun n=>by
  have:=Hw (tlOf (d:Int) x rs) n hutok
  rw [whenT_of hokx (by omega) (by omega)] at this
  exact this
 have huf:(tlOf (d:Int) x rs).first=(d:Int):=rfl
 generalize tlOf 0 m0 ins=t at *
 generalize tlOf (d:Int) x rs=u at *
 simp only [tlA,Tl.ds,zU,zV] at hkeep hc hl1 hl2
 have d0:decide ((0:Int)=0)=true:=by decide
 have d1:decide (((ins.length:Nat):Int)=((ins.length:Nat):Int))=true:=decide_eq_true rfl
 have dd:decide ((d:Int)=(d:Int))=true:=decide_eq_true rfl
 have w5:minmaxInt true 0 (IntKind.i64.wrap (((ins.length+1:Nat):Int)-(k:Int)))=(d:Int):=by
  rw [i64_of (by omega)];simp only [minmaxInt,if_true];split<;>omega
 simp only [xq,reduceIte,qE,qA,qL,qD]
 refine wR ?_;simp only [xq,reduceIte,qE,qA,qL,qD,b_rem (show (9:Int)≠0 by decide),hkn]
 refine wR ?_;simp only [xq,reduceIte,qE,qA,qL,qD,Tl.ds]
 refine c_fn (hkeep) rfl ?_;simp only [xq,reduceIte,qE,qA,qL,qD]
 refine W_co (s':=⟨look [(5,.ptr 0 1 0 0),(6,mosA (m0::ins)),(8,.int k),(9,.ptr 1 1 0 0),(10,.int 0)],[tlB t,tlB u]⟩) (Co.keep _ (by simp [x_upd,x_look])) ?_
 refine W_seq ?_
 refine W_cut (· = ⟨look [(5,.ptr 0 1 0 0),(6,mosA (m0::ins)),(9,.ptr 1 1 0 0),(61,.bool false)],[tlB t,tlB u]⟩) (W_drw (by simp) ?_) ?_
 ·refine run_take 7 fun K1 hK1=>?_
  simp only [xq,reduceIte,qE,qA,qL,qD,List.replicate_zero,Tl.ds,d0]
  refine c_fn (hc) rfl ?_;simp only [xq,reduceIte,qE,qA,qL,qD,d0]
  refine hK1 _ ?_
  clear hK1 K1
  refine run_take 8 fun K1 hK1=>?_
  simp only [xq,reduceIte,qE,qA,qL,qD,Tl.ds]
  refine c_fn (hl2) rfl ?_;simp only [xq,reduceIte,qE,qA,qL,qD,Tl.ds]
  refine c_fn (hl1) rfl ?_;simp only [xq,reduceIte,qE,qA,qL,qD,d1]
  refine hK1 _ ?_
  clear hK1 K1
  simp only [xq,reduceIte,qE,qA,qL,qD,Tl.ds,huf,moRows_len,w5,dd]
  exact ⟨_,Co.keep [(5,.ptr 0 1 0 0),(6,mosA (m0::ins)),(9,.ptr 1 1 0 0),(61,.bool false)] (by simp [x_upd,x_look]),by simp only [Tl.ds,huf]⟩
 rintro _ rfl
 refine W_cond rfl (fun h=>by cases h) (fun _=>W_skip ?_)
 simp only [xq,reduceIte,qE,qA,qL,qD]
 refine W_seq ?_
 refine wR ?_;simp only [xq,reduceIte,qE,qA,qL,qD,moRows_len]
 refine W_block ?_
 let S:Nat→Heap→St:=fun i hp=>⟨look [(5,.ptr 0 1 0 0),(9,.ptr 1 1 0 0),(62,mosA (m0::ins)),(63,.int ((ins.length+1:Nat):Int)),(64,.int i)],hp⟩
 refine W_co (s':=S 0 [tlB t,tlB u]) (Co.keep _ (by simp [x_upd,x_look])) ?_
 refine W_loop (fun m s=>∃ i hp,i≤ins.length+1∧m=ins.length+1-i∧s=S i hp∧hp[0]? = some (tlB t)∧hp[1]? = some (tlB u)) ⟨0,_,Nat.zero_le _,rfl,rfl,rfl,rfl⟩ ?_
 rintro mm s ⟨i,hp,hi,rfl,rfl,hp0,hp1⟩
 have g0:∀ tt:Heap,(hp++tt)[0]? = some (tlB t):=fun tt=>hp_gl hp0
 have g1:∀ tt:Heap,(hp++tt)[1]? = some (tlB u):=fun tt=>hp_gl hp1
 simp only [S]
 refine wR ?_;simp only [xq,reduceIte,qE,qA,qL,qD]
 refine W_seq (W_cond rfl (fun hc=>W_skip ?_) (fun hc=>W_exit ?_))
 ·have hlt:i<ins.length+1:=by have:=of_decide_eq_true hc;omega
  have w1:IntKind.i64.wrap ((i:Int)+1)=((i+1:Nat):Int):=by rw [i64_of (by omega)];omega
  obtain ⟨m,hm⟩:∃ m,(m0::ins)[i]? = some m:=⟨_,List.getElem?_eq_getElem (by simp only [za];omega)⟩
  have hmg:(moRows (m0::ins)).getD i []=m.ds:=by rw [zC,moRows,zK,hm];rfl
  have hmv:((m0::ins).map (·.view)).getD i zeroV=m.view:=by rw [zC,zK,hm];rfl
  have hati:=hat i
  rw [hmv,if_pos hlt] at hati
  obtain ⟨v,e,hve⟩:∃ v e,(if i<d then (zeroV,2) else (m.view,0):Vw × Int)=(v,e):=⟨_,_,rfl⟩
  rw [hve] at hati
  simp only [vwE,vwA,Vw.ds,tlA,Tl.ds,zU,zV] at hati
  simp only [xq,reduceIte,qE,qA,qL,qD]
  refine W_seq (W_block ?_)
  refine wR ?_;simp only [xq,reduceIte,qE,qA,qL,qD,moRows_len,hmg,Mom.ds,Int.toNat_natCast,hp_g0,hp_s0]
  repeat refine And.intro (by omega) ?_
  refine wR ?_;simp only [xq,reduceIte,qE,qA,qL,qD,g1,Tl.ds,hp_g0,hp_g1,hp_gk,hp_s0,hp_sk,zS]
  refine c_fn (hati) rfl ?_;simp only [xq,reduceIte,qE,qA,qL,qD,hp_g0,hp_g1,hp_gk,hp_s0,hp_sk,zS]
  refine W_seq ?_
  refine wR ?_;simp only [xq,reduceIte,qE,qA,qL,qD,g1,Tl.ds,huf]
  refine W_cond rfl (fun h1=>?_) (fun h1=>W_skip ?_)
  ·have h1:i<d:=by have:=of_decide_eq_true h1;omega
   rw [if_pos h1] at hve
   obtain ⟨rfl,rfl⟩:=Prod.mk.inj hve
   refine W_seq (W_seq ?_)
   refine W_reg ?_;simp only [xq,reduceIte,qE,qA,qL,qD,(by decide:decide ((2:Int)=2)=true)]
   refine W_cond rfl (fun h=>by cases h) (fun _=>W_skip ?_)
   refine W_exit ?_
   simp only [xq,reduceIte,qE,qA,qL,qD]
   refine W_reg ?_;simp only [xq,reduceIte,qE,qA,qL,qD,w1]
   exact ⟨ins.length+1-(i+1),S (i+1) _,by omega,Co.keep _ (by simp [x_upd,x_look]),i+1,_,by omega,rfl,rfl,g0 _,g1 _⟩
  ·have h1:¬ i<d:=by have:=of_decide_eq_false h1;omega
   rw [if_neg h1] at hve
   obtain ⟨rfl,rfl⟩:=Prod.mk.inj hve
   have hxm:(x::rs)[i-d]? = some m:=by rw [← hdr,zl,show d+(i-d)=i by omega];exact hm
   have hxt:x.time≤m.time:=by
    rcases zp.1 (zY hxm) with rfl | h
    ·exact Int.le_refl _
    ·exact MomsOk.sorted hokx m h
   have hmt:m0.time≤m.time:=by
    rcases zp.1 (zY hm) with rfl | h
    ·exact Int.le_refl _
    ·exact MomsOk.sorted hok m h
   have hcd:=cnt_drop hok hdr hxt
   have q1:=hw1 m.time
   have q2:=hw2 m.time
   rw [if_neg (by omega),hcd] at q1
   rw [if_neg (by omega)] at q2
   have hcl:(rs.filter fun y=>decide (y.time≤m.time)).length≤rs.length:=List.length_filter_le _ _
   generalize (rs.filter fun y=>decide (y.time≤m.time)).length=c at *
   have dc:decide ((0:Int)+((d+c:Nat):Int)=(d:Int)+(c:Int))=true:=decide_eq_true (by omega)
   have he:=He m.view m.view
   rw [decide_eq_true rfl] at he
   simp only [vwA,Vw.ds,tlA,Tl.ds,zU,zV] at q1 q2 he
   simp only [xq,reduceIte,qE,qA,qL,qD]
   refine wR ?_;simp only [xq,reduceIte,qE,qA,qL,qD,g0,hp_g0,hp_g1,hp_gk,Tl.ds,Mom.ds]
   refine c_fn (q1) rfl ?_;simp only [xq,reduceIte,qE,qA,qL,qD]
   refine wR ?_;simp only [xq,reduceIte,qE,qA,qL,qD,g1,hp_g0,hp_g1,hp_gk,Tl.ds,Mom.ds]
   refine c_fn (q2) rfl ?_;simp only [xq,reduceIte,qE,qA,qL,qD]
   refine W_sreg fun K hK=>?_
   refine run_take 9 fun K1 hK1=>?_
   simp only [xq,reduceIte,qE,qA,qL,qD,d0,hp_g0,hp_g1,hp_gk,Vw.ds,Mom.ds,undefA,zE]
   refine c_fn (he) rfl ?_;simp only [xq,reduceIte,qE,qA,qL,qD]
   refine hK1 _ ?_
   clear hK1 K1
   simp only [xq,reduceIte,qE,qA,qL,qD,d0,dc,undefA,zE]
   refine hK _ ?_
   refine W_cond rfl (fun h=>by cases h) (fun _=>W_skip ?_)
   simp only [xq,reduceIte,qE,qA,qL,qD]
   refine W_reg ?_;simp only [xq,reduceIte,qE,qA,qL,qD,w1]
   exact ⟨ins.length+1-(i+1),S (i+1) _,by omega,Co.keep _ (by simp [x_upd,x_look]),i+1,_,by omega,rfl,rfl,g0 _,g1 _⟩
 ·simp only [xq,reduceIte,qE,qA,qL,qD]
  refine wR ?_;simp only [xq,reduceIte,qE,qA,qL,qD]
  refine c_fn (Ha) rfl ?_;simp only [xq,reduceIte,qE,qA,qL,qD]
  refine W_ret (.tmp ?_ rfl)
  simp only [x_upd,reduceIte]
end Go.Proofs.YtlllnjhgjijnkaaDoor.Nx

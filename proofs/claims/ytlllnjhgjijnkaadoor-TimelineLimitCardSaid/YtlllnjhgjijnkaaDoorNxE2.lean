import Derived.Test.YtlllnjhgjijnkaaDoorNxE0
set_option linter.unusedSimpArgs false
set_option linter.unusedVariables false
set_option linter.unnecessarySimpa false
open List renaming getElem?_eq_some_iff → zA, getElem?_eq_getElem → zB, getD_eq_getElem?_getD → zC, getElem?_append_left → zF, getElem?_append_right → zG, getElem?_map → zK, getElem?_set_ne → zM, getElem?_set_self → zN, append_nil → zP, append_assoc → zS, map_cons → zU, map_nil → zV, not_mem_nil → zc, getElem_mem → zi, mem_cons → zp, replicate_zero → zr, set_append_left → zu
open Bool renaming true_eq_false → zE
open Option.some renaming injEq → zH
open Nat renaming zero_le → zI, le_refl → zL
open Int renaming toNat_natCast → zQ
open Nat renaming reduceEqDiff → qE, reduceAdd → qA, reduceLT → qL, reduceLeDiff → qD
namespace Go.Proofs.YtlllnjhgjijnkaaDoor.Nx
open Go
variable {P:Program} {N:Nat} {Γ:Tabs}
theorem W_under {Γ:Ctx} {rl:Option Nat} {n0:Nat} {c:XC} {Q:Exit→St→Prop} {s:St} (h:(∀ B∈s.heap,HB.under s.heap.length B)→W Γ P N rl n0 c Q s):W Γ P N rl n0 c Q s :=
 W_fact (fun z M ρ a w S=>by
  intro B hB
  obtain ⟨i,hi⟩:=List.mem_iff_getElem?.1 hB
  cases B with
  | cells e rows =>
   obtain ⟨_,_,_,_,k5⟩:=S.sim.cells i e rows hi
   intro r hr x hx
   obtain ⟨j,hj⟩:=List.mem_iff_getElem?.1 hr
   obtain ⟨l,hl⟩:=List.mem_iff_getElem?.1 hx
   rcases k5 with ⟨_,k5⟩ | ⟨b,p,cs,t,_,_,_,_,_,k5⟩
   ·subst k5;simp at hr
   ·obtain ⟨v,_,_,hv⟩:=k5 j r l x hj hl
    exact hv.under
  | obj o=>trivial
  | res=>trivial) h
theorem Co.back {n0:Nat} {sl:Nat→A} {h t:Heap} (l:List (Nat × A)) (hl:∀ p∈l,sl p.1=p.2∧p.2.under h.length=true) (hn:n0≤h.length) (hu:∀ B∈h,HB.under h.length B):Co n0 ⟨sl,h++t⟩ ⟨look l,h⟩:=by
 have:=Co.to (n0:=n0) (s:=⟨sl,h++t⟩) l h.length hl hn (by simp) (by simpa using hu)
 simpa using this
theorem hp_gl {h t:Heap} {q:Nat} {B:HB} (hq:h[q]? = some B):(h++t)[q]? = some B:=by
 rw [zF (zA.1 hq).1];exact hq
theorem hp_gk {h t:Heap} {k:Nat}:(h++t)[h.length+k]? = t[k]? := by rw [zG (by omega)];congr 1;omega
theorem hp_sk {h t:Heap} {k:Nat} {X:HB}:(h++t).set (h.length+k) X=h++t.set k X:=by rw [List.set_append_right _ _ (by omega)];congr 2;omega
theorem run_stage {F:Fns} {b:Nat} {K:St→Prop} {H:Heap} (n:Nat) (R:(Nat→A)→Prop) {l:List XOper} {s:St} (h1:∀ K':St→Prop,(∀ sl,R sl→K' ⟨sl,H⟩)→runX F b (l.take n) s K') (h2:∀ sl,R sl→runX F b (l.drop n) ⟨sl,H⟩ K):runX F b l s K :=
 run_take n fun K' hK'=>h1 K' fun sl hr=>hK' _ (h2 sl hr)
structure Sm (v:Vw) (n:Nat):Prop where
 row:∀ r∈v.rows,r.length≤n
 txt:∀ r∈v.rows,∀ g∈r,g.text.size≤1000
set_option maxHeartbeats 2000000 in
set_option maxRecDepth 10000 in
theorem ranges_fn {f fb:FuncId} {Δ:Ctx} (H:FnIs P f N [.t 4] (x_change_editor_ranges fb)) (hN:2≤N) (Hb:∀ n a b,FnP Δ.t P fb [.int n,.int a,.int b] (.bool (btw n a b))) {v:Vw} (c:Cg) (ed:Ed v) {m:Nat} (sm:Sm v m) (hm:m≤100000)
  {h:Heap} {id k:Nat} {R:List (List A)} (hb:Δ.b≤h.length) (e:EdIs h id v k R):FnD Δ P f [.ptr id 1 0 0,cgA c] h (.bool (rangeG v c)) h:=by
 refine .of_W H (by simpa using hN) hb (W_under fun hu=>?_)
 have hs:=szOk_iff.1 ed.sz
 have hlen:=ed.len
 have gid:∀ t:Heap,(h++t)[id]? = some (.cells eVw [edRow v k R.length]):=fun t=>hp_gl e.hid
 have gk:∀ t:Heap,(h++t)[k]? = some (.cells eRw R):=fun t=>hp_gl e.hk
 have hend:RetD [.t 4] (.bool (rangeG v c)) h .ret ⟨look [(4,.bool (rangeG v c))],h⟩:=⟨.inr rfl,by simp [readRs,readR,single,x_look]⟩
 have fin:∀ (sl:Nat→A) (t:Heap) (Q:Exit→St→Prop),sl 4 = .bool (rangeG v c)→Q .ret ⟨look [(4,.bool (rangeG v c))],h⟩→W Δ P N none h.length .ret Q ⟨sl,h++t⟩:=fun sl t Q h4 hQ =>
  W_co (Co.back _ (by simp [h4,A.under]) (zL _) hu) (W_ret hQ)
 have w1:IntKind.i64.wrap (v.height-1)=v.height-1:=i64_of (by omega)
 have w2:IntKind.i64.wrap (v.width-1)=v.width-1:=i64_of (by omega)
 unfold x_change_editor_ranges
 simp only [cgA,Cg.ds,zU,zV]
 refine wR ?_;simp only [xq,reduceIte,qE,qA,qL,qD,hp_g0,cgB,Cg.ds,hp_s0]
 refine W_seq ?_
 refine wR ?_;simp only [xq,reduceIte,qE,qA,qL,qD,hp_g0,cgB,Cg.ds]
 refine W_block ?_
 refine wR ?_;simp only [xq,reduceIte,qE,qA,qL,qD]
 refine W_cond rfl (fun hk=>?_) (fun hk=>?_)
 ·have hk:c.kind=1:=by simpa using hk
  have hr:rangeG v c=(btw c.row 1 60&&btw c.col 1 132):=by rw [rangeG,if_pos hk]
  have h1:=Hb c.row 1 60
  have h2:=Hb c.col 1 132
  cases e1:btw c.row 1 60
  ·rw [e1] at h1
   refine wR ?_;simp only [xq,reduceIte,qE,qA,qL,qD,hp_g0,cgB,Cg.ds]
   refine c_fn (h1) rfl ?_;simp only [xq,reduceIte,qE,qA,qL,qD,undefA,zE]
   refine fin _ _ _ ?_ ?_
   ·simp only [x_upd,reduceIte,hr,e1,Bool.false_and]
   ·simp only [xq,reduceIte,qE,qA,qL,qD];exact hend
  ·rw [e1] at h1
   refine wR ?_;simp only [xq,reduceIte,qE,qA,qL,qD,hp_g0,cgB,Cg.ds]
   refine c_fn (h1) rfl ?_;simp only [xq,reduceIte,qE,qA,qL,qD,undefA,zE,hp_g0,cgB,Cg.ds]
   refine c_fn (h2) rfl ?_;simp only [xq,reduceIte,qE,qA,qL,qD]
   refine fin _ _ _ ?_ ?_
   ·simp only [x_upd,reduceIte,hr,e1,Bool.true_and]
   ·simp only [xq,reduceIte,qE,qA,qL,qD];exact hend
 have hk1:¬ c.kind=1:=by simpa using hk
 refine wR ?_;simp only [xq,reduceIte,qE,qA,qL,qD]
 refine W_cond rfl (fun hk=>?_) (fun hk=>?_)
 ·have hk:c.kind=2:=by simpa using hk
  have hr:rangeG v c=(((((decide (0≤c.row)&&decide (c.row<c.upto))&&decide (c.upto≤v.height)) && !decide (c.count=0))&&decide (c.count<c.upto-c.row))&&decide (c.row-c.upto<c.count)):=by rw [rangeG,if_neg hk1,if_pos hk]
  have done:∀ (sl:Nat→A) (t:Heap) (b:Bool),sl 4 = .bool b→b=rangeG v c→W Δ P N none h.length .ret (blockQ 0 (thenQ (W Δ P N none h.length (x_change_editor_ranges fb).r.r (RetD [.t 4] (.bool (rangeG v c)) h)) (RetD [.t 4] (.bool (rangeG v c)) h))) ⟨sl,h++t⟩:=by
   intro sl t b h4 hb'
   subst hb'
   refine fin _ _ _ h4 ?_
   simp only [xq,reduceIte,qE,qA,qL,qD];exact hend
  have w3:(0≤c.row∧c.row<c.upto)∧c.upto≤v.height→IntKind.i64.wrap (c.upto-c.row)=c.upto-c.row∧IntKind.i64.wrap (c.row-c.upto)=c.row-c.upto:=fun q=>⟨i64_of (by omega),i64_of (by omega)⟩
  obtain ⟨B1,hB1⟩:∃ B,B=(decide (0≤c.row)&&decide (c.row<c.upto)):=⟨_,rfl⟩
  obtain ⟨B2,hB2⟩:∃ B,B=(B1&&decide (c.upto≤v.height)):=⟨_,rfl⟩
  obtain ⟨B3,hB3⟩:∃ B,B=(B2 && !decide (c.count=0)):=⟨_,rfl⟩
  obtain ⟨B4,hB4⟩:∃ B,B=(B3&&decide (c.count<c.upto-c.row)):=⟨_,rfl⟩
  have hB:rangeG v c=(B4&&decide (c.row-c.upto<c.count)):=by rw [hr,hB4,hB3,hB2,hB1]
  have h2t:B2=true→(0≤c.row∧c.row<c.upto)∧c.upto≤v.height:=fun h=>by
   rw [hB2,hB1] at h;simpa using h
  have h3t:B3=true→B2=true:=fun h=>by rw [hB3] at h;simp at h;exact h.1
  have h4t:B4=true→B3=true:=fun h=>by rw [hB4] at h;simp at h;exact h.1
  refine W_sdrw (by simp) fun K hK=>?_
  simp only [zr,zP]
  refine run_stage (H:=h++[cgB c]) 10 (fun sl=>sl 0 = .ptr id 1 0 0∧sl 3 = .ptr h.length 1 0 0∧sl 28 = .bool B1) (fun K' hK'=>?_) ?_
  ·cases e1:decide (0≤c.row)
   ·simp only [xq,reduceIte,qE,qA,qL,qD,hp_g0,cgB,Cg.ds,e1,undefA,zE]
    exact hK' _ ⟨rfl,rfl,by rw [hB1,e1];rfl⟩
   ·simp only [xq,reduceIte,qE,qA,qL,qD,hp_g0,cgB,Cg.ds,e1,undefA,zE]
    exact hK' _ ⟨rfl,rfl,by rw [hB1,e1];rfl⟩
  rintro sl ⟨s0,s3,sF⟩
  refine run_stage (H:=h++[cgB c]) 10 (fun sl=>sl 0 = .ptr id 1 0 0∧sl 3 = .ptr h.length 1 0 0∧sl 38 = .bool B2) (fun K' hK'=>?_) ?_
  ·cases B1
   ·simp only [xq,reduceIte,qE,qA,qL,qD,s0,s3,sF,undefA,zE]
    refine hK' _ ?_
    simp [x_upd,s0,s3,hB2]
   ·simp only [xq,reduceIte,qE,qA,qL,qD,s0,s3,sF,hp_g0,cgB,Cg.ds,gid,edRow,undefA,zE]
    refine hK' _ ?_
    simp [x_upd,s0,s3,hB2]
  clear s0 s3 sF sl
  rintro sl ⟨s0,s3,sF⟩
  refine run_stage (H:=h++[cgB c]) 5 (fun sl=>sl 0 = .ptr id 1 0 0∧sl 3 = .ptr h.length 1 0 0∧sl 43 = .bool B3) (fun K' hK'=>?_) ?_
  ·cases B2
   ·simp only [xq,reduceIte,qE,qA,qL,qD,s0,s3,sF,undefA,zE]
    refine hK' _ ?_
    simp [x_upd,s0,s3,hB3]
   ·simp only [xq,reduceIte,qE,qA,qL,qD,s0,s3,sF,hp_g0,cgB,Cg.ds,undefA,zE]
    refine hK' _ ?_
    simp [x_upd,s0,s3,hB3]
  clear s0 s3 sF sl
  rintro sl ⟨s0,s3,sF⟩
  refine run_stage (H:=h++[cgB c]) 10 (fun sl=>sl 0 = .ptr id 1 0 0∧sl 3 = .ptr h.length 1 0 0∧sl 53 = .bool B4) (fun K' hK'=>?_) ?_
  ·cases hb3:B3
   ·rw [hb3] at sF hB4
    simp only [xq,reduceIte,qE,qA,qL,qD,s0,s3,sF,undefA,zE]
    refine hK' _ ?_
    simp [x_upd,s0,s3,hB4]
   ·have w:=(w3 (h2t (h3t hb3))).1
    rw [hb3] at sF hB4
    simp only [xq,reduceIte,qE,qA,qL,qD,s0,s3,sF,hp_g0,cgB,Cg.ds,w,undefA,zE]
    refine hK' _ ?_
    simp [x_upd,s0,s3,hB4]
  clear s0 s3 sF sl
  rintro sl ⟨s0,s3,sF⟩
  cases hb4:B4
  ·rw [hb4] at sF hB
   simp only [xq,reduceIte,qE,qA,qL,qD,s0,s3,sF,undefA,zE]
   refine hK _ ?_
   exact done _ _ false (by simp [x_upd]) (by rw [hB];rfl)
  ·have w:=(w3 (h2t (h3t (h4t hb4)))).2
   rw [hb4] at sF hB
   simp only [xq,reduceIte,qE,qA,qL,qD,s0,s3,sF,hp_g0,cgB,Cg.ds,w,undefA,zE]
   refine hK _ ?_
   exact done _ _ (decide (c.row-c.upto<c.count)) (by simp [x_upd]) (by rw [hB];rfl)
 have hk2:¬ c.kind=2:=by simpa using hk
 refine wR ?_;simp only [xq,reduceIte,qE,qA,qL,qD]
 refine W_cond rfl (fun hk=>?_) (fun hk=>?_)
 ·have hk:c.kind=3:=by simpa using hk
  have hr:rangeG v c=((btw c.row 0 (v.height-1)&&btw c.col 0 264)&&btw c.count 0 (max 0 (((rowAt v.rows c.row).length:Int)-c.col))):=by rw [rangeG,if_neg hk1,if_neg hk2,if_pos hk]
  let U:Bool→St:=fun b=>⟨look [(0,.ptr id 1 0 0),(3,.ptr h.length 1 0 0),(81,.bool b)],h++[cgB c]⟩
  refine W_seq (W_cut (· = U (!(btw c.row 0 (v.height-1)&&btw c.col 0 264))) (W_drw (by simp) ?_) ?_)
  ·have h1:=Hb c.row 0 (v.height-1)
   have h2:=Hb c.col 0 264
   cases e1:btw c.row 0 (v.height-1)
   ·rw [e1] at h1
    simp only [xq,reduceIte,qE,qA,qL,qD,hp_g0,cgB,Cg.ds,gid,edRow,w1,zP]
    refine c_fn (h1) rfl ?_;simp only [xq,reduceIte,qE,qA,qL,qD,undefA,zE]
    exact ⟨_,Co.keep _ (by simp [x_upd,x_look]),rfl⟩
   ·rw [e1] at h1
    simp only [xq,reduceIte,qE,qA,qL,qD,hp_g0,cgB,Cg.ds,gid,edRow,w1,zP]
    refine c_fn (h1) rfl ?_;simp only [xq,reduceIte,qE,qA,qL,qD,undefA,zE,hp_g0,cgB,Cg.ds]
    refine c_fn (h2) rfl ?_;simp only [xq,reduceIte,qE,qA,qL,qD]
    exact ⟨_,Co.keep _ (by simp [x_upd,x_look]),rfl⟩
  rintro _ rfl
  simp only [U]
  refine W_cond rfl (fun hd=>?_) (fun hd=>W_skip ?_)
  ·have hd:(btw c.row 0 (v.height-1)&&btw c.col 0 264)=false:=by
    rw [← Bool.not_eq_true'] ; exact hd
   refine wR ?_;simp only [xq,reduceIte,qE,qA,qL,qD]
   refine fin _ _ _ ?_ ?_
   ·simp only [x_upd,reduceIte,hr,hd,Bool.false_and]
   ·simp only [xq,reduceIte,qE,qA,qL,qD];exact hend
  have hd:btw c.row 0 (v.height-1)=true∧btw c.col 0 264=true:=by simpa using hd
  have b1:=btw_iff.1 hd.1
  have b2:=btw_iff.1 hd.2
  obtain ⟨j,hj⟩:∃ j:Nat,c.row=j:=⟨c.row.toNat,by omega⟩
  have hjl:j<v.rows.length:=by omega
  obtain ⟨x,hx,hrow⟩:=e.row j _ (zB hjl)
  have hra:rowAt v.rows c.row=v.rows[j]:=by
   unfold rowAt
   rw [hj,zQ,zC,zB hjl];rfl
  have hrl:=sm.row _ (zi hjl)
  have w5:IntKind.i64.wrap ((v.rows[j].length:Int)-c.col)=(v.rows[j].length:Int)-c.col:=i64_of (by omega)
  have hmx:minmaxInt true 0 ((v.rows[j].length:Int)-c.col)=max 0 ((v.rows[j].length:Int)-c.col):=by
   unfold minmaxInt;simp only [if_true];split<;>omega
  have h3:=Hb c.count 0 (max 0 ((v.rows[j].length:Int)-c.col))
  have hr2:rangeG v c=btw c.count 0 (max 0 ((v.rows[j].length:Int)-c.col)):=by rw [hr,hd.1,hd.2,hra];rfl
  have hjc:decide ((j:Int)<(v.rows.length:Int))=true:=decide_eq_true (by omega)
  simp only [xq,reduceIte,qE,qA,qL,qD]
  rcases hrow with ⟨rfl,hnil⟩ | ⟨q,rfl,hq⟩
  ·have w5':IntKind.i64.wrap ((0:Int)-c.col)=(v.rows[j].length:Int)-c.col:=by rw [hnil];exact i64_of (by omega)
   refine W_seq (W_drw (by simp) ?_);simp only [xq,reduceIte,qE,qA,qL,qD,hp_g0,cgB,Cg.ds,gid,gk,edRow,hj,hx,zQ,zP,w5',hmx]
   refine ⟨by omega,by omega,?_⟩
   refine c_fn (h3) rfl ?_;simp only [xq,reduceIte,qE,qA,qL,qD]
   refine fin _ _ _ ?_ ?_
   ·simp only [x_upd,reduceIte,hr2]
   ·simp only [xq,reduceIte,qE,qA,qL,qD];exact hend
  ·have gq:∀ t:Heap,(h++t)[q]? = some (rowB v.rows[j]):=fun t=>hp_gl hq
   refine W_seq (W_drw (by simp) ?_);simp only [xq,reduceIte,qE,qA,qL,qD,hp_g0,cgB,Cg.ds,gid,gk,gq,edRow,hj,hx,zQ,zP,w5,hmx,glRows_len]
   refine ⟨by omega,by omega,?_⟩
   refine c_fn (h3) rfl ?_;simp only [xq,reduceIte,qE,qA,qL,qD]
   refine fin _ _ _ ?_ ?_
   ·simp only [x_upd,reduceIte,hr2]
   ·simp only [xq,reduceIte,qE,qA,qL,qD];exact hend
 have hk3:¬ c.kind=3:=by simpa using hk
 refine W_skip ?_
 simp only [xq,reduceIte,qE,qA,qL,qD]
 have hr:rangeG v c=((btw c.row 0 (v.height-1)&&btw c.col 0 (v.width-1))&&btw c.count 0 1):=by rw [rangeG,if_neg hk1,if_neg hk2,if_neg hk3]
 have h1:=Hb c.row 0 (v.height-1)
 have h2:=Hb c.col 0 (v.width-1)
 have h3:=Hb c.count 0 1
 cases e1:btw c.row 0 (v.height-1)
 ·rw [e1] at h1
  refine W_seq (W_drw (by simp) ?_);simp only [xq,reduceIte,qE,qA,qL,qD,hp_g0,cgB,Cg.ds,gid,edRow,w1,zP]
  refine c_fn (h1) rfl ?_;simp only [xq,reduceIte,qE,qA,qL,qD,undefA,zE]
  refine fin _ _ _ ?_ hend
  simp only [x_upd,reduceIte,hr,e1,Bool.false_and]
 cases e2:btw c.col 0 (v.width-1)
 ·rw [e1] at h1
  rw [e2] at h2
  refine W_seq (W_drw (by simp) ?_);simp only [xq,reduceIte,qE,qA,qL,qD,hp_g0,cgB,Cg.ds,gid,edRow,w1,zP]
  refine c_fn (h1) rfl ?_;simp only [xq,reduceIte,qE,qA,qL,qD,undefA,zE,hp_g0,cgB,Cg.ds,gid,edRow,w2]
  refine c_fn (h2) rfl ?_;simp only [xq,reduceIte,qE,qA,qL,qD,undefA,zE]
  refine fin _ _ _ ?_ hend
  simp only [x_upd,reduceIte,hr,e1,e2,Bool.false_and,Bool.and_false]
 ·rw [e1] at h1
  rw [e2] at h2
  refine W_seq (W_drw (by simp) ?_);simp only [xq,reduceIte,qE,qA,qL,qD,hp_g0,cgB,Cg.ds,gid,edRow,w1,zP]
  refine c_fn (h1) rfl ?_;simp only [xq,reduceIte,qE,qA,qL,qD,undefA,zE,hp_g0,cgB,Cg.ds,gid,edRow,w2]
  refine c_fn (h2) rfl ?_;simp only [xq,reduceIte,qE,qA,qL,qD,undefA,zE,hp_g0,cgB,Cg.ds]
  refine c_fn (h3) rfl ?_;simp only [xq,reduceIte,qE,qA,qL,qD]
  refine fin _ _ _ ?_ hend
  simp only [x_upd,reduceIte,hr,e1,e2,Bool.true_and]
end Go.Proofs.YtlllnjhgjijnkaaDoor.Nx
namespace Go.Proofs.YtlllnjhgjijnkaaDoor.Nx
open Go
variable {P:Program} {N:Nat} {Γ:Tabs}
abbrev RangesOk (Δ:Ctx) (P:Program) (f:FuncId):Prop:=∀ {v:Vw} (c:Cg),Ed v→∀ {m:Nat},Sm v m→m≤100000→∀ {h:Heap} {id k:Nat} {R:List (List A)},Δ.b≤h.length→EdIs h id v k R→FnD Δ P f [.ptr id 1 0 0,cgA c] h (.bool (rangeG v c)) h
theorem under_cgB {c:Cg} {k:Nat}:HB.under k (cgB c):=by
 intro r hr x hx
 simp only [zp,zc,or_false] at hr
 subst hr
 obtain ⟨d,_,rfl⟩:=List.mem_map.1 hx;rfl
theorem HB.under_mono {B:HB} {k m:Nat} (h:B.under k) (hm:k≤m):B.under m:=by
 cases B with
 | cells e rows=>exact fun r hr x hx=>A.under_mono (h r hr x hx) hm
 | _=>trivial
set_option maxHeartbeats 1000000 in
theorem check19_fn {f fb fbl fr fp:FuncId} {Δ:Ctx} (H:FnIs P f N [.t 4] (x_change_editor_check fb fbl fr fp)) (hN:2≤N) (Hb:∀ n a b,FnP Δ.t P fb [.int n,.int a,.int b] (.bool (btw n a b))) (Hbl:∀ c,FnP Δ.t P fbl [cgA c] (.bool (blankG c)))
  (Hr:RangesOk Δ P fr) (Hp:∀ g:Gl,g.text.size≤1000→FnP Δ.t P fp [glA g] (.int (glyphC g))) {v:Vw} (c:Cg) (ed:Ed v) {m:Nat} (sm:Sm v m) (hm:m≤100000) (hg:∀ g∈c.gl,g.text.size≤1000)
  {h:Heap} {id k:Nat} {R:List (List A)} (hb:Δ.b≤h.length) (e:EdIs h id v k R):FnD Δ P f [.ptr id 1 0 0,cgA c] h (.int (chgC v c)) h:=by
 refine .of_W H (by simpa using hN) hb (W_under fun hu=>W_aggsl 1 5 rfl rfl fun ⟨_,hroom,_⟩=>?_)
 have hend:RetD [.t 4] (.int (chgC v c)) h .ret ⟨look [(4,.int (chgC v c))],h⟩:=⟨.inr rfl,by simp [readRs,readR,single,x_look]⟩
 have fin:∀ (sl:Nat→A) (t:Heap) (Q:Exit→St→Prop),sl 4 = .int (chgC v c)→Q .ret ⟨look [(4,.int (chgC v c))],h⟩→W Δ P N none h.length .ret Q ⟨sl,h++t⟩:=fun sl t Q h4 hQ =>
  W_co (Co.back _ (by simp [h4,A.under]) (zL _) hu) (W_ret hQ)
 have hR:=Hr c ed sm hm (h:=h++[cgB c]) (by simp;omega) (e.app _)
 simp only [cgA,Cg.ds,zU,zV] at hR
 have hB:=Hbl c
 simp only [cgA,Cg.ds,zU,zV] at hB
 unfold x_change_editor_check
 simp only [cgA,Cg.ds,zU,zV]
 refine wR ?_;simp only [xq,reduceIte,qE,qA,qL,qD,hp_g0,hp_s0]
 refine W_seq ?_
 refine W_block ?_
 refine wR ?_;simp only [xq,reduceIte,qE,qA,qL,qD,hp_g0]
 refine c_fn (Hb c.kind 1 4) rfl ?_;simp only [xq,reduceIte,qE,qA,qL,qD]
 refine W_cond rfl (fun hk=>?_) (fun hk=>?_)
 ·have hk:btw c.kind 1 4=false:=by rw [← Bool.not_eq_true'];exact hk
  refine wR ?_;simp only [xq,reduceIte,qE,qA,qL,qD]
  refine fin _ _ _ ?_ ?_
  ·simp only [x_upd,reduceIte,chgC,hk,Bool.false_eq_true]
  ·simp only [xq,reduceIte,qE,qA,qL,qD];exact hend
 have hk1:btw c.kind 1 4=true:=by rw [← Bool.not_eq_false'];exact hk
 refine wR ?_;simp only [xq,reduceIte,qE,qA,qL,qD,hp_g0]
 refine c_fn (hB) rfl ?_;simp only [xq,reduceIte,qE,qA,qL,qD]
 refine W_cond rfl (fun hk=>?_) (fun hk=>?_)
 ·have hk:blankG c=false:=by rw [← Bool.not_eq_true'];exact hk
  refine wR ?_;simp only [xq,reduceIte,qE,qA,qL,qD]
  refine fin _ _ _ ?_ ?_
  ·simp only [x_upd,reduceIte,chgC,hk1,hk,Bool.false_eq_true]
  ·simp only [xq,reduceIte,qE,qA,qL,qD];exact hend
 have hk2:blankG c=true:=by rw [← Bool.not_eq_false'];exact hk
 refine wR ?_;simp only [xq,reduceIte,qE,qA,qL,qD,hp_g0]
 refine ce_fn hR ?_
 simp only [xq,reduceIte,qE,qA,qL,qD]
 refine W_cond rfl (fun hk=>?_) (fun hk=>W_skip ?_)
 ·have hk:rangeG v c=false:=by rw [← Bool.not_eq_true'];exact hk
  refine wR ?_;simp only [xq,reduceIte,qE,qA,qL,qD]
  refine fin _ _ _ ?_ ?_
  ·simp only [x_upd,reduceIte,chgC,hk1,hk2,hk,Bool.false_eq_true]
  ·simp only [xq,reduceIte,qE,qA,qL,qD];exact hend
 have hk3:rangeG v c=true:=by rw [← Bool.not_eq_false'];exact hk
 have hchg:chgC v c=fnz glyphC c.gl:=by rw [chgC,hk1,hk2,hk3];rfl
 simp only [xq,reduceIte,qE,qA,qL,qD]
 refine W_seq ?_
 refine wR ?_
 simp only [xq,reduceIte,qE,qA,qL,qD,hp_g0,cgB,Cg.ds,glRows_len]
 have hlr:c.gl.length≤room:=le_of_mul (by rw [glRows_len] at hroom;exact hroom)
 have hlr':=hlr
 simp only [room] at hlr'
 refine W_block ?_
 let S:Nat→St:=fun i=>⟨look [(3,.ptr h.length 1 0 0),(23,.d (.sl eGl (glRows c.gl))),(24,.int c.gl.length),(25,.int i)],h++[cgB c]⟩
 refine W_co (s':=S 0) (Co.keep _ (by simp [x_upd,x_look])) ?_
 refine W_loop (fun q s=>∃ i,i≤c.gl.length∧q=c.gl.length-i∧s=S i∧fnz glyphC c.gl=fnz glyphC (c.gl.drop i)) ⟨0,zI _,rfl,rfl,rfl⟩ ?_
 rintro q s' ⟨i,hi,rfl,rfl,hfz⟩
 simp only [S]
 refine wR ?_;simp only [xq,reduceIte,qE,qA,qL,qD]
 refine W_seq (W_cond rfl (fun hc=>W_skip ?_) (fun hc=>W_exit ?_))
 ·have hlt:i<c.gl.length:=by simpa using hc
  have hG:=Hp c.gl[i] (hg _ (zi hlt))
  simp only [glA,Gl.row,zU,zV] at hG
  rw [fnz_drop hlt] at hfz
  have w1:IntKind.i64.wrap ((i:Int)+1)=((i+1:Nat):Int):=by rw [i64_of (by omega)];omega
  simp only [xq,reduceIte,qE,qA,qL,qD]
  refine W_seq (W_block ?_)
  refine wR ?_;simp only [xq,reduceIte,qE,qA,qL,qD,glRows_len,glRows_get hlt,Gl.row,zQ,hp_gk,hp_sk,zS]
  refine ⟨by omega,by omega,?_⟩
  refine wR ?_;simp only [xq,reduceIte,qE,qA,qL,qD,hp_gk]
  refine c_fn (hG) rfl ?_;simp only [xq,reduceIte,qE,qA,qL,qD]
  refine wR ?_;simp only [xq,reduceIte,qE,qA,qL,qD]
  refine W_cond rfl (fun hd=>?_) (fun hd=>W_skip ?_)
  ·have hd:¬ glyphC c.gl[i]=0:=by simpa using hd
   rw [if_neg hd] at hfz
   refine wR ?_;simp only [xq,reduceIte,qE,qA,qL,qD]
   refine fin _ _ _ ?_ ?_
   ·simp only [x_upd,reduceIte,hchg,hfz]
   ·simp only [xq,reduceIte,qE,qA,qL,qD];exact hend
  ·have hd:glyphC c.gl[i]=0:=by simpa using hd
   rw [if_pos hd] at hfz
   simp only [xq,reduceIte,qE,qA,qL,qD]
   refine W_reg ?_;simp only [xq,reduceIte,qE,qA,qL,qD,w1]
   refine ⟨c.gl.length-(i+1),S (i+1),by omega,?_,i+1,hlt,rfl,rfl,hfz⟩
   have hu2:∀ B∈h++[cgB c],HB.under (h++[cgB c]).length B:=by
    intro B hB
    rcases List.mem_append.1 hB with hB | hB
    ·exact HB.under_mono (hu B hB) (by simp)
    ·simp only [List.mem_singleton] at hB;subst hB;exact under_cgB
   rw [List.append_cons]
   exact Co.back (h:=h++[cgB c]) _ (by simp [x_upd,x_look,A.under]) (by simp) hu2
 ·have hle:i=c.gl.length:=by simp at hc;omega
  subst hle
  rw [List.drop_length] at hfz
  simp only [xq,reduceIte,qE,qA,qL,qD]
  refine wR ?_;simp only [xq,reduceIte,qE,qA,qL,qD]
  refine fin _ _ _ ?_ hend
  simp only [x_upd,reduceIte,hchg,hfz,fnz]
end Go.Proofs.YtlllnjhgjijnkaaDoor.Nx
namespace Go.Proofs.YtlllnjhgjijnkaaDoor.Nx
open Go
variable {P:Program} {N:Nat} {Γ:Tabs}
theorem hp_sl {h t:Heap} {q:Nat} {X:HB} (hq:q<h.length):(h++t).set q X=h.set q X++t:=zu _ _ hq
theorem hp_gs {h t:Heap} {q:Nat} {X:HB} (hq:q<h.length):(h.set q X++t)[q]? = some X:=by
 rw [zF (by simpa using hq),zN hq]
theorem hp_gn {h t:Heap} {q p:Nat} {X B:HB} (hne:q≠p) (hp:h[p]? = some B):(h.set q X++t)[p]? = some B:=by
 have hlt:=(zA.1 hp).1
 rw [zF (by simpa using hlt),zM hne];exact hp
theorem hp_ss {h t:Heap} {q:Nat} {X Y:HB} (hq:q<h.length):(h.set q X++t).set q Y=h.set q Y++t:=by
 rw [zu _ _ (by simpa using hq),List.set_set]
theorem hp_gsk {h t:Heap} {q k:Nat} {X:HB}:(h.set q X++t)[h.length+k]? = t[k]? := by
 rw [zG (by simp)];congr 1;simp
theorem hp_gs0 {h t:Heap} {q:Nat} {X B:HB}:(h.set q X++B::t)[h.length]? = some B:=by
 rw [zG (by simp)];simp
def Keep6 (h h':Heap) (id:Nat):Prop:=∀ (p:Nat) (e:Elt) (rows:List (List A)),h[p]? = some (.cells e rows)→e.sz=6→p≠id→h'[p]? = some (.cells e rows)
theorem Keep6.refl {h:Heap} {id:Nat}:Keep6 h h id:=fun _ _ _ hp _ _=>hp
theorem Keep6.trans {a b c:Heap} {id:Nat} (h1:Keep6 a b id) (h2:Keep6 b c id):Keep6 a c id:=fun p e rows hp he hne=>h2 p e rows (h1 p e rows hp he hne) he hne
theorem Keep6.app {h t:Heap} {id:Nat}:Keep6 h (h++t) id:=fun p e rows hp _ _=>by
 rw [zF (zA.1 hp).1];exact hp
theorem Keep6.set {h:Heap} {id:Nat} {X:HB}:Keep6 h (h.set id X) id:=fun p e rows hp _ hne=>by
 rw [zM (Ne.symm hne)];exact hp
theorem Keep6.setO {h:Heap} {id q:Nat} {X:HB} {e:Elt} {rows:List (List A)} (hq:h[q]? = some (.cells e rows)) (he:e.sz≠6):Keep6 h (h.set q X) id:=fun p e' rows' hp he' _=>by
 have:q≠p:=by
  rintro rfl
  rw [hq] at hp
  cases hp
  exact he he'
 rw [zM this];exact hp
abbrev EdStep (Δ:Ctx) (P:Program) (f:FuncId) (pre:Vw→Cg→Prop) (F:Vw→Cg→Vw):Prop:=∀ {v:Vw} {c:Cg},pre v c→∀ {h:Heap} {id k:Nat} {R:List (List A)},Δ.b≤h.length→EdIs h id v k R →
 ∃ h' k' R',FnD Δ P f [.ptr id 1 0 0,cgA c] h (.tup []) h'∧h.length≤h'.length∧EdIs h' id (F v c) k' R'∧Keep6 h h' id
theorem under_ed {v:Vw} {k M m:Nat} (hk:k<m):HB.under m (.cells eVw [edRow v k M]):=by
 intro r hr x hx
 simp only [zp,zc,or_false] at hr
 subst hr
 simp only [edRow,zp,zc,or_false] at hx
 rcases hx with rfl | rfl | rfl | rfl | rfl | rfl<;>simp [A.under,hk]
theorem W_endD {Γ:Ctx} {rl:Option Nat} {n0:Nat} {c:XC} {s:St} {H:Heap} (hH:∀ B∈H,HB.under H.length B) (hn:n0≤H.length) (h:W Γ P N rl n0 c (fun e s=>(e = .normal∨e = .ret)∧∃ sl t,s=⟨sl,H++t⟩) s):W Γ P N rl n0 c (RetD [] (.tup []) H) s :=
 W_post (fun e s hq=>by
  obtain ⟨he,sl,t,rfl⟩:=hq
  exact ⟨⟨look [],H⟩,Co.back [] (by simp) hn hH,he,by simp [readRs,single]⟩) h
theorem EdIs.setId {h:Heap} {id:Nat} {v w:Vw} {k:Nat} {R:List (List A)} (e:EdIs h id v k R) (hr:w.rows=v.rows):EdIs (h.set id (.cells eVw [edRow w k R.length])) id w k R:=by
 have hne:id≠k:=by
  rintro rfl
  have:=e.hid.symm.trans e.hk
  simp only [zH,HB.cells.injEq] at this
  exact absurd (congrArg Elt.sz this.1) (by decide)
 refine ⟨zN e.id_lt,by rw [zM hne];exact e.hk,by rw [hr];exact e.len,fun i r hi=>?_,by rw [hr];exact e.dis⟩
 rw [hr] at hi
 obtain ⟨x,h1,h2⟩:=e.row i r hi
 refine ⟨x,h1,?_⟩
 rcases h2 with h2 | ⟨q,h2,h3⟩
 ·exact .inl h2
 ·refine .inr ⟨q,h2,?_⟩
  rw [zM ?_]
  ·exact h3
  ·rintro rfl
   have:=e.hid.symm.trans h3
   simp only [zH,HB.cells.injEq] at this
   exact absurd (congrArg Elt.sz this.1) (by decide)
set_option maxHeartbeats 1000000 in
theorem cursor_fn {f:FuncId} {Δ:Ctx} (H:FnIs P f N [] x_change_editor_cursor) (hN:2≤N):EdStep Δ P f (fun _ c=>c.kind=4) stepV:=by
 intro v c hk h id k R hb e
 have hstep:stepV v c={ v with row:=c.row,col:=c.col,vis:=decide (c.count=1) }:=by
  simp [stepV,hk]
 have hlt:=e.id_lt
 have hne:id≠h.length:=by omega
 refine ⟨h.set id (.cells eVw [edRow (stepV v c) k R.length]),k,R,?_,by simp,e.setId (by rw [hstep]),.set⟩
 refine .of_W H (by simpa using hN) hb (W_under fun hu=>?_)
 have hu2:∀ B∈h.set id (.cells eVw [edRow (stepV v c) k R.length]),HB.under (h.set id (.cells eVw [edRow (stepV v c) k R.length])).length B:=by
  intro B hB
  rw [List.length_set]
  rcases List.mem_or_eq_of_mem_set hB with hB | rfl
  ·exact hu B hB
  ·exact under_ed e.k_lt
 refine W_endD hu2 (by simp) ?_
 have gid:∀ t:Heap,(h++t)[id]? = some (.cells eVw [edRow v k R.length]):=fun t=>hp_gl e.hid
 have gs:∀ X (t:Heap),(h.set id X++t)[id]? = some X:=fun X t=>hp_gs hlt
 have sl:∀ X (t:Heap),(h++t).set id X=h.set id X++t:=fun X t=>hp_sl hlt
 have ss:∀ X Y (t:Heap),(h.set id X++t).set id Y=h.set id Y++t:=fun X Y t=>hp_ss hlt
 unfold x_change_editor_cursor
 simp only [cgA,Cg.ds,zU,zV]
 refine wR ?_;simp only [xq,reduceIte,qE,qA,qL,qD,hp_g0,hp_s0]
 refine W_drw2 id h.length hne (by simp;omega) (by simp) rfl (by simp [x_upd,x_look,x_look0,A.touch]) ?_
 simp only [xq,reduceIte,qE,qA,qL,qD,hp_g0,hp_gs0,gid,gs,sl,ss,edRow,zP]
 exact ⟨.inl trivial,_,_,by rw [hstep]⟩
end Go.Proofs.YtlllnjhgjijnkaaDoor.Nx
namespace Go.Proofs.YtlllnjhgjijnkaaDoor.Nx
open Go
variable {P:Program} {N:Nat} {Γ:Tabs}
theorem frzD_rows {k id off len:Nat} {full:Bool} {e:Elt} {h:Heap} {rows:List (List D)} (hk:k≤id) (hh:h[id]? = some (.cells e (rows.map fun r=>r.map .d))) (hl:off+len≤rows.length) :
  FrzD k h (.ref id rows.length off len full) (.sl e ((rows.drop off).take len)):=by
 have hlen:(rows.map fun r=>r.map A.d).length=rows.length:=by simp
 rw [← hlen]
 have get:∀ i r,((rows.drop off).take len)[i]? = some r→(rows.map fun r=>r.map A.d).getD (off+i) []=r.map .d:=by
  intro i r hi
  rw [List.getElem?_take] at hi
  split at hi
  ·rw [List.getElem?_drop] at hi
   rw [zC,zK,hi];rfl
  ·cases hi
 refine .ref hk hh ?_ (fun i r hi=>?_) (fun i r j d hi hj=>?_)
 ·simp;omega
 ·rw [get i r hi];simp
 ·rw [get i r hi,zC,zK,hj]
  exact .d d
theorem frz_three {h:Heap} {id:Nat} {x y z:A} {a b c:List Gl} (hh:h[id]? = some (.cells eRw [[x],[y],[z]])) (hx:FrzD 0 h x (.sl eGl (glRows a))) (hy:FrzD 0 h y (.sl eGl (glRows b))) (hz:FrzD 0 h z (.sl eGl (glRows c))) :
  FrzA 0 h (.ref id 3 0 3 true) (.d (.sl eRw (rwRows [a,b,c]))):=by
 refine .d (.ref (rows:=[[x],[y],[z]]) (zI _) hh rfl (fun i r hi=>?_) (fun i r j d hi hj=>?_))
 ·match i,hi with
  | 0,hi=>simp [rwRows] at hi;subst hi;rfl
  | 1,hi=>simp [rwRows] at hi;subst hi;rfl
  | 2,hi=>simp [rwRows] at hi;subst hi;rfl
  | i+3,hi=>simp [rwRows] at hi
 ·match i,hi with
  | 0,hi =>
   simp [rwRows] at hi;subst hi
   match j,hj with
   | 0,hj=>simp at hj;subst hj;exact hx
   | j+1,hj=>simp at hj
  | 1,hi =>
   simp [rwRows] at hi;subst hi
   match j,hj with
   | 0,hj=>simp at hj;subst hj;exact hy
   | j+1,hj=>simp at hj
  | 2,hi =>
   simp [rwRows] at hi;subst hi
   match j,hj with
   | 0,hj=>simp at hj;subst hj;exact hz
   | j+1,hj=>simp at hj
  | i+3,hi=>simp [rwRows] at hi
set_option maxHeartbeats 2000000 in
theorem splice_tail {fc ft:FuncId} {Δ:Ctx} (Hc:∀ ls:List (List Gl),ls.length≤1000→ls.flatten.length≤100000→RowO P fc (.d (.sl eRw (rwRows ls))) ls.flatten) (Ht:∀ l:List Gl,RowO P ft (.d (.sl eGl (glRows l))) (trimGl l))
  {Hb:Heap} {n0 id b q k j col cnt:Nat} {R:List (List A)} {v:Vw} {c:Cg} {r:List Gl} {sl:Nat→A} (hn0:n0≤Hb.length) (hb:Δ.b≤n0) (hu:∀ B∈Hb,HB.under Hb.length B)
  (s0:sl 0 = .ptr id 1 0 0) (s3:sl 3 = .ptr b 1 0 0) (s4:sl 4 = .ref q r.length 0 r.length true)
  (gid:Hb[id]? = some (.cells eVw [edRow v k R.length])) (gk:Hb[k]? = some (.cells eRw R)) (gb:Hb[b]? = some (cgB c)) (gq:Hb[q]? = some (rowB r))
  (hcol:c.col=col) (hcnt:c.count=cnt) (hrow:c.row=j) (hj:j<v.rows.length) (hjR:v.rows.length≤R.length) {x:A} (hRj:R[j]? = some [x]) (hcc:cnt≤r.length-col) (hcl:col≤264) (hrl:r.length≤50000) (hgl:c.gl.length≤1000) :
  W Δ P N none n0 (x_change_editor_splice fc ft).r.r (RetD [] (.tup []) ((Hb.set q (rowB (padR r col))).set k (.cells eRw (R.set j [.ref (Hb.length+2) (spliceR r col cnt c.gl).length 0 (spliceR r col cnt c.gl).length true])) ++
   [.cells eRw [[.ref q (padR r col).length 0 col true],[.d (.sl eGl (glRows c.gl))],[.ref q (padR r col).length (col+cnt) ((padR r col).length-(col+cnt)) true]],rowB ((padR r col).take col++c.gl++(padR r col).drop (col+cnt)),rowB (spliceR r col cnt c.gl)])) ⟨sl,Hb⟩:=by
 have qlt:q<Hb.length:=(zA.1 gq).1
 have klt:k<Hb.length:=(zA.1 gk).1
 have tne:∀ {p:Nat} {e:Elt} {rows:List (List A)},Hb[p]? = some (.cells e rows)→e.sz≠3→q≠p:=by
  rintro p e rows hp hs rfl
  have:=gq.symm.trans hp
  simp only [zH,HB.cells.injEq] at this
  exact hs (congrArg Elt.sz this.1).symm
 have qid:q≠id:=tne gid (by decide)
 have qk:q≠k:=tne gk (by decide)
 have qb:q≠b:=tne gb (by decide)
 simp only [x_change_editor_splice,XC.r]
 let S:Nat→St:=fun i=>⟨look [(0,.ptr id 1 0 0),(3,.ptr b 1 0 0),(4,.ref q (r.length+i) 0 (r.length+i) true)],Hb.set q (rowB (r++List.replicate i spaceGl))⟩
 have hS0:Hb.set q (rowB (r++List.replicate 0 spaceGl))=Hb:=by
  rw [zr,zP]
  apply List.ext_getElem?
  intro p
  rw [List.getElem?_set]
  split
  ·rename_i hp;subst hp;exact gq.symm
  ·rfl
 have hl:∀ i,(glRows (r++List.replicate i spaceGl)).length=r.length+i:=fun i=>by simp [glRows]
 refine W_cut (· = S (col-r.length)) ?_ ?_
 ·refine W_block ?_
  refine W_co (s':=S 0) ?_ ?_
  ·have:S 0=⟨look [(0,.ptr id 1 0 0),(3,.ptr b 1 0 0),(4,.ref q (r.length+0) 0 (r.length+0) true)],Hb⟩:=by simp only [S,hS0]
   rw [this]
   exact Co.keep _ (by simp [s0,s3,s4])
  refine W_loop (fun m s=>∃ i,i≤col-r.length∧m=col-r.length-i∧s=S i) ⟨0,zI _,rfl,rfl⟩ ?_
  rintro m s ⟨i,hi,rfl,rfl⟩
  have gs:∀ X (t:Heap),(Hb.set q X++t)[q]? = some X:=fun X t=>hp_gs qlt
  have gs':∀ X,(Hb.set q X)[q]? = some X:=fun X=>zN qlt
  have ss:∀ X Y (t:Heap),(Hb.set q X++t).set q Y=Hb.set q Y++t:=fun X Y t=>hp_ss qlt
  have gb':∀ X,(Hb.set q X)[b]? = some (cgB c):=fun X=>by rw [zM qb];exact gb
  have gt0:∀ X B (t:Heap),(Hb.set q X++B::t)[Hb.length]? = some B:=fun X B t=>hp_gs0
  simp only [S]
  refine W_seq ?_
  refine wR ?_;simp only [xq,reduceIte,qE,qA,qL,qD,gs',gb',cgB,Cg.ds,hcol,rowB,List.length_map,hl]
  refine W_cond rfl (fun hc=>W_skip ?_) (fun hc=>W_exit ?_)
  ·have hlt:r.length+i<col:=by simp at hc;omega
   have happ:((glRows (r++List.replicate i spaceGl)).map fun r=>r.map A.d)++[[.str ⟨#[32]⟩,.bool false,.int 0]]=(glRows (r++List.replicate (i+1) spaceGl)).map fun r=>r.map A.d:=by
    rw [List.replicate_succ',← zS];simp [glRows,Gl.row,spaceGl]
   simp only [xq,reduceIte,qE,qA,qL,qD]
   refine W_block ?_
   refine W_reg ?_;simp only [xq,reduceIte,qE,qA,qL,qD,gs,gs',gt0,ss,rowB,List.length_map,hl,happ,List.length_set]
   refine ⟨by simp only [room];omega,by simp only [maxLen];omega,?_⟩
   refine ⟨col-r.length-(i+1),S (i+1),by omega,?_,i+1,by omega,rfl,rfl⟩
   refine Co.back (h:=Hb.set q (rowB (r++List.replicate (i+1) spaceGl))) _ ?_ (by simpa using hn0) ?_
   ·simp [x_upd,x_look,A.under,Nat.add_assoc,qlt,(zA.1 gid).1,(zA.1 gb).1]
   ·intro B hB
    rw [List.length_set]
    rcases List.mem_or_eq_of_mem_set hB with hB | rfl
    ·exact hu B hB
    ·intro r' hr' x' hx'
     simp only [glRows,List.map_map,List.mem_map,Function.comp] at hr'
     obtain ⟨g,_,rfl⟩:=hr'
     simp only [Gl.row,zU,zV,zp,zc,or_false] at hx'
     rcases hx' with rfl | rfl | rfl<;>rfl
  ·have hie:i=col-r.length:=by simp at hc;omega
   subst hie
   simp only [xq,reduceIte,qE,qA,qL,qD]
   exact ⟨S (col-r.length),Co.keep _ (by simp [x_upd,x_look]),rfl⟩
 rintro _ rfl
 have hpadl:r.length+(col-r.length)=(padR r col).length:=by simp [padR]
 have hpad:r++List.replicate (col-r.length) spaceGl=padR r col:=rfl
 have hspl:spliceR r col cnt c.gl=trimGl ((padR r col).take col++c.gl++(padR r col).drop (col+cnt)):=rfl
 have hpl2:(padR r col).length≤50264:=by rw [← hpadl];omega
 have hpc:col+cnt≤(padR r col).length:=by rw [← hpadl];omega
 obtain ⟨cat,hcat⟩:∃ cat,cat=(padR r col).take col++c.gl++(padR r col).drop (col+cnt):=⟨_,rfl⟩
 have hcatl:cat.length≤100000:=by
  rw [hcat];simp only [List.length_append,List.length_take,List.length_drop];omega
 simp only [S,hpadl,hpad,hspl,← hcat]
 generalize padR r col=pad at *
 obtain ⟨Hl,hHl⟩:∃ Hl,Hl=Hb.set q (rowB pad):=⟨_,rfl⟩
 rw [← hHl]
 have hHll:Hl.length=Hb.length:=by rw [hHl,List.length_set]
 have up:∀ {p:Nat} {B:HB},q≠p→Hb[p]? = some B→∀ t:Heap,(Hl++t)[p]? = some B:=fun hne hp t=>by
  rw [hHl];exact hp_gn hne hp
 have lid:=up qid gid
 have lk:=up qk gk
 have lb:=up qb gb
 have lq:∀ t:Heap,(Hl++t)[q]? = some (rowB pad):=fun t=>by rw [hHl];exact hp_gs qlt
 have klt2:k<Hl.length:=by omega
 have sk:∀ X (t:Heap),(Hl++t).set k X=Hl.set k X++t:=fun X t=>hp_sl klt2
 have hC:∀ H1:Heap,H1=Hl++[.cells eRw [[.ref q pad.length 0 col true],[.d (.sl eGl (glRows c.gl))],[.ref q pad.length (col+cnt) (pad.length-(col+cnt)) true]]]→FnD Δ P fc [.ref Hl.length 3 0 3 true] H1 (.ref H1.length cat.length 0 cat.length true) (H1++[rowB cat]):=by
  rintro H1 rfl
  refine RowO.lend (y:=.d (.sl eRw (rwRows [pad.take col,c.gl,pad.drop (col+cnt)]))) (l:=cat) ?_ ?_ rfl
  ·have:=Hc [pad.take col,c.gl,pad.drop (col+cnt)] (by simp) (by
    have:[pad.take col,c.gl,pad.drop (col+cnt)].flatten=cat:=by rw [hcat];simp
    rw [this];exact hcatl)
   have hf:[pad.take col,c.gl,pad.drop (col+cnt)].flatten=cat:=by rw [hcat];simp
   rw [hf] at this
   exact this
  ·refine frz_three (hp_g0) ?_ (.d _) ?_
   ·have:=frzD_rows (k:=0) (off:=0) (len:=col) (full:=true) (e:=eGl) (rows:=glRows pad) (zI q) (lq [HB.cells eRw [[.ref q pad.length 0 col true],[.d (.sl eGl (glRows c.gl))],[.ref q pad.length (col+cnt) (pad.length-(col+cnt)) true]]]) (by rw [glRows_len];omega)
    rw [glRows_len,List.drop_zero,glRows_take] at this
    exact this
   ·have:=frzD_rows (k:=0) (off:=col+cnt) (len:=pad.length-(col+cnt)) (full:=true) (e:=eGl) (rows:=glRows pad) (zI q) (lq [HB.cells eRw [[.ref q pad.length 0 col true],[.d (.sl eGl (glRows c.gl))],[.ref q pad.length (col+cnt) (pad.length-(col+cnt)) true]]]) (by rw [glRows_len];omega)
    rw [glRows_len] at this
    have e:((glRows pad).drop (col+cnt)).take (pad.length-(col+cnt))=glRows (pad.drop (col+cnt)):=by
     rw [List.take_of_length_le (by rw [List.length_drop,glRows_len];exact zL _)];simp [glRows,List.map_drop]
    rw [e] at this
    exact this
 have hT:∀ (H:Heap) (m:Nat),m=H.length→FnD Δ P ft [.ref m cat.length 0 cat.length true] (H++[rowB cat]) (.ref (H++[rowB cat]).length (trimGl cat).length 0 (trimGl cat).length true) ((H++[rowB cat])++[rowB (trimGl cat)]):=by
  rintro H _ rfl
  refine RowO.lend (Ht cat) ?_ rfl
  have:=frz_all (id:=H.length) (full:=true) (e:=eGl) (rows:=glRows cat) (h:=H++[rowB cat]) hp_g0
  rw [glRows_len] at this
  exact this
 have w1:IntKind.i64.wrap ((col:Int)+(cnt:Int))=((col+cnt:Nat):Int):=by rw [i64_of (by omega)];omega
 have t1:(((pad.length:Nat):Int)-((col+cnt:Nat):Int)).toNat=pad.length-(col+cnt):=by omega
 refine W_drw (by simp) ?_
 simp only [xq,reduceIte,qE,qA,qL,qD,lid,lk,lb,lq,edRow,cgB,Cg.ds,hcol,hcnt,hrow,glRows_len,w1,t1,Int.natCast_zero,Int.sub_zero,Int.toNat_zero,zQ,hp_g0,hp_s0]
 repeat refine And.intro (by omega) ?_
 refine cr_fn (hC _ rfl) ?_
 simp only [xq,reduceIte,qE,qA,qL,qD]
 refine cr_fn (hT _ _ (by simp)) ?_
 simp only [xq,reduceIte,qE,qA,qL,qD,lk,sk,zS,hRj,zQ,hp_gk]
 refine ⟨by omega,by omega,?_⟩
 refine ⟨.inl rfl,?_⟩
 simp only [readRs,single,hHll,true_and]
structure StepPre (v:Vw) (c:Cg):Prop where
 ed:Ed v
 ok:chgC v c=0
 row:∀ r∈v.rows,r.length≤50000
 gl:c.gl.length≤1000
theorem EdIs.ne {h:Heap} {id:Nat} {v:Vw} {k:Nat} {R:List (List A)} (e:EdIs h id v k R) {q:Nat} {r:List Gl} (hq:h[q]? = some (rowB r)):q≠id∧q≠k∧id≠k:=by
 refine ⟨?_,?_,?_⟩
 ·rintro rfl
  have:=e.hid.symm.trans hq
  simp only [zH,HB.cells.injEq] at this
  exact absurd (congrArg Elt.sz this.1) (by decide)
 ·rintro rfl
  have:=e.hk.symm.trans hq
  simp only [zH,HB.cells.injEq] at this
  exact absurd (congrArg Elt.sz this.1) (by decide)
 ·rintro rfl
  have:=e.hid.symm.trans e.hk
  simp only [zH,HB.cells.injEq] at this
  exact absurd (congrArg Elt.sz this.1) (by decide)
theorem EdIs.setRow {h h':Heap} {id:Nat} {v:Vw} {k:Nat} {R:List (List A)} (e:EdIs h id v k R) {j p:Nat} {r:List Gl} {x:A} (hj:j<v.rows.length) (hx:R[j]? = some [x]) (hid:h'[id]? = h[id]?)
  (hk:h'[k]? = some (.cells eRw (R.set j [.ref p r.length 0 r.length true]))) (hp:h'[p]? = some (rowB r)) (hpn:h.length≤p) (hold:∀ q rr,h[q]? = some (rowB rr)→(∀ n,x ≠ .ref q n 0 n true)→h'[q]? = some (rowB rr)) :
  EdIs h' id { v with rows:=v.rows.set j r } k (R.set j [.ref p r.length 0 r.length true]):=by
 have hjR:j<R.length:=by have:=e.len;omega
 refine ⟨?_,hk,by simpa using e.len,fun i s hi=>?_,fun i i' q n m hi hi' h1 h2=>?_⟩
 ·rw [hid,e.hid];simp [edRow]
 ·simp only [List.getElem?_set] at hi
  by_cases hij:j=i
  ·subst hij
   rw [if_pos rfl,if_pos hj] at hi
   cases hi
   exact ⟨_,by rw [zN hjR],.inr ⟨p,rfl,hp⟩⟩
  ·rw [if_neg hij] at hi
   obtain ⟨y,h1,h2⟩:=e.row i s hi
   refine ⟨y,by rw [zM hij];exact h1,?_⟩
   rcases h2 with h2 | ⟨q,rfl,h3⟩
   ·exact .inl h2
   ·refine .inr ⟨q,rfl,hold q _ h3 ?_⟩
    rintro n rfl
    refine hij (e.dis j i q n s.length hj ?_ hx h1)
    exact (zA.1 hi).1
 ·simp only [List.length_set] at hi hi'
  have old:∀ {i:Nat} {q n:Nat},i<v.rows.length→R[i]? = some [.ref q n 0 n true]→q<h.length:=by
   intro i q n hi hR
   obtain ⟨y,g1,g2⟩:=e.row i _ (zB hi)
   rw [hR] at g1
   cases g1
   rcases g2 with ⟨g2,_⟩ | ⟨q',g2,g3⟩
   ·cases g2
   ·cases g2;exact (zA.1 g3).1
  rw [List.getElem?_set] at h1 h2
  by_cases hi1:j=i
  ·by_cases hi2:j=i'
   ·omega
   ·subst hi1
    rw [if_pos rfl,if_pos hjR] at h1
    rw [if_neg hi2] at h2
    cases h1
    have:=old hi' h2
    omega
  ·rw [if_neg hi1] at h1
   by_cases hi2:j=i'
   ·subst hi2
    rw [if_pos rfl,if_pos hjR] at h2
    cases h2
    have:=old hi h1
    omega
   ·rw [if_neg hi2] at h2
    exact e.dis i i' q n m hi hi' h1 h2
theorem hf_o {Hb t:Heap} {q k p:Nat} {X Y:HB} (hp:p<Hb.length) (h1:k≠p) (h2:q≠p):((Hb.set q X).set k Y++t)[p]? = Hb[p]? := by
 rw [zF (by simpa using hp),zM h1,zM h2]
theorem hf_k {Hb t:Heap} {q k:Nat} {X Y:HB} (hp:k<Hb.length):((Hb.set q X).set k Y++t)[k]? = some Y:=by
 rw [zF (by simpa using hp),zN (by simpa using hp)]
theorem hf_t {Hb t:Heap} {q k i:Nat} {X Y:HB}:((Hb.set q X).set k Y++t)[Hb.length+i]? = t[i]? := by
 rw [zG (by simp)];congr 1;simp
set_option maxHeartbeats 1000000 in
theorem splice_fn {f fc ft:FuncId} {Δ:Ctx} (H:FnIs P f N [] (x_change_editor_splice fc ft)) (hN:2≤N) (Hc:∀ ls:List (List Gl),ls.length≤1000→ls.flatten.length≤100000→RowO P fc (.d (.sl eRw (rwRows ls))) ls.flatten) (Ht:∀ l:List Gl,RowO P ft (.d (.sl eGl (glRows l))) (trimGl l)) :
  EdStep Δ P f (fun v c=>c.kind=3∧StepPre v c) stepV:=by
 rintro v c ⟨hk,hpre⟩ h id k R hb e
 obtain ⟨q1,q2,q3,q4⟩:=chgC_zero hpre.ok
 have hlen:=hpre.ed.len
 have hs:=szOk_iff.1 hpre.ed.sz
 simp only [rangeG,hk,if_neg (show ¬ (3:Int)=1 by decide),if_neg (show ¬ (3:Int)=2 by decide),if_true,Bool.and_eq_true,btw_iff] at q3
 obtain ⟨j,hrow⟩:∃ j:Nat,c.row=j:=⟨c.row.toNat,by omega⟩
 obtain ⟨col,hcol⟩:∃ j:Nat,c.col=j:=⟨c.col.toNat,by omega⟩
 obtain ⟨cnt,hcnt⟩:∃ j:Nat,c.count=j:=⟨c.count.toNat,by omega⟩
 have hj:j<v.rows.length:=by omega
 have hra:rowAt v.rows c.row=v.rows[j]:=by
  unfold rowAt
  rw [hrow,zQ,zC,zB hj];rfl
 rw [hra] at q3
 have hrl:=hpre.row _ (zi hj)
 have hstep:stepV v c={ v with rows:=v.rows.set j (spliceR v.rows[j] col cnt c.gl) }:=by
  simp only [stepV,hk,if_neg (show ¬ (3:Int)=1 by decide),if_neg (show ¬ (3:Int)=2 by decide),if_true,hra]
  rw [hrow,hcol,hcnt];simp
 have hjR:v.rows.length≤R.length:=e.len
 obtain ⟨x,hx,hr⟩:=e.row j _ (zB hj)
 have gid:∀ t:Heap,(h++t)[id]? = some (.cells eVw [edRow v k R.length]):=fun t=>hp_gl e.hid
 have gk:∀ t:Heap,(h++t)[k]? = some (.cells eRw R):=fun t=>hp_gl e.hk
 have idlt:=e.id_lt
 have klt:=e.k_lt
 -- the first region
 have first:∀ (Q:St→Prop),(∀ sl:Nat→A,sl 0 = .ptr id 1 0 0→sl 3 = .ptr h.length 1 0 0→sl 4=x→W Δ P N none h.length (x_change_editor_splice fc ft).r.r (fun e s=>(e = .normal∨e = .ret)∧Q s) ⟨sl,h++[cgB c]⟩) →
   W Δ P N none h.length (x_change_editor_splice fc ft) (fun e s=>(e = .normal∨e = .ret)∧Q s) ⟨look (argS 0 [.ptr id 1 0 0,cgA c]),h⟩:=by
  intro Q hQ
  unfold x_change_editor_splice at hQ ⊢
  simp only [XC.r] at hQ
  simp only [cgA,Cg.ds,zU,zV]
  refine wR ?_;simp only [xq,reduceIte,qE,qA,qL,qD,hp_g0,hp_s0]
  refine W_seq (W_drw (by simp) ?_)
  simp only [xq,reduceIte,qE,qA,qL,qD,hp_g0,gid,gk,edRow,hrow,hx,zQ,zP]
  refine ⟨by omega,by omega,?_⟩
  rw [← hrow]
  refine hQ _ ?_ ?_ ?_<;>simp [x_upd,x_look]
 have hunder:∀ {t:Heap} {m:Nat},(∀ B∈h,HB.under h.length B)→h.length≤m→(∀ B∈t,HB.under m B)→∀ B∈h++t,HB.under m B:=by
  intro t m h1 h2 h3 B hB
  rcases List.mem_append.1 hB with hB | hB
  ·exact HB.under_mono (h1 B hB) h2
  ·exact h3 B hB
 have under_row:∀ {m:Nat} {l:List Gl},HB.under m (rowB l):=by
  intro m l r' hr' x' hx'
  simp only [glRows,List.map_map,List.mem_map,Function.comp] at hr'
  obtain ⟨g,_,rfl⟩:=hr'
  simp only [Gl.row,zU,zV,zp,zc,or_false] at hx'
  rcases hx' with rfl | rfl | rfl<;>rfl
 rcases hr with ⟨rfl,hnil⟩ | ⟨q,rfl,hq⟩
 ·-- a row that is nil
  let Hb:Heap:=h++[cgB c,rowB []]
  refine ⟨(Hb.set (h.length+1) (rowB (padR [] col))).set k (.cells eRw (R.set j [.ref (Hb.length+2) (spliceR [] col cnt c.gl).length 0 (spliceR [] col cnt c.gl).length true])) ++
   [.cells eRw [[.ref (h.length+1) (padR [] col).length 0 col true],[.d (.sl eGl (glRows c.gl))],[.ref (h.length+1) (padR [] col).length (col+cnt) ((padR [] col).length-(col+cnt)) true]],rowB ((padR [] col).take col++c.gl++(padR [] col).drop (col+cnt)),rowB (spliceR [] col cnt c.gl)],k,R.set j [.ref (Hb.length+2) (spliceR [] col cnt c.gl).length 0 (spliceR [] col cnt c.gl).length true],?_,by simp [Hb];omega,?_,?_⟩
  ·refine .of_W H (by simpa using hN) hb (W_under fun hu=>first _ fun sl s0 s3 s4=>?_)
   refine W_co (Co.nil 4 eGl (by decide) s4) ?_
   have hl1:(h++[cgB c]).length=h.length+1:=by simp
   have hh:(h++[cgB c])++[HB.cells eGl []]=h++[cgB c,rowB []]:=by simp [rowB,glRows]
   simp only [hl1,hh]
   refine splice_tail (sl:=upd sl 4 (.ref (h.length+1) 0 0 0 true)) (Hb:=h++[cgB c,rowB []]) (r:=[]) (b:=h.length) (q:=h.length+1) (c:=c) (v:=v) (id:=id) (R:=R) Hc Ht (by simp) hb (hunder hu (by simp) ?_) (by simp [x_upd,s0]) (by simp [x_upd,s3]) (by simp [x_upd]) (gid _) (gk _) (hp_g0) (hp_g1) hcol hcnt hrow hj hjR hx (by rw [hnil] at q3;simp at q3 ⊢; omega) (by omega) (by simp) hpre.gl
   intro B hB
   simp only [zp,zc,or_false] at hB
   rcases hB with rfl | rfl
   ·exact under_cgB
   ·exact under_row (l:=[])
  ·rw [hstep,hnil]
   have hne:id≠k:=by
    rintro rfl
    have:=e.hid.symm.trans e.hk
    simp only [zH,HB.cells.injEq] at this
    exact absurd (congrArg Elt.sz this.1) (by decide)
   have hbl:Hb.length=h.length+2:=by simp [Hb]
   have hbo:∀ p,p<h.length→Hb[p]? = h[p]? := fun p hp=>zF hp
   refine e.setRow (x:=.nil) hj hx ?_ (hf_k (by omega)) hf_t (by omega) (fun q rr hq _=>?_)
   ·rw [hf_o (by omega) (Ne.symm hne) (by omega),hbo _ idlt]
   ·have hqlt:=(zA.1 hq).1
    rw [hf_o (by omega) (Ne.symm (e.ne hq).2.1) (by omega),hbo _ hqlt];exact hq
  ·have k1:Hb[h.length+1]? = some (rowB []):=hp_g1
   have k2:(Hb.set (h.length+1) (rowB (padR [] col)))[k]? = some (.cells eRw R):=by
    rw [zM (by omega)];exact gk _
   exact (Keep6.app (t:=[cgB c,rowB []])).trans ((Keep6.setO k1 (by decide)).trans ((Keep6.setO k2 (by decide)).trans .app))
 ·let Hb:Heap:=h++[cgB c]
  have hqlt:=(zA.1 hq).1
  obtain ⟨n1,n2,n3⟩:=e.ne hq
  refine ⟨(Hb.set q (rowB (padR v.rows[j] col))).set k (.cells eRw (R.set j [.ref (Hb.length+2) (spliceR v.rows[j] col cnt c.gl).length 0 (spliceR v.rows[j] col cnt c.gl).length true])) ++
   [.cells eRw [[.ref q (padR v.rows[j] col).length 0 col true],[.d (.sl eGl (glRows c.gl))],[.ref q (padR v.rows[j] col).length (col+cnt) ((padR v.rows[j] col).length-(col+cnt)) true]],rowB ((padR v.rows[j] col).take col++c.gl++(padR v.rows[j] col).drop (col+cnt)),rowB (spliceR v.rows[j] col cnt c.gl)],k,R.set j [.ref (Hb.length+2) (spliceR v.rows[j] col cnt c.gl).length 0 (spliceR v.rows[j] col cnt c.gl).length true],?_,by simp [Hb];omega,?_,?_⟩
  ·refine .of_W H (by simpa using hN) hb (W_under fun hu=>first _ fun sl s0 s3 s4=>?_)
   refine splice_tail (Hb:=h++[cgB c]) (r:=v.rows[j]) (b:=h.length) (q:=q) (c:=c) (v:=v) (id:=id) (R:=R) Hc Ht (by simp) hb (hunder hu (by simp) ?_) s0 s3 s4 (gid _) (gk _) (hp_g0) (hp_gl hq) hcol hcnt hrow hj hjR hx (by omega) (by omega) (by omega) hpre.gl
   intro B hB
   simp only [zp,zc,or_false] at hB
   subst hB
   exact under_cgB
  ·rw [hstep]
   have hbl:Hb.length=h.length+1:=by simp [Hb]
   have hbo:∀ p,p<h.length→Hb[p]? = h[p]? := fun p hp=>zF hp
   refine e.setRow (x:=.ref q v.rows[j].length 0 v.rows[j].length true) hj hx ?_ (hf_k (by omega)) hf_t (by omega) (fun q' rr hq' hx'=>?_)
   ·rw [hf_o (by omega) (Ne.symm n3) n1,hbo _ idlt]
   ·have hqlt':=(zA.1 hq').1
    have hqq:q≠q':=by
     rintro rfl
     exact hx' _ rfl
    rw [hf_o (by omega) (Ne.symm (e.ne hq').2.1) hqq,hbo _ hqlt'];exact hq'
  ·have k1:Hb[q]? = some (rowB v.rows[j]):=hp_gl hq
   have k2:(Hb.set q (rowB (padR v.rows[j] col)))[k]? = some (.cells eRw R):=by
    rw [zM n2];exact gk _
   exact (Keep6.app (t:=[cgB c])).trans ((Keep6.setO k1 (by decide)).trans ((Keep6.setO k2 (by decide)).trans .app))
end Go.Proofs.YtlllnjhgjijnkaaDoor.Nx

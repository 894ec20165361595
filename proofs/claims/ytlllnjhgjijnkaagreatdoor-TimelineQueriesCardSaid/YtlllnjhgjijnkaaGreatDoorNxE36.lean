import Derived.Test.YtlllnjhgjijnkaaGreatDoorNxE34
import Derived.Test.YtlllnjhgjijnkaaGreatDoorNxE21
import Derived.Test.YtlllnjhgjijnkaaGreatDoorNxE29
set_option linter.unusedSimpArgs false
set_option linter.unusedVariables false
set_option linter.unnecessarySimpa false
open List renaming getElem?_eq_some_iff → zA, getElem?_eq_getElem → zB, getD_eq_getElem?_getD → zC, getElem?_set_self → zN, append_nil → zP, append_assoc → zS, map_cons → zU, map_nil → zV, length_append → zb, not_mem_nil → zc, take_length → zh, getElem_mem → zi, mem_cons → zp, replicate_zero → zr, length_take → zs, length_drop → zt
open Bool renaming true_eq_false → zE, and_eq_true → zf
open Nat renaming zero_le → zI, le_refl → zL
open Int renaming toNat_natCast → zQ
open Nat renaming reduceEqDiff → qE, reduceAdd → qA, reduceLT → qL, reduceLeDiff → qD
namespace Go.Proofs.YtlllnjhgjijnkaaGreatDoor.Nx
open Go
section
variable {P:Program} {N:Nat} {Γ:Tabs}
def spCode:XC :=
(.seq (.reg [
   { dst:=some 9,op:=.mov (.k .nil) }])
  (.seq (.reg [
   { dst:=some 90,op:=.mov (.t 9) },
   { dst:=some 91,op:=.mov (.t 7) },
   { dst:=some 92,op:=.faddr 2 (.t 3) },
   { dst:=some 93,op:=.load 1 false (.t 92) },
   { dst:=some 94,op:=.mov (.t 7) },
   { dst:=some 95,op:=.len false (.t 94) },
   { dst:=some 96,op:=.minmax false [(.t 93),(.t 95)] },
   { dst:=some 97,op:=.slice ⟨3,32⟩ (.t 91) none (some (.t 96)) none },
   { dst:=some 98,op:=.append ⟨3,32⟩ (.t 90) (.t 97) },
   { dst:=some 9,op:=.mov (.t 98) }])
  (.seq (.block 2 (.loop (.seq (.seq (.reg [
   { dst:=some 99,op:=.mov (.t 9) },
   { dst:=some 100,op:=.len false (.t 99) },
   { dst:=some 101,op:=.faddr 2 (.t 3) },
   { dst:=some 102,op:=.load 1 false (.t 101) },
   { dst:=some 103,op:=.bin .lss (.t 100) (.t 102) }])
  (.cond (.t 103)
   .skip
   (.exit 2)))
  (.block 3 (.reg [
   { dst:=some 104,op:=.mov (.t 9) },
   { dst:=some 105,op:=.build [(.str ⟨#[]⟩),(.bool false),(.int 0)] [(0,1,(.k (.str ⟨#[32]⟩)))] },
   { dst:=some 106,op:=.bslice ⟨3,32⟩ [(.str ⟨#[]⟩),(.bool false),(.int 0)] 1 [(0,(.t 105))] },
   { dst:=some 107,op:=.append ⟨3,32⟩ (.t 104) (.t 106) },
   { dst:=some 9,op:=.mov (.t 107) }])))))
  (.seq (.reg [
   { dst:=some 108,op:=.mov (.t 9) },
   { dst:=some 109,op:=.faddr 5 (.t 3) },
   { dst:=some 110,op:=.load 1 false (.t 109) },
   { dst:=some 111,op:=.append ⟨3,32⟩ (.t 108) (.t 110) },
   { dst:=some 9,op:=.mov (.t 111) }])
  (.seq (.seq (.reg [
   { dst:=some 112,op:=.faddr 2 (.t 3) },
   { dst:=some 113,op:=.load 1 false (.t 112) },
   { dst:=some 114,op:=.mov (.t 7) },
   { dst:=some 115,op:=.len false (.t 114) },
   { dst:=some 116,op:=.bin .lss (.t 113) (.t 115) }])
  (.cond (.t 116)
   (.reg [
    { dst:=some 117,op:=.mov (.t 9) },
    { dst:=some 118,op:=.mov (.t 7) },
    { dst:=some 119,op:=.faddr 2 (.t 3) },
    { dst:=some 120,op:=.load 1 false (.t 119) },
    { dst:=some 121,op:=.faddr 3 (.t 3) },
    { dst:=some 122,op:=.load 1 false (.t 121) },
    { dst:=some 123,op:=.bin .add (.t 120) (.t 122) },
    { dst:=some 124,op:=.slice ⟨3,32⟩ (.t 118) (some (.t 123)) none none },
    { dst:=some 125,op:=.append ⟨3,32⟩ (.t 117) (.t 124) },
    { dst:=some 9,op:=.mov (.t 125) }])
   .skip))
  (.reg [
   { dst:=some 126,op:=.mov (.t 9) },
   { dst:=some 7,op:=.mov (.t 126) }]))))))
def scCode:XC :=
(.seq (.reg [
   { dst:=some 7,op:=.mov (.k .nil) }])
  (.seq (.reg [
   { dst:=some 62,op:=.mov (.t 6) },
   { dst:=some 63,op:=.faddr 3 (.t 3) },
   { dst:=some 64,op:=.load 1 false (.t 63) },
   { dst:=some 65,op:=.bin .add (.t 62) (.t 64) },
   { dst:=some 8,op:=.mov (.t 65) }])
  (.seq (.reg [
   { dst:=some 66,op:=.mov (.t 8) },
   { dst:=some 67,op:=.faddr 1 (.t 3) },
   { dst:=some 68,op:=.load 1 false (.t 67) },
   { dst:=some 69,op:=.bin .geq (.t 66) (.t 68) },
   { dst:=some 70,op:=.mov (.t 69) },
   { dst:=some 71,op:=.mov (.t 8),guard:=some (70,true) },
   { dst:=some 72,op:=.faddr 4 (.t 3),guard:=some (70,true) },
   { dst:=some 73,op:=.load 1 false (.t 72),guard:=some (70,true) },
   { dst:=some 74,op:=.bin .lss (.t 71) (.t 73),guard:=some (70,true) },
   { dst:=some 75,op:=.pick (.t 70) (.t 74) (.k (.bool false)) }])
  (.cond (.t 75)
   (.reg [
    { dst:=some 76,op:=.faddr 2 (.t 2) },
    { dst:=some 77,op:=.load 1 false (.t 76) },
    { dst:=some 78,op:=.mov (.t 8) },
    { dst:=some 79,op:=.iaddr ⟨1,24⟩ (.t 77) (.t 78) },
    { dst:=some 80,op:=.load 1 false (.t 79) },
    { dst:=some 7,op:=.mov (.t 80) }])
   .skip))))
abbrev stL (i:Nat):List (Nat × A):=[(2,.ptr 0 1 0 0),(3,.ptr 1 1 0 0),(4,.ptr 2 1 0 0),(5,.ptr 3 1 0 0),(6,.int i)]
structure StS (sl:Nat→A) (i:Nat):Prop where
 s2:sl 2 = .ptr 0 1 0 0
 s3:sl 3 = .ptr 1 1 0 0
 s4:sl 4 = .ptr 2 1 0 0
 s5:sl 5 = .ptr 3 1 0 0
 s6:sl 6 = .int i
theorem splice_rows {l g:List Gl} {a b:Nat} (hb:b≤l.length-a):(padR l a).take a++g++(padR l a).drop (a+b)=(l.take (min a l.length)++List.replicate (a-l.length) spaceGl)++g++(if a<l.length then l.drop (a+b) else []):=by
 unfold padR
 split
 ·rename_i h
  rw [show a-l.length=0 by omega,zr,zP,zP,show min a l.length=a by omega]
 ·rename_i h
  rw [show min a l.length=l.length by omega,zh,List.take_of_length_le (by simp;omega),List.drop_eq_nil_of_le (by simp;omega)]
set_option maxHeartbeats 2000000 in
theorem spCode_W {sl:Nat→A} {H:Heap} {i:Nat} {l:List Gl} {c:Cg} {col cnt:Nat} (q:StS sl i) (h7:sl 7 = .d (.sl eGl (glRows l))) (hcol:c.col=col) (hcnt:c.count=cnt) (hc1:col≤264) (hc2:cnt≤l.length-col) (hl:l.length≤50000) (hg:c.gl.length≤1000) (hc:H[1]? = some (cgB c)) (hu:∀ B∈H,HB.under H.length B) (h4:4≤H.length) :
  W Γ.ctx P N none 0 spCode (fun e s=>e = .normal∧∃ s1,Co 0 s s1∧s1=⟨look (stL i++[(7,.d (.sl eGl (glRows ((padR l col).take col++c.gl++(padR l col).drop (col+cnt)))))]),H⟩) ⟨sl,H⟩:=by
 rw [splice_rows hc2]
 have g1:∀ t:Heap,(H++t)[1]? = some (cgB c):=fun t=>hp_gl hc
 have mn:minmaxInt false (col:Int) (l.length:Int)=((min col l.length:Nat):Int):=by unfold minmaxInt;simp only [Bool.false_eq_true,if_false];split<;>omega
 let U:List Gl→St:=fun m=>⟨look [(2,.ptr 0 1 0 0),(3,.ptr 1 1 0 0),(4,.ptr 2 1 0 0),(5,.ptr 3 1 0 0),(6,.int i),(7,.d (.sl eGl (glRows l))),(9,.ref H.length m.length 0 m.length true)],H++[rowB m]⟩
 unfold spCode
 refine wR ?_;simp only [xq,reduceIte,qE,qA,qL,qD]
 refine W_co (Co.nil 9 eGl (by decide) (by simp [x_upd])) ?_
 refine W_co (s':=U []) (Co.keep _ (by simp [x_upd,q.s2,q.s3,q.s4,q.s5,q.s6,h7])) ?_
 simp only [U]
 refine wR ?_;simp only [xq,reduceIte,qE,qA,qL,qD,g1,Cg.ds,hcol,mn,glRows_len,Int.natCast_zero,Int.sub_zero,glRows_take,hp_g0,hp_s0]
 refine ⟨by omega,by omega,by omega,by omega,?_⟩
 obtain ⟨m0,hm0⟩:∃ m0,m0=l.take (min col l.length):=⟨_,rfl⟩
 have hm0l:m0.length=min col l.length:=by rw [hm0,zs];omega
 simp only [xq,reduceIte,qE,qA,qL,qD,hp_g0,hp_s0,glRows_len,List.length_nil,Nat.zero_add,zQ,Nat.sub_zero,Int.toNat_zero,List.drop_zero,← hm0,hm0l,zV]
 refine ⟨by simp only [room];omega,by simp only [maxLen];omega,?_⟩
 have hu2:∀ (m:List Gl),∀ B∈H++[rowB m],HB.under (H++[rowB m]).length B:=by
  intro m B hB
  rcases List.mem_append.1 hB with hB | hB
  ·exact HB.under_mono (hu B hB) (by simp)
  ·simp only [List.mem_singleton] at hB
   subst hB;exact under_d
 have hsp:∀ m:List Gl,((glRows m).map fun r=>r.map A.d)++[[.str ⟨#[32]⟩,.bool false,.int 0]]=(glRows (m++[spaceGl])).map fun r=>r.map A.d:=fun m=>by simp [glRows];rfl
 let m1:Nat→List Gl:=fun k=>m0++List.replicate k spaceGl
 have hm1l:∀ k,(m1 k).length=min col l.length+k:=fun k=>by simp [m1,hm0l]
 have hm1s:∀ k,m1 (k+1)=m1 k++[spaceGl]:=fun k=>by simp [m1,List.replicate_succ',zS]
 refine W_cut (· = U (m1 (col-l.length))) ?_ ?_
 ·refine W_block ?_
  refine W_co (s':=U (m1 0)) (by
   have:m1 0=m0:=by simp [m1]
   simp only [U,this]
   exact Co.keep _ (by simp [x_upd,x_look,hm0l])) ?_
  refine W_loop (fun q s=>∃ k,k≤col-l.length∧q=col-l.length-k∧s=U (m1 k)) ⟨0,zI _,rfl,rfl⟩ ?_
  rintro q' s ⟨k,hk,rfl,rfl⟩
  simp only [U]
  refine W_seq (W_seq ?_)
  refine W_reg ?_;simp only [xq,reduceIte,qE,qA,qL,qD,g1,hp_g0,Cg.ds,hcol,glRows_len,hm1l]
  refine W_cond rfl (fun hd=>W_skip ?_) (fun hd=>W_exit ?_)
  ·have hlt:k<col-l.length:=by
    have hd:=of_decide_eq_true hd
    omega
   simp only [xq,reduceIte,qE,qA,qL,qD]
   refine W_block ?_
   refine W_reg ?_;simp only [xq,reduceIte,qE,qA,qL,qD,hp_g0,hp_gk,hp_s0,zS,rowB_len,hm1l,hsp,← hm1s,glRows_len]
   refine ⟨by simp only [room];omega,by simp only [maxLen];omega,?_⟩
   refine ⟨col-l.length-(k+1),U (m1 (k+1)),by omega,?_,k+1,hlt,rfl,by simp only [U,hm1l]⟩
   simp only [U]
   rw [show ∀ (x y:HB),H++[x,y]=(H++[x])++[y] from fun x y=>by simp]
   exact Co.back _ (by simp [x_upd,x_look,A.under,hm1l];omega) (zI _) (hu2 _)
  ·have hke:k=col-l.length:=by
    have hd:=of_decide_eq_false hd
    omega
   subst hke
   simp only [xq,reduceIte,qE,qA,qL,qD]
   exact ⟨_,Co.keep _ (by simp [x_upd,x_look,hm1l]),rfl⟩
 rintro _ rfl
 obtain ⟨m2,hm2⟩:∃ m2,m2=m1 (col-l.length):=⟨_,rfl⟩
 have hm2l:m2.length=max col (min col l.length):=by rw [hm2,hm1l];omega
 have hm2v:m0++List.replicate (col-l.length) spaceGl=m2:=hm2.symm
 rw [← hm2,hm2v]
 clear hm2 hm1l hm1s hsp
 simp only [U]
 have hcat:∀ a b:List Gl,((glRows a).map fun r=>r.map A.d)++((glRows b).map fun r=>r.map A.d)=(glRows (a++b)).map fun r=>r.map A.d:=fun a b=>by simp [glRows]
 refine wR ?_;simp only [xq,reduceIte,qE,qA,qL,qD,g1,hp_g0,hp_s0,Cg.ds,rowB_len,glRows_len,hcat]
 refine ⟨by simp only [room,zb];omega,by simp only [maxLen,zb];omega,?_⟩
 refine W_cut (· = U (m2++c.gl++(if col<l.length then l.drop (col+cnt) else []))) ?_ ?_
 ·refine wR ?_;simp only [xq,reduceIte,qE,qA,qL,qD,g1,hp_g0,Cg.ds,hcol,glRows_len]
  refine W_cond rfl (fun hd=>?_) (fun hd=>W_skip ?_)
  ·have hlt:col<l.length:=by
    have hd:=of_decide_eq_true hd
    omega
   have w1:IntKind.i64.wrap ((col:Int)+(cnt:Int))=((col+cnt:Nat):Int):=by rw [i64_of (by omega)];omega
   have hsl:((glRows l).drop (col+cnt)).take (l.length-(col+cnt))=glRows (l.drop (col+cnt)):=by
    rw [List.take_of_length_le (by rw [zt,glRows_len];exact zL _)];simp [glRows,List.map_drop]
   rw [if_pos hlt]
   have e2:((l.length:Int)-((col+cnt:Nat):Int)).toNat=l.length-(col+cnt):=by omega
   refine W_reg ?_;simp only [xq,reduceIte,qE,qA,qL,qD,g1,hp_g0,hp_s0,Cg.ds,hcol,hcnt,w1,glRows_len,zQ,e2,hsl,hcat]
   refine ⟨by omega,by omega,by omega,by omega,by simp only [room,zt];omega,by simp only [maxLen,zt];omega,?_⟩
   exact ⟨_,Co.keep _ (by simp [x_upd,x_look,Nat.add_assoc]),rfl⟩
  ·have hlt:¬ col<l.length:=by
    have hd:=of_decide_eq_false hd
    omega
   rw [if_neg hlt,zP]
   exact ⟨rfl,_,Co.keep _ (by simp [x_upd,x_look]),rfl⟩
 rintro _ rfl
 simp only [U]
 generalize m2++c.gl++(if col<l.length then l.drop (col+cnt) else [])=m
 refine W_reg ?_;simp only [xq,reduceIte,qE,qA,qL,qD]
 refine ⟨_,Co.frz (s:=⟨_,H++[rowB m]⟩) (stL i++[(7,.d (.sl eGl (glRows m)))]) H.length ?_ (zI _) (by simp) (by simpa using hu),?_⟩
 ·intro p hp
  have hfr:=frzD_rows (k:=H.length) (id:=H.length) (off:=0) (len:=m.length) (full:=true) (e:=eGl) (h:=H++[rowB m]) (rows:=glRows m) (zL _) hp_g0 (by rw [glRows_len];omega)
  rw [glRows_len,List.drop_zero,List.take_of_length_le (by rw [glRows_len];exact zL _)] at hfr
  simp only [stL,List.cons_append,List.nil_append,zp,zc,or_false] at hp
  rcases hp with rfl | rfl | rfl | rfl | rfl | rfl
  ·exact .same (decide_eq_true (show (0:Nat)<H.length by omega))
  ·exact .same (decide_eq_true (show (1:Nat)<H.length by omega))
  ·exact .same (decide_eq_true (show (2:Nat)<H.length by omega))
  ·exact .same (decide_eq_true (show (3:Nat)<H.length by omega))
  ·exact .same rfl
  ·exact .d hfr
 ·simp
theorem scCode_W {sl:Nat→A} {H:Heap} {i:Nat} {v:Vw} {c:Cg} (q:StS sl i) (hi:i≤1000) (h0:H[0]? = some (vwB v)) (hc:H[1]? = some (cgB c)) (hc1:0≤c.row∧c.upto≤v.rows.length ∧ -1000≤c.count∧c.count≤1000) :
  W Γ.ctx P N none 0 scCode (fun e s=>e = .normal∧∃ s1,Co 0 s s1∧s1=⟨look (stL i++[(7,.d (.sl eGl (glRows (if c.row≤(i:Int)+c.count∧(i:Int)+c.count<c.upto then rowAt v.rows ((i:Int)+c.count) else []))))]),H⟩) ⟨sl,H⟩:=by
 have w2:IntKind.i64.wrap ((i:Int)+c.count)=(i:Int)+c.count:=i64_of (by omega)
 unfold scCode
 refine wR ?_;simp only [xq,reduceIte,qE,qA,qL,qD]
 refine wR ?_;simp only [xq,reduceIte,qE,qA,qL,qD,q.s3,q.s6,hc,Cg.ds,w2]
 by_cases h1:c.row≤(i:Int)+c.count
 ·have d1:decide (c.row≤(i:Int)+c.count)=true:=decide_eq_true h1
  by_cases h2:(i:Int)+c.count<c.upto
  ·have d2:decide ((i:Int)+c.count<c.upto)=true:=decide_eq_true h2
   obtain ⟨j,hj⟩:∃ j:Nat,(i:Int)+c.count=j:=⟨((i:Int)+c.count).toNat,by omega⟩
   have hjl:j<v.rows.length:=by omega
   have hra:rowAt v.rows ((i:Int)+c.count)=v.rows[j]:=by
    unfold rowAt
    rw [hj,zQ,zC,zB hjl];rfl
   rw [if_pos ⟨h1,h2⟩,hra]
   refine wR ?_;simp only [xq,reduceIte,qE,qA,qL,qD,q.s3,hc,Cg.ds,d1,d2]
   refine W_cond rfl (fun hd=>?_) (fun hd=>by cases hd)
   refine W_reg ?_;simp only [xq,reduceIte,qE,qA,qL,qD,q.s2,h0,Vw.ds,hj,rwRows_len,rwRows_get hjl,zQ]
   refine ⟨by omega,by omega,?_⟩
   exact ⟨_,Co.keep _ (by simp [x_upd,q.s2,q.s3,q.s4,q.s5,q.s6]),rfl⟩
  ·have d2:decide ((i:Int)+c.count<c.upto)=false:=decide_eq_false h2
   rw [if_neg (fun h=>h2 h.2)]
   refine wR ?_;simp only [xq,reduceIte,qE,qA,qL,qD,q.s3,hc,Cg.ds,d1,d2]
   refine W_cond rfl (fun hd=>by cases hd) (fun hd=>W_skip ?_)
   exact ⟨rfl,_,Co.trans (Co.nild 7 eGl (by simp [x_upd])) (Co.keep _ (by simp [x_upd,q.s2,q.s3,q.s4,q.s5,q.s6,glRows])),rfl⟩
 ·have d1:decide (c.row≤(i:Int)+c.count)=false:=decide_eq_false h1
  rw [if_neg (fun h=>h1 h.1)]
  refine wR ?_;simp only [xq,reduceIte,qE,qA,qL,qD,q.s3,hc,Cg.ds,d1,undefA,zE]
  refine W_cond rfl (fun hd=>by cases hd) (fun hd=>W_skip ?_)
  exact ⟨rfl,_,Co.trans (Co.nild 7 eGl (by simp [x_upd])) (Co.keep _ (by simp [x_upd,q.s2,q.s3,q.s4,q.s5,q.s6,glRows])),rfl⟩
end
section
variable {P:Program} {N:Nat} {Γ:Tabs}
theorem hr_g0 {a b c d B:HB} {t t':Heap}:(a::b::c::d::(t++B::t'))[t.length+4]? = some B:=by simp
theorem stepV_len {v:Vw} {c:Cg} (hk:c.kind≠1):(stepV v c).rows.length=v.rows.length:=by
 unfold stepV
 rw [if_neg hk]
 split
 ·exact scrollL_len
 ·split
  ·simp
  ·rfl
def preRow (v:Vw) (c:Cg) (i:Nat):List Gl :=
 if c.kind=2 then (if c.row≤(i:Int)∧(i:Int)<c.upto then (if c.row≤(i:Int)+c.count∧(i:Int)+c.count<c.upto then rowAt v.rows ((i:Int)+c.count) else []) else v.rows.getD i [])
 else if c.kind=3∧(i:Int)=c.row then (padR (v.rows.getD i []) c.col.toNat).take c.col.toNat++c.gl++(padR (v.rows.getD i []) c.col.toNat).drop (c.col.toNat+c.count.toNat) else v.rows.getD i []
theorem preRow_trim {v:Vw} {c:Cg} (ed:Ed v) (hk:c.kind=2∨c.kind=3) (hr:0≤c.row) {i:Nat} (hi:i<v.rows.length):trimGl (preRow v c i)=(stepV v c).rows.getD i []:=by
 have tg:∀ j,trimGl (v.rows.getD j [])=v.rows.getD j []:=fun j=>by
  rcases getD_mem (rows:=v.rows) (n:=j) with h | h
  ·rw [h];rfl
  ·exact trim_id (ed.tr _ h)
 have k1:¬ c.kind=1:=by omega
 unfold preRow stepV
 simp only [if_neg k1]
 rcases hk with hk | hk
 ·simp only [if_pos hk]
  have e:(scrollL v.rows c.row c.upto c.count).getD i []=scrollR v.rows c.row c.upto c.count i:=by
   rw [zC,scrollL,List.getElem?_map,List.getElem?_range hi];rfl
  rw [e,scrollR]
  split
  ·split
   ·unfold rowAt;exact tg _
   ·rfl
  ·exact tg _
 ·have k2:¬ c.kind=2:=by omega
  simp only [if_neg k2,if_pos hk]
  by_cases hie:(i:Int)=c.row
  ·have h3:c.kind=3∧(i:Int)=c.row:=⟨hk,hie⟩
   rw [if_pos h3]
   have e:c.row.toNat=i:=by omega
   rw [e,zC (l:=v.rows.set i _),zN hi]
   unfold rowAt
   rw [e];rfl
  ·have h3:¬ (c.kind=3∧(i:Int)=c.row):=fun h=>hie h.2
   rw [if_neg h3,zC (l:=v.rows.set _ _),List.getElem?_set_ne (by omega),← zC]
   exact tg _
theorem stepV_size {v:Vw} {c:Cg} (hk:c.kind=2∨c.kind=3):∀ x,outRow (stepV v c) x=outRow v x:=by
 intro x
 unfold stepV outRow
 rcases hk with hk | hk
 ·rw [if_neg (by omega),if_pos hk]
 ·rw [if_neg (by omega),if_neg (by omega),if_pos hk]
abbrev SizedOk (Γ:Tabs) (P:Program) (f:FuncId):Prop:=∀ (v:Vw) (h w:Int),1≤h∧h≤60→0≤w∧w≤1000→(∀ r∈v.rows,r.length≤50000)→v.rows.length≤1000→FnP Γ P f [vwA v,.int h,.int w] (vwA (sizeV v h w))
set_option maxHeartbeats 4000000 in
theorem rstep_fn {f fz ft:FuncId} (H:FnIs P f N [.c 4 6 true] (x_ref19_step fz ft)) (hN:2≤N) (Hz:SizedOk Γ P fz) (Ht:∀ l:List Gl,l.length≤1000000→FnP Γ P ft [.d (.sl eGl (glRows l))] (.d (.sl eGl (glRows (trimGl l)))))
  (v:Vw) (c:Cg) (hpre:StepPre v c):FnP Γ P f [vwA v,cgA c] (vwA (stepV v c)):=by
 refine .of_W H (by simpa using hN) ?_
 obtain ⟨q1,q2,q3,q4⟩:=chgC_zero hpre.ok
 have hs:=szOk_iff.1 hpre.ed.sz
 have hlen:=hpre.ed.len
 unfold x_ref19_step
 simp only [vwA,Vw.ds,cgA,Cg.ds,zU,zV]
 refine wR ?_;simp only [xq,reduceIte,qE,qA,qL,qD]
 refine W_seq ?_
 refine wR ?_;simp only [xq,reduceIte,qE,qA,qL,qD]
 refine W_cond rfl (fun hk=>?_) (fun hk=>W_skip ?_)
 ·have hk:c.kind=1:=by simpa using hk
  rw [rangeG,if_pos hk,zf,btw_iff,btw_iff] at q3
  have hz:=Hz v c.row c.col (by omega) (by omega) hpre.row (by omega)
  have hst:stepV v c=sizeV v c.row c.col:=by rw [stepV,if_pos hk]
  rw [hst]
  simp only [vwA,Vw.ds,zU,zV] at hz
  refine wR ?_;simp only [xq,reduceIte,qE,qA,qL,qD]
  refine c_fn (hz) rfl ?_;simp only [xq,reduceIte,qE,qA,qL,qD]
  refine W_ret ⟨.inr rfl,?_⟩
  simp only [readRs,readR,single,xq,reduceIte,qE,qA,qL,qD,loadsTo,List.take]
  exact .same rfl
 have hk1:¬ c.kind=1:=by simpa using hk
 simp only [xq,reduceIte,qE,qA,qL,qD]
 refine wR ?_;simp only [xq,reduceIte,qE,qA,qL,qD]
 refine W_seq ?_
 refine wR ?_;simp only [xq,reduceIte,qE,qA,qL,qD]
 refine W_cond rfl (fun hk=>?_) (fun hk=>W_skip ?_)
 ·have hk:c.kind=4:=by simpa using hk
  have hst:stepV v c={ v with row:=c.row,col:=c.col,vis:=decide (c.count=1) }:=by rw [stepV,if_neg hk1,if_neg (by omega),if_neg (by omega)]
  rw [hst]
  refine wR ?_;simp only [xq,reduceIte,qE,qA,qL,qD]
  refine wR ?_;simp only [xq,reduceIte,qE,qA,qL,qD]
  refine wR ?_;simp only [xq,reduceIte,qE,qA,qL,qD]
  refine wR ?_;simp only [xq,reduceIte,qE,qA,qL,qD]
  refine W_ret ⟨.inr rfl,?_⟩
  simp only [readRs,readR,single,xq,reduceIte,qE,qA,qL,qD,loadsTo,List.take]
  exact .same rfl
 have hk4:¬ c.kind=4:=by simpa using hk
 have hk23:c.kind=2∨c.kind=3:=by omega
 have hrow:0≤c.row:=by
  rcases hk23 with hk | hk
  ·rw [rangeG,if_neg hk1,if_pos hk] at q3
   simp at q3;omega
  ·rw [rangeG,if_neg hk1,if_neg (by omega),if_pos hk] at q3
   simp only [zf,btw_iff] at q3;omega
 let R:=(stepV v c).rows
 have hRl:R.length=v.rows.length:=stepV_len hk1
 have htk:∀ i,i<v.rows.length→R.take (i+1)=R.take i++[trimGl (preRow v c i)]:=fun i hi=>by
  rw [preRow_trim hpre.ed hk23 hrow hi,List.take_add_one,zC]
  show _=_++[(R[i]?).getD []]
  rw [zB (by omega)];rfl
 simp only [xq,reduceIte,qE,qA,qL,qD]
 refine wR ?_;simp only [xq,reduceIte,qE,qA,qL,qD]
 refine W_seq ?_
 refine wR ?_;simp only [xq,reduceIte,qE,qA,qL,qD]
 refine W_block ?_
 let S:A→Heap→Nat→St:=fun x t i=>⟨look (stL i),vwB v::cgB c::zeroB::outB v x::t⟩
 refine W_co (s':=S .nil [] 0) (Co.keep _ (by simp [x_upd,x_look])) ?_
 refine W_loop (fun m s=>∃ i x t,i≤v.rows.length∧m=v.rows.length-i∧s=S x t i∧RwsIs t 4 (R.take i) x∧∀ B∈t,HB.under 0 B) ⟨0,.nil,[],zI _,rfl,rfl,.inl ⟨rfl,rfl⟩,by simp⟩ ?_
 rintro m s ⟨i,x,t,hi,rfl,rfl,ho,hut⟩
 simp only [S]
 refine W_seq (W_seq ?_)
 refine W_reg ?_;simp only [xq,reduceIte,qE,qA,qL,qD,Vw.ds,rwRows_len]
 refine W_cond rfl (fun hc=>W_skip ?_) (fun hc=>W_exit ?_)
 ·have hlt:i<v.rows.length:=by simpa using hc
  have w1:IntKind.i64.wrap ((i:Int)+1)=((i+1:Nat):Int):=by rw [i64_of (by omega)];omega
  have gv:v.rows.getD i []=v.rows[i]:=by rw [zC,zB hlt];rfl
  have hrl:=hpre.row _ (zi hlt)
  obtain ⟨Hp,hHp⟩:∃ Hp,Hp=vwB v::cgB c::zeroB::outB v x::t:=⟨_,rfl⟩
  have p0:Hp[0]? = some (vwB v):=by rw [hHp];rfl
  have p1:Hp[1]? = some (cgB c):=by rw [hHp];rfl
  have hpl:4≤Hp.length:=by rw [hHp];simp
  have hxu:x.under Hp.length=true:=by
   rcases ho with ⟨rfl,_⟩ | ⟨q,rfl,hq,_⟩
   ·rfl
   ·have:=(zA.1 hq).1
    simp only [A.under,decide_eq_true_eq,hHp,List.length_cons];omega
  have hup:∀ B∈Hp,HB.under Hp.length B:=by
   intro B hB
   rw [hHp] at hB
   simp only [zp] at hB
   rcases hB with rfl | rfl | rfl | rfl | hB
   ·exact under_vwB
   ·exact under_cgB
   ·intro r hr y hy
    simp only [zp,zc,or_false] at hr
    subst hr
    simp only [zrow,zp,zc,or_false] at hy
    rcases hy with rfl | rfl | rfl | rfl | rfl | rfl<;>rfl
   ·intro r hr y hy
    simp only [zp,zc,or_false] at hr
    subst hr
    simp only [outRow,zp,zc,or_false] at hy
    rcases hy with rfl | rfl | rfl | rfl | rfl | rfl
    ·rfl
    ·rfl
    ·exact hxu
    ·rfl
    ·rfl
    ·rfl
   ·exact HB.under_mono (hut B hB) (zI _)
  rw [← hHp]
  simp only [xq,reduceIte,qE,qA,qL,qD]
  refine W_seq (W_block ?_)
  refine wR ?_;simp only [xq,reduceIte,qE,qA,qL,qD,p0,Vw.ds,rwRows_len,rwRows_get hlt,zQ]
  refine ⟨by omega,by omega,?_⟩
  have hpre2:∀ m1:List Gl,(c.kind=2→c.row≤(i:Int)∧(i:Int)<c.upto→m1=if c.row≤(i:Int)+c.count∧(i:Int)+c.count<c.upto then rowAt v.rows ((i:Int)+c.count) else [])→(¬ (c.kind=2∧c.row≤(i:Int)∧(i:Int)<c.upto)→m1=v.rows[i])→True:=fun _ _ _=>trivial
  obtain ⟨m1,hm1⟩:∃ m1,m1=if c.kind=2∧c.row≤(i:Int)∧(i:Int)<c.upto then (if c.row≤(i:Int)+c.count∧(i:Int)+c.count<c.upto then rowAt v.rows ((i:Int)+c.count) else []) else v.rows[i]:=⟨_,rfl⟩
  refine W_cut (· = ⟨look (stL i++[(7,.d (.sl eGl (glRows m1)))]),Hp⟩) ?_ ?_
  ·by_cases h2:c.kind=2
   ·have d0:decide (c.kind=2)=true:=decide_eq_true h2
    have hq3:=q3
    rw [rangeG,if_neg hk1,if_pos h2] at hq3
    simp only [zf,decide_eq_true_eq] at hq3
    by_cases h3:c.row≤(i:Int)
    ·have d1:decide (c.row≤(i:Int))=true:=decide_eq_true h3
     by_cases h4:(i:Int)<c.upto
     ·have d2:decide ((i:Int)<c.upto)=true:=decide_eq_true h4
      rw [if_pos ⟨h2,h3,h4⟩] at hm1
      refine wR ?_;simp only [xq,reduceIte,qE,qA,qL,qD,p1,Cg.ds,d0,d1,d2]
      refine W_cond rfl (fun hd=>?_) (fun hd=>by cases hd)
      rw [hm1]
      exact scCode_W (sl:=_) ⟨rfl,rfl,rfl,rfl,rfl⟩ (by omega) p0 p1 (by omega)
     ·have d2:decide ((i:Int)<c.upto)=false:=decide_eq_false h4
      rw [if_neg (fun h=>h4 h.2.2)] at hm1
      refine wR ?_;simp only [xq,reduceIte,qE,qA,qL,qD,p1,Cg.ds,d0,d1,d2]
      refine W_cond rfl (fun hd=>by cases hd) (fun hd=>W_skip ?_)
      rw [hm1]
      exact ⟨rfl,_,Co.keep _ (by simp [x_upd,x_look]),rfl⟩
    ·have d1:decide (c.row≤(i:Int))=false:=decide_eq_false h3
     rw [if_neg (fun h=>h3 h.2.1)] at hm1
     refine wR ?_;simp only [xq,reduceIte,qE,qA,qL,qD,p1,Cg.ds,d0,d1,undefA,zE]
     refine W_cond rfl (fun hd=>by cases hd) (fun hd=>W_skip ?_)
     rw [hm1]
     exact ⟨rfl,_,Co.keep _ (by simp [x_upd,x_look]),rfl⟩
   ·have d0:decide (c.kind=2)=false:=decide_eq_false h2
    rw [if_neg (fun h=>h2 h.1)] at hm1
    refine wR ?_;simp only [xq,reduceIte,qE,qA,qL,qD,p1,Cg.ds,d0,undefA,zE]
    refine W_cond rfl (fun hd=>by cases hd) (fun hd=>W_skip ?_)
    rw [hm1]
    exact ⟨rfl,_,Co.keep _ (by simp [x_upd,x_look]),rfl⟩
  rintro _ rfl
  have hpr:preRow v c i=if c.kind=3∧(i:Int)=c.row then (padR m1 c.col.toNat).take c.col.toNat++c.gl++(padR m1 c.col.toNat).drop (c.col.toNat+c.count.toNat) else m1:=by
   unfold preRow
   rw [gv,hm1]
   by_cases h2:c.kind=2
   ·rw [if_pos h2,if_neg (show ¬ (c.kind=3∧(i:Int)=c.row) by omega)]
    by_cases h3:c.row≤(i:Int)∧(i:Int)<c.upto
    ·have h23:c.kind=2∧c.row≤(i:Int)∧(i:Int)<c.upto:=⟨h2,h3⟩
     rw [if_pos h3,if_pos h23]
    ·rw [if_neg h3,if_neg (fun h=>h3 h.2)]
   ·rw [if_neg h2,if_neg (fun h:c.kind=2∧_=>h2 h.1)]
  have hm1l:m1.length≤50000:=by
   rw [hm1]
   split
   ·split
    ·exact rowAt_len hpre.row
    ·exact zI _
   ·exact hrl
  clear hpre2
  have hpl2:(preRow v c i).length≤60000:=by
   rw [hpr]
   split
   ·rename_i h3
    rw [rangeG,if_neg hk1,if_neg (by omega),if_pos h3.1] at q3
    simp only [zf,btw_iff] at q3
    have:=padR_len (l:=m1) (n:=c.col.toNat)
    have:=hpre.gl
    simp only [zb,zs,zt]
    omega
   ·omega
  refine W_cut (· = ⟨look (stL i++[(7,.d (.sl eGl (glRows (preRow v c i))))]),Hp⟩) ?_ ?_
  ·by_cases h2:c.kind=3
   ·have d0:decide (c.kind=3)=true:=decide_eq_true h2
    by_cases h3:(i:Int)=c.row
    ·have d1:decide ((i:Int)=c.row)=true:=decide_eq_true h3
     have hm1e:m1=v.rows[i]:=by rw [hm1,if_neg (by omega)]
     rw [rangeG,if_neg hk1,if_neg (by omega),if_pos h2] at q3
     simp only [zf,btw_iff] at q3
     have hra:rowAt v.rows c.row=m1:=by
      unfold rowAt
      rw [← h3,zQ,gv,hm1e]
     rw [hra] at q3
     rw [hpr,if_pos ⟨h2,h3⟩]
     refine wR ?_;simp only [xq,reduceIte,qE,qA,qL,qD,p1,Cg.ds,d0,d1]
     refine W_cond rfl (fun hd=>?_) (fun hd=>by cases hd)
     exact spCode_W (sl:=_) ⟨rfl,rfl,rfl,rfl,rfl⟩ rfl (col:=c.col.toNat) (cnt:=c.count.toNat) (by omega) (by omega) (by omega) (by omega) hm1l hpre.gl p1 hup hpl
    ·have d1:decide ((i:Int)=c.row)=false:=decide_eq_false h3
     rw [hpr,if_neg (fun h=>h3 h.2)]
     refine wR ?_;simp only [xq,reduceIte,qE,qA,qL,qD,p1,Cg.ds,d0,d1]
     refine W_cond rfl (fun hd=>by cases hd) (fun hd=>W_skip ?_)
     exact ⟨rfl,_,Co.keep _ (by simp [x_upd,x_look]),rfl⟩
   ·have d0:decide (c.kind=3)=false:=decide_eq_false h2
    rw [hpr,if_neg (fun h=>h2 h.1)]
    refine wR ?_;simp only [xq,reduceIte,qE,qA,qL,qD,p1,Cg.ds,d0,undefA,zE]
    refine W_cond rfl (fun hd=>by cases hd) (fun hd=>W_skip ?_)
    exact ⟨rfl,_,Co.keep _ (by simp [x_upd,x_look]),rfl⟩
  rintro _ rfl
  have hT:=Ht (preRow v c i) (by omega)
  obtain ⟨nr,hnr⟩:∃ nr,nr=trimGl (preRow v c i):=⟨_,rfl⟩
  rw [← hnr] at hT
  have htk':=htk i hlt
  rw [← hnr] at htk'
  have haccl:(R.take i).length=i:=by rw [zs];omega
  obtain ⟨o,hod⟩:∃ o,o=R.take i:=⟨_,rfl⟩
  rw [← hod] at ho htk' haccl
  clear hpr hpl2 hm1l hm1 hup hxu p0 p1 hpl
  rw [hHp]
  have next:∀ (sl:Nat→A) (x2:A) (t2:Heap),sl 2 = .ptr 0 1 0 0→sl 3 = .ptr 1 1 0 0→sl 4 = .ptr 2 1 0 0→sl 5 = .ptr 3 1 0 0→sl 6 = .int ((i+1:Nat):Int)→RwsIs t2 4 (o++[nr]) x2→(∀ B∈t2,HB.under 0 B) →
    ∃ m' s'',m'<v.rows.length-i∧Co 0 ⟨sl,vwB v::cgB c::zeroB::outB v x2::t2⟩ s''∧∃ i x t,i≤v.rows.length∧m'=v.rows.length-i∧s''=S x t i∧RwsIs t 4 (R.take i) x∧∀ B∈t,HB.under 0 B:=by
   intro sl x2 t2 q2 q3 q4 q5 q6 ho2 hu2
   refine ⟨v.rows.length-(i+1),S x2 t2 (i+1),by omega,Co.keep _ (by simp [q2,q3,q4,q5,q6]),i+1,x2,t2,hlt,rfl,rfl,by rw [htk'];exact ho2,hu2⟩
  have hu1:∀ (y:HB),y=rwLE [nr]→HB.under 0 y:=fun y hy=>by subst hy;exact under_d
  rcases ho with ⟨rfl,hnil⟩ | ⟨q,rfl,hq,hne⟩
  ·refine W_drw (by simp) ?_
   simp only [xq,reduceIte,qE,qA,qL,qD,outRow]
   refine c_fn (hT) rfl ?_;simp only [xq,reduceIte,qE,qA,qL,qD,hr_g0,hp_gk,hp_sk,hp_g0,hp_g1,hp_s0,hp_s1,zS]
   rw [if_neg (by simp)]
   refine ⟨by decide,by decide,?_⟩
   simp only [xq,reduceIte,qE,qA,qL,qD,outRow]
   refine W_reg ?_;simp only [xq,reduceIte,qE,qA,qL,qD,w1]
   have he:(t++[rwLE [nr],rwLE [nr]])[t.length+1]? = some (rwLE [nr]):=by rw [hp_g1]
   refine next _ (.ref (t.length+1+4) 1 0 1 true) (t++[rwLE [nr],rwLE [nr]]) ?_ ?_ ?_ ?_ ?_ (.inr ⟨t.length+1,?_,?_,by simp⟩) ?_
   iterate 5 rfl
   ·rw [hnil];rfl
   ·rw [hnil];exact he
   ·intro B hB
    rcases List.mem_append.1 hB with hB | hB
    ·exact hut B hB
    ·simp only [zp,zc,or_false,or_self] at hB
     exact hu1 B hB
  ·have hql:=(zA.1 hq).1
   have gq:∀ t':Heap,(t++t')[q]? = some (rwLE o):=fun t'=>hp_gl hq
   have sq:∀ (t':Heap) X,(t++t').set q X=t.set q X++t':=fun t' X=>List.set_append_left _ _ hql
   refine W_drw (by simp) ?_
   simp only [xq,reduceIte,qE,qA,qL,qD,outRow]
   refine c_fn (hT) rfl ?_;simp only [xq,reduceIte,qE,qA,qL,qD,hr_g0,hp_gk,hp_sk,hp_g0,hp_g1,hp_s0,hp_s1,zS,gq,sq,rwRows_len,haccl]
   refine ⟨by simp only [room];omega,by simp only [maxLen];omega,?_⟩
   simp only [xq,reduceIte,qE,qA,qL,qD,outRow]
   refine W_reg ?_;simp only [xq,reduceIte,qE,qA,qL,qD,w1]
   have e:rwLE (o++[nr]) = .cells eRw (((rwRows o).map fun r=>r.map A.d)++[[.d (.sl eGl (glRows nr))]]):=by simp only [rwLE,rwRows_app,List.map_append];rfl
   refine next _ (.ref (q+4) (i+1) 0 (i+1) true) (t.set q (.cells eRw (((rwRows o).map fun r=>r.map A.d)++[[.d (.sl eGl (glRows nr))]]))++[rwLE [nr],.res]) ?_ ?_ ?_ ?_ ?_ (.inr ⟨q,?_,?_,by simp⟩) ?_
   iterate 5 rfl
   ·rw [zb,haccl];rfl
   ·rw [List.getElem?_append_left (by simpa using hql),zN hql,e]
   ·intro B hB
    rcases List.mem_append.1 hB with hB | hB
    ·rcases List.mem_or_eq_of_mem_set hB with hB | rfl
     ·exact hut B hB
     ·rw [← e];exact under_d
    ·simp only [zp,zc,or_false] at hB
     rcases hB with rfl | rfl
     ·exact hu1 _ rfl
     ·trivial
 ·have hle:i=v.rows.length:=by simp at hc;omega
  subst hle
  rw [← hRl,zh] at ho
  simp only [xq,reduceIte,qE,qA,qL,qD]
  refine wR ?_;simp only [xq,reduceIte,qE,qA,qL,qD,outRow]
  refine W_ret ⟨.inr rfl,?_⟩
  simp only [readRs,readR,single,xq,reduceIte,qE,qA,qL,qD,loadsTo,List.take]
  have:=out_frz (h:=[vwB v,cgB c,outB v x,outB v x]) (t:=t) (v:=stepV v c) ho
  rw [stepV_size hk23] at this
  exact this
end
section
variable {P:Program} {N:Nat} {Γ:Tabs}
abbrev RStepOk (Γ:Tabs) (P:Program) (f:FuncId):Prop:=∀ (v:Vw) (c:Cg),StepPre v c→FnP Γ P f [vwA v,cgA c] (vwA (stepV v c))
set_option maxHeartbeats 2000000 in
theorem rapply_fn {f fv ff fs fw:FuncId} (H:FnIs P f N [.c 4 6 true,.t 5,.t 6] (x_ref19_Apply fv ff fs fw)) (hN:2≤N) (Hv:VchkOk Γ P fv) (Hf:FitsOk Γ P ff) (Hs:RStepOk Γ P fs) (Hw:∀ l:List Gl,FnP Γ P fw [.d (.sl eGl (glRows l))] (.int (widthN l))):ApOk Γ P f:=by
 intro v l hrun hl
 refine .of_W H (by simpa using hN) (W_sl 1 rfl fun ⟨hmx,hroom,_⟩=>?_)
 rw [cgRows_len] at hroom hmx
 have hlr:l.length≤room:=le_of_mul hroom
 have hlr':=hlr
 simp only [room] at hlr'
 have hv0:=Hv v hrun.sm
 unfold x_ref19_Apply
 simp only [vwA,Vw.ds,zU,zV] at hv0 ⊢
 refine wR ?_;simp only [xq,reduceIte,qE,qA,qL,qD]
 refine W_seq ?_
 refine wR ?_;simp only [xq,reduceIte,qE,qA,qL,qD]
 refine c_fn (hv0) rfl ?_;simp only [xq,reduceIte,qE,qA,qL,qD]
 refine W_cond rfl (fun hk=>?_) (fun hk=>W_skip ?_)
 ·have hk:¬ viewC v=0:=by simpa using hk
  refine wR ?_;simp only [xq,reduceIte,qE,qA,qL,qD]
  refine W_ret ?_
  simp only [xq,reduceIte,qE,qA,qL,qD]
  refine retAp (row:=zrow) rfl rfl rfl ?_ ?_ ?_<;>simp only [applyV,if_neg hk]
  ·exact frz_zero
  ·rfl
  ·rfl
 have hk:viewC v=0:=by simpa using hk
 obtain ⟨hed,_⟩:=viewC_zero.1 hk
 have hap:applyV v l=runV v 0 l:=by rw [applyV,if_pos hk]
 rw [hap]
 simp only [xq,reduceIte,qE,qA,qL,qD]
 refine W_seq ?_
 refine wR ?_;simp only [xq,reduceIte,qE,qA,qL,qD]
 refine W_block ?_
 let S:Vw→Nat→St:=fun w i=>⟨look [(1,cgsA l),(2,.ptr 0 1 0 0),(4,.ptr 1 1 0 0),(7,.int i)],[vwB w,zeroB]⟩
 refine W_co (s':=S v 0) (Co.keep _ (by simp [x_upd,x_look])) ?_
 refine W_loop (fun m s=>∃ (i:Nat) (w:Vw),i≤l.length∧m=l.length-i∧s=S w i∧runV w i (l.drop i)=runV v 0 l∧Ed w∧RunOk w (l.drop i)) ⟨0,v,zI _,rfl,rfl,rfl,hed,hrun⟩ ?_
 rintro m s ⟨i,w,hi,rfl,rfl,hrw,hew,hrk⟩
 simp only [S]
 refine W_seq (W_seq ?_)
 refine W_reg ?_;simp only [xq,reduceIte,qE,qA,qL,qD,cgRows_len]
 refine W_cond rfl (fun hc=>W_skip ?_) (fun hc=>W_exit ?_)
 ·have hlt:i<l.length:=by simpa using hc
  have w1:IntKind.i64.wrap ((i:Int)+1)=((i+1:Nat):Int):=by rw [i64_of (by omega)];omega
  obtain ⟨c,hcd⟩:∃ c,c=l[i]:=⟨_,rfl⟩
  have hcm:c∈l:=by rw [hcd];exact zi hlt
  have hok:=hl c hcm
  rw [List.drop_eq_getElem_cons hlt,← hcd] at hrw hrk
  have hcg:(cgRows l).getD i []=c.ds:=by rw [cgRows_get hlt,← hcd]
  have hC:=Hf w c hew hrk.1 hok.txt
  simp only [vwA,Vw.ds,cgA,Cg.ds,zU,zV] at hC
  simp only [xq,reduceIte,qE,qA,qL,qD]
  refine W_seq (W_block ?_)
  refine W_seq ?_
  refine W_seq (W_drw (by simp) ?_);simp only [xq,reduceIte,qE,qA,qL,qD,Vw.ds,cgRows_len,hcg,Cg.ds,zQ,zr,zP]
  refine ⟨by omega,by omega,?_⟩
  refine c_fn (hC) rfl ?_;simp only [xq,reduceIte,qE,qA,qL,qD]
  refine wR ?_;simp only [xq,reduceIte,qE,qA,qL,qD]
  refine W_cond rfl (fun hd=>?_) (fun hd=>W_skip ?_)
  ·have hd:¬ chgC w c=0:=by simpa using hd
   rw [runV,if_neg hd] at hrw
   refine wR ?_;simp only [xq,reduceIte,qE,qA,qL,qD]
   refine W_ret ?_
   simp only [xq,reduceIte,qE,qA,qL,qD]
   rw [← hrw]
   exact retAp (row:=zrow) rfl rfl rfl frz_zero rfl rfl
  ·have hd:chgC w c=0:=by simpa using hd
   rw [runV,if_pos hd] at hrw
   have hS:=Hs w c ⟨hew,hd,fun r hr=>hrk.1.row r hr,hok.len⟩
   simp only [vwA,Vw.ds,cgA,Cg.ds,zU,zV] at hS
   simp only [xq,reduceIte,qE,qA,qL,qD]
   refine W_drw (by simp) ?_
   simp only [xq,reduceIte,qE,qA,qL,qD,Vw.ds,cgRows_len,hcg,Cg.ds,zQ,zr,zP]
   refine ⟨by omega,by omega,?_⟩
   refine c_fn (hS) rfl ?_;simp only [xq,reduceIte,qE,qA,qL,qD,Vw.ds]
   refine W_reg ?_;simp only [xq,reduceIte,qE,qA,qL,qD,w1]
   exact ⟨l.length-(i+1),S (stepV w c) (i+1),by omega,Co.keep _ (by simp [x_upd,x_look]),i+1,stepV w c,hlt,rfl,rfl,hrw,hew.step hd,hrk.2 hd⟩
 ·have hle:i=l.length:=by simp at hc;omega
  subst hle
  rw [List.drop_length,runV] at hrw
  have hwl:=hew.len
  have hws:=szOk_iff.1 hew.sz
  simp only [xq,reduceIte,qE,qA,qL,qD]
  refine W_seq ?_
  refine wR ?_;simp only [xq,reduceIte,qE,qA,qL,qD]
  refine W_block ?_
  let T:Nat→St:=fun j=>⟨look [(1,cgsA l),(2,.ptr 0 1 0 0),(4,.ptr 1 1 0 0),(9,.int j)],[vwB w,zeroB]⟩
  refine W_co (s':=T 0) (Co.keep _ (by simp [x_upd,x_look])) ?_
  refine W_loop (fun m s=>∃ j:Nat,j≤w.rows.length∧m=w.rows.length-j∧s=T j∧((w.rows.take j).any fun r=>decide (w.width<(widthN r:Int)))=false) ⟨0,zI _,rfl,rfl,by simp⟩ ?_
  rintro m s ⟨j,hj,rfl,rfl,hwide⟩
  simp only [T]
  refine W_seq (W_seq ?_)
  refine W_reg ?_;simp only [xq,reduceIte,qE,qA,qL,qD,Vw.ds,rwRows_len]
  refine W_cond rfl (fun hc=>W_skip ?_) (fun hc=>W_exit ?_)
  ·have hlt:j<w.rows.length:=by simpa using hc
   have w1:IntKind.i64.wrap ((j:Int)+1)=((j+1:Nat):Int):=by rw [i64_of (by omega)];omega
   simp only [xq,reduceIte,qE,qA,qL,qD]
   refine W_seq (W_block ?_)
   refine W_seq (W_drw (by simp) ?_);simp only [xq,reduceIte,qE,qA,qL,qD,Vw.ds,rwRows_len,rwRows_get hlt,zQ,zr,zP]
   refine ⟨by omega,by omega,?_⟩
   refine c_fn (Hw w.rows[j]) rfl ?_;simp only [xq,reduceIte,qE,qA,qL,qD]
   refine W_cond rfl (fun hd=>?_) (fun hd=>W_skip ?_)
   ·have hd:w.width<(widthN w.rows[j]:Int):=by simpa using hd
    have hwd:wideV w=true:=by
     rw [wideV,List.any_eq_true]
     exact ⟨_,zi hlt,by simpa using hd⟩
    rw [hwd,if_pos rfl] at hrw
    refine wR ?_;simp only [xq,reduceIte,qE,qA,qL,qD,cgRows_len]
    refine W_ret ?_
    simp only [xq,reduceIte,qE,qA,qL,qD]
    rw [← hrw]
    exact retAp (row:=zrow) rfl rfl rfl frz_zero rfl rfl
   ·have hd:¬ w.width<(widthN w.rows[j]:Int):=by simpa using hd
    simp only [xq,reduceIte,qE,qA,qL,qD]
    refine W_reg ?_;simp only [xq,reduceIte,qE,qA,qL,qD,w1]
    refine ⟨w.rows.length-(j+1),T (j+1),by omega,Co.keep _ (by simp [x_upd,x_look]),j+1,hlt,rfl,rfl,?_⟩
    rw [List.take_add_one,zB hlt,Option.toList_some,List.any_append,hwide]
    simpa using hd
  ·have hje:j=w.rows.length:=by simp at hc;omega
   subst hje
   rw [zh] at hwide
   have hwd:wideV w=false:=hwide
   rw [hwd,if_neg Bool.false_ne_true] at hrw
   simp only [xq,reduceIte,qE,qA,qL,qD]
   refine wR ?_;simp only [xq,reduceIte,qE,qA,qL,qD,Vw.ds]
   refine W_ret ?_
   rw [← hrw]
   exact retAp (row:=w.ds.map .d) rfl rfl rfl (.same rfl) rfl rfl
end
end Go.Proofs.YtlllnjhgjijnkaaGreatDoor.Nx

import Derived.Test.YtknmhbbmopnfjaaDoorNxE34
import Derived.Test.YtknmhbbmopnfjaaDoorNxE24
set_option linter.unusedSimpArgs false
set_option linter.unusedVariables false
set_option linter.unnecessarySimpa false
open Nat renaming reduceEqDiff → qE, reduceAdd → qA, reduceLT → qL, reduceLeDiff → qD
namespace Go.Proofs.YtknmhbbmopnfjaaDoor.Nx
open Go
variable {P:Program} {N:Nat} {Γ:Tabs}
def spCode:XC :=
(.seq (.reg [
      { dst:=some 9,op:=.mov (.k .nil) }])
    (.seq (.reg [
      { dst:=some 90,op:=.mov (.t 9) },
      { dst:=some 91,op:=.mov (.t 7) },
      { dst:=some 92,op:=.faddr 2 (.t 3) },
      { dst:=some 93,op:=.load 1 false (.t 92) },
      { dst:=some 94,op:=.mov (.t 7) },
      { dst:=some 95,op:=.len false (.t 94) },
      { dst:=some 96,op:=.minmax false [(.t 93),(.t 95)] },
      { dst:=some 97,op:=.slice ⟨3,32⟩ (.t 91) none (some (.t 96)) none },
      { dst:=some 98,op:=.append ⟨3,32⟩ (.t 90) (.t 97) },
      { dst:=some 9,op:=.mov (.t 98) }])
    (.seq (.block 2 (.loop (.seq (.seq (.reg [
      { dst:=some 99,op:=.mov (.t 9) },
      { dst:=some 100,op:=.len false (.t 99) },
      { dst:=some 101,op:=.faddr 2 (.t 3) },
      { dst:=some 102,op:=.load 1 false (.t 101) },
      { dst:=some 103,op:=.bin .lss (.t 100) (.t 102) }])
    (.cond (.t 103)
      .skip
      (.exit 2)))
    (.block 3 (.reg [
      { dst:=some 104,op:=.mov (.t 9) },
      { dst:=some 105,op:=.build [(.str ⟨#[]⟩),(.bool false),(.int 0)] [(0,1,(.k (.str ⟨#[32]⟩)))] },
      { dst:=some 106,op:=.bslice ⟨3,32⟩ [(.str ⟨#[]⟩),(.bool false),(.int 0)] 1 [(0,(.t 105))] },
      { dst:=some 107,op:=.append ⟨3,32⟩ (.t 104) (.t 106) },
      { dst:=some 9,op:=.mov (.t 107) }])))))
    (.seq (.reg [
      { dst:=some 108,op:=.mov (.t 9) },
      { dst:=some 109,op:=.faddr 5 (.t 3) },
      { dst:=some 110,op:=.load 1 false (.t 109) },
      { dst:=some 111,op:=.append ⟨3,32⟩ (.t 108) (.t 110) },
      { dst:=some 9,op:=.mov (.t 111) }])
    (.seq (.seq (.reg [
      { dst:=some 112,op:=.faddr 2 (.t 3) },
      { dst:=some 113,op:=.load 1 false (.t 112) },
      { dst:=some 114,op:=.mov (.t 7) },
      { dst:=some 115,op:=.len false (.t 114) },
      { dst:=some 116,op:=.bin .lss (.t 113) (.t 115) }])
    (.cond (.t 116)
      (.reg [
        { dst:=some 117,op:=.mov (.t 9) },
        { dst:=some 118,op:=.mov (.t 7) },
        { dst:=some 119,op:=.faddr 2 (.t 3) },
        { dst:=some 120,op:=.load 1 false (.t 119) },
        { dst:=some 121,op:=.faddr 3 (.t 3) },
        { dst:=some 122,op:=.load 1 false (.t 121) },
        { dst:=some 123,op:=.bin .add (.t 120) (.t 122) },
        { dst:=some 124,op:=.slice ⟨3,32⟩ (.t 118) (some (.t 123)) none none },
        { dst:=some 125,op:=.append ⟨3,32⟩ (.t 117) (.t 124) },
        { dst:=some 9,op:=.mov (.t 125) }])
      .skip))
    (.reg [
      { dst:=some 126,op:=.mov (.t 9) },
      { dst:=some 7,op:=.mov (.t 126) }]))))))
def scCode:XC :=
(.seq (.reg [
      { dst:=some 7,op:=.mov (.k .nil) }])
    (.seq (.reg [
      { dst:=some 62,op:=.mov (.t 6) },
      { dst:=some 63,op:=.faddr 3 (.t 3) },
      { dst:=some 64,op:=.load 1 false (.t 63) },
      { dst:=some 65,op:=.bin .add (.t 62) (.t 64) },
      { dst:=some 8,op:=.mov (.t 65) }])
    (.seq (.reg [
      { dst:=some 66,op:=.mov (.t 8) },
      { dst:=some 67,op:=.faddr 1 (.t 3) },
      { dst:=some 68,op:=.load 1 false (.t 67) },
      { dst:=some 69,op:=.bin .geq (.t 66) (.t 68) },
      { dst:=some 70,op:=.mov (.t 69) },
      { dst:=some 71,op:=.mov (.t 8),guard:=some (70,true) },
      { dst:=some 72,op:=.faddr 4 (.t 3),guard:=some (70,true) },
      { dst:=some 73,op:=.load 1 false (.t 72),guard:=some (70,true) },
      { dst:=some 74,op:=.bin .lss (.t 71) (.t 73),guard:=some (70,true) },
      { dst:=some 75,op:=.pick (.t 70) (.t 74) (.k (.bool false)) }])
    (.cond (.t 75)
      (.reg [
        { dst:=some 76,op:=.faddr 2 (.t 2) },
        { dst:=some 77,op:=.load 1 false (.t 76) },
        { dst:=some 78,op:=.mov (.t 8) },
        { dst:=some 79,op:=.iaddr ⟨1,24⟩ (.t 77) (.t 78) },
        { dst:=some 80,op:=.load 1 false (.t 79) },
        { dst:=some 7,op:=.mov (.t 80) }])
      .skip))))
abbrev stL (i:Nat):List (Nat × A):=[(2,.ptr 0 1 0 0),(3,.ptr 1 1 0 0),(4,.ptr 2 1 0 0),(5,.ptr 3 1 0 0),(6,.int i)]
structure StS (sl:Nat→A) (i:Nat):Prop where
  s2:sl 2 = .ptr 0 1 0 0
  s3:sl 3 = .ptr 1 1 0 0
  s4:sl 4 = .ptr 2 1 0 0
  s5:sl 5 = .ptr 3 1 0 0
  s6:sl 6 = .int i
theorem splice_rows {l g:List Gl} {a b:Nat} (hb:b≤l.length-a):(padR l a).take a++g++(padR l a).drop (a+b)=(l.take (min a l.length)++List.replicate (a-l.length) spaceGl)++g++(if a<l.length then l.drop (a+b) else []):=by
  unfold padR
  split
  · rename_i h
    rw [show a-l.length=0 by omega,List.replicate_zero,List.append_nil,List.append_nil,show min a l.length=a by omega]
  · rename_i h
    rw [show min a l.length=l.length by omega,List.take_length,List.take_of_length_le (by simp;omega),List.drop_eq_nil_of_le (by simp;omega)]
set_option maxHeartbeats 2000000 in
theorem spCode_W {sl:Nat→A} {H:Heap} {i:Nat} {l:List Gl} {c:Cg} {col cnt:Nat} (q:StS sl i) (h7:sl 7 = .d (.sl eGl (glRows l))) (hcol:c.col=col) (hcnt:c.count=cnt) (hc1:col≤264) (hc2:cnt≤l.length-col) (hl:l.length≤50000) (hg:c.gl.length≤1000) (hc:H[1]? = some (cgB c)) (hu:∀ B∈H,HB.under H.length B) (h4:4≤H.length) :
    W Γ.ctx P N none 0 spCode (fun e s=>e = .normal∧∃ s1,Co 0 s s1∧s1=⟨look (stL i++[(7,.d (.sl eGl (glRows ((padR l col).take col++c.gl++(padR l col).drop (col+cnt)))))]),H⟩) ⟨sl,H⟩:=by
  rw [splice_rows hc2]
  have g1:∀ t:Heap,(H++t)[1]? = some (cgB c):=fun t=>hp_gl hc
  have mn:minmaxInt false (col:Int) (l.length:Int)=((min col l.length:Nat):Int):=by unfold minmaxInt;simp only [Bool.false_eq_true,if_false];split<;>omega
  let U:List Gl→St:=fun m=>⟨look [(2,.ptr 0 1 0 0),(3,.ptr 1 1 0 0),(4,.ptr 2 1 0 0),(5,.ptr 3 1 0 0),(6,.int i),(7,.d (.sl eGl (glRows l))),(9,.ref H.length m.length 0 m.length true)],H++[rowB m]⟩
  unfold spCode
  refine W_seq (W_reg ?_);simp only [xq,reduceIte,qE,qA,qL,qD]
  refine W_co (Co.nil 9 eGl (by decide) (by simp [x_upd])) ?_
  refine W_co (s':=U []) (Co.keep _ (by simp [x_upd,q.s2,q.s3,q.s4,q.s5,q.s6,h7])) ?_
  simp only [U]
  refine W_seq (W_reg ?_);simp only [xq,reduceIte,qE,qA,qL,qD,g1,Cg.ds,hcol,mn,glRows_len,Int.natCast_zero,Int.sub_zero,glRows_take,hp_g0,hp_s0]
  refine ⟨by omega,by omega,by omega,by omega,?_⟩
  obtain ⟨m0,hm0⟩:∃ m0,m0=l.take (min col l.length):=⟨_,rfl⟩
  have hm0l:m0.length=min col l.length:=by rw [hm0,List.length_take];omega
  simp only [xq,reduceIte,qE,qA,qL,qD,hp_g0,hp_s0,glRows_len,List.length_nil,Nat.zero_add,Int.toNat_natCast,Nat.sub_zero,Int.toNat_zero,List.drop_zero,← hm0,hm0l,List.map_nil]
  refine ⟨by simp only [room];omega,by simp only [maxLen];omega,?_⟩
  have hu2:∀ (m:List Gl),∀ B∈H++[rowB m],HB.under (H++[rowB m]).length B:=by
    intro m B hB
    rcases List.mem_append.1 hB with hB | hB
    · exact HB.under_mono (hu B hB) (by simp)
    · simp only [List.mem_singleton] at hB
      subst hB;exact under_d
  have hsp:∀ m:List Gl,((glRows m).map fun r=>r.map A.d)++[[.str ⟨#[32]⟩,.bool false,.int 0]]=(glRows (m++[spaceGl])).map fun r=>r.map A.d:=fun m=>by simp [glRows];rfl
  let m1:Nat→List Gl:=fun k=>m0++List.replicate k spaceGl
  have hm1l:∀ k,(m1 k).length=min col l.length+k:=fun k=>by simp [m1,hm0l]
  have hm1s:∀ k,m1 (k+1)=m1 k++[spaceGl]:=fun k=>by simp [m1,List.replicate_succ',List.append_assoc]
  refine W_cut (· = U (m1 (col-l.length))) ?_ ?_
  · refine W_block ?_
    refine W_co (s':=U (m1 0)) (by
      have:m1 0=m0:=by simp [m1]
      simp only [U,this]
      exact Co.keep _ (by simp [x_upd,x_look,hm0l])) ?_
    refine W_loop (fun q s=>∃ k,k≤col-l.length∧q=col-l.length-k∧s=U (m1 k)) ⟨0,Nat.zero_le _,rfl,rfl⟩ ?_
    rintro q' s ⟨k,hk,rfl,rfl⟩
    simp only [U]
    refine W_seq (W_seq ?_)
    refine W_reg ?_;simp only [xq,reduceIte,qE,qA,qL,qD,g1,hp_g0,Cg.ds,hcol,glRows_len,hm1l]
    refine W_cond rfl (fun hd=>W_skip ?_) (fun hd=>W_exit ?_)
    · have hlt:k<col-l.length:=by
        have hd:=of_decide_eq_true hd
        omega
      simp only [xq,reduceIte,qE,qA,qL,qD]
      refine W_block ?_
      refine W_reg ?_;simp only [xq,reduceIte,qE,qA,qL,qD,hp_g0,hp_gk,hp_s0,List.append_assoc,rowB_len,hm1l,hsp,← hm1s,glRows_len]
      refine ⟨by simp only [room];omega,by simp only [maxLen];omega,?_⟩
      refine ⟨col-l.length-(k+1),U (m1 (k+1)),by omega,?_,k+1,hlt,rfl,by simp only [U,hm1l]⟩
      simp only [U]
      rw [show ∀ (x y:HB),H++[x,y]=(H++[x])++[y] from fun x y=>by simp]
      exact Co.back _ (by simp [x_upd,x_look,A.under,hm1l];omega) (Nat.zero_le _) (hu2 _)
    · have hke:k=col-l.length:=by
        have hd:=of_decide_eq_false hd
        omega
      subst hke
      simp only [xq,reduceIte,qE,qA,qL,qD]
      exact ⟨_,Co.keep _ (by simp [x_upd,x_look,hm1l]),rfl⟩
  rintro _ rfl
  obtain ⟨m2,hm2⟩:∃ m2,m2=m1 (col-l.length):=⟨_,rfl⟩
  have hm2l:m2.length=max col (min col l.length):=by rw [hm2,hm1l];omega
  have hm2v:m0++List.replicate (col-l.length) spaceGl=m2:=hm2.symm
  rw [← hm2,hm2v]
  clear hm2 hm1l hm1s hsp
  simp only [U]
  have hcat:∀ a b:List Gl,((glRows a).map fun r=>r.map A.d)++((glRows b).map fun r=>r.map A.d)=(glRows (a++b)).map fun r=>r.map A.d:=fun a b=>by simp [glRows]
  refine W_seq (W_reg ?_);simp only [xq,reduceIte,qE,qA,qL,qD,g1,hp_g0,hp_s0,Cg.ds,rowB_len,glRows_len,hcat]
  refine ⟨by simp only [room,List.length_append];omega,by simp only [maxLen,List.length_append];omega,?_⟩
  refine W_cut (· = U (m2++c.gl++(if col<l.length then l.drop (col+cnt) else []))) ?_ ?_
  · refine W_seq (W_reg ?_);simp only [xq,reduceIte,qE,qA,qL,qD,g1,hp_g0,Cg.ds,hcol,glRows_len]
    refine W_cond rfl (fun hd=>?_) (fun hd=>W_skip ?_)
    · have hlt:col<l.length:=by
        have hd:=of_decide_eq_true hd
        omega
      have w1:IntKind.i64.wrap ((col:Int)+(cnt:Int))=((col+cnt:Nat):Int):=by rw [i64_of (by omega)];omega
      have hsl:((glRows l).drop (col+cnt)).take (l.length-(col+cnt))=glRows (l.drop (col+cnt)):=by
        rw [List.take_of_length_le (by rw [List.length_drop,glRows_len];exact Nat.le_refl _)];simp [glRows,List.map_drop]
      rw [if_pos hlt]
      have e2:((l.length:Int)-((col+cnt:Nat):Int)).toNat=l.length-(col+cnt):=by omega
      refine W_reg ?_;simp only [xq,reduceIte,qE,qA,qL,qD,g1,hp_g0,hp_s0,Cg.ds,hcol,hcnt,w1,glRows_len,Int.toNat_natCast,e2,hsl,hcat]
      refine ⟨by omega,by omega,by omega,by omega,by simp only [room,List.length_drop];omega,by simp only [maxLen,List.length_drop];omega,?_⟩
      exact ⟨_,Co.keep _ (by simp [x_upd,x_look,Nat.add_assoc]),rfl⟩
    · have hlt:¬ col<l.length:=by
        have hd:=of_decide_eq_false hd
        omega
      rw [if_neg hlt,List.append_nil]
      exact ⟨rfl,_,Co.keep _ (by simp [x_upd,x_look]),rfl⟩
  rintro _ rfl
  simp only [U]
  generalize m2++c.gl++(if col<l.length then l.drop (col+cnt) else [])=m
  refine W_reg ?_;simp only [xq,reduceIte,qE,qA,qL,qD]
  refine ⟨_,Co.frz (s:=⟨_,H++[rowB m]⟩) (stL i++[(7,.d (.sl eGl (glRows m)))]) H.length ?_ (Nat.zero_le _) (by simp) (by simpa using hu),?_⟩
  · intro p hp
    have hfr:=frzD_rows (k:=H.length) (id:=H.length) (off:=0) (len:=m.length) (full:=true) (e:=eGl) (h:=H++[rowB m]) (rows:=glRows m) (Nat.le_refl _) hp_g0 (by rw [glRows_len];omega)
    rw [glRows_len,List.drop_zero,List.take_of_length_le (by rw [glRows_len];exact Nat.le_refl _)] at hfr
    simp only [stL,List.cons_append,List.nil_append,List.mem_cons,List.not_mem_nil,or_false] at hp
    rcases hp with rfl | rfl | rfl | rfl | rfl | rfl
    · exact .same (decide_eq_true (show (0:Nat)<H.length by omega))
    · exact .same (decide_eq_true (show (1:Nat)<H.length by omega))
    · exact .same (decide_eq_true (show (2:Nat)<H.length by omega))
    · exact .same (decide_eq_true (show (3:Nat)<H.length by omega))
    · exact .same rfl
    · exact .d hfr
  · simp
theorem scCode_W {sl:Nat→A} {H:Heap} {i:Nat} {v:Vw} {c:Cg} (q:StS sl i) (hi:i≤1000) (h0:H[0]? = some (vwB v)) (hc:H[1]? = some (cgB c)) (hc1:0≤c.row∧c.upto≤v.rows.length ∧ -1000≤c.count∧c.count≤1000) :
    W Γ.ctx P N none 0 scCode (fun e s=>e = .normal∧∃ s1,Co 0 s s1∧s1=⟨look (stL i++[(7,.d (.sl eGl (glRows (if c.row≤(i:Int)+c.count∧(i:Int)+c.count<c.upto then rowAt v.rows ((i:Int)+c.count) else []))))]),H⟩) ⟨sl,H⟩:=by
  have w2:IntKind.i64.wrap ((i:Int)+c.count)=(i:Int)+c.count:=i64_of (by omega)
  unfold scCode
  refine W_seq (W_reg ?_);simp only [xq,reduceIte,qE,qA,qL,qD]
  refine W_seq (W_reg ?_);simp only [xq,reduceIte,qE,qA,qL,qD,q.s3,q.s6,hc,Cg.ds,w2]
  by_cases h1:c.row≤(i:Int)+c.count
  · have d1:decide (c.row≤(i:Int)+c.count)=true:=decide_eq_true h1
    by_cases h2:(i:Int)+c.count<c.upto
    · have d2:decide ((i:Int)+c.count<c.upto)=true:=decide_eq_true h2
      obtain ⟨j,hj⟩:∃ j:Nat,(i:Int)+c.count=j:=⟨((i:Int)+c.count).toNat,by omega⟩
      have hjl:j<v.rows.length:=by omega
      have hra:rowAt v.rows ((i:Int)+c.count)=v.rows[j]:=by
        unfold rowAt
        rw [hj,Int.toNat_natCast,List.getD_eq_getElem?_getD,List.getElem?_eq_getElem hjl];rfl
      rw [if_pos ⟨h1,h2⟩,hra]
      refine W_seq (W_reg ?_);simp only [xq,reduceIte,qE,qA,qL,qD,q.s3,hc,Cg.ds,d1,d2]
      refine W_cond rfl (fun hd=>?_) (fun hd=>by cases hd)
      refine W_reg ?_;simp only [xq,reduceIte,qE,qA,qL,qD,q.s2,h0,Vw.ds,hj,rwRows_len,rwRows_get hjl,Int.toNat_natCast]
      refine ⟨by omega,by omega,?_⟩
      exact ⟨_,Co.keep _ (by simp [x_upd,q.s2,q.s3,q.s4,q.s5,q.s6]),rfl⟩
    · have d2:decide ((i:Int)+c.count<c.upto)=false:=decide_eq_false h2
      rw [if_neg (fun h=>h2 h.2)]
      refine W_seq (W_reg ?_);simp only [xq,reduceIte,qE,qA,qL,qD,q.s3,hc,Cg.ds,d1,d2]
      refine W_cond rfl (fun hd=>by cases hd) (fun hd=>W_skip ?_)
      exact ⟨rfl,_,Co.trans (Co.nild 7 eGl (by simp [x_upd])) (Co.keep _ (by simp [x_upd,q.s2,q.s3,q.s4,q.s5,q.s6,glRows])),rfl⟩
  · have d1:decide (c.row≤(i:Int)+c.count)=false:=decide_eq_false h1
    rw [if_neg (fun h=>h1 h.1)]
    refine W_seq (W_reg ?_);simp only [xq,reduceIte,qE,qA,qL,qD,q.s3,hc,Cg.ds,d1,undefA,Bool.true_eq_false]
    refine W_cond rfl (fun hd=>by cases hd) (fun hd=>W_skip ?_)
    exact ⟨rfl,_,Co.trans (Co.nild 7 eGl (by simp [x_upd])) (Co.keep _ (by simp [x_upd,q.s2,q.s3,q.s4,q.s5,q.s6,glRows])),rfl⟩
end Go.Proofs.YtknmhbbmopnfjaaDoor.Nx

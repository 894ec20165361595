import Derived.Test.YtlllnjhgjijnkaaDoorNxE13
import Derived.Test.YtlllnjhgjijnkaaDoorNxW8
set_option linter.unusedSimpArgs false
set_option linter.unusedVariables false
set_option linter.unnecessarySimpa false
open List renaming getElem?_eq_some_iff → zA, getElem?_eq_getElem → zB, getD_eq_getElem?_getD → zC, getElem?_append_left → zF, getElem?_append_right → zG, getElem?_map → zK, getElem?_set_ne → zM, append_nil → zP, append_assoc → zS, map_cons → zU, map_nil → zV, length_cons → za, length_append → zb, drop_eq_getElem_cons → zd, getElem?_range → zj, replicate_zero → zr, set_append_left → zu
open Bool renaming true_eq_false → zE
open Nat renaming zero_le → zI, le_refl → zL
open Int renaming toNat_natCast → zQ
open Nat renaming reduceEqDiff → qE, reduceAdd → qA, reduceLT → qL, reduceLeDiff → qD
namespace Go.Proofs.YtlllnjhgjijnkaaDoor.Nx
open Go
variable {P:Program} {N:Nat} {Γ:Tabs}
def stepAt (a b:List Gl) (i j:Nat):Nat :=
 if i<a.length∧j<b.length∧a.getD i spaceGl=b.getD j spaceGl then 0 else if j=b.length∨(i<a.length∧lcsAt a b i (j+1)≤lcsAt a b (i+1) j) then 1 else 2
def nextI (s i:Nat):Nat:=if s=2 then i else i+1
def nextJ (s j:Nat):Nat:=if s=1 then j else j+1
theorem stepAt_lt {a b:List Gl} {i j:Nat}:stepAt a b i j≤2:=by unfold stepAt;split;omega;split<;>omega
theorem stepAt_c {a b:List Gl} {i j:Nat} (hi:¬ i<a.length) (hj:j<b.length):stepAt a b i j=2:=by
 rw [stepAt,if_neg (by omega),if_neg (by omega)]
theorem stepAt_b {a b:List Gl} {i j:Nat} (hj:j=b.length):stepAt a b i j=1:=by
 rw [stepAt,if_neg (by omega),if_pos (.inl hj)]
theorem stepAt_a {a b:List Gl} {i j:Nat} (hi:i<a.length) (hj:j<b.length):stepAt a b i j=if a[i]=b[j] then 0 else if lcsAt a b i (j+1)≤lcsAt a b (i+1) j then 1 else 2:=by
 have e1:a.getD i spaceGl=a[i]:=by rw [zC,zB hi];rfl
 have e2:b.getD j spaceGl=b[j]:=by rw [zC,zB hj];rfl
 rw [stepAt,e1,e2]
 by_cases h:a[i]=b[j]
 ·rw [if_pos ⟨hi,hj,h⟩,if_pos h]
 ·rw [if_neg (fun x=>h x.2.2),if_neg h]
  by_cases h2:lcsAt a b i (j+1)≤lcsAt a b (i+1) j
  ·rw [if_pos (.inr ⟨hi,h2⟩),if_pos h2]
  ·rw [if_neg (fun x=>by rcases x with x | x;omega;exact h2 x.2),if_neg h2]
theorem wlk_step {a b:List Gl} {i j:Nat} (hi:i≤a.length) (hj:j≤b.length) (h:i<a.length∨j<b.length) :
  wlk (a.drop i) (b.drop j) i=(stepAt a b i j,i)::wlk (a.drop (nextI (stepAt a b i j) i)) (b.drop (nextJ (stepAt a b i j) j)) (nextI (stepAt a b i j) i):=by
 by_cases h1:i<a.length
 ·have e1:=zd h1
  by_cases h2:j<b.length
  ·have e2:=zd h2
   have hs:=stepAt_a h1 h2
   have hw:wlk (a.drop i) (b.drop j) i=if a[i]=b[j] then (0,i)::wlk (a.drop (i+1)) (b.drop (j+1)) (i+1) else if lcsN (a.drop i) (b.drop (j+1))≤lcsN (a.drop (i+1)) (b.drop j) then (1,i)::wlk (a.drop (i+1)) (b.drop j) (i+1) else (2,i)::wlk (a.drop i) (b.drop (j+1)) i:=by
    rw [e1,e2];rfl
   rw [hw]
   by_cases h3:a[i]=b[j]
   ·rw [if_pos h3] at hs
    rw [hs,if_pos h3];rfl
   ·rw [if_neg h3] at hs
    rw [if_neg h3]
    by_cases h4:lcsAt a b i (j+1)≤lcsAt a b (i+1) j
    ·rw [if_pos h4] at hs
     rw [hs,if_pos (show lcsN (a.drop i) (b.drop (j+1))≤lcsN (a.drop (i+1)) (b.drop j) from h4)];rfl
    ·rw [if_neg h4] at hs
     rw [hs,if_neg (show ¬ lcsN (a.drop i) (b.drop (j+1))≤lcsN (a.drop (i+1)) (b.drop j) from h4)];rfl
  ·have hj':j=b.length:=by omega
   rw [stepAt_b hj']
   subst hj'
   simp only [nextI,nextJ,if_neg (show ¬ (1:Nat)=2 by decide),if_true,List.drop_length]
   rw [e1];rfl
 ·have hi':i=a.length:=by omega
  have h2:j<b.length:=by omega
  have e2:=zd h2
  rw [stepAt_c h1 h2]
  subst hi'
  simp only [nextI,nextJ,if_neg (show ¬ (2:Nat)=1 by decide),if_true,List.drop_length]
  rw [e2];rfl
theorem lenD_len {a b:List Gl}:(lenD a b).length=a.length+1:=by simp [lenD]
def lenDr (a b:List Gl) (i:Nat):List (List D):=(List.range (b.length+1)).map fun j=>[.sc (.int .i64 (lcsAt a b i j:Nat))]
theorem lenDr_len {a b:List Gl} {i:Nat}:(lenDr a b i).length=b.length+1:=by simp [lenDr]
theorem lenD_get {a b:List Gl} {i:Nat} (hi:i<a.length+1):(lenD a b).getD i []=[.sl eInt (lenDr a b i)]:=by
 rw [lenD,zC,zK,zj hi];rfl
theorem lenDr_get {a b:List Gl} {i j:Nat} (hj:j<b.length+1):(lenDr a b i).getD j []=[.sc (.int .i64 (lcsAt a b i j:Nat))]:=by
 rw [lenDr,zC,zK,zj hj];rfl
structure WS (id:Nat) (a b:List Gl) (i j n:Nat) (sl:Nat→A):Prop where
 q0:sl 0 = .yld id
 q1:sl 1 = .iptr [.sl eGl (glRows a)]
 q2:sl 2 = .iptr [.sl eGl (glRows b)]
 q4:sl 4 = .d (.sl eRw (lenD a b))
 q5:sl 5 = .int i
 q6:sl 6 = .int j
 q7:sl 7 = .int n
 q8:sl 8 = .int i
def wlkXs (a b:List Gl):List (List A):=(wlk a b 0).map fun p=>[.int p.1,.int p.2]
theorem wlkXs_len {a b:List Gl}:(wlkXs a b).length=(wlk a b 0).length:=by simp [wlkXs]
set_option maxHeartbeats 2000000 in
theorem walk1_gen {f fl:FuncId} (H:FnIs P f N [] (x_editscript_walk_365_1 fl)) (hN:3≤N) (a b:List Gl) (ha:a.length≤50000) (hb:b.length≤50000) (Hl:FnP Γ P fl [.d (.sl eGl (glRows a)),.d (.sl eGl (glRows b))] (.d (.sl eRw (lenD a b)))) :
  GenD Γ P f [.iptr [.sl eGl (glRows a)],.iptr [.sl eGl (glRows b)]] (wlkXs a b):=by
 refine ⟨H.enters,fun env bb id I E rounds L h hI hL hbb=>?_⟩
 refine .of_WT H (by simpa using hN) hbb (W_noTabs ?_)
 unfold x_editscript_walk_365_1
 refine wR ?_
 simp only [xq,reduceIte,qE,qA,qL,qD]
 refine c_fn Hl rfl ?_
 simp only [xq,reduceIte,qE,qA,qL,qD]
 refine wR ?_;simp only [xq,reduceIte,qE,qA,qL,qD]
 refine W_block ?_
 let S:Nat→Nat→Heap→St:=fun i j h=>⟨look [(0,.yld id),(1,.iptr [.sl eGl (glRows a)]),(2,.iptr [.sl eGl (glRows b)]),(4,.d (.sl eRw (lenD a b))),(5,.int i),(6,.int j)],h⟩
 refine W_co (s':=S 0 0 h) (Co.keep _ (by simp [x_upd,x_look])) ?_
 refine W_loop (fun m s=>∃ i j k L' h',i≤a.length∧j≤b.length∧m=(a.length-i)+(b.length-j)∧s=S i j h'∧k≤(wlk a b 0).length∧(wlk a b 0).drop k=wlk (a.drop i) (b.drop j) i∧Turn L L' h h'∧I k L') ⟨0,0,0,L,h,zI _,zI _,rfl,rfl,zI _,rfl,.refl hL,hI⟩ ?_
 rintro m s ⟨i,j,k,L',h',hi,hj,rfl,rfl,hk,hx,T,hI'⟩
 let S1:Bool→St:=fun c=>⟨look [(0,.yld id),(1,.iptr [.sl eGl (glRows a)]),(2,.iptr [.sl eGl (glRows b)]),(4,.d (.sl eRw (lenD a b))),(5,.int i),(6,.int j),(21,.bool c)],h'⟩
 have hdi:decide ((i:Int)<(a.length:Int))=decide (i<a.length):=by rw [decide_eq_decide];omega
 have hdj:decide ((j:Int)<(b.length:Int))=decide (j<b.length):=by rw [decide_eq_decide];omega
 refine W_seq (W_cutX (· = S1 (decide (i<a.length)||decide (j<b.length))) rfl (fun K hK=>?_) ?_)
 ·cases e:decide (i<a.length)
  ·simp only [xq,reduceIte,qE,qA,qL,qD,S,glRows_len,hdi,hdj,e,undefA,zE]
   refine hK _ _ (Co.keep _ ?_) rfl
   simp only [e,Bool.false_or,Bool.true_or];simp [x_upd,x_look]
  ·simp only [xq,reduceIte,qE,qA,qL,qD,S,glRows_len,hdi,hdj,e,undefA,zE]
   refine hK _ _ (Co.keep _ ?_) rfl
   simp only [e,Bool.false_or,Bool.true_or];simp [x_upd,x_look]
 rintro _ rfl
 refine W_cond rfl (fun hc=>W_skip ?_) (fun hc=>W_exit ?_)
 ·have hor:i<a.length∨j<b.length:=by simpa using hc
  obtain ⟨n,hn⟩:∃ n,n=stepAt a b i j:=⟨_,rfl⟩
  have hst:=wlk_step hi hj hor
  have hn2:n≤2:=by rw [hn];exact stepAt_lt
  rw [← hn] at hst
  let T1:St:=⟨look [(0,.yld id),(1,.iptr [.sl eGl (glRows a)]),(2,.iptr [.sl eGl (glRows b)]),(4,.d (.sl eRw (lenD a b))),(5,.int i),(6,.int j),(7,.int n),(8,.int i)],h'⟩
  simp only [xq,reduceIte,qE,qA,qL,qD,S1]
  refine W_block ?_
  refine wR ?_;simp only [xq,reduceIte,qE,qA,qL,qD]
  refine W_cut (· = T1) (W_block ?_) ?_
  ·have ok:∀ (sl:Nat→A),WS id a b i j n sl→∃ s1,Co h.length ⟨sl,h'⟩ s1∧s1=T1:=fun sl hs=>⟨T1,Co.keep _ (by simp [hs.q0,hs.q1,hs.q2,hs.q4,hs.q5,hs.q6,hs.q7,hs.q8]),rfl⟩
   have wi:IntKind.i64.wrap ((i:Int)+1)=((i+1:Nat):Int):=by rw [i64_of (by omega)];omega
   have wj:IntKind.i64.wrap ((j:Int)+1)=((j+1:Nat):Int):=by rw [i64_of (by omega)];omega
   have dj:decide ((j:Int)=(b.length:Int))=decide (j=b.length):=by rw [decide_eq_decide];omega
   by_cases h1:i<a.length
   ·have d1:decide (i<a.length)=true:=decide_eq_true h1
    refine W_sdrw (by simp) fun K hK=>?_
    simp only [zr,zP]
    refine run_stage (H:=h') 5 (fun sl=>WS id a b i j 2 sl∧sl 28 = .bool true) (fun K' hK'=>?_) ?_
    ·simp only [xq,reduceIte,qE,qA,qL,qD,glRows_len,hdi,d1]
     exact hK' _ ⟨⟨rfl,rfl,rfl,rfl,rfl,rfl,rfl,rfl⟩,rfl⟩
    rintro sl ⟨q,h28⟩
    by_cases h2:j<b.length
    ·have d2:decide (j<b.length)=true:=decide_eq_true h2
     have d3:decide (j=b.length)=false:=decide_eq_false (by omega)
     rw [stepAt_a h1 h2] at hn
     refine run_stage (H:=h') 6 (fun sl=>WS id a b i j 2 sl∧sl 34 = .bool true) (fun K' hK'=>run_strip [(28,some true)] rfl (by simp [gval,h28]) ?_) ?_
     ·simp only [xq,reduceIte,qE,qA,qL,qD,stripO,kget,List.drop,List.take,List.map,glRows_len,hdj,d2,h28,q.q0,q.q1,q.q2,q.q4,q.q5,q.q6,q.q7,q.q8]
      exact hK' _ ⟨⟨q.q0,q.q1,q.q2,q.q4,q.q5,q.q6,q.q7,q.q8⟩,rfl⟩
     rintro sl ⟨q,h34⟩
     refine run_strip [(34,some true)] rfl (by simp [gval,h34]) ?_
     simp only [xq,reduceIte,qE,qA,qL,qD,stripO,kget,List.drop,List.take,List.map,h34,q.q0,q.q1,q.q2,q.q4,q.q5,q.q6,q.q7,q.q8,glRows_len,glRows_get h1,glRows_get h2,Gl.row,gl_eq,zQ]
     repeat refine And.intro (by omega) ?_
     refine hK _ ?_
     refine W_cond rfl (fun hd=>?_) (fun hd=>?_)
     ·have hd:a[i]=b[j]:=by simpa using hd
      rw [if_pos hd] at hn
      refine W_reg ?_;simp only [xq,reduceIte,qE,qA,qL,qD]
      exact ok _ ⟨q.q0,q.q1,q.q2,q.q4,q.q5,q.q6,by rw [hn];rfl,q.q8⟩
     ·have hd:¬ a[i]=b[j]:=by simpa using hd
      rw [if_neg hd] at hn
      have dl:decide (((lcsAt a b i (j+1):Nat):Int)≤((lcsAt a b (i+1) j:Nat):Int))=decide (lcsAt a b i (j+1)≤lcsAt a b (i+1) j):=by rw [decide_eq_decide];omega
      have e1:=lenD_get (a:=a) (b:=b) (show i<a.length+1 by omega)
      have e2:=lenD_get (a:=a) (b:=b) (show i+1<a.length+1 by omega)
      have e3:=lenDr_get (a:=a) (b:=b) (i:=i+1) (show j<b.length+1 by omega)
      have e4:=lenDr_get (a:=a) (b:=b) (i:=i) (show j+1<b.length+1 by omega)
      refine W_sdrw (by simp) fun K2 hK2=>?_
      simp only [zr,zP]
      refine run_stage (H:=h') 5 (fun sl=>WS id a b i j 2 sl∧sl 50 = .bool false) (fun K' hK'=>?_) ?_
      ·simp only [xq,reduceIte,qE,qA,qL,qD,glRows_len,dj,d3,q.q0,q.q1,q.q2,q.q4,q.q5,q.q6,q.q7,q.q8]
       exact hK' _ ⟨⟨q.q0,q.q1,q.q2,q.q4,q.q5,q.q6,q.q7,q.q8⟩,rfl⟩
      rintro sl ⟨q,h50⟩
      refine run_stage (H:=h') 5 (fun sl=>WS id a b i j 2 sl∧sl 50 = .bool false∧sl 55 = .bool true) (fun K' hK'=>run_strip [(50,some false)] rfl (by simp [gval,h50]) ?_) ?_
      ·simp only [xq,reduceIte,qE,qA,qL,qD,stripO,kget,List.drop,List.take,List.map,glRows_len,hdi,d1,h50,q.q0,q.q1,q.q2,q.q4,q.q5,q.q6,q.q7,q.q8]
       exact hK' _ ⟨⟨q.q0,q.q1,q.q2,q.q4,q.q5,q.q6,q.q7,q.q8⟩,h50,rfl⟩
      rintro sl ⟨q,h50,h55⟩
      refine run_strip [(50,some false),(55,some true)] rfl (by simp [gval,h50,h55]) ?_
      simp only [xq,reduceIte,qE,qA,qL,qD,stripO,kget,List.drop,List.take,List.map,h50,h55,q.q0,q.q1,q.q2,q.q4,q.q5,q.q6,q.q7,q.q8,wi,wj,lenD_len,lenDr_len,e1,e2,e3,e4,zQ,dl]
      repeat refine And.intro (by omega) ?_
      refine hK2 _ ?_
      refine W_cond rfl (fun hd=>?_) (fun hd=>W_skip ?_)
      ·have hd:=of_decide_eq_true hd
       rw [if_pos hd] at hn
       refine W_reg ?_;simp only [xq,reduceIte,qE,qA,qL,qD]
       exact ok _ ⟨q.q0,q.q1,q.q2,q.q4,q.q5,q.q6,by rw [hn];rfl,q.q8⟩
      ·have hd:=of_decide_eq_false hd
       rw [if_neg hd] at hn
       exact ⟨rfl,ok _ ⟨q.q0,q.q1,q.q2,q.q4,q.q5,q.q6,by rw [hn];exact q.q7,q.q8⟩⟩
    ·have hj2:j=b.length:=by omega
     have d2:decide (j<b.length)=false:=decide_eq_false h2
     have d3:decide (j=b.length)=true:=decide_eq_true hj2
     rw [stepAt_b hj2] at hn
     refine run_stage (H:=h') 6 (fun sl=>WS id a b i j 2 sl∧sl 34 = .bool false) (fun K' hK'=>run_strip [(28,some true)] rfl (by simp [gval,h28]) ?_) ?_
     ·simp only [xq,reduceIte,qE,qA,qL,qD,stripO,kget,List.drop,List.take,List.map,glRows_len,hdj,d2,h28,q.q0,q.q1,q.q2,q.q4,q.q5,q.q6,q.q7,q.q8]
      exact hK' _ ⟨⟨q.q0,q.q1,q.q2,q.q4,q.q5,q.q6,q.q7,q.q8⟩,rfl⟩
     rintro sl ⟨q,h34⟩
     refine run_strip [(34,some false)] rfl (by simp [gval,h34]) ?_
     simp only [xq,reduceIte,qE,qA,qL,qD,stripO,kget,List.drop,List.take,List.map,Bool.false_eq_true,h34]
     refine hK _ ?_
     refine W_cond rfl (fun hd=>by cases hd) (fun hd=>?_)
     refine W_sdrw (by simp) fun K2 hK2=>?_
     simp only [zr,zP]
     refine run_stage (H:=h') 5 (fun sl=>WS id a b i j 2 sl∧sl 50 = .bool true) (fun K' hK'=>?_) ?_
     ·simp only [xq,reduceIte,qE,qA,qL,qD,glRows_len,dj,d3,q.q0,q.q1,q.q2,q.q4,q.q5,q.q6,q.q7,q.q8]
      exact hK' _ ⟨⟨q.q0,q.q1,q.q2,q.q4,q.q5,q.q6,q.q7,q.q8⟩,rfl⟩
     rintro sl ⟨q,h50⟩
     refine run_stage (H:=h') 5 (fun sl=>WS id a b i j 2 sl∧sl 50 = .bool true∧sl 55=undefA) (fun K' hK'=>run_strip [(50,some true)] rfl (by simp [gval,h50]) ?_) ?_
     ·simp only [xq,reduceIte,qE,qA,qL,qD,stripO,kget,List.drop,List.take,List.map,zE]
      exact hK' _ ⟨⟨q.q0,q.q1,q.q2,q.q4,q.q5,q.q6,q.q7,q.q8⟩,h50,rfl⟩
     rintro sl ⟨q,h50,h55⟩
     refine run_strip [(50,some true),(55,none)] rfl (by simp [gval,h50,h55]) ?_
     simp only [xq,reduceIte,qE,qA,qL,qD,stripO,kget,List.drop,List.take,List.map,zE,h50]
     refine hK2 _ ?_
     refine W_cond rfl (fun hd=>?_) (fun hd=>by cases hd)
     refine W_reg ?_;simp only [xq,reduceIte,qE,qA,qL,qD]
     exact ok _ ⟨q.q0,q.q1,q.q2,q.q4,q.q5,q.q6,by rw [hn];rfl,q.q8⟩
   ·have h2:j<b.length:=by omega
    have d1:decide (i<a.length)=false:=decide_eq_false h1
    have d3:decide (j=b.length)=false:=decide_eq_false (by omega)
    rw [stepAt_c h1 h2] at hn
    refine W_sdrw (by simp) fun K hK=>?_
    simp only [zr,zP]
    refine run_stage (H:=h') 5 (fun sl=>WS id a b i j 2 sl∧sl 28 = .bool false) (fun K' hK'=>?_) ?_
    ·simp only [xq,reduceIte,qE,qA,qL,qD,glRows_len,hdi,d1]
     exact hK' _ ⟨⟨rfl,rfl,rfl,rfl,rfl,rfl,rfl,rfl⟩,rfl⟩
    rintro sl ⟨q,h28⟩
    refine run_stage (H:=h') 6 (fun sl=>WS id a b i j 2 sl∧sl 34 = .bool false) (fun K' hK'=>run_strip [(28,some false)] rfl (by simp [gval,h28]) ?_) ?_
    ·simp only [xq,reduceIte,qE,qA,qL,qD,stripO,kget,List.drop,List.take,List.map,Bool.false_eq_true,h28]
     exact hK' _ ⟨⟨q.q0,q.q1,q.q2,q.q4,q.q5,q.q6,q.q7,q.q8⟩,rfl⟩
    rintro sl ⟨q,h34⟩
    refine run_strip [(34,some false)] rfl (by simp [gval,h34]) ?_
    simp only [xq,reduceIte,qE,qA,qL,qD,stripO,kget,List.drop,List.take,List.map,Bool.false_eq_true,h34]
    refine hK _ ?_
    refine W_cond rfl (fun hd=>by cases hd) (fun hd=>?_)
    refine W_sdrw (by simp) fun K2 hK2=>?_
    simp only [zr,zP]
    refine run_stage (H:=h') 5 (fun sl=>WS id a b i j 2 sl∧sl 50 = .bool false) (fun K' hK'=>?_) ?_
    ·simp only [xq,reduceIte,qE,qA,qL,qD,glRows_len,dj,d3,q.q0,q.q1,q.q2,q.q4,q.q5,q.q6,q.q7,q.q8]
     exact hK' _ ⟨⟨q.q0,q.q1,q.q2,q.q4,q.q5,q.q6,q.q7,q.q8⟩,rfl⟩
    rintro sl ⟨q,h50⟩
    refine run_stage (H:=h') 5 (fun sl=>WS id a b i j 2 sl∧sl 50 = .bool false∧sl 55 = .bool false) (fun K' hK'=>run_strip [(50,some false)] rfl (by simp [gval,h50]) ?_) ?_
    ·simp only [xq,reduceIte,qE,qA,qL,qD,stripO,kget,List.drop,List.take,List.map,glRows_len,hdi,d1,h50,q.q0,q.q1,q.q2,q.q4,q.q5,q.q6,q.q7,q.q8]
     exact hK' _ ⟨⟨q.q0,q.q1,q.q2,q.q4,q.q5,q.q6,q.q7,q.q8⟩,h50,rfl⟩
    rintro sl ⟨q,h50,h55⟩
    refine run_strip [(50,some false),(55,some false)] rfl (by simp [gval,h50,h55]) ?_
    simp only [xq,reduceIte,qE,qA,qL,qD,stripO,kget,List.drop,List.take,List.map,Bool.false_eq_true,h50,h55]
    refine hK2 _ ?_
    refine W_cond rfl (fun hd=>by cases hd) (fun hd=>W_skip ?_)
    exact ⟨rfl,ok _ ⟨q.q0,q.q1,q.q2,q.q4,q.q5,q.q6,by rw [hn];exact q.q7,q.q8⟩⟩
  rintro _ rfl
  have wi:IntKind.i64.wrap ((i:Int)+1)=((i+1:Nat):Int):=by rw [i64_of (by omega)];omega
  have wj:IntKind.i64.wrap ((j:Int)+1)=((j+1:Nat):Int):=by rw [i64_of (by omega)];omega
  let T2:St:=⟨look [(0,.yld id),(1,.iptr [.sl eGl (glRows a)]),(2,.iptr [.sl eGl (glRows b)]),(4,.d (.sl eRw (lenD a b))),(5,.int (nextI n i:Nat)),(6,.int j),(7,.int n),(8,.int i)],h'⟩
  let T3:St:=⟨look [(0,.yld id),(1,.iptr [.sl eGl (glRows a)]),(2,.iptr [.sl eGl (glRows b)]),(4,.d (.sl eRw (lenD a b))),(5,.int (nextI n i:Nat)),(6,.int (nextJ n j:Nat)),(7,.int n),(8,.int i)],h'⟩
  have d2:decide ((n:Int)=2)=decide (n=2):=by rw [decide_eq_decide];omega
  have d1:decide ((n:Int)=1)=decide (n=1):=by rw [decide_eq_decide];omega
  refine W_cut (· = T2) ?_ ?_
  ·simp only [T1]
   refine wR ?_;simp only [xq,reduceIte,qE,qA,qL,qD,d2]
   refine W_cond rfl (fun hd=>W_reg ?_) (fun hd=>W_skip ?_)
   ·have hd:¬ n=2:=by simpa using hd
    simp only [xq,reduceIte,qE,qA,qL,qD,wi]
    refine ⟨T2,Co.keep _ ?_,rfl⟩
    simp [x_upd,x_look,nextI,hd]
   ·have hd:n=2:=by simpa using hd
    refine ⟨rfl,T2,Co.keep _ ?_,rfl⟩
    simp [x_upd,x_look,nextI,hd]
  rintro _ rfl
  refine W_cut (· = T3) ?_ ?_
  ·simp only [T2]
   refine wR ?_;simp only [xq,reduceIte,qE,qA,qL,qD,d1]
   refine W_cond rfl (fun hd=>W_reg ?_) (fun hd=>W_skip ?_)
   ·have hd:¬ n=1:=by simpa using hd
    simp only [xq,reduceIte,qE,qA,qL,qD,wj]
    refine ⟨T3,Co.keep _ ?_,rfl⟩
    simp [x_upd,x_look,nextJ,hd]
   ·have hd:n=1:=by simpa using hd
    refine ⟨rfl,T3,Co.keep _ ?_,rfl⟩
    simp [x_upd,x_look,nextJ,hd]
  rintro _ rfl
  have hks:k<(wlk a b 0).length:=by
   have:=congrArg List.length (hx.trans hst)
   simp at this;omega
  have hgk:(wlkXs a b)[k]? = some [.int n,.int i]:=by
   have:(wlk a b 0)[k]? = some (n,i):=by
    have h0:=congrArg (fun l=>l[0]?) (hx.trans hst)
    simpa using h0
   rw [wlkXs,zK,this];rfl
  have hxn:(wlk a b 0).drop (k+1)=wlk (a.drop (nextI n i)) (b.drop (nextJ n j)) (nextI n i):=by
   have:=congrArg (List.drop 1) (hx.trans hst)
   simpa [List.drop_drop,Nat.add_comm] using this
  have bnd:nextI n i≤a.length∧nextJ n j≤b.length∧(a.length-nextI n i)+(b.length-nextJ n j)<(a.length-i)+(b.length-j):=by
   have h3:n≠2→i<a.length:=fun h=>by
    rcases Nat.lt_or_ge i a.length with h' | h'
    ·exact h'
    ·exact absurd (hn.trans (stepAt_c (by omega) (by omega))) h
   have h4:n≠1→j<b.length:=fun h=>by
    rcases Nat.lt_or_ge j b.length with h' | h'
    ·exact h'
    ·exact absurd (hn.trans (stepAt_b (by omega))) h
   simp only [nextI,nextJ]
   have:n=0∨n=1∨n=2:=by omega
   rcases this with h | h | h
   ·have:=h3 (by omega);have:=h4 (by omega)
    rw [if_neg (by omega),if_neg (by omega)];omega
   ·have:=h3 (by omega)
    rw [if_neg (by omega),if_pos h];omega
   ·have:=h4 (by omega)
    rw [if_pos h,if_neg (by omega)];omega
  simp only [T3]
  refine wR ?_
  simp only [xq,reduceIte,qE,qA,qL,qD]
  have hlen2:bb≤h'.length:=by have:=T.len;omega
  rcases rounds _ _ L' _ hgk hI' T.has hlen2 with ⟨L2,h2,hR,T2',hI2⟩ | ⟨L2,h2,hR,T2',hE2⟩
  ·refine ce_yld hR ?_
   simp only [xq,reduceIte,qE,qA,qL,qD]
   refine W_cond rfl (fun hd=>by cases hd) (fun _=>W_skip ?_)
   simp only [xq,reduceIte,qE,qA,qL,qD]
   exact ⟨_,S (nextI n i) (nextJ n j) h2,bnd.2.2,Co.keep _ (by simp [x_upd,x_look]),nextI n i,nextJ n j,k+1,L2,h2,bnd.1,bnd.2.1,rfl,rfl,hks,hxn,T.trans T2',hI2⟩
  ·refine ce_yld hR ?_
   simp only [xq,reduceIte,qE,qA,qL,qD]
   refine W_cond rfl (fun _=>W_ret ?_) (fun hd=>by cases hd)
   simp only [xq,reduceIte,qE,qA,qL,qD]
   refine ⟨.inr trivial,?_⟩
   simp only [readRs]
   exact ⟨L2,T.trans T2',.inr hE2⟩
 ·simp only [Bool.or_eq_false_iff,decide_eq_false_iff_not] at hc
  have h1:i=a.length:=by omega
  have h2:j=b.length:=by omega
  subst h1 h2
  simp only [List.drop_length,wlk,zV] at hx
  have hk2:k=(wlk a b 0).length:=by
   have:=congrArg List.length hx
   simp at this;omega
  simp only [xq,reduceIte,qE,qA,qL,qD,S1]
  refine ⟨.inl trivial,?_⟩
  simp only [readRs]
  exact ⟨L',T,.inl (by rw [wlkXs_len,← hk2];exact hI')⟩
end Go.Proofs.YtlllnjhgjijnkaaDoor.Nx
namespace Go.Proofs.YtlllnjhgjijnkaaDoor.Nx
open Go
variable {P:Program} {N:Nat} {Γ:Tabs}
theorem walk_fn {f f1:FuncId} (H:FnIs P f N [.t 4] (x_editscript_walk_365 f1)) (hN:2≤N) (a b:List Gl):FnP Γ P f [.d (.sl eGl (glRows a)),.d (.sl eGl (glRows b))] (.fn f1 [.iptr [.sl eGl (glRows a)],.iptr [.sl eGl (glRows b)]]):=by
 refine .of_W H (by simpa using hN) ?_
 unfold x_editscript_walk_365
 refine wR ?_;simp only [xq,reduceIte,qE,qA,qL,qD]
 refine wR ?_;simp only [xq,reduceIte,qE,qA,qL,qD]
 refine W_ret (.frz ?_)
 simp only [xq,reduceIte,qE,qA,qL,qD]
 refine .fn rfl fun j y hj=>?_
 rcases j with _ | _ | j
 ·cases hj
  refine FrzA.iptr (rows:=[[.d (.sl eGl (glRows a))]]) (i:=0) (off:=0) (id:=0) (zI 0) rfl rfl fun k d hk=>?_
  cases k with
  | zero=>cases hk;exact ⟨by simp,.d _⟩
  | succ k=>simp at hk
 ·cases hj
  refine FrzA.iptr (rows:=[[.d (.sl eGl (glRows b))]]) (i:=0) (off:=0) (id:=1) (zI 1) rfl rfl fun k d hk=>?_
  cases k with
  | zero=>cases hk;exact ⟨by simp,.d _⟩
  | succ k=>simp at hk
 ·simp at hj
theorem wlk_len:∀ (a b:List Gl) (i:Nat),(wlk a b i).length≤a.length+b.length
 | [],b,i=>by simp [wlk]
 | x::a,b,i=>by
  rw [wlk]
  induction b generalizing i with
  | nil =>
   have:=wlk_len a [] (i+1)
   simp only [wlkG,za,List.length_nil] at this ⊢
   omega
  | cons y b ih =>
   have h1:=wlk_len a b (i+1)
   have h2:=wlk_len a (y::b) (i+1)
   have h3:=ih i
   simp only [wlkG,za] at h1 h2 h3 ⊢
   split
   ·simp only [za];omega
   ·split
    ·simp only [za];omega
    ·simp only [za];omega
abbrev eEd:Elt:=⟨3,40⟩
abbrev eB1:Elt:=⟨1,1⟩
def edDs (e:Edt):List D:=[.sc (.int .i64 e.at'),.sc (.int .i64 e.del),.sl eGl (glRows e.ins)]
def edsRows (l:List Edt):List (List D):=l.map edDs
theorem edsRows_len {l:List Edt}:(edsRows l).length=l.length:=by simp [edsRows]
theorem edsRows_get {l:List Edt} {i:Nat} (hi:i<l.length):(edsRows l).getD i []=edDs l[i]:=by
 rw [edsRows,zC,zK,zB hi];rfl
abbrev edA (e:Edt) (y:A):List A:=[.int e.at',.int e.del,y]
def InsAt (T:List (Nat × HB)) (y:A) (l:List Gl):Prop:=(y = .nil∧l=[])∨∃ p,y = .ref p l.length 0 l.length true∧(p,rowB l)∈T
def EdRows (R:List (List A)) (l:List Edt) (T:List (Nat × HB)):Prop:=R.length=l.length∧∀ (i:Nat) (e:Edt),l[i]? = some e→∃ y,R[i]? = some (edA e y)∧InsAt T y e.ins
def CurAt (C:List (List A)) (cur:Option Edt) (T3 T4:List (Nat × HB)):Prop :=
 (cur=none∧C=[]∧T4=[])∨∃ e y,cur=some e∧C=[edA e y]∧((y = .nil∧e.ins=[]∧T4=[])∨∃ p,y = .ref p e.ins.length 0 e.ins.length true∧T4=[(p,rowB e.ins)]∧p ∉ ids T3)
def ScT (x:A) (T:List (Nat × HB)) (es:List Edt) (cur:Option Edt):Prop :=
 (x = .nil∧T=[]∧es=[]∧cur=none)∨∃ q R C T3 T4,x = .ref q (R++C).length 0 (R++C).length true∧T=(q,.cells eEd (R++C))::(T3++T4)∧EdRows R es T3∧CurAt C cur T3 T4∧∀ p∈T3,∃ l,p.2=rowB l
abbrev scL (b:List Gl) (x:A) (o:Bool) (j:Nat) (T:List (Nat × HB)):List (Nat × HB) :=
 (0,.cells eRw [[.d (.sl eGl (glRows b))]])::(1,.cells eRw [[x]])::(2,.cells eB1 [[.bool o]])::(3,.cells eInt [[.int j]])::T
theorem EdRows.mono {R:List (List A)} {l:List Edt} {T T':List (Nat × HB)} (h:EdRows R l T) (ht:∀ p∈T,p∈T'):EdRows R l T' :=
 ⟨h.1,fun i e hi=>by
  obtain ⟨y,h1,h2⟩:=h.2 i e hi
  refine ⟨y,h1,?_⟩
  rcases h2 with h2 | ⟨p,h2,h3⟩
  ·exact .inl h2
  ·exact .inr ⟨p,h2,ht _ h3⟩⟩
theorem ScT.close {x:A} {T:List (Nat × HB)} {es:List Edt} {cur:Option Edt} (h:ScT x T es cur):ScT x T (es++cur.toList) none:=by
 rcases h with ⟨rfl,rfl,rfl,rfl⟩ | ⟨q,R,C,T3,T4,rfl,rfl,hR,hC,h3⟩
 ·exact .inl ⟨rfl,rfl,rfl,rfl⟩
 ·refine .inr ⟨q,R++C,[],T3++T4,[],by simp,by simp,?_,.inl ⟨rfl,rfl,rfl⟩,fun p hp=>?_⟩
  ·rcases hC with ⟨rfl,rfl,rfl⟩ | ⟨e,y,rfl,rfl,hy⟩
   ·simpa using hR
   ·refine ⟨by simp [hR.1],fun i e' hi=>?_⟩
    rcases Nat.lt_or_ge i es.length with hlt | hge
    ·rw [zF hlt] at hi
     obtain ⟨y',h1,h2⟩:=(hR.mono (T':=T3++T4) (fun p hp=>List.mem_append_left _ hp)).2 i e' hi
     exact ⟨y',by rw [zF (by rw [hR.1];exact hlt)];exact h1,h2⟩
    ·rw [zG hge] at hi
     have h0:i-es.length=0:=by
      have:=(zA.1 hi).1
      simp at this;omega
     rw [h0] at hi
     simp at hi
     subst hi
     refine ⟨y,by rw [zG (by rw [hR.1];exact hge),hR.1,h0];rfl,?_⟩
     rcases hy with ⟨rfl,h1,_⟩ | ⟨p,rfl,rfl,_⟩
     ·exact .inl ⟨rfl,h1⟩
     ·exact .inr ⟨p,rfl,by simp⟩
  ·rcases List.mem_append.1 hp with hp | hp
   ·exact h3 p hp
   ·rcases hC with ⟨rfl,rfl,rfl⟩ | ⟨e,y,rfl,rfl,hy⟩
    ·simp at hp
    ·rcases hy with ⟨rfl,_,rfl⟩ | ⟨p',rfl,rfl,_⟩
     ·simp at hp
     ·simp at hp;subst hp;exact ⟨_,rfl⟩
def updL (L:List (Nat × HB)) (id:Nat) (Y:HB):List (Nat × HB):=L.map fun p=>if p.1=id then (id,Y) else p
theorem updL_ids {L:List (Nat × HB)} {id:Nat} {Y:HB}:ids (updL L id Y)=ids L:=by
 simp only [ids,updL,List.map_map]
 apply List.map_congr_left
 intro p _
 simp only [Function.comp]
 split
 ·rename_i h;exact h.symm
 ·rfl
theorem updL_ne {L:List (Nat × HB)} {id:Nat} {Y:HB} (h:∀ p∈L,p.1≠id):updL L id Y=L:=by
 rw [updL]
 conv=>rhs;rw [← List.map_id L]
 apply List.map_congr_left
 intro p hp
 rw [if_neg (h p hp)];rfl
theorem updL_cons {L:List (Nat × HB)} {p id:Nat} {B Y:HB}:updL ((p,B)::L) id Y=(if p=id then (id,Y) else (p,B))::updL L id Y:=rfl
theorem Turn.upd {L:List (Nat × HB)} {h:Heap} {id:Nat} (Y:HB) (hL:Has L h) (hi:id∈ids L):Turn L (updL L id Y) h (h.set id Y):=by
 have hlt:id<h.length:=by
  obtain ⟨p,hp,rfl⟩:=List.mem_map.1 hi
  exact (zA.1 (hL p hp)).1
 refine ⟨fun p hp=>?_,by simp,fun q _ hn=>?_,fun q hq=>.inl (by rwa [updL_ids] at hq)⟩
 ·obtain ⟨p0,hp0,rfl⟩:=List.mem_map.1 hp
  split
  ·exact List.getElem?_set_self hlt
  ·rename_i hne
   rw [zM (Ne.symm hne)];exact hL p0 hp0
 ·rw [zM]
  rintro rfl
  exact hn hi
theorem Turn.behind {L:List (Nat × HB)} {h:Heap} (t:Heap) (hL:Has L h):Turn L L h (h++t) :=
 ⟨fun p hp=>hp_gl (hL p hp),by simp,fun q hq _=>zF hq,fun q hq=>.inl hq⟩
theorem Turn.push {L:List (Nat × HB)} {h t:Heap} (k:Nat) {B:HB} (hk:t[k]? = some B) (hL:Has L h):Turn L (L++[(h.length+k,B)]) h (h++t):=by
 refine ⟨fun p hp=>?_,by simp,fun q hq _=>zF hq,fun q hq=>?_⟩
 ·rcases List.mem_append.1 hp with hp | hp
  ·exact hp_gl (hL p hp)
  ·simp at hp;subst hp
   rw [hp_gk];exact hk
 ·simp only [ids,List.map_append,zU,zV,List.mem_append,List.mem_singleton] at hq
  rcases hq with hq | hq
  ·exact .inl hq
  ·exact .inr (by omega)
theorem blk_ne {h:Heap} {p q:Nat} {e e':Elt} {r r':List (List A)} (hp:h[p]? = some (.cells e r)) (hq:h[q]? = some (.cells e' r')) (hne:e≠e'):p≠q:=by
 rintro rfl
 rw [hp] at hq
 cases hq
 exact hne rfl
theorem updL_T {T:List (Nat × HB)} {h:Heap} {id:Nat} {Y:HB} {e:Elt} {r:List (List A)} (hT:∀ p∈T,∃ l,p.2=rowB l) (hh:Has T h) (hi:h[id]? = some (.cells e r)) (he:eGl≠e):updL T id Y=T :=
 updL_ne fun p hp=>by
  obtain ⟨l,hl⟩:=hT p hp
  have:=hh p hp
  rw [hl] at this
  exact blk_ne this hi he
def scOpen:XC :=
(.seq (.reg [
   { dst:=some 20,op:=.load 1 false (.t 6) },
   { dst:=some 21,op:=.un .not (.t 20) }])
  (.cond (.t 21)
   (.seq (.reg [
    { dst:=some 22,op:=.load 1 false (.t 5) },
    { dst:=some 23,op:=.mov (.t 9) },
    { dst:=some 24,op:=.build [(.int 0),(.int 0),.nil] [(0,1,(.t 23))] },
    { dst:=some 25,op:=.bslice ⟨3,40⟩ [(.int 0),(.int 0),.nil] 1 [(0,(.t 24))] },
    { dst:=some 26,op:=.append ⟨3,40⟩ (.t 22) (.t 25) },
    { dst:=none,op:=.store 1 (.t 5) (.t 26) }])
   (.reg [
    { dst:=none,op:=.store 1 (.t 6) (.k (.bool true)) }]))
   .skip))
def scRest:XC :=
(.seq (.reg [
   { dst:=some 27,op:=.load 1 false (.t 5) },
   { dst:=some 28,op:=.load 1 false (.t 5) },
   { dst:=some 29,op:=.len false (.t 28) },
   { dst:=some 30,op:=.bin .sub (.t 29) (.k (.int 1)) },
   { dst:=some 31,op:=.iaddr ⟨3,40⟩ (.t 27) (.t 30) },
   { dst:=some 10,op:=.mov (.t 31) }])
  (.seq (.seq (.reg [
   { dst:=some 32,op:=.mov (.t 8) },
   { dst:=some 33,op:=.bin .eql (.t 32) (.k (.int 1)) }])
  (.cond (.t 33)
   (.seq (.reg [
    { dst:=some 34,op:=.mov (.t 10) },
    { dst:=some 35,op:=.nilck (.t 34) },
    { dst:=some 36,op:=.faddr 1 (.t 35) },
    { dst:=some 37,op:=.load 1 false (.t 36) },
    { dst:=some 38,op:=.bin .add (.t 37) (.k (.int 1)) },
    { dst:=some 39,op:=.nilck (.t 34) },
    { dst:=some 40,op:=.faddr 1 (.t 39) },
    { dst:=none,op:=.store 1 (.t 40) (.t 38) }])
   (.exit 1))
   .skip))
  (.seq (.drw 2 [
   { dst:=some 41,op:=.mov (.t 10) },
   { dst:=some 42,op:=.mov (.t 10) },
   { dst:=some 43,op:=.nilck (.t 42) },
   { dst:=some 44,op:=.faddr 2 (.t 43) },
   { dst:=some 45,op:=.load 1 false (.t 44) },
   { dst:=some 46,op:=.load 1 false (.t 3) },
   { dst:=some 47,op:=.load 1 false (.t 7) },
   { dst:=some 48,op:=.iaddr ⟨3,32⟩ (.t 46) (.t 47) },
   { dst:=some 49,op:=.load 3 true (.t 48) },
   { dst:=some 50,op:=.bslice ⟨3,32⟩ [(.str ⟨#[]⟩),(.bool false),(.int 0)] 1 [(0,(.t 49))],pl:=some 0 },
   { dst:=some 51,op:=.append ⟨3,32⟩ (.t 45) (.t 50),pl:=some 1 },
   { dst:=some 52,op:=.nilck (.t 41) },
   { dst:=some 53,op:=.faddr 2 (.t 52) },
   { dst:=none,op:=.store 1 (.t 53) (.t 51) }])
  (.reg [
   { dst:=some 54,op:=.load 1 false (.t 7) },
   { dst:=some 55,op:=.bin .add (.t 54) (.k (.int 1)) },
   { dst:=none,op:=.store 1 (.t 7) (.t 55) }]))))
structure SS (sl:Nat→A) (s i:Nat):Prop where
 s3:sl 3 = .ptr 0 1 0 0
 s5:sl 5 = .ptr 1 1 0 0
 s6:sl 6 = .ptr 2 1 0 0
 s7:sl 7 = .ptr 3 1 0 0
 s8:sl 8 = .int s
 s9:sl 9 = .int i
theorem cur_rows {C:List (List A)} {cur:Option Edt} {T3 T4:List (Nat × HB)} (h:CurAt C cur T3 T4):∀ p∈T4,∃ l,p.2=rowB l:=by
 intro p hp
 rcases h with ⟨rfl,rfl,rfl⟩ | ⟨e,y,rfl,rfl,hy⟩
 ·simp at hp
 ·rcases hy with ⟨rfl,_,rfl⟩ | ⟨p',rfl,rfl,_⟩
  ·simp at hp
  ·simp at hp;subst hp;exact ⟨_,rfl⟩
set_option maxHeartbeats 1000000 in
theorem open_W {b:List Gl} {x:A} {T:List (Nat × HB)} {es:List Edt} {cur:Option Edt} {j s i:Nat} {h:Heap} (hS:ScT x T es cur) (hL:Has (scL b x cur.isSome j T) h) (hn:es.length≤1000000) :
  ∃ x1 T1 h1,ScT x1 T1 es (some (cur.getD ⟨i,0,[]⟩))∧Turn (scL b x cur.isSome j T) (scL b x1 true j T1) h h1 ∧
   ∀ (sl:Nat→A) (q:SS sl s i) (Δ:Ctx) (rl:Option Nat) (n:Nat),W Δ P N rl n scOpen (fun e s'=>e = .normal∧SS s'.slots s i∧s'.heap=h1) ⟨sl,h⟩:=by
 have g1:h[1]? = some (.cells eRw [[x]]):=hL (1,_) (by simp)
 have g2:h[2]? = some (.cells eB1 [[.bool cur.isSome]]):=hL (2,_) (by simp)
 cases cur with
 | some e =>
  refine ⟨x,T,h,hS,.refl hL,fun sl q Δ rl n=>?_⟩
  unfold scOpen
  refine wR ?_;simp only [xq,reduceIte,qE,qA,qL,qD,q.s6,g2]
  refine W_cond rfl (fun hd=>by cases hd) (fun hd=>W_skip ?_)
  exact ⟨rfl,⟨q.s3,q.s5,q.s6,q.s7,q.s8,q.s9⟩,rfl⟩
 | none =>
  rcases hS with ⟨rfl,rfl,rfl,_⟩ | ⟨k,R,C,T3,T4,rfl,rfl,hR,hC,h3⟩
  ·obtain ⟨B,hB⟩:∃ B:HB,B = .cells eEd [edA ⟨i,0,[]⟩ .nil]:=⟨_,rfl⟩
   let x1:A:=.ref (h.length+1) 1 0 1 true
   have hl1:1<h.length:=(zA.1 g1).1
   have hl2:2<h.length:=(zA.1 g2).1
   refine ⟨x1,[(h.length+1,B)],(h.set 1 (.cells eRw [[x1]])).set 2 (.cells eB1 [[.bool true]])++[B,B],?_,?_,fun sl q Δ rl n=>?_⟩
   ·exact .inr ⟨h.length+1,[],[edA ⟨i,0,[]⟩ .nil],[],[],rfl,by rw [hB];rfl,⟨rfl,fun i e hi=>by simp at hi⟩,.inr ⟨_,_,rfl,rfl,.inl ⟨rfl,rfl,rfl⟩⟩,fun p hp=>by simp at hp⟩
   ·have t1:=Turn.upd (.cells eRw [[x1]]) hL (by simp [ids]:1∈ids _)
    have t2:=Turn.upd (.cells eB1 [[.bool true]]) t1.has (by rw [updL_ids];simp [ids]:2∈ids _)
    have t3:=Turn.push (t:=[B,B]) 1 rfl t2.has
    have:=(t1.trans t2).trans t3
    simpa [updL] using this
   ·unfold scOpen
    have e1:∀ t:Heap,(h++t)[1]? = some (.cells eRw [[A.nil]]):=fun t=>hp_gl g1
    have s1:∀ (t:Heap) X,(h++t).set 1 X=h.set 1 X++t:=fun t X=>hp_sl hl1
    have e2:∀ (t:Heap) X,(h.set 1 X++t)[2]? = some (.cells eB1 [[A.bool false]]):=fun t X=>hp_gn (by decide) g2
    have s2:∀ (t:Heap) X Y,(h.set 1 X++t).set 2 Y=(h.set 1 X).set 2 Y++t:=fun t X Y=>zu _ _ (by simpa using hl2)
    refine wR ?_;simp only [xq,reduceIte,qE,qA,qL,qD,q.s6,g2]
    refine W_cond rfl (fun hd=>?_) (fun hd=>by cases hd)
    refine wR ?_;simp only [xq,reduceIte,qE,qA,qL,qD,q.s5,q.s9,g1,e1,s1,hp_g0,hp_gk,zS]
    repeat refine And.intro (by omega) ?_
    rw [if_neg (by simp)]
    refine ⟨by decide,by decide,?_⟩
    refine W_reg ?_;simp only [xq,reduceIte,qE,qA,qL,qD,q.s6,e2,s2]
    exact ⟨⟨q.s3,q.s5,q.s6,q.s7,q.s8,q.s9⟩,by rw [hB];rfl⟩
  ·obtain ⟨rfl,rfl⟩:C=[]∧T4=[]:=by
    rcases hC with ⟨_,h1,h2⟩ | ⟨e,y,h1,_⟩
    ·exact ⟨h1,h2⟩
    ·cases h1
   simp only [zP,Option.isSome_none] at hL g1 g2 ⊢
   obtain ⟨B,hB⟩:∃ B:HB,B = .cells eEd [edA ⟨i,0,[]⟩ .nil]:=⟨_,rfl⟩
   let R1:List (List A):=R++[edA ⟨i,0,[]⟩ .nil]
   let x1:A:=.ref k (R.length+1) 0 (R.length+1) true
   have gk:h[k]? = some (.cells eEd R):=hL (k,_) (by simp)
   have hl1:1<h.length:=(zA.1 g1).1
   have hl2:2<h.length:=(zA.1 g2).1
   have hlk:k<h.length:=(zA.1 gk).1
   have g0:h[0]? = some (.cells eRw [[.d (.sl eGl (glRows b))]]):=hL (0,_) (by simp)
   have g3:h[3]? = some (.cells eInt [[.int j]]):=hL (3,_) (by simp)
   have k0:k≠0:=blk_ne gk g0 (by simp)
   have k1:k≠1:=blk_ne gk g1 (by simp)
   have k2:k≠2:=blk_ne gk g2 (by simp)
   have k3:k≠3:=blk_ne gk g3 (by simp)
   have hT:Has T3 h:=fun p hp=>hL p (by simp [hp])
   have hRl:=hR.1
   refine ⟨x1,(k,.cells eEd R1)::T3,((h.set k (.cells eEd R1)).set 1 (.cells eRw [[x1]])).set 2 (.cells eB1 [[.bool true]])++[B],?_,?_,fun sl q Δ rl n=>?_⟩
   ·exact .inr ⟨k,R,[edA ⟨i,0,[]⟩ .nil],T3,[],by simp [x1],by simp [R1],hR,.inr ⟨_,_,rfl,rfl,.inl ⟨rfl,rfl,rfl⟩⟩,h3⟩
   ·have t0:=Turn.upd (.cells eEd R1) hL (by simp [ids]:k∈ids _)
    have t1:=Turn.upd (.cells eRw [[x1]]) t0.has (by rw [updL_ids];simp [ids]:1∈ids _)
    have t2:=Turn.upd (.cells eB1 [[.bool true]]) t1.has (by rw [updL_ids,updL_ids];simp [ids]:2∈ids _)
    have t3:=Turn.behind [B] t2.has
    have:=((t0.trans t1).trans t2).trans t3
    have u0:updL T3 k (.cells eEd R1)=T3:=updL_T h3 hT gk (by simp)
    have u1:updL T3 1 (.cells eRw [[x1]])=T3:=updL_T h3 hT g1 (by simp)
    have u2:updL T3 2 (.cells eB1 [[.bool true]])=T3:=updL_T h3 hT g2 (by simp)
    have hE:updL (updL (updL (scL b (.ref k R.length 0 R.length true) false j ((k,.cells eEd R)::T3)) k (.cells eEd R1)) 1 (.cells eRw [[x1]])) 2 (.cells eB1 [[.bool true]])=scL b x1 true j ((k,.cells eEd R1)::T3):=by
     simp only [scL,updL_cons,u0,u1,u2,if_neg (Ne.symm k0),if_neg (Ne.symm k1),if_neg (Ne.symm k2),if_neg (Ne.symm k3),if_neg k1,if_neg k2,reduceIte,qE]
    rw [hE] at this
    exact this
   ·unfold scOpen
    have e1:∀ t:Heap,(h++t)[1]? = some (.cells eRw [[.ref k R.length 0 R.length true]]):=fun t=>hp_gl g1
    have ek:∀ t:Heap,(h++t)[k]? = some (.cells eEd R):=fun t=>hp_gl gk
    have sk:∀ (t:Heap) X,(h++t).set k X=h.set k X++t:=fun t X=>hp_sl hlk
    have e1':∀ (t:Heap) X,(h.set k X++t)[1]? = some (.cells eRw [[.ref k R.length 0 R.length true]]):=fun t X=>hp_gn k1 g1
    have s1:∀ (t:Heap) X Y,(h.set k X++t).set 1 Y=(h.set k X).set 1 Y++t:=fun t X Y=>zu _ _ (by simpa using hl1)
    have e2:∀ (t:Heap) X Y,((h.set k X).set 1 Y++t)[2]? = some (.cells eB1 [[A.bool false]]):=fun t X Y=>hp_gn (by decide) (by rw [zM k2];exact g2)
    have s2:∀ (t:Heap) X Y Z,((h.set k X).set 1 Y++t).set 2 Z=((h.set k X).set 1 Y).set 2 Z++t:=fun t X Y Z=>zu _ _ (by simpa using hl2)
    refine wR ?_;simp only [xq,reduceIte,qE,qA,qL,qD,q.s6,g2]
    refine W_cond rfl (fun hd=>?_) (fun hd=>by cases hd)
    refine wR ?_;simp only [xq,reduceIte,qE,qA,qL,qD,q.s5,q.s9,g1,e1,ek,sk,e1',s1,hp_g0,hp_gk,zS]
    repeat refine And.intro (by omega) ?_
    refine ⟨by simp only [room];omega,by simp only [maxLen];omega,?_⟩
    refine W_reg ?_;simp only [xq,reduceIte,qE,qA,qL,qD,q.s6,e2,s2]
    exact ⟨⟨q.s3,q.s5,q.s6,q.s7,q.s8,q.s9⟩,by rw [hB];rfl⟩
end Go.Proofs.YtlllnjhgjijnkaaDoor.Nx
namespace Go.Proofs.YtlllnjhgjijnkaaDoor.Nx
open Go
variable {P:Program} {N:Nat} {Γ:Tabs}
theorem row_last {R:List (List A)} {r:List A}:(R++[r])[R.length]? = some r:=by simp
theorem row_setl {R:List (List A)} {r r':List A}:(R++[r]).set R.length r'=R++[r']:=by
 rw [List.set_append_right _ _ (zL _),Nat.sub_self];rfl
set_option maxHeartbeats 1000000 in
theorem rest_W {b:List Gl} {x:A} {T:List (Nat × HB)} {es:List Edt} {e:Edt} {j s i:Nat} {h:Heap} (hS:ScT x T es (some e)) (hL:Has (scL b x true j T) h) (hn:es.length≤1000000) (hd:e.del≤1000000) (hi:e.ins.length≤1000000) (hj:j≤1000000)
  (hs:s=1∨(s=2∧j<b.length)) :
  ∃ T1 h1,ScT x T1 es (some (if s=1 then { e with del:=e.del+1 } else { e with ins:=e.ins++(b.drop j).take 1 }))∧Turn (scL b x true j T) (scL b x true (if s=1 then j else j+1) T1) h h1 ∧
   ∀ (sl:Nat→A) (q:SS sl s i) (Δ:Ctx) (rl:Option Nat) (n:Nat),W Δ P N rl n scRest (fun e' s'=>e'=(if s=1 then .exit 1 else .normal)∧s'.heap=h1) ⟨sl,h⟩:=by
 have g1:h[1]? = some (.cells eRw [[x]]):=hL (1,_) (by simp)
 have g2:h[2]? = some (.cells eB1 [[.bool true]]):=hL (2,_) (by simp)
 have g0:h[0]? = some (.cells eRw [[.d (.sl eGl (glRows b))]]):=hL (0,_) (by simp)
 have g3:h[3]? = some (.cells eInt [[.int j]]):=hL (3,_) (by simp)
 rcases hS with ⟨_,_,_,hc⟩ | ⟨k,R,C,T3,T4,rfl,rfl,hR,hC,h3⟩
 ·cases hc
 rcases hC with ⟨hc,_⟩ | ⟨e0,y,he0,rfl,hy⟩
 ·cases hc
 cases he0
 simp only [zb,List.length_singleton] at g1 hL ⊢
 have gk:h[k]? = some (.cells eEd (R++[edA e y])):=hL (k,_) (by simp)
 have k0:k≠0:=blk_ne gk g0 (by simp)
 have k1:k≠1:=blk_ne gk g1 (by simp)
 have k2:k≠2:=blk_ne gk g2 (by simp)
 have k3:k≠3:=blk_ne gk g3 (by simp)
 have hlk:k<h.length:=(zA.1 gk).1
 have hT3:Has T3 h:=fun p hp=>hL p (by simp [hp])
 have hT4:Has T4 h:=fun p hp=>hL p (by simp [hp])
 have h4:∀ p∈T4,∃ l,p.2=rowB l:=by
  intro p hp
  rcases hy with ⟨rfl,_,rfl⟩ | ⟨p',rfl,rfl,_⟩
  ·simp at hp
  ·simp at hp;subst hp;exact ⟨_,rfl⟩
 have hRl:=hR.1
 have w1:IntKind.i64.wrap (((R.length+1:Nat):Int)-1)=(R.length:Int):=by rw [i64_of (by omega)];omega
 have first:∀ (sl:Nat→A) (q:SS sl s i) (Δ:Ctx) (rl:Option Nat) (n:Nat) (Q:Exit→St→Prop),(∀ sl',SS sl' s i→sl' 10 = .ptr k (R.length+1) R.length 0→W Δ P N rl n scRest.r Q ⟨sl',h⟩)→W Δ P N rl n scRest Q ⟨sl,h⟩:=by
  intro sl q Δ rl n Q hQ
  unfold scRest
  refine wR ?_;simp only [xq,reduceIte,qE,qA,qL,qD,q.s5,g1,gk,w1,zb,List.length_singleton,zQ,Nat.zero_add]
  repeat refine And.intro (by omega) ?_
  exact hQ _ ⟨q.s3,q.s5,q.s6,q.s7,q.s8,q.s9⟩ rfl
 rcases hs with rfl | ⟨rfl,hjb⟩
 ·simp only [if_true]
  have w2:IntKind.i64.wrap ((e.del:Int)+1)=((e.del+1:Nat):Int):=by rw [i64_of (by omega)];omega
  let e':Edt:={ e with del:=e.del+1 }
  refine ⟨(k,.cells eEd (R++[edA e' y]))::(T3++T4),h.set k (.cells eEd (R++[edA e' y])),.inr ⟨k,R,[edA e' y],T3,T4,by simp,rfl,hR,.inr ⟨e',y,rfl,rfl,hy⟩,h3⟩,?_,fun sl q Δ rl n=>first sl q Δ rl n _ fun sl' q' h10=>?_⟩
  ·have t0:=Turn.upd (.cells eEd (R++[edA e' y])) hL (by simp [ids]:k∈ids _)
   have u0:updL (T3++T4) k (.cells eEd (R++[edA e' y]))=T3++T4:=updL_T (fun p hp=>by rcases List.mem_append.1 hp with hp | hp;exact h3 p hp;exact h4 p hp) (fun p hp=>hL p (by simp at hp;simp [hp])) gk (by simp)
   simp only [scL,updL_cons,u0,if_neg (Ne.symm k0),if_neg (Ne.symm k1),if_neg (Ne.symm k2),if_neg (Ne.symm k3),reduceIte] at t0
   exact t0
  ·show W Δ P N rl n (.seq _ _) _ _
   refine W_seq ?_
   refine wR ?_;simp only [xq,reduceIte,qE,qA,qL,qD,q'.s8]
   refine W_cond rfl (fun hd=>?_) (fun hd=>by simp at hd)
   refine wR ?_;simp only [xq,reduceIte,qE,qA,qL,qD,h10,gk,row_last,row_setl,w2]
   refine W_exit ?_
   simp only [xq,reduceIte,qE,qA,qL,qD]
   rfl
 ·simp only [if_neg (show ¬ (2:Nat)=1 by decide)]
  have w2:IntKind.i64.wrap ((j:Int)+1)=((j+1:Nat):Int):=by rw [i64_of (by omega)];omega
  have hg:(b.drop j).take 1=[b[j]]:=by rw [zd hjb];rfl
  rw [hg]
  let e':Edt:={ e with ins:=e.ins++[b[j]] }
  let gr:List A:=b[j].row.map .d
  have hl3:3<h.length:=(zA.1 g3).1
  rcases hy with ⟨rfl,hnil,rfl⟩ | ⟨p,rfl,rfl,hp3⟩
  ·let y':A:=.ref (h.length+1) 1 0 1 true
   have hne:e'.ins=[b[j]]:=by simp [e',hnil]
   refine ⟨(k,.cells eEd (R++[edA e' y']))::(T3++[(h.length+1,.cells eGl [gr])]),(h.set k (.cells eEd (R++[edA e' y']))).set 3 (.cells eInt [[.int ((j+1:Nat):Int)]])++[.cells eGl [gr],.cells eGl [gr]],?_,?_,fun sl q Δ rl n=>first sl q Δ rl n _ fun sl' q' h10=>?_⟩
   ·refine .inr ⟨k,R,[edA e' y'],T3,[(h.length+1,.cells eGl [gr])],by simp,rfl,hR,.inr ⟨e',y',rfl,rfl,.inr ⟨h.length+1,?_,?_,fun hm=>?_⟩⟩,h3⟩
    ·rw [hne];rfl
    ·rw [hne];rfl
    ·obtain ⟨p,hp,hp2⟩:=List.mem_map.1 hm
     have:=(zA.1 (hT3 p hp)).1
     omega
   ·have t0:=Turn.upd (.cells eEd (R++[edA e' y'])) hL (by simp [ids]:k∈ids _)
    have t1:=Turn.upd (.cells eInt [[.int ((j+1:Nat):Int)]]) t0.has (by rw [updL_ids];simp [ids]:3∈ids _)
    have t2:=Turn.push (t:=[.cells eGl [gr],.cells eGl [gr]]) 1 rfl t1.has
    have:=(t0.trans t1).trans t2
    have u0:updL (T3++[]) k (.cells eEd (R++[edA e' y']))=T3:=by rw [zP];exact updL_T h3 hT3 gk (by simp)
    have u1:updL T3 3 (.cells eInt [[.int ((j+1:Nat):Int)]])=T3:=updL_T h3 hT3 g3 (by simp)
    simp only [scL,updL_cons,u0,u1,if_neg (Ne.symm k0),if_neg (Ne.symm k1),if_neg (Ne.symm k2),if_neg (Ne.symm k3),if_neg k3,reduceIte,qE,List.length_set,List.cons_append] at this
    exact this
   ·show W Δ P N rl n (.seq _ _) _ _
    have e0:∀ t:Heap,(h++t)[0]? = some (.cells eRw [[.d (.sl eGl (glRows b))]]):=fun t=>hp_gl g0
    have e3:∀ t:Heap,(h++t)[3]? = some (.cells eInt [[.int j]]):=fun t=>hp_gl g3
    have ek:∀ t:Heap,(h++t)[k]? = some (.cells eEd (R++[edA e .nil])):=fun t=>hp_gl gk
    have sk:∀ (t:Heap) X,(h++t).set k X=h.set k X++t:=fun t X=>hp_sl hlk
    have e3':∀ (t:Heap) X,(h.set k X++t)[3]? = some (.cells eInt [[.int j]]):=fun t X=>hp_gn k3 g3
    have s3:∀ (t:Heap) X Y,(h.set k X++t).set 3 Y=(h.set k X).set 3 Y++t:=fun t X Y=>zu _ _ (by simpa using hl3)
    refine W_seq ?_
    refine wR ?_;simp only [xq,reduceIte,qE,qA,qL,qD,q'.s8]
    refine W_cond rfl (fun hd=>by simp at hd) (fun hd=>W_skip ?_)
    simp only [xq,reduceIte,qE,qA,qL,qD]
    refine W_seq (W_drw (by simp) ?_)
    simp only [xq,reduceIte,qE,qA,qL,qD,h10,q'.s3,q'.s7,e0,e3,ek,sk,row_last,row_setl,glRows_len,glRows_get hjb,Gl.row,zQ,hp_g0,hp_s0,hp_g1,hp_s1]
    repeat refine And.intro (by omega) ?_
    rw [if_neg (by simp)]
    refine ⟨by decide,by decide,?_⟩
    refine W_reg ?_;simp only [xq,reduceIte,qE,qA,qL,qD,q'.s7,e3',s3,w2]
    simp only [gr,Gl.row,e',zU,zV,y',xq,reduceIte,qE,qA,qL,qD]
  ·let m:=e.ins.length+1
   let y':A:=.ref p m 0 m true
   have hml:e'.ins.length=m:=by simp [e',m]
   have gp:h[p]? = some (rowB e.ins):=hL (p,_) (by simp)
   have hlp:p<h.length:=(zA.1 gp).1
   have p0:p≠0:=blk_ne gp g0 (by simp)
   have p1:p≠1:=blk_ne gp g1 (by simp)
   have p2:p≠2:=blk_ne gp g2 (by simp)
   have p3:p≠3:=blk_ne gp g3 (by simp)
   have pk:p≠k:=blk_ne gp gk (by simp)
   have hrow:rowB e'.ins = .cells eGl (((glRows e.ins).map fun r=>r.map A.d)++[gr]):=by simp [e',gr,glRows]
   refine ⟨(k,.cells eEd (R++[edA e' y']))::(T3++[(p,rowB e'.ins)]),((h.set p (rowB e'.ins)).set k (.cells eEd (R++[edA e' y']))).set 3 (.cells eInt [[.int ((j+1:Nat):Int)]])++[.cells eGl [gr],.res],?_,?_,fun sl q Δ rl n=>first sl q Δ rl n _ fun sl' q' h10=>?_⟩
   ·exact .inr ⟨k,R,[edA e' y'],T3,[(p,rowB e'.ins)],by simp,rfl,hR,.inr ⟨e',y',rfl,rfl,.inr ⟨p,by rw [hml],rfl,hp3⟩⟩,h3⟩
   ·have tp:=Turn.upd (rowB e'.ins) hL (by simp [ids]:p∈ids _)
    have t0:=Turn.upd (.cells eEd (R++[edA e' y'])) tp.has (by rw [updL_ids];simp [ids]:k∈ids _)
    have t1:=Turn.upd (.cells eInt [[.int ((j+1:Nat):Int)]]) t0.has (by rw [updL_ids,updL_ids];simp [ids]:3∈ids _)
    have t2:=Turn.behind [.cells eGl [gr],.res] t1.has
    have:=((tp.trans t0).trans t1).trans t2
    have app:∀ (id:Nat) (Y:HB) (l l':List (Nat × HB)),updL (l++l') id Y=updL l id Y++updL l' id Y:=fun id Y l l'=>by simp [updL]
    have nl:∀ (id:Nat) (Y:HB),updL [] id Y=[]:=fun _ _=>rfl
    have up:updL T3 p (rowB e'.ins)=T3:=updL_ne fun z hz hh=>hp3 (List.mem_map.2 ⟨z,hz,hh⟩)
    have u0:updL T3 k (.cells eEd (R++[edA e' y']))=T3:=updL_T h3 hT3 gk (by simp)
    have u1:updL T3 3 (.cells eInt [[.int ((j+1:Nat):Int)]])=T3:=updL_T h3 hT3 g3 (by simp)
    simp only [scL,updL_cons,app,nl,up,u0,u1,if_neg (Ne.symm k0),if_neg (Ne.symm k1),if_neg (Ne.symm k2),if_neg (Ne.symm k3),if_neg k3,if_neg (Ne.symm p0),if_neg (Ne.symm p1),if_neg (Ne.symm p2),if_neg (Ne.symm p3),if_neg p3,if_neg pk,if_neg (Ne.symm pk),reduceIte,qE] at this
    exact this
   ·show W Δ P N rl n (.seq _ _) _ _
    have e0:∀ t:Heap,(h++t)[0]? = some (.cells eRw [[.d (.sl eGl (glRows b))]]):=fun t=>hp_gl g0
    have e3:∀ t:Heap,(h++t)[3]? = some (.cells eInt [[.int j]]):=fun t=>hp_gl g3
    have ek:∀ t:Heap,(h++t)[k]? = some (.cells eEd (R++[edA e (.ref p e.ins.length 0 e.ins.length true)])):=fun t=>hp_gl gk
    have ep:∀ t:Heap,(h++t)[p]? = some (rowB e.ins):=fun t=>hp_gl gp
    have sp:∀ (t:Heap) X,(h++t).set p X=h.set p X++t:=fun t X=>hp_sl hlp
    have ek':∀ (t:Heap) X,(h.set p X++t)[k]? = some (.cells eEd (R++[edA e (.ref p e.ins.length 0 e.ins.length true)])):=fun t X=>hp_gn pk gk
    have sk:∀ (t:Heap) X Y,(h.set p X++t).set k Y=(h.set p X).set k Y++t:=fun t X Y=>zu _ _ (by simpa using hlk)
    have e3':∀ (t:Heap) X Y,((h.set p X).set k Y++t)[3]? = some (.cells eInt [[.int j]]):=fun t X Y=>hp_gn k3 (by rw [zM p3];exact g3)
    have s3:∀ (t:Heap) X Y Z,((h.set p X).set k Y++t).set 3 Z=((h.set p X).set k Y).set 3 Z++t:=fun t X Y Z=>zu _ _ (by simpa using hl3)
    have rl1:((glRows e.ins).map fun r=>r.map A.d).length=e.ins.length:=rowB_len
    refine W_seq ?_
    refine wR ?_;simp only [xq,reduceIte,qE,qA,qL,qD,q'.s8]
    refine W_cond rfl (fun hd=>by simp at hd) (fun hd=>W_skip ?_)
    simp only [xq,reduceIte,qE,qA,qL,qD]
    refine W_seq (W_drw (by simp) ?_)
    simp only [xq,reduceIte,qE,qA,qL,qD,h10,q'.s3,q'.s7,e0,e3,ek,ep,sp,ek',sk,rl1,row_last,row_setl,glRows_len,glRows_get hjb,Gl.row,zQ,hp_g0,hp_s0,hp_g1,hp_s1]
    repeat refine And.intro (by first | omega | (simp only [room];omega) | (simp only [maxLen];omega)) ?_
    refine W_reg ?_;simp only [xq,reduceIte,qE,qA,qL,qD,q'.s7,e3',s3,w2]
    rw [hrow]
    simp only [gr,Gl.row,e',zU,zV,y',m,xq,reduceIte,qE,qA,qL,qD]
end Go.Proofs.YtlllnjhgjijnkaaDoor.Nx
namespace Go.Proofs.YtlllnjhgjijnkaaDoor.Nx
open Go
variable {P:Program} {N:Nat} {Γ:Tabs}
theorem edDel_get {i:Nat} {cur:Option Edt}:edDel i cur={ cur.getD ⟨i,0,[]⟩ with del:=(cur.getD ⟨i,0,[]⟩).del+1 }:=by cases cur<;>rfl
theorem edIns_get {i:Nat} {g:List Gl} {cur:Option Edt}:edIns i g cur={ cur.getD ⟨i,0,[]⟩ with ins:=(cur.getD ⟨i,0,[]⟩).ins++g }:=by cases cur<;>rfl
structure ScI (a b:List Gl) (k:Nat) (es:List Edt) (cur:Option Edt) (i j:Nat):Prop where
 hi:i≤a.length
 hj:j≤b.length
 w:(wlk a b 0).drop k=wlk (a.drop i) (b.drop j) i
 e:es++edG ((wlk a b 0).drop k) (b.drop j) cur=scriptE a b
 es:es.length≤k
 del:(cur.getD ⟨0,0,[]⟩).del≤k
 ins:(cur.getD ⟨0,0,[]⟩).ins.length≤k
theorem ScI.step {a b:List Gl} {k:Nat} {es:List Edt} {cur:Option Edt} {i j s i':Nat} (h:ScI a b k es cur i j) (hk:(wlk a b 0)[k]? = some (s,i')) :
  i'=i∧(s=0→j<b.length∧ScI a b (k+1) (es++cur.toList) none (i+1) (j+1))∧(s≠0→(s=1∨(s=2∧j<b.length))∧(s=1→ScI a b (k+1) es (some (edDel i cur)) (i+1) j)∧(s=2→ScI a b (k+1) es (some (edIns i ((b.drop j).take 1) cur)) i (j+1))):=by
 have hd:(wlk a b 0).drop k=(s,i')::(wlk a b 0).drop (k+1):=by
  have hlt:=(zA.1 hk).1
  rw [zd hlt]
  congr 1
  exact (zA.1 hk).2
 have hor:i<a.length∨j<b.length:=by
  rcases Nat.lt_or_ge i a.length with h1 | h1
  ·exact .inl h1
  ·rcases Nat.lt_or_ge j b.length with h2 | h2
   ·exact .inr h2
   ·have e1:a.drop i=[]:=List.drop_eq_nil_of_le h1
    have e2:b.drop j=[]:=List.drop_eq_nil_of_le h2
    have:=h.w
    rw [hd,e1,e2] at this
    simp [wlk] at this
 have hst:=wlk_step h.hi h.hj hor
 have hw:=h.w
 rw [hd,hst] at hw
 injection hw with q1 q2
 injection q1 with q1 q3
 subst q3
 have he:=h.e
 rw [hd,edG] at he
 have hdj:(b.drop j).drop 1=b.drop (j+1):=by rw [List.drop_drop]
 have n2:s≠1→j<b.length:=fun hs=>by
  rcases Nat.lt_or_ge j b.length with h' | h'
  ·exact h'
  ·exact absurd (q1.trans (stepAt_b (by have:=h.hj;omega))) hs
 have n1:s≠2→i'<a.length:=fun hs=>by
  rcases Nat.lt_or_ge i' a.length with h' | h'
  ·exact h'
  ·exact absurd (q1.trans (stepAt_c (by omega) (by omega))) hs
 rw [← q1] at q2
 have he0:(none:Option Edt).getD ⟨0,0,[]⟩=⟨0,0,[]⟩:=rfl
 have hcl:cur.toList.length≤1:=by cases cur<;>simp
 refine ⟨rfl,fun hs=>?_,fun hs=>⟨?_,fun h1=>?_,fun h2=>?_⟩⟩
 ·subst hs
  have b1:=n1 (by decide)
  have b2:=n2 (by decide)
  refine ⟨b2,by omega,by omega,q2,?_,?_,by rw [he0];exact zI _,by rw [he0];exact zI _⟩
  ·rw [if_pos rfl,hdj] at he
   rw [zS];exact he
  ·have:=h.es
   simp only [zb]
   rcases Nat.eq_zero_or_pos k with hk0 | hk0
   ·omega
   ·omega
 ·have hl:=stepAt_lt (a:=a) (b:=b) (i:=i') (j:=j)
  have:s=1∨s=2:=by omega
  rcases this with h1 | h1
  ·exact .inl h1
  ·exact .inr ⟨h1,n2 (by omega)⟩
 ·subst h1
  have b1:=n1 (by decide)
  rw [if_neg (by decide),if_pos rfl] at he
  refine ⟨by omega,h.hj,q2,he,by have:=h.es;omega,?_,?_⟩
  ·have:=h.del
   cases cur<;>simp [edDel] at this ⊢; omega
  ·have:=h.ins
   cases cur<;>simp [edDel] at this ⊢; omega
 ·subst h2
  have b2:=n2 (by decide)
  rw [if_neg (by decide),if_neg (by decide),hdj] at he
  refine ⟨h.hi,by omega,q2,he,by have:=h.es;omega,?_,?_⟩
  ·have:=h.del
   cases cur<;>simp [edIns] at this ⊢; omega
  ·have:=h.ins
   have h1:((b.drop j).take 1).length≤1:=by rw [List.length_take];omega
   cases cur<;>simp [edIns] at this ⊢ <;> omega
def scP (a b:List Gl) (k:Nat):Nat × Nat:=(wlk a b 0).getD k (0,0)
theorem wlkXs_get {a b:List Gl} {k:Nat} {xa:List A} (hk:(wlkXs a b)[k]? = some xa):(wlk a b 0)[k]? = some (scP a b k)∧xa=[.int (scP a b k).1,.int (scP a b k).2]:=by
 rw [wlkXs,zK] at hk
 cases hx:(wlk a b 0)[k]? with
 | none=>rw [hx] at hk;cases hk
 | some p =>
  rw [hx] at hk
  have:scP a b k=p:=by rw [scP,zC,hx];rfl
  rw [this]
  simp at hk
  exact ⟨rfl,hk.symm⟩
def scSl (fn:A) (s i:Nat):Nat→A:=upd (upd (upd (upd (look [(3,.ptr 0 1 0 0),(5,.ptr 1 1 0 0),(6,.ptr 2 1 0 0),(7,.ptr 3 1 0 0),(13,fn)]) 14 (.int s)) 15 (.int i)) 8 (.int s)) 9 (.int i)
theorem scSl_ok {fn:A} {s i:Nat}:SS (scSl fn s i) s i:=⟨rfl,rfl,rfl,rfl,rfl,rfl⟩
theorem ScT.frz {x:A} {T:List (Nat × HB)} {es:List Edt} {h:Heap} (hS:ScT x T es none) (hT:Has T h):FrzD 0 h x (.sl eEd (edsRows es)):=by
 rcases hS with ⟨rfl,rfl,rfl,_⟩ | ⟨q,R,C,T3,T4,rfl,rfl,hR,hC,h3⟩
 ·exact .nil _
 obtain ⟨rfl,rfl⟩:C=[]∧T4=[]:=by
  rcases hC with ⟨_,h1,h2⟩ | ⟨e,y,h1,_⟩
  ·exact ⟨h1,h2⟩
  ·cases h1
 simp only [zP] at hT ⊢
 have gq:h[q]? = some (.cells eEd R):=hT (q,_) (by simp)
 have get:∀ (i:Nat) (r:List D),(edsRows es)[i]? = some r→∃ (hi:i<es.length) (y:A),r=edDs es[i]∧R.getD (0+i) []=edA es[i] y∧InsAt T3 y es[i].ins:=fun i r hi=>by
  have hlt:i<es.length:=by have:=(zA.1 hi).1;rwa [edsRows_len] at this
  obtain ⟨y,h1,h2⟩:=hR.2 i _ (zB hlt)
  refine ⟨hlt,y,?_,?_,h2⟩
  ·rw [edsRows,zK,zB hlt] at hi
   simpa using hi.symm
  ·rw [Nat.zero_add,zC,h1];rfl
 refine .ref (zI _) gq (by rw [edsRows_len,hR.1]) (fun i r hi=>?_) (fun i r j d hi hj=>?_)
 ·obtain ⟨_,y,rfl,h2,_⟩:=get i r hi
  rw [h2];rfl
 ·obtain ⟨_,y,rfl,h2,h4⟩:=get i r hi
  rw [h2]
  rcases j with _ | _ | _ | j
  ·cases hj;exact .d _
  ·cases hj;exact .d _
  ·cases hj
   rcases h4 with ⟨rfl,h5⟩ | ⟨p,rfl,h5⟩
   ·rw [h5];exact .nil _
   ·exact rowAt_frz (.inr ⟨p,rfl,hT (p,_) (List.mem_cons_of_mem _ h5)⟩)
  ·simp [edDs] at hj
set_option maxHeartbeats 1000000 in
theorem script_fn {f fw f1:FuncId} (H:FnIs P f N [.t 4] (x_editscript_Script_365 fw)) (hN:2≤N) (a b:List Gl) (ha:a.length≤50000) (hb:b.length≤50000)
  (Hw:FnP Γ P fw [.d (.sl eGl (glRows a)),.d (.sl eGl (glRows b))] (.fn f1 [.iptr [.sl eGl (glRows a)],.iptr [.sl eGl (glRows b)]])) (HG:GenD Γ P f1 [.iptr [.sl eGl (glRows a)],.iptr [.sl eGl (glRows b)]] (wlkXs a b)) :
  FnP Γ P f [.d (.sl eGl (glRows a)),.d (.sl eGl (glRows b))] (.d (.sl eEd (edsRows (scriptE a b)))):=by
 refine .of_W H (by simpa using hN) ?_
 have hwl:=wlk_len a b 0
 unfold x_editscript_Script_365
 refine wR ?_;simp only [xq,reduceIte,qE,qA,qL,qD]
 refine wR ?_;simp only [xq,reduceIte,qE,qA,qL,qD]
 refine wR ?_;simp only [xq,reduceIte,qE,qA,qL,qD]
 refine W_seq ?_
 refine wR ?_;simp only [xq,reduceIte,qE,qA,qL,qD]
 refine c_fn (Hw) rfl ?_;simp only [xq,reduceIte,qE,qA,qL,qD]
 let fnv:A:=.fn f1 [.iptr [.sl eGl (glRows a)],.iptr [.sl eGl (glRows b)]]
 let sl0:Nat→A:=look [(3,.ptr 0 1 0 0),(5,.ptr 1 1 0 0),(6,.ptr 2 1 0 0),(7,.ptr 3 1 0 0),(13,fnv)]
 let h0:Heap:=[.cells eRw [[.d (.sl eGl (glRows b))]],.cells eRw [[.nil]],.cells eB1 [[.bool false]],.cells eInt [[.int 0]]]
 refine W_co (s':=⟨sl0,h0⟩) (by simp only [sl0,h0];exact Co.keep _ (by simp [x_upd,x_look,fnv])) ?_
 let I:Nat→List (Nat × HB)→Prop:=fun k L=>∃ es cur i j x T,L=scL b x cur.isSome j T∧ScT x T es cur∧ScI a b k es cur i j
 refine W_block (W_range (Γ:=Γ.ctx) (xs:=wlkXs a b) (f:=f1) (caps:=[.iptr [.sl eGl (glRows a)],.iptr [.sl eGl (glRows b)]]) rfl HG I (fun _ _=>False)
  (scL b .nil false 0 []) ⟨[],none,0,0,.nil,[],rfl,.inl ⟨rfl,rfl,rfl,rfl⟩,zI _,zI _,rfl,rfl,zL _,zL _,zL _⟩ ?_
  (fun k _=>scSl fnv (scP a b k).1 (scP a b k).2) (fun _=>[]) ?_ ?_ ?_ ?_ ?_)
 ·intro p hp
  simp only [scL,List.mem_cons,List.not_mem_nil,or_false] at hp
  rcases hp with rfl | rfl | rfl | rfl<;>rfl
 ·intro k xa hk
  rw [(wlkXs_get hk).2];rfl
 ·intro k xa h rl hk hlt
  rw [(wlkXs_get hk).2]
  refine wR ?_
  simp only [xq,reduceIte,qE,qA,qL,qD,setAll]
  refine W_reg ?_
  simp only [xq,reduceIte,qE,qA,qL,qD,setAll,scSl,zP]
  rfl
 ·intro k xa L h hk hI hL hlt
  obtain ⟨hks,rfl⟩:=wlkXs_get hk
  obtain ⟨es,cur,i,j,x,T,rfl,hS,hI⟩:=hI
  obtain ⟨s,i',hp⟩:∃ s i',scP a b k=(s,i'):=⟨_,_,rfl⟩
  rw [hp] at hks
  simp only [hp]
  obtain ⟨rfl,hz,hnz⟩:=hI.step hks
  have hkl:k<(wlk a b 0).length:=(zA.1 hks).1
  simp only [zP]
  have q:=scSl_ok (fn:=fnv) (s:=s) (i:=i')
  by_cases hs0:s=0
  ·obtain ⟨hjb,hI'⟩:=hz hs0
   subst hs0
   have g2:h[2]? = some (.cells eB1 [[.bool cur.isSome]]):=hL (2,_) (by simp)
   have g3:h[3]? = some (.cells eInt [[.int j]]):=hL (3,_) (by simp)
   have w2:IntKind.i64.wrap ((j:Int)+1)=((j+1:Nat):Int):=by rw [i64_of (by omega)];omega
   have hT:Has T h:=fun p hp=>hL p (by simp [hp])
   have nT:∀ z∈T,z.1≠2∧z.1≠3:=fun z hz=>by
    have hzh:=hT z hz
    rcases hS with ⟨_,rfl,_⟩ | ⟨q,R,C,T3,T4,rfl,rfl,hR,hC,h3⟩
    ·simp at hz
    ·rcases List.mem_cons.1 hz with rfl | hz
     ·exact ⟨blk_ne hzh g2 (by simp),blk_ne hzh g3 (by simp)⟩
     ·have:∃ l,z.2=rowB l:=by
       rcases List.mem_append.1 hz with hz | hz
       ·exact h3 z hz
       ·exact cur_rows hC z hz
      obtain ⟨l,hl⟩:=this
      rw [hl] at hzh
      exact ⟨blk_ne hzh g2 (by simp),blk_ne hzh g3 (by simp)⟩
   refine ⟨.normal,scL b x false (j+1) T,(h.set 2 (.cells eB1 [[.bool false]])).set 3 (.cells eInt [[.int ((j+1:Nat):Int)]]),?_,fun rl=>?_,.inl ⟨rfl,_,_,_,_,_,_,rfl,hS.close,hI'⟩⟩
   ·have t0:=Turn.upd (.cells eB1 [[.bool false]]) hL (by simp [ids]:2∈ids _)
    have t1:=Turn.upd (.cells eInt [[.int ((j+1:Nat):Int)]]) t0.has (by rw [updL_ids];simp [ids]:3∈ids _)
    have:=t0.trans t1
    have u0:updL T 2 (.cells eB1 [[.bool false]])=T:=updL_ne fun z hz=>(nT z hz).1
    have u1:updL T 3 (.cells eInt [[.int ((j+1:Nat):Int)]])=T:=updL_ne fun z hz=>(nT z hz).2
    simp only [scL,updL_cons,u0,u1,reduceIte,qE] at this
    exact this
   ·refine W_block ?_
    refine W_seq ?_
    refine wR ?_;simp only [xq,reduceIte,qE,qA,qL,qD,q.s8]
    refine W_cond rfl (fun hd=>?_) (fun hd=>by simp at hd)
    refine wR ?_;simp only [xq,reduceIte,qE,qA,qL,qD,q.s6,g2]
    have g3':∀ X,(h.set 2 X)[3]? = some (.cells eInt [[.int j]]):=fun X=>by rw [zM (by decide)];exact g3
    refine wR ?_;simp only [xq,reduceIte,qE,qA,qL,qD,q.s7,g3',w2]
    refine W_exit ?_
    simp only [xq,reduceIte,qE,qA,qL,qD]
  ·obtain ⟨hs,h1,h2⟩:=hnz hs0
   have c0:(cur.getD ⟨i',0,[]⟩).del=(cur.getD ⟨0,0,[]⟩).del∧(cur.getD ⟨i',0,[]⟩).ins=(cur.getD ⟨0,0,[]⟩).ins:=by cases cur<;>exact ⟨rfl,rfl⟩
   have b1:=hI.del
   have b2:=hI.ins
   have b3:=hI.es
   have b4:=hI.hj
   have skip:∀ (rl:Option Nat) (Q:Exit→St→Prop),(∀ sl',SS sl' s i'→W Γ.ctx P N rl h.length (.seq scOpen scRest) (blockQ 1 Q) ⟨sl',h⟩)→W Γ.ctx P N rl h.length (.block 1 (.seq (.seq (.reg [
     { dst:=some 16,op:=.mov (.t 8) },
     { dst:=some 17,op:=.bin .eql (.t 16) (.k (.int 0)) }])
    (.cond (.t 17)
     (.seq (.reg [
      { dst:=none,op:=.store 1 (.t 6) (.k (.bool false)) }])
     (.seq (.reg [
      { dst:=some 18,op:=.load 1 false (.t 7) },
      { dst:=some 19,op:=.bin .add (.t 18) (.k (.int 1)) },
      { dst:=none,op:=.store 1 (.t 7) (.t 19) }])
     (.exit 1)))
     .skip))
    (.seq scOpen scRest))) Q ⟨scSl fnv s i',h⟩:=by
    intro rl Q hQ
    refine W_block (W_seq ?_)
    refine wR ?_;simp only [xq,reduceIte,qE,qA,qL,qD,q.s8]
    refine W_cond rfl (fun hd=>absurd (by simpa using hd) hs0) (fun hd=>W_skip ?_)
    exact hQ _ ⟨q.s3,q.s5,q.s6,q.s7,q.s8,q.s9⟩
   obtain ⟨x1,T1,hp1,hS1,t1,w1⟩:=open_W (P:=P) (N:=N) (s:=s) (i:=i') hS hL (by omega)
   obtain ⟨T2,hp2,hS2,t2,w2⟩:=rest_W (P:=P) (N:=N) (s:=s) (i:=i') hS1 t1.has (by omega) (by rw [c0.1];omega) (by rw [c0.2];omega) (by omega) hs
   have t12:=t1.trans t2
   have hW:∀ rl,W Γ.ctx P N rl h.length (.block 1 (.seq (.seq (.reg [
     { dst:=some 16,op:=.mov (.t 8) },
     { dst:=some 17,op:=.bin .eql (.t 16) (.k (.int 0)) }])
    (.cond (.t 17)
     (.seq (.reg [
      { dst:=none,op:=.store 1 (.t 6) (.k (.bool false)) }])
     (.seq (.reg [
      { dst:=some 18,op:=.load 1 false (.t 7) },
      { dst:=some 19,op:=.bin .add (.t 18) (.k (.int 1)) },
      { dst:=none,op:=.store 1 (.t 7) (.t 19) }])
     (.exit 1)))
     .skip))
    (.seq scOpen scRest))) (fun e s'=>e = .normal∧s'.heap=hp2) ⟨scSl fnv s i',h⟩:=fun rl=>by
    refine skip rl _ fun sl' q'=>W_seq (W_mono (fun e s' hq=>?_) (w1 sl' q' _ rl _))
    obtain ⟨rfl,q2,hh⟩:=hq
    obtain ⟨sl2,hp'⟩:=s'
    simp only at hh q2
    subst hh
    refine W_mono (fun e s2 hq=>?_) (w2 sl2 q2 _ rl _)
    obtain ⟨rfl,h4⟩:=hq
    rcases hs with rfl | ⟨rfl,_⟩
    ·simp only [if_true,xq,reduceIte,qE,qA,qL,qD];exact h4
    ·simp only [if_neg (show ¬ (2:Nat)=1 by decide),xq,reduceIte,qE,qA,qL,qD];exact h4
   rcases hs with rfl | ⟨rfl,_⟩
   ·have hI':=h1 rfl
    simp only [if_true] at hS2 t12
    rw [edDel_get] at hI'
    exact ⟨.normal,_,hp2,t12,hW,.inl ⟨rfl,es,some _,_,j,x1,T2,rfl,hS2,hI'⟩⟩
   ·have hI':=h2 rfl
    simp only [if_neg (show ¬ (2:Nat)=1 by decide)] at hS2 t12
    rw [edIns_get] at hI'
    exact ⟨.normal,_,hp2,t12,hW,.inl ⟨rfl,es,some _,_,j+1,x1,T2,rfl,hS2,hI'⟩⟩
 ·intro L' h' tn hI
  obtain ⟨es,cur,i,j,x,T,rfl,hS,hI⟩:=hI
  have he:=hI.e
  rw [wlkXs_len,List.drop_length,edG] at he
  have hS:=hS.close
  rw [he] at hS
  have g1:h'[1]? = some (.cells eRw [[x]]):=tn.has (1,_) (by simp)
  simp only [xq,reduceIte,qE,qA,qL,qD,sl0]
  refine wR ?_;simp only [xq,reduceIte,qE,qA,qL,qD,g1]
  refine W_ret (.frz ?_)
  simp only [xq,reduceIte,qE,qA,qL,qD]
  exact .d (hS.frz fun p hp=>tn.has p (by simp [hp]))
 ·intro e0 L' h' _ hf
  exact hf.elim
end Go.Proofs.YtlllnjhgjijnkaaDoor.Nx

import Derived.Test.YtigfbnglplbbpaaDoorNxE6
set_option linter.unusedSimpArgs false
set_option linter.unusedVariables false
set_option linter.unnecessarySimpa false
open List renaming getElem?_eq_some_iff → zA, getElem?_eq_getElem → zB, getD_eq_getElem?_getD → zC, getElem?_append_left → zF, getElem?_append_right → zG, getElem?_map → zK, append_nil → zP, append_assoc → zS, map_cons → zU, map_nil → zV, length_append → zb, not_mem_nil → zc, getElem?_range → zj, getElem?_eq_none → zk, mem_cons → zp
open Bool renaming true_eq_false → zE
open Option.some renaming injEq → zH
open Nat renaming zero_le → zI
open Int renaming toNat_natCast → zQ
open Nat renaming reduceEqDiff → qE, reduceAdd → qA, reduceLT → qL, reduceLeDiff → qD
namespace Go.Proofs.YtigfbnglplbbpaaDoor.Nx
open Go
variable {P:Program} {N:Nat} {Γ:Tabs}
def possB (n t b y:Int):Bool:=((((decide (0≤t)&&decide (t<b))&&decide (b≤n)) && !decide (y=0))&&decide (y<b-t))&&decide (t-b<y)
set_option maxHeartbeats 1000000 in
theorem possible_fn {f:FuncId} (H:FnIs P f N [.t 8] x_scrolldiff_possible) (hN:4≤N) (n t b y:Int) (hn:n≤1000000000000000000):FnP Γ P f [.int n,.int t,.int b,.int y] (.bool (possB n t b y)):=by
  refine .of_W H (by simpa using hN) ?_
  have w3:(0≤t∧t<b)∧b≤n→IntKind.i64.wrap (b-t)=b-t∧IntKind.i64.wrap (t-b)=t-b:=fun q=>⟨i64_of (by omega),i64_of (by omega)⟩
  obtain ⟨B1,hB1⟩:∃ B,B=(decide (0≤t)&&decide (t<b)):=⟨_,rfl⟩
  obtain ⟨B2,hB2⟩:∃ B,B=(B1&&decide (b≤n)):=⟨_,rfl⟩
  obtain ⟨B3,hB3⟩:∃ B,B=(B2 && !decide (y=0)):=⟨_,rfl⟩
  obtain ⟨B4,hB4⟩:∃ B,B=(B3&&decide (y<b-t)):=⟨_,rfl⟩
  have hB:possB n t b y=(B4&&decide (t-b<y)):=by rw [possB,hB4,hB3,hB2,hB1]
  have h2t:B2=true→(0≤t∧t<b)∧b≤n:=fun h=>by
    rw [hB2,hB1] at h;simpa using h
  have h3t:B3=true→B2=true:=fun h=>by rw [hB3] at h;simp at h;exact h.1
  have h4t:B4=true→B3=true:=fun h=>by rw [hB4] at h;simp at h;exact h.1
  unfold x_scrolldiff_possible
  refine W_seq (W_reg ?_);simp only [xq,reduceIte,qE,qA,qL,qD]
  refine W_sreg fun K hK=>?_
  let RR (F:Nat) (B:Bool):(Nat→A)→Prop:=fun sl=>sl 0 = .int n∧sl 1 = .int t∧sl 2 = .int b∧sl 3 = .int y∧sl F = .bool B
  refine run_stage (H:=[]) 7 (RR 15 B1) (fun K' hK'=>?_) ?_
  · cases e1:decide (0≤t)
    · simp only [xq,reduceIte,qE,qA,qL,qD,e1,undefA,zE]
      refine hK' _ ?_
      simp [RR,x_upd,x_look,hB1,e1]
    · simp only [xq,reduceIte,qE,qA,qL,qD,e1,undefA,zE]
      refine hK' _ ?_
      simp [RR,x_upd,x_look,hB1,e1]
  rintro sl ⟨s0,s1,s2,s3,sF⟩
  refine run_stage (H:=[]) 5 (RR 20 B2) (fun K' hK'=>?_) ?_
  · cases B1
    · simp only [xq,reduceIte,qE,qA,qL,qD,s0,s1,s2,s3,sF,undefA,zE]
      refine hK' _ ?_
      simp [RR,x_upd,s0,s1,s2,s3,hB2]
    · simp only [xq,reduceIte,qE,qA,qL,qD,s0,s1,s2,s3,sF,undefA,zE]
      refine hK' _ ?_
      simp [RR,x_upd,s0,s1,s2,s3,hB2]
  clear s0 s1 s2 s3 sF sl
  rintro sl ⟨s0,s1,s2,s3,sF⟩
  refine run_stage (H:=[]) 4 (RR 24 B3) (fun K' hK'=>?_) ?_
  · cases B2
    · simp only [xq,reduceIte,qE,qA,qL,qD,s0,s1,s2,s3,sF,undefA,zE]
      refine hK' _ ?_
      simp [RR,x_upd,s0,s1,s2,s3,hB3]
    · simp only [xq,reduceIte,qE,qA,qL,qD,s0,s1,s2,s3,sF,undefA,zE]
      refine hK' _ ?_
      simp [RR,x_upd,s0,s1,s2,s3,hB3]
  clear s0 s1 s2 s3 sF sl
  rintro sl ⟨s0,s1,s2,s3,sF⟩
  refine run_stage (H:=[]) 7 (RR 31 B4) (fun K' hK'=>?_) ?_
  · cases hb3:B3
    · rw [hb3] at sF hB4
      simp only [xq,reduceIte,qE,qA,qL,qD,s0,s1,s2,s3,sF,undefA,zE]
      refine hK' _ ?_
      simp [RR,x_upd,s0,s1,s2,s3,hB4]
    · have w:=(w3 (h2t (h3t hb3))).1
      rw [hb3] at sF hB4
      simp only [xq,reduceIte,qE,qA,qL,qD,s0,s1,s2,s3,sF,w,undefA,zE]
      refine hK' _ ?_
      simp [RR,x_upd,s0,s1,s2,s3,hB4]
  clear s0 s1 s2 s3 sF sl
  rintro sl ⟨s0,s1,s2,s3,sF⟩
  cases hb4:B4
  · rw [hb4] at sF hB
    simp only [xq,reduceIte,qE,qA,qL,qD,s0,s1,s2,s3,sF,undefA,zE]
    refine hK _ (W_ret (.tmp ?_ rfl))
    simp [x_upd,hB]
  · have w:=(w3 (h2t (h3t (h4t hb4)))).2
    rw [hb4] at sF hB
    simp only [xq,reduceIte,qE,qA,qL,qD,s0,s1,s2,s3,sF,w,undefA,zE]
    refine hK _ (W_ret (.tmp ?_ rfl))
    simp [x_upd,hB]
theorem cloneN_fn {f:FuncId} (H:FnIs P f N [.t 2] x_slices_Clone_675) (hN:1≤N):RowO P f .nil []:=by
  intro Δ h hb
  refine .of_W H (by simpa using hN) hb ?_
  unfold x_slices_Clone_675
  refine W_seq (W_reg ?_);simp only [xq,reduceIte,qE,qA,qL,qD]
  refine W_seq ?_
  refine W_seq (W_reg ?_);simp only [xq,reduceIte,qE,qA,qL,qD,x_eqnil,EqNil]
  refine W_cond (t:=true) (by simp [ev,x_upd]) (fun _=>?_) (fun h=>by cases h)
  refine W_seq (W_reg ?_);simp only [xq,reduceIte,qE,qA,qL,qD]
  refine W_co (Co.nil 2 eGl (by decide) (by simp [x_upd])) ?_
  refine W_ret ⟨.inr rfl,?_⟩
  simp only [readRs,readR,single,x_upd,reduceIte,qE,x_look,xq,reduceIte,qE,qA,qL,qD]
  rfl
def pAt (b j:Nat):Nat:=if j=0 then b else b+2 * j+1
def refR (b:Nat) (S:Nat→List Gl) (j:Nat):List A:=[.ref (pAt b j) (S j).length 0 (S j).length true]
def rowsBk (b:Nat) (S:Nat→List Gl) (i:Nat):HB:=.cells eRw ((List.range i).map (refR b S))
def scrT (b:Nat) (S:Nat→List Gl):Nat→Heap
  | 0=>[]
  | 1=>[rowB (S 0),.cells eRw [refR b S 0],rowsBk b S 1]
  | i+2=>(scrT b S (i+1)).set 2 (rowsBk b S (i+2))++[rowB (S (i+1)),.cells eRw [refR b S (i+1)]]
theorem scrT_len {b:Nat} {S:Nat→List Gl}:∀ i,(scrT b S (i+1)).length=2 * i+3
  | 0=>rfl
  | i+1=>by rw [scrT,zb,List.length_set,scrT_len i];simp;omega
theorem scrT_two {b:Nat} {S:Nat→List Gl}:∀ i,(scrT b S (i+1))[2]? = some (rowsBk b S (i+1))
  | 0=>rfl
  | i+1=>by
    rw [scrT,zF (by rw [List.length_set,scrT_len];omega),List.getElem?_set_self (by rw [scrT_len];omega)]
theorem scrT_row {b:Nat} {S:Nat→List Gl}:∀ i j,j≤i→(scrT b S (i+1))[pAt 0 j]? = some (rowB (S j))
  | 0,j,h=>by
    have:j=0:=by omega
    subst this;rfl
  | i+1,j,h=>by
    have hp:pAt 0 j≠2:=by unfold pAt;split<;>omega
    rcases Nat.lt_or_ge j (i+1) with h' | h'
    · have hl:pAt 0 j<(scrT b S (i+1)).length:=by rw [scrT_len];unfold pAt;split<;>omega
      rw [scrT,zF (by rw [List.length_set];exact hl),List.getElem?_set_ne (Ne.symm hp)]
      exact scrT_row i j (by omega)
    · have:j=i+1:=by omega
      subst this
      have hpe:pAt 0 (i+1)=2 * i+3:=by unfold pAt;rw [if_neg (by omega)];omega
      rw [scrT,zG (by rw [List.length_set,scrT_len,hpe];omega),List.length_set,scrT_len,hpe,Nat.sub_self];rfl
theorem pAt_inj {b i j:Nat} (h:pAt b i=pAt b j):i=j:=by
  unfold pAt at h
  split at h<;>split at h<;>omega
theorem pAt_add {b j:Nat}:pAt b j=b+pAt 0 j:=by
  unfold pAt;split<;>omega
theorem scrT_new {b:Nat} {S:Nat→List Gl}:∀ i,∀ B∈scrT b S i,NewB b B
  | 0,B,h=>by cases h
  | 1,B,h=>by
    have hr:∀ j,∀ x∈refR b S j,New1 b x:=fun j x hx=>by
      simp only [refR,List.mem_singleton] at hx
      exact .inr ⟨_,_,_,_,_,hx,by unfold pAt;split<;>omega⟩
    simp only [scrT,zp,zc,or_false] at h
    rcases h with rfl | rfl | rfl
    · exact new_row
    · intro r hr' x hx
      simp only [List.mem_singleton] at hr'
      subst hr';exact hr _ x hx
    · intro r hr' x hx
      obtain ⟨j,_,rfl⟩:=List.mem_map.1 hr'
      exact hr _ x hx
  | i+2,B,h=>by
    have hr:∀ j,∀ x∈refR b S j,New1 b x:=fun j x hx=>by
      simp only [refR,List.mem_singleton] at hx
      exact .inr ⟨_,_,_,_,_,hx,by unfold pAt;split<;>omega⟩
    rw [scrT] at h
    rcases List.mem_append.1 h with h | h
    · rcases List.mem_or_eq_of_mem_set h with h | rfl
      · exact scrT_new (i+1) B h
      · intro r hr' x hx
        obtain ⟨j,_,rfl⟩:=List.mem_map.1 hr'
        exact hr _ x hx
    · simp only [zp,zc,or_false] at h
      rcases h with rfl | rfl
      · exact new_row
      · intro r hr' x hx
        simp only [List.mem_singleton] at hr'
        subst hr';exact hr _ x hx
end Go.Proofs.YtigfbnglplbbpaaDoor.Nx
namespace Go.Proofs.YtigfbnglplbbpaaDoor.Nx
open Go
variable {P:Program} {N:Nat} {Γ:Tabs}
theorem possB_iff {n t b y:Int}:possB n t b y=true↔0≤t∧t<b∧b≤n∧y≠0∧y<b-t∧t-b<y:=by
  simp [possB];omega
theorem scrT_zero {b:Nat} {S:Nat→List Gl}:b+(scrT b S 0).length=pAt b 0:=by simp [scrT,pAt]
theorem scrT_pAt {b:Nat} {S:Nat→List Gl} (i:Nat):b+(scrT b S i).length=pAt b i:=by
  cases i with
  | zero=>exact scrT_zero
  | succ i=>rw [scrT_len];unfold pAt;rw [if_neg (by omega)];omega
set_option maxHeartbeats 2000000 in
theorem scrRows_fn {f fp fc:FuncId} {Δ:Ctx} (H:FnIs P f N [.t 8,.t 9] (x_scrolldiff_Rows fp fc)) (hN:4≤N) (Hp:∀ n t b y:Int,n≤1000000000000000000→FnP Δ.t P fp [.int n,.int t,.int b,.int y] (.bool (possB n t b y)))
    (Hc:∀ l:List Gl,RowO P fc (.d (.sl eGl (glRows l))) l) (Hn:RowO P fc .nil []) (l:List (List Gl)) (t b y:Int) (hp:possB l.length t b y=true) (hl:l.length≤1000) (h:Heap) (hb:Δ.b≤h.length) :
    FnD Δ P f [.d (.sl eRw (rwRows l)),.int t,.int b,.int y] h (.tup [.ref (h.length+2) l.length 0 l.length true,.int 0]) (h++scrT h.length (scrollR l t b y) l.length):=by
  obtain ⟨p1,p2,p3,p4,p5,p6⟩:=possB_iff.1 hp
  refine .of_W H (by simpa using hN) hb ?_
  have hP:=Hp l.length t b y (by omega)
  rw [hp] at hP
  unfold x_scrolldiff_Rows
  refine W_seq (W_reg ?_);simp only [xq,reduceIte,qE,qA,qL,qD]
  refine W_seq ?_
  refine W_seq (W_reg ?_);simp only [xq,reduceIte,qE,qA,qL,qD,rwRows_len]
  refine c_fn (hP) rfl ?_;simp only [xq,reduceIte,qE,qA,qL,qD]
  refine W_cond rfl (fun hc=>by cases hc) (fun _=>W_skip ?_)
  simp only [xq,reduceIte,qE,qA,qL,qD]
  refine W_seq (W_reg ?_);simp only [xq,reduceIte,qE,qA,qL,qD]
  refine W_seq ?_
  refine W_seq (W_reg ?_);simp only [xq,reduceIte,qE,qA,qL,qD,rwRows_len]
  refine W_block ?_
  obtain ⟨S,hS⟩:∃ S,S=scrollR l t b y:=⟨_,rfl⟩
  rw [← hS]
  obtain ⟨b0,hb0⟩:∃ b0,b0=h.length:=⟨_,rfl⟩
  let out:Nat→A:=fun i=>if i=0 then .nil else .ref (b0+2) i 0 i true
  let St0:Nat→St:=fun i=>⟨look [(0,.d (.sl eRw (rwRows l))),(1,.int t),(2,.int b),(3,.int y),(10,out i),(21,.d (.sl eRw (rwRows l))),(22,.int l.length),(23,.int i)],h++scrT b0 S i⟩
  refine W_co (s':=St0 0) (by
    simp only [St0,scrT,zP]
    exact Co.keep _ (by simp [x_upd,x_look,out])) ?_
  refine W_loop (fun m s=>∃ i,i≤l.length∧m=l.length-i∧s=St0 i) ⟨0,zI _,rfl,rfl⟩ ?_
  rintro m s ⟨i,hi,rfl,rfl⟩
  simp only [St0]
  refine W_seq (W_reg ?_);simp only [xq,reduceIte,qE,qA,qL,qD]
  refine W_seq (W_cond rfl (fun hc=>W_skip ?_) (fun hc=>W_exit ?_))
  · have hlt:i<l.length:=by simpa using hc
    have w1:IntKind.i64.wrap ((i:Int)+1)=((i+1:Nat):Int):=by rw [i64_of (by omega)];omega
    have w2:IntKind.i64.wrap ((i:Int)+y)=(i:Int)+y:=i64_of (by omega)
    have hgi:l.getD i []=l[i]:=by rw [zC,zB hlt];rfl
    -- the row is cloned and put behind the others
    have fin:∀ (sl:Nat→A) (x:A),sl 12=x→RowO P fc x (S i)→sl 0 = .d (.sl eRw (rwRows l))→sl 1 = .int t→sl 2 = .int b→sl 3 = .int y→sl 10=out i→sl 21 = .d (.sl eRw (rwRows l))→sl 22 = .int l.length→sl 23 = .int i →
        W Δ P N none h.length (.reg [
          { dst:=some 51,op:=.mov (.t 10) },
          { dst:=some 52,op:=.mov (.t 12) },
          { dst:=some 53,op:=.callr (.f fc) [(.t 52)] },
          { dst:=some 54,op:=.bslice ⟨1,24⟩ [.nil] 1 [(0,(.t 53))] },
          { dst:=some 55,op:=.append ⟨1,24⟩ (.t 51) (.t 54) },
          { dst:=some 10,op:=.mov (.t 55) }]) (fun e s'=>e = .normal∧∃ sl',s'=⟨sl',h++scrT b0 S (i+1)⟩∧sl' 0 = .d (.sl eRw (rwRows l))∧sl' 1 = .int t∧sl' 2 = .int b∧sl' 3 = .int y∧sl' 10=out (i+1)∧sl' 21 = .d (.sl eRw (rwRows l))∧sl' 22 = .int l.length∧sl' 23 = .int i) ⟨sl,h++scrT b0 S i⟩:=by
      intro sl x s12 hx s0 s1 s2 s3 s10 s21 s22 s23
      have hcall:=hx Δ (h++scrT b0 S i) (by simp;omega)
      have hlen:(h++scrT b0 S i).length=pAt b0 i:=by rw [zb,← hb0,scrT_pAt]
      rw [hlen] at hcall
      refine W_reg ?_
      simp only [xq,reduceIte,qE,qA,qL,qD,s12]
      refine cr_fn hcall ?_
      have gk:∀ (t:Heap) (k:Nat),(h++t)[b0+k]? = t[k]? := fun t k=>by rw [hb0];exact hp_gk
      have g0:∀ (B:HB) (t:Heap),(h++B::t)[b0]? = some B:=fun B t=>by rw [hb0];exact hp_g0
      cases i with
      | zero =>
        simp only [xq,reduceIte,qE,qA,qL,qD,s10,out,scrT,zP,g0,gk,zS,← hb0,pAt,if_neg (show ¬ ([[A.ref b0 (S 0).length 0 (S 0).length true]]=([]:List (List A))) by simp)]
        refine ⟨by simp only [room];omega,by simp only [maxLen];omega,?_⟩
        refine ⟨_,rfl,?_⟩
        simp [x_upd,s0,s1,s2,s3,s21,s22,s23]
      | succ j =>
        have hlen2:b0+(scrT b0 S (j+1)).length=pAt b0 (j+1):=scrT_pAt _
        have h3:3≤(scrT b0 S (j+1)).length:=by rw [scrT_len];omega
        have g2:∀ t,(h++(scrT b0 S (j+1)++t))[b0+2]? = some (rowsBk b0 S (j+1)):=fun t=>by
          rw [gk,zF (by omega)];exact scrT_two j
        have g3:∀ a g,(h++(scrT b0 S (j+1)++[a,g]))[pAt b0 (j+1)+1]? = some g:=fun a g=>by
          rw [← hlen2,Nat.add_assoc,gk,zG (by omega)];simp
        have g3':∀ a g,(h++(scrT b0 S (j+1)++[a,g]))[b0+((scrT b0 S (j+1)).length+1)]? = some g:=fun a g=>by
          rw [gk,zG (by omega)];simp
        have hrows:((List.range (j+1)).map (refR b0 S))++[[.ref (pAt b0 (j+1)) (S (j+1)).length 0 (S (j+1)).length true]]=(List.range (j+2)).map (refR b0 S):=by
          rw [List.range_succ (n:=j+1),List.map_append];rfl
        have hset:(h++(scrT b0 S (j+1)++[rowB (S (j+1)),.cells eRw [[.ref (pAt b0 (j+1)) (S (j+1)).length 0 (S (j+1)).length true]]])).set (b0+2) (.cells eRw ((List.range (j+2)).map (refR b0 S)))=h++scrT b0 S (j+1+1):=by
          rw [hb0,hp_sk,scrT,List.set_append_left _ _ (by rw [← hb0];omega),← hb0];rfl
        have hne:¬ (j+1=0):=by omega
        simp only [xq,reduceIte,qE,qA,qL,qD,s10,out,if_neg hne,zS,← hb0,hlen2,g2,g3,g3',rowsBk,List.length_map,List.length_range]
        refine ⟨by simp only [room];omega,by simp only [maxLen];omega,?_⟩
        rw [hrows,hset]
        refine ⟨_,rfl,?_⟩
        simp [x_upd,s0,s1,s2,s3,s21,s22,s23]
    simp only [xq,reduceIte,qE,qA,qL,qD]
    refine W_seq (W_block ?_)
    refine W_seq (W_reg ?_);simp only [xq,reduceIte,qE,qA,qL,qD,rwRows_get hlt,rwRows_len,zQ]
    repeat refine And.intro (by omega) ?_
    refine W_cut (fun s=>∃ sl x,s=⟨sl,h++scrT b0 S i⟩∧sl 12=x∧RowO P fc x (S i)∧sl 0 = .d (.sl eRw (rwRows l))∧sl 1 = .int t∧sl 2 = .int b∧sl 3 = .int y∧sl 10=out i∧sl 21 = .d (.sl eRw (rwRows l))∧sl 22 = .int l.length∧sl 23 = .int i) ?_ ?_
    · have hSi:S i=scrollR l t b y i:=by rw [hS]
      have stop:∀ (sl:Nat→A) (x:A),sl 12=x→RowO P fc x (S i)→sl 0 = .d (.sl eRw (rwRows l))→sl 1 = .int t→sl 2 = .int b→sl 3 = .int y→sl 10=out i→sl 21 = .d (.sl eRw (rwRows l))→sl 22 = .int l.length→sl 23 = .int i →
          ∃ s1,Co h.length ⟨sl,h++scrT b0 S i⟩ s1∧∃ sl x,s1=⟨sl,h++scrT b0 S i⟩∧sl 12=x∧RowO P fc x (S i)∧sl 0 = .d (.sl eRw (rwRows l))∧sl 1 = .int t∧sl 2 = .int b∧sl 3 = .int y∧sl 10=out i∧sl 21 = .d (.sl eRw (rwRows l))∧sl 22 = .int l.length∧sl 23 = .int i :=
        fun sl x h1 h2 h3 h4 h5 h6 h7 h8 h9 h10=>⟨_,Co.refl _,sl,x,rfl,h1,h2,h3,h4,h5,h6,h7,h8,h9,h10⟩
      by_cases hin:t≤(i:Int)∧(i:Int)<b
      · have d1:decide (t≤(i:Int))=true:=decide_eq_true hin.1
        have d2:decide ((i:Int)<b)=true:=decide_eq_true hin.2
        refine W_seq (W_reg ?_);simp only [xq,reduceIte,qE,qA,qL,qD,d1,d2]
        refine W_cond rfl (fun _=>?_) (fun hc=>by cases hc)
        refine W_seq (W_reg ?_);simp only [xq,reduceIte,qE,qA,qL,qD]
        refine W_seq (W_reg ?_);simp only [xq,reduceIte,qE,qA,qL,qD,w2]
        by_cases hin2:t≤(i:Int)+y∧(i:Int)+y<b
        · have d3:decide (t≤(i:Int)+y)=true:=decide_eq_true hin2.1
          have d4:decide ((i:Int)+y<b)=true:=decide_eq_true hin2.2
          obtain ⟨q,hq⟩:∃ q:Nat,(i:Int)+y=q:=⟨((i:Int)+y).toNat,by omega⟩
          have hql:q<l.length:=by omega
          have hSq:S i=l[q]:=by
            rw [hSi,scrollR,if_pos hin,if_pos hin2,hq,rowAt,zQ,zC,zB hql];rfl
          refine W_seq (W_reg ?_);simp only [xq,reduceIte,qE,qA,qL,qD,d3,d4]
          refine W_cond rfl (fun _=>?_) (fun hc=>by cases hc)
          refine W_reg ?_;simp only [xq,reduceIte,qE,qA,qL,qD,hq,rwRows_get hql,rwRows_len,zQ]
          repeat refine And.intro (by omega) ?_
          refine stop _ (.d (.sl eGl (glRows l[q]))) ?_ (by rw [hSq];exact Hc _) ?_ ?_ ?_ ?_ ?_ ?_ ?_ ?_<;>simp [x_upd,x_look]
        · have hSq:S i=[]:=by rw [hSi,scrollR,if_pos hin,if_neg hin2]
          cases d3:decide (t≤(i:Int)+y)
          · refine W_seq (W_reg ?_);simp only [xq,reduceIte,qE,qA,qL,qD,d3,undefA,zE]
            refine W_cond rfl (fun hc=>by cases hc) (fun _=>W_skip ?_)
            simp only [xq,reduceIte,qE,qA,qL,qD]
            refine stop _ .nil ?_ (by rw [hSq];exact Hn) ?_ ?_ ?_ ?_ ?_ ?_ ?_ ?_<;>simp [x_upd,x_look]
          · have d4:decide ((i:Int)+y<b)=false:=decide_eq_false (by have:=of_decide_eq_true d3;omega)
            refine W_seq (W_reg ?_);simp only [xq,reduceIte,qE,qA,qL,qD,d3,d4,undefA,zE]
            refine W_cond rfl (fun hc=>by cases hc) (fun _=>W_skip ?_)
            simp only [xq,reduceIte,qE,qA,qL,qD]
            refine stop _ .nil ?_ (by rw [hSq];exact Hn) ?_ ?_ ?_ ?_ ?_ ?_ ?_ ?_<;>simp [x_upd,x_look]
      · have hSq:S i=l[i]:=by rw [hSi,scrollR,if_neg hin,hgi]
        cases d1:decide (t≤(i:Int))
        · refine W_seq (W_reg ?_);simp only [xq,reduceIte,qE,qA,qL,qD,d1,undefA,zE]
          refine W_cond rfl (fun hc=>by cases hc) (fun _=>W_skip ?_)
          simp only [xq,reduceIte,qE,qA,qL,qD]
          refine stop _ (.d (.sl eGl (glRows l[i]))) ?_ (by rw [hSq];exact Hc _) ?_ ?_ ?_ ?_ ?_ ?_ ?_ ?_<;>simp [x_upd,x_look]
        · have d2:decide ((i:Int)<b)=false:=decide_eq_false (by have:=of_decide_eq_true d1;omega)
          refine W_seq (W_reg ?_);simp only [xq,reduceIte,qE,qA,qL,qD,d1,d2,undefA,zE]
          refine W_cond rfl (fun hc=>by cases hc) (fun _=>W_skip ?_)
          simp only [xq,reduceIte,qE,qA,qL,qD]
          refine stop _ (.d (.sl eGl (glRows l[i]))) ?_ (by rw [hSq];exact Hc _) ?_ ?_ ?_ ?_ ?_ ?_ ?_ ?_<;>simp [x_upd,x_look]
    rintro _ ⟨sl,x,rfl,h12,hx,h0,h1,h2,h3,h10,h21,h22,h23⟩
    refine W_mono ?_ (fin sl x h12 hx h0 h1 h2 h3 h10 h21 h22 h23)
    rintro e1 s1 ⟨rfl,sl',rfl,k0,k1,k2,k3,k10,k21,k22,k23⟩
    simp only [xq,reduceIte,qE,qA,qL,qD]
    refine W_reg ?_;simp only [xq,reduceIte,qE,qA,qL,qD,k23,w1]
    refine ⟨l.length-(i+1),St0 (i+1),by omega,Co.keep _ ?_,i+1,hlt,rfl,rfl⟩
    simp [x_upd,x_look,k0,k1,k2,k3,k10,k21,k22,k23]
  · have hle:i=l.length:=by simp at hc;omega
    subst hle
    simp only [xq,reduceIte,qE,qA,qL,qD]
    refine W_seq (W_reg ?_);simp only [xq,reduceIte,qE,qA,qL,qD]
    refine W_ret ⟨.inr rfl,?_⟩
    have hne:¬ l.length=0:=by omega
    simp only [readRs,readR,single,x_upd,reduceIte,qE,x_look,argS,xq,reduceIte,qE,qA,qL,qD,loadsTo,out,if_neg hne,hb0]
end Go.Proofs.YtigfbnglplbbpaaDoor.Nx
namespace Go.Proofs.YtigfbnglplbbpaaDoor.Nx
open Go
variable {P:Program} {N:Nat} {Γ:Tabs}
theorem rowAt_frz {h:Heap} {x:A} {r:List Gl} (hr:RowAt h x r):FrzD 0 h x (.sl eGl (glRows r)):=by
  rcases hr with ⟨rfl,rfl⟩ | ⟨q,rfl,hq⟩
  · exact .nil _
  · have:=frzD_rows (k:=0) (off:=0) (len:=r.length) (full:=true) (e:=eGl) (rows:=glRows r) (zI q) hq (by rw [glRows_len];omega)
    rw [glRows_len,List.drop_zero,List.take_of_length_le (by rw [glRows_len];exact Nat.le_refl _)] at this
    exact this
theorem EdIs.frz {h:Heap} {id:Nat} {v:Vw} {k:Nat} {R:List (List A)} (e:EdIs h id v k R):FrzD 0 h (.ref k R.length 0 v.rows.length true) (.sl eRw (rwRows v.rows)):=by
  have get:∀ {i:Nat} {r:List D},(rwRows v.rows)[i]? = some r→∃ (hi:i<v.rows.length) (x:A),r=[.sl eGl (glRows v.rows[i])]∧R.getD (0+i) []=[x]∧RowAt h x v.rows[i]:=by
    intro i r hi
    have hlt:i<v.rows.length:=by have:=(zA.1 hi).1;rwa [rwRows_len] at this
    obtain ⟨x,h1,h2⟩:=e.row i _ (zB hlt)
    refine ⟨hlt,x,?_,?_,h2⟩
    · rw [rwRows,zK,zB hlt] at hi
      simpa using hi.symm
    · rw [Nat.zero_add,zC,h1];rfl
  refine .ref (zI _) e.hk (rwRows_len) (fun i r hi=>?_) (fun i r j d hi hj=>?_)
  · obtain ⟨_,x,rfl,h2,_⟩:=get hi
    rw [h2];rfl
  · obtain ⟨_,x,rfl,h2,h3⟩:=get hi
    rw [h2]
    match j,hj with
    | 0,hj=>simp at hj;subst hj;exact rowAt_frz h3
    | j+1,hj=>simp at hj
set_option maxHeartbeats 1000000 in
theorem scroll_fn {f fr:FuncId} {Δ:Ctx} (H:FnIs P f N [] (x_change_editor_scroll fr)) (hN:2≤N)
    (Hr:∀ (Δ':Ctx),Δ'.t=Δ.t→∀ (l:List (List Gl)) (t b y:Int),possB l.length t b y=true→l.length≤1000→∀ h:Heap,Δ'.b≤h.length→FnD Δ' P fr [.d (.sl eRw (rwRows l)),.int t,.int b,.int y] h (.tup [.ref (h.length+2) l.length 0 l.length true,.int 0]) (h++scrT h.length (scrollR l t b y) l.length)) :
    EdStep Δ P f (fun v c=>c.kind=2∧StepPre v c) stepV:=by
  rintro v c ⟨hk,hpre⟩ h id k R hb e
  obtain ⟨q1,q2,q3,q4⟩:=chgC_zero hpre.ok
  have hlen:=hpre.ed.len
  have hs:=szOk_iff.1 hpre.ed.sz
  have hposs:possB v.rows.length c.row c.upto c.count=true:=by
    simp only [rangeG,hk,if_neg (show ¬ (2:Int)=1 by decide),if_true] at q3
    rw [possB,hlen];exact q3
  have hn1:1≤v.rows.length:=by omega
  obtain ⟨S,hS⟩:∃ S,S=scrollR v.rows c.row c.upto c.count:=⟨_,rfl⟩
  have hstep:stepV v c={ v with rows:=(List.range v.rows.length).map S }:=by
    simp only [stepV,hk,if_neg (show ¬ (2:Int)=1 by decide),if_true,scrollL,hS]
  have idlt:=e.id_lt
  have gid:∀ t:Heap,(h++t)[id]? = some (.cells eVw [edRow v k R.length]):=fun t=>hp_gl e.hid
  have sl:∀ X (t:Heap),(h++t).set id X=h.set id X++t:=fun X t=>hp_sl idlt
  let m:=h.length+1
  have hcall:FnD Δ P fr [.ref k R.length 0 v.rows.length true,.int c.row,.int c.upto,.int c.count] (h++[cgB c]) (.tup [.ref (m+2) v.rows.length 0 v.rows.length true,.int 0]) ((h++[cgB c])++scrT m S v.rows.length):=by
    have h0:=Hr Δ.t.ctx rfl v.rows c.row c.upto c.count hposs (by omega) (List.replicate (h++[cgB c]).length .res) (zI _)
    rw [List.length_replicate] at h0
    have hl1:(h++[cgB c]).length=m:=by simp [m]
    rw [← hS] at h0
    have:=FnD.lend (h:=h++[cgB c]) (args:=[.ref k R.length 0 v.rows.length true,.int c.row,.int c.upto,.int c.count]) h0 (.inr ⟨_,rfl,fun y hy=>?_⟩) (scrT_new _) (.cons (.d (e.app [cgB c]).frz) (.cons (.same rfl) (.cons (.same rfl) (.cons (.same rfl) .nil)))) rfl
    · rw [hl1] at this;exact this
    · simp only [zp,zc,or_false] at hy
      rcases hy with rfl | rfl
      · exact .inr ⟨_,_,_,_,_,rfl,by omega⟩
      · exact .inl flat_sc
  have hrl:(stepV v c).rows.length=v.rows.length:=by rw [hstep];simp
  refine ⟨h.set id (.cells eVw [edRow (stepV v c) (m+2) v.rows.length])++cgB c::scrT m S v.rows.length,m+2,(List.range v.rows.length).map (refR m S),?_,by simp,?_,Keep6.set.trans .app⟩
  · refine .of_W H (by simpa using hN) hb ?_
    unfold x_change_editor_scroll
    simp only [cgA,Cg.ds,zU,zV]
    refine W_seq (W_reg ?_);simp only [xq,reduceIte,qE,qA,qL,qD,hp_g0,hp_s0]
    refine W_seq (W_drw (by simp) ?_)
    simp only [xq,reduceIte,qE,qA,qL,qD,hp_g0,gid,edRow,zP]
    refine cr_fn hcall ?_
    simp only [xq,reduceIte,qE,qA,qL,qD,zS]
    refine W_seq (W_reg ?_);simp only [xq,reduceIte,qE,qA,qL,qD]
    refine W_cond rfl (fun _=>?_) (fun hc=>by cases hc)
    refine W_reg ?_;simp only [xq,reduceIte,qE,qA,qL,qD,gid,sl,edRow]
    refine ⟨.inl rfl,?_⟩
    have a1:(stepV v c).width=v.width:=by rw [hstep]
    have a2:(stepV v c).height=v.height:=by rw [hstep]
    have a3:(stepV v c).row=v.row:=by rw [hstep]
    have a4:(stepV v c).col=v.col:=by rw [hstep]
    have a5:(stepV v c).vis=v.vis:=by rw [hstep]
    simp only [readRs,single,true_and,hrl,a1,a2,a3,a4,a5]
    rfl
  · obtain ⟨n',hn'⟩:∃ n',v.rows.length=n'+1:=⟨v.rows.length-1,by omega⟩
    have tail:∀ (i:Nat),(h.set id (.cells eVw [edRow (stepV v c) (m+2) v.rows.length])++cgB c::scrT m S v.rows.length)[m+i]? = (scrT m S v.rows.length)[i]? := fun i=>by
      have:m+i=h.length+(i+1):=by simp only [m];omega
      rw [this,hp_gsk];rfl
    refine ⟨?_,?_,by simp [hrl],fun i r hi=>?_,fun i j q n n2 hi hj h1 h2=>?_⟩
    · rw [hp_gs idlt];simp
    · rw [tail,hn',scrT_two];rfl
    · have hlt:=(zA.1 hi).1
      rw [hrl] at hlt
      rw [hstep] at hi
      simp only [zK,zj hlt,Option.map_some,zH] at hi
      subst hi
      refine ⟨_,by rw [zK,zj hlt];rfl,.inr ⟨pAt m i,rfl,?_⟩⟩
      rw [pAt_add,tail,hn',scrT_row n' i (by omega)]
    · rw [hrl] at hi hj
      rw [zK,zj hi] at h1
      rw [zK,zj hj] at h2
      simp only [refR,Option.map_some,zH,List.cons.injEq,A.ref.injEq,and_true] at h1 h2
      exact pAt_inj (h1.1.trans h2.1.symm)
end Go.Proofs.YtigfbnglplbbpaaDoor.Nx
namespace Go.Proofs.YtigfbnglplbbpaaDoor.Nx
open Go
variable {P:Program} {N:Nat} {Γ:Tabs}
set_option maxHeartbeats 1000000 in
theorem apply19_fn {f f1 f2 f3 f4:FuncId} {Δ:Ctx} (H:FnIs P f N [] (x_change_editor_apply f1 f2 f3 f4)) (hN:2≤N)
    (H1:EdStep Δ P f1 (fun v c=>c.kind=1∧StepPre v c) stepV) (H2:EdStep Δ P f2 (fun v c=>c.kind=2∧StepPre v c) stepV) (H3:EdStep Δ P f3 (fun v c=>c.kind=3∧StepPre v c) stepV) (H4:EdStep Δ P f4 (fun _ c=>c.kind=4) stepV) :
    EdStep Δ P f StepPre stepV:=by
  intro v c hpre h id k R hb e
  obtain ⟨q1,_⟩:=chgC_zero hpre.ok
  let tb:HB:=.cells ⟨4,32⟩ [[.fn f1 [],.fn f2 [],.fn f3 [],.fn f4 []]]
  have walk:∀ (g:FuncId) (h':Heap),((c.kind=1∧g=f1)∨(c.kind=2∧g=f2)∨(c.kind=3∧g=f3)∨(c.kind=4∧g=f4))→FnD Δ P g [.ptr id 1 0 0,cgA c] (h++[cgB c,tb]) (.tup []) h'→FnD Δ P f [.ptr id 1 0 0,cgA c] h (.tup []) h':=by
    intro g h' hg hF
    simp only [cgA,cgB,tb,Cg.ds,zU,zV] at hF ⊢
    refine .of_W H (by simpa using hN) hb ?_
    unfold x_change_editor_apply
    refine W_seq (W_reg ?_);simp only [xq,reduceIte,qE,qA,qL,qD,hp_g0,hp_s0]
    refine W_seq (W_reg ?_);simp only [xq,reduceIte,qE,qA,qL,qD,hp_g0,hp_g1,hp_gk,hp_sk,zS]
    refine W_drw (by simp) ?_
    rcases hg with ⟨hk,rfl⟩ | ⟨hk,rfl⟩ | ⟨hk,rfl⟩ | ⟨hk,rfl⟩
    all_goals
      rw [hk] at hF
      simp only [xq,reduceIte,qE,qA,qL,qD,hp_g0,hp_gk,hk,zP,(by decide:IntKind.i64.wrap ((1:Int)-1)=0),(by decide:IntKind.i64.wrap ((2:Int)-1)=1),(by decide:IntKind.i64.wrap ((3:Int)-1)=2),(by decide:IntKind.i64.wrap ((4:Int)-1)=3),(by decide:Int.toNat 0=0),(by decide:Int.toNat 1=1),(by decide:Int.toNat 2=2),(by decide:Int.toNat 3=3),Nat.zero_mul,Nat.one_mul,Nat.mul_one]
      refine ⟨by decide,by decide,ce_fn hF ?_⟩
      simp only [xq,reduceIte,qE,qA,qL,qD]
      exact ⟨.inl rfl,by simp [readRs,single]⟩
  have hb2:Δ.b≤(h++[cgB c,tb]).length:=by simp;omega
  have hk:c.kind=1∨c.kind=2∨c.kind=3∨c.kind=4:=by omega
  rcases hk with hk | hk | hk | hk
  · obtain ⟨h',k',R',hF,hl,e',hk6⟩:=H1 ⟨hk,hpre⟩ hb2 (e.app _)
    exact ⟨h',k',R',walk f1 h' (.inl ⟨hk,rfl⟩) hF,by simp at hl;omega,e',(Keep6.app (t:=[cgB c,tb])).trans hk6⟩
  · obtain ⟨h',k',R',hF,hl,e',hk6⟩:=H2 ⟨hk,hpre⟩ hb2 (e.app _)
    exact ⟨h',k',R',walk f2 h' (.inr (.inl ⟨hk,rfl⟩)) hF,by simp at hl;omega,e',(Keep6.app (t:=[cgB c,tb])).trans hk6⟩
  · obtain ⟨h',k',R',hF,hl,e',hk6⟩:=H3 ⟨hk,hpre⟩ hb2 (e.app _)
    exact ⟨h',k',R',walk f3 h' (.inr (.inr (.inl ⟨hk,rfl⟩))) hF,by simp at hl;omega,e',(Keep6.app (t:=[cgB c,tb])).trans hk6⟩
  · obtain ⟨h',k',R',hF,hl,e',hk6⟩:=H4 (v:=v) hk hb2 (e.app _)
    exact ⟨h',k',R',walk f4 h' (.inr (.inr (.inr ⟨hk,rfl⟩))) hF,by simp at hl;omega,e',(Keep6.app (t:=[cgB c,tb])).trans hk6⟩
theorem cloneRows_fn {f:FuncId} {Δ:Ctx} (H:FnIs P f N [.t 2] x_slices_Clone_164) (hN:1≤N) (l:List (List Gl)) (hl:l≠[]) (h:Heap) (hb:Δ.b≤h.length) :
    FnD Δ P f [.d (.sl eRw (rwRows l))] h (.ref h.length l.length 0 l.length true) (h++[.cells eRw ((rwRows l).map fun r=>r.map .d)]):=by
  refine .of_W H (by simpa using hN) hb (W_sl 0 rfl fun ⟨hm,hroom,_⟩=>?_)
  rw [rwRows_len] at hm hroom
  unfold x_slices_Clone_164
  refine W_nil 0 rfl (fun h0=>?_) ?_
  · exact absurd (List.map_eq_nil_iff.1 h0) hl
  · refine W_seq (W_reg ?_);simp only [xq,reduceIte,qE,qA,qL,qD]
    refine W_seq ?_
    refine W_seq (W_reg ?_);simp only [xq,reduceIte,qE,qA,qL,qD,x_eqnil,EqNil]
    refine W_cond (t:=false) (by simp [ev,x_upd]) (fun h=>by cases h) (fun _=>W_skip ?_)
    simp only [xq,reduceIte,qE,qA,qL,qD]
    refine W_seq (W_reg ?_);simp only [xq,reduceIte,qE,qA,qL,qD,hp_g0,hp_s0,rwRows_len]
    refine ⟨hroom,hm,W_ret ⟨.inr rfl,?_⟩⟩
    simp only [readRs,readR,single,x_upd,reduceIte,qE,x_look,xq,reduceIte,qE,qA,qL,qD]
def opR (b:Nat) (l:List (List Gl)) (i j:Nat):List A:=if j<i then [.ref (b+j) (l.getD j []).length 0 (l.getD j []).length true] else [.d (.sl eGl (glRows (l.getD j [])))]
def opB (b:Nat) (l:List (List Gl)) (i:Nat):List (List A):=(List.range l.length).map (opR b l i)
theorem opB_len {b i:Nat} {l:List (List Gl)}:(opB b l i).length=l.length:=by simp [opB]
theorem opB_zero {b:Nat} {l:List (List Gl)}:opB b l 0=(rwRows l).map fun r=>r.map .d:=by
  apply List.ext_getElem?
  intro j
  simp only [opB,rwRows,zK]
  by_cases hj:j<l.length
  · rw [zj hj,zB hj]
    simp [opR,zC,zB hj]
  · rw [zk (by simpa using hj),zk (by omega)];rfl
theorem opB_get {b i:Nat} {l:List (List Gl)} (hi:i<l.length):(opB b l i)[i]? = some [.d (.sl eGl (glRows l[i]))]:=by
  rw [opB,zK,zj hi,Option.map_some,opR,if_neg (Nat.lt_irrefl i),zC,zB hi];rfl
theorem opB_set {b i:Nat} {l:List (List Gl)} (hi:i<l.length):(opB b l i).set i [.ref (b+i) l[i].length 0 l[i].length true]=opB b l (i+1):=by
  apply List.ext_getElem?
  intro j
  rw [List.getElem?_set]
  by_cases hij:i=j
  · subst hij
    rw [if_pos rfl,if_pos (by rw [opB_len];exact hi),opB,zK,zj hi,Option.map_some,opR,if_pos (Nat.lt_succ_self i),zC,zB hi];rfl
  · rw [if_neg hij]
    simp only [opB,zK]
    by_cases hj:j<l.length
    · rw [zj hj]
      simp only [Option.map_some,opR]
      by_cases h1:j<i
      · rw [if_pos h1,if_pos (by omega)]
      · rw [if_neg h1,if_neg (by omega)]
    · rw [zk (by simpa using hj)];rfl
set_option maxHeartbeats 1000000 in
theorem open19T_fn {f fr fc:FuncId} {Δ:Ctx} (H:FnIs P f N [.t 2] (x_change_open fr fc)) (hN:1≤N) (Hr:∀ l:List (List Gl),l≠[]→∀ h:Heap,Δ.b≤h.length→FnD Δ P fr [.d (.sl eRw (rwRows l))] h (.ref h.length l.length 0 l.length true) (h++[.cells eRw ((rwRows l).map fun r=>r.map .d)]))
    (Hc:∀ l:List Gl,RowO P fc (.d (.sl eGl (glRows l))) l) (v:Vw) (hv:v.rows≠[]) (hvl:v.rows.length≤1000) (h:Heap) (hb:Δ.b≤h.length) :
    ∃ t id k R,FnD Δ P f [vwA v] h (.ptr id 1 0 0) (h++t)∧EdIs (h++t) id v k R∧h.length≤id∧h.length≤(h++t).length∧Keep6 h (h++t) id:=by
  let n:=v.rows.length
  let b:=h.length+2
  let vb:HB:=.cells eVw [edRow v (h.length+1) n]
  let Hp:Nat→Heap:=fun i=>h++vb :: .cells eRw (opB b v.rows i)::(v.rows.take i).map rowB
  let Hf:Heap:=h++vb :: .cells eRw (opB b v.rows n)::(v.rows.map rowB++[vb])
  have hHfl:Hf.length=b+n+1:=by simp [Hf,b,n];omega
  refine ⟨vb :: .cells eRw (opB b v.rows n)::(v.rows.map rowB++[vb]),b+n,h.length+1,opB b v.rows n,?_,?_,by omega,by simp,.app⟩
  · refine .of_W H (by simpa using hN) hb ?_
    unfold x_change_open
    simp only [vwA,Vw.ds,zU,zV]
    refine W_seq (W_reg ?_);simp only [xq,reduceIte,qE,qA,qL,qD,hp_g0,hp_s0]
    refine W_seq (W_reg ?_);simp only [xq,reduceIte,qE,qA,qL,qD,hp_g0,hp_s0]
    refine cr_fn (Hr v.rows hv _ (by simp;omega)) ?_
    simp only [xq,reduceIte,qE,qA,qL,qD,hp_g0,hp_s0,zS]
    refine W_seq ?_
    refine W_seq (W_reg ?_);simp only [xq,reduceIte,qE,qA,qL,qD,hp_g0,hp_g1,rwRows_len]
    refine W_block ?_
    let S:Nat→St:=fun i=>⟨look [(1,.ptr h.length 1 0 0),(10,.ref (h.length+1) n 0 n true),(11,.int n),(12,.int i)],Hp i⟩
    refine W_co (s':=S 0) ?_ ?_
    · simp only [S,Hp,opB_zero,List.take_zero,zV]
      exact Co.keep _ (by simp [x_upd,x_look,n])
    refine W_loop (fun m s=>∃ i,i≤n∧m=n-i∧s=S i) ⟨0,zI _,rfl,rfl⟩ ?_
    rintro m s ⟨i,hi,rfl,rfl⟩
    simp only [S,Hp]
    refine W_seq (W_reg ?_);simp only [xq,reduceIte,qE,qA,qL,qD]
    refine W_seq (W_cond rfl (fun hc=>W_skip ?_) (fun hc=>W_exit ?_))
    · have hlt:i<v.rows.length:=by simp at hc;omega
      have w1:IntKind.i64.wrap ((i:Int)+1)=((i+1:Nat):Int):=by rw [i64_of (by omega)];omega
      have hlen:(h++vb :: .cells eRw (opB b v.rows i)::(v.rows.take i).map rowB).length=b+i:=by simp [b];omega
      have hcall:=Hc v.rows[i] Δ (h++vb :: .cells eRw (opB b v.rows i)::(v.rows.take i).map rowB) (by omega)
      rw [hlen] at hcall
      have hset:h++vb :: .cells eRw (opB b v.rows (i+1))::((v.rows.take i).map rowB++[rowB v.rows[i]])=Hp (i+1):=by
        simp only [Hp]
        rw [List.take_add_one,zB hlt,Option.toList_some,List.map_append];rfl
      simp only [xq,reduceIte,qE,qA,qL,qD]
      refine W_seq (W_block ?_)
      refine W_seq (W_reg ?_);simp only [xq,reduceIte,qE,qA,qL,qD,hp_g0,hp_g1,opB_len,opB_get hlt,zQ]
      repeat refine And.intro (by omega) ?_
      refine W_drw (by simp) ?_
      simp only [xq,reduceIte,qE,qA,qL,qD,vb,edRow,hp_g0,hp_g1,zP]
      refine cr_fn hcall ?_
      simp only [xq,reduceIte,qE,qA,qL,qD,vb,edRow,hp_g0,hp_g1,hp_s1,opB_len,opB_get hlt,opB_set hlt,zQ,zS]
      repeat refine And.intro (by omega) ?_
      refine W_reg ?_;simp only [xq,reduceIte,qE,qA,qL,qD,w1]
      refine ⟨n-(i+1),S (i+1),by omega,?_,i+1,hlt,rfl,rfl⟩
      simp only [S]
      rw [← hset]
      exact Co.keep _ (by simp [x_upd,x_look])
    · have hie:i=v.rows.length:=by
        have h1:¬ ((i:Int)<(n:Int)):=of_decide_eq_false hc
        have h2:n=v.rows.length:=rfl
        omega
      have hlen:(h++vb :: .cells eRw (opB b v.rows i)::(v.rows.take i).map rowB).length=b+i:=by simp [b];omega
      simp only [xq,reduceIte,qE,qA,qL,qD]
      subst hie
      simp only [vb,edRow] at hlen
      refine W_seq (W_reg ?_);simp only [xq,reduceIte,qE,qA,qL,qD,vb,edRow,hp_g0,hlen]
      refine W_ret ⟨.inr rfl,?_⟩
      simp only [readRs,readR,single,x_upd,reduceIte,qE,x_look,argS,xq,reduceIte,qE,qA,qL,qD,loadsTo]
      simp only [Hf,vb,edRow,List.take_length,zS,List.cons_append,n]
      exact ⟨trivial,trivial⟩
  · have tl:∀ j,Hf[b+j]? = (v.rows.map rowB++[vb])[j]? := fun j=>by
      have:b+j=h.length+(j+2):=by simp only [b];omega
      rw [this]
      simp only [Hf]
      rw [hp_gk];rfl
    refine ⟨?_,?_,by rw [opB_len];exact Nat.le_refl _,fun i r hi=>?_,fun i j q m m2 hi hj h1 h2=>?_⟩
    · refine (tl n).trans ?_
      rw [zG (by simp [n]),opB_len];simp [n,vb]
    · rw [hp_g1]
    · have hlt:=(zA.1 hi).1
      have hg:v.rows.getD i []=r:=by rw [zC,hi];rfl
      refine ⟨.ref (b+i) r.length 0 r.length true,?_,.inr ⟨b+i,rfl,?_⟩⟩
      · rw [opB,zK,zj hlt,Option.map_some,opR,if_pos hlt,hg]
      · refine (tl i).trans ?_
        rw [zF (by simpa using hlt),zK,hi];rfl
    · rw [opB,zK,zj hi,Option.map_some,opR,if_pos hi] at h1
      rw [opB,zK,zj hj,Option.map_some,opR,if_pos hj] at h2
      simp only [zH,List.cons.injEq,A.ref.injEq,and_true] at h1 h2
      omega
theorem open19_fn {f fr fc:FuncId} {Δ:Ctx} (H:FnIs P f N [.t 2] (x_change_open fr fc)) (hN:1≤N) (Hr:∀ l:List (List Gl),l≠[]→∀ h:Heap,Δ.b≤h.length→FnD Δ P fr [.d (.sl eRw (rwRows l))] h (.ref h.length l.length 0 l.length true) (h++[.cells eRw ((rwRows l).map fun r=>r.map .d)]))
    (Hc:∀ l:List Gl,RowO P fc (.d (.sl eGl (glRows l))) l) (v:Vw) (hv:v.rows≠[]) (hvl:v.rows.length≤1000) (h:Heap) (hb:Δ.b≤h.length) :
    ∃ h' id k R,FnD Δ P f [vwA v] h (.ptr id 1 0 0) h'∧EdIs h' id v k R∧h.length≤id∧h.length≤h'.length∧Keep6 h h' id:=by
  obtain ⟨t,id,k,R,h1,h2,h3,h4,h5⟩:=open19T_fn H hN Hr Hc v hv hvl h hb
  exact ⟨h++t,id,k,R,h1,h2,h3,h4,h5⟩
end Go.Proofs.YtigfbnglplbbpaaDoor.Nx

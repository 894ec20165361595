import Derived.Test.YtigfbnglplbbpaaDoorNxI20
import Derived.Test.YtigfbnglplbbpaaDoorNxDL
set_option linter.unusedSimpArgs false
set_option linter.unusedVariables false
set_option linter.unnecessarySimpa false
open List renaming getElem?_eq_getElem → zB, length_append → zb
open Bool renaming true_eq_false → zE
open Nat renaming zero_le → zI
open Int renaming toNat_natCast → zQ
open Nat renaming reduceEqDiff → qE, reduceAdd → qA, reduceLT → qL, reduceLeDiff → qD
namespace Go.Proofs.YtigfbnglplbbpaaDoor.Nx
open Go
variable {P:Program} {N:Nat} {Γ:Tabs}
def inI (l:List Int):List (List D):=l.map fun n=>[.sc (.int .i64 n)]
theorem inI_len {l:List Int}:(inI l).length=l.length:=by simp [inI]
theorem inI_get {l:List Int} {i:Nat} (hi:i<l.length):((inI l).map fun r=>r.map A.d)[i]? = some [.int l[i]]:=by
  simp only [inI,List.getElem?_map,zB hi,Option.map_some];rfl
abbrev inIB (l:List Int):HB:=.cells eInt ((inI l).map fun r=>r.map A.d)
def InsJ (h:Heap) (l:List Int) (x:A):Prop:=∃ q,x = .ref q l.length 0 l.length true∧h[q]? = some (inIB l)
theorem InsJ.frz {h:Heap} {l:List Int} {x:A} (o:InsJ h l x):FrzA 0 h x (.d (.sl eInt (inI l))):=by
  obtain ⟨q,rfl,hq⟩:=o
  have:=frz_all (id:=q) (full:=true) (e:=eInt) hq
  rw [inI_len] at this
  exact this
theorem InsJ.app {h:Heap} {l:List Int} {x:A} (o:InsJ h l x) (t:Heap):InsJ (h++t) l x:=by
  obtain ⟨q,rfl,hq⟩:=o
  exact ⟨q,rfl,hp_gl hq⟩
theorem inI_nat (l:List Nat):inI (l.map fun (i:Nat)=>(i:Int))=inRows l:=by simp [inI,inRows]
def locT (rows:List Int) (c:Cg):Bool:=decide (c.kind=3)&&(decide (rows=[]) || !decide (rows.getLast? = some c.row))
theorem locB_cons {rows:List Int} {c:Cg} {l:List Cg} (hk:¬ c.kind=2):locB rows (c::l)=if locT rows c then locB (rows++[c.row]) l else locB rows l:=by
  rw [locB,if_neg hk]
  unfold locT
  by_cases h1:c.kind=3
  · by_cases h2:rows=[]
    · rw [if_pos ⟨h1,.inl h2⟩,if_pos (by simp [h1,h2])]
    · by_cases h3:rows.getLast? = some c.row
      · rw [if_neg (by rintro ⟨_,h | h⟩;exact h2 h;exact h h3),if_neg (by simp [h2,h3])]
      · rw [if_pos ⟨h1,.inr h3⟩,if_pos (by simp [h1,h3])]
  · rw [if_neg (by rintro ⟨h,_⟩;exact h1 h),if_neg (by simp [h1])]
set_option maxHeartbeats 4000000 in
theorem localLaw20_fn {f fs fa fd fr fi:FuncId} (H:FnIs P f N [.t 4] (x_law20_ViewdiffLocal fs fa fd fr fi)) (hN:2≤N) (Hs:SmallOk Γ P fs) (Ha:FnP Γ P fa [] (.bool true)) (Hd:DiffOk Γ P fd) (Hr:Rows20Ok Γ P fr) (Hi:IntsOk Γ P fi) (a b:Vw) :
    FnP Γ P f [vwA a,vwA b] (.bool true):=by
  refine .of_W H (by simpa using hN) ?_
  have hs:=Hs a b
  unfold x_law20_ViewdiffLocal
  simp only [vwA,Vw.ds,List.map_cons,List.map_nil] at hs ⊢
  refine W_seq (W_reg ?_);simp only [xq,reduceIte,qE,qA,qL,qD]
  refine W_co (frz_boxes (a:=a) (b:=b) (t:=[]) (h:=[]) [] (by simp [x_upd,x_look]) (by simp [x_upd,x_look]) (by simp)) ?_
  obtain ⟨sl,hsl⟩:∃ s,s=smallV a b:=⟨_,rfl⟩
  rw [← hsl] at hs
  refine W_seq (W_cut (· = ⟨look [(2,.iptr a.ds),(3,.iptr b.ds),(26,.bool (!((sl&&decide (a.width=b.width))&&decide (a.height=b.height))))],[]⟩) (W_reg ?_) ?_)
  · refine run_take 5 fun K1 hK1=>?_
    simp only [xq,reduceIte,qE,qA,qL,qD,Vw.ds]
    refine c_fn (hs) rfl ?_;simp only [xq,reduceIte,qE,qA,qL,qD]
    refine hK1 _ ?_
    cases sl
    · simp only [xq,reduceIte,qE,qA,qL,qD,undefA,zE]
      exact ⟨_,Co.keep _ (by simp [x_upd,x_look,Vw.ds]),rfl⟩
    · cases e1:decide (a.width=b.width)
      · simp only [xq,reduceIte,qE,qA,qL,qD,e1,undefA,zE]
        exact ⟨_,Co.keep _ (by simp [x_upd,x_look,Vw.ds]),rfl⟩
      · simp only [xq,reduceIte,qE,qA,qL,qD,e1,undefA,zE]
        exact ⟨_,Co.keep _ (by simp [x_upd,x_look,Vw.ds]),rfl⟩
  rintro _ rfl
  refine W_cond rfl (fun hc=>?_) (fun hc=>W_skip ?_)
  · refine W_seq (W_reg ?_);simp only [xq,reduceIte,qE,qA,qL,qD]
    refine c_fn (Ha) rfl ?_;simp only [xq,reduceIte,qE,qA,qL,qD]
    refine W_ret (.tmp ?_ rfl)
    simp only [x_upd,reduceIte]
  rw [hsl] at hc
  obtain ⟨⟨hsm,hw⟩,hh⟩:(smallV a b=true∧a.width=b.width)∧a.height=b.height:=by simpa using hc
  obtain ⟨⟨sa,ra⟩,⟨sb,rb⟩,ha,hb⟩:=small20 hsm
  have hd:=Hd a b sa sb
  have hr:=Hr a b (by omega) (by omega)
  have hi:=Hi (rows20 a b) (rows20 a b)
  rw [decide_eq_true rfl] at hi
  have hloc:=loc_diff ha hb hw hh
  have hlen:=diff_len sa sb
  have hrl:(rows20 a b).length≤1000:=by
    have:(rows20 a b).length≤max a.rows.length b.rows.length:=by unfold rows20;exact filt_len
    omega
  obtain ⟨l,hl⟩:∃ l,l=diffV a b:=⟨_,rfl⟩
  rw [← hl] at hd hloc hlen
  generalize rows20 a b=R at *
  simp only [vwA,Vw.ds,List.map_cons,List.map_nil] at hd hr
  simp only [xq,reduceIte,qE,qA,qL,qD]
  refine W_seq (W_reg ?_);simp only [xq,reduceIte,qE,qA,qL,qD]
  refine W_seq ?_
  refine W_seq (W_reg ?_);simp only [xq,reduceIte,qE,qA,qL,qD,Vw.ds]
  refine c_fn (hd) rfl ?_;simp only [xq,reduceIte,qE,qA,qL,qD,cgRows_len]
  refine W_block ?_
  let S:A→Heap→Nat→St:=fun x t i=>⟨look [(2,.iptr a.ds),(3,.iptr b.ds),(5,x),(31,cgsA l),(32,.int l.length),(33,.int i)],t⟩
  refine W_co (s':=S (.ref 0 0 0 0 true) [inIB []] 0) (Co.keep _ (by simp [x_upd,x_look,Vw.ds])) ?_
  refine W_loop (fun m s=>∃ i x t rows,i≤l.length∧m=l.length-i∧s=S x t i∧InsJ t rows x∧rows.length≤i∧(locB rows (l.drop i)=none∨locB rows (l.drop i)=some (R.map fun (i:Nat)=>(i:Int)))) ⟨0,_,_,[],zI _,rfl,rfl,⟨0,rfl,rfl⟩,Nat.le_refl _,hloc⟩ ?_
  clear hloc
  rintro m s ⟨i,x,t,rows,hi0,rfl,rfl,ho,hrw,hloc⟩
  simp only [S]
  refine W_seq (W_reg ?_);simp only [xq,reduceIte,qE,qA,qL,qD]
  refine W_seq (W_cond rfl (fun hc=>W_skip ?_) (fun hc=>W_exit ?_))
  · have hlt:i<l.length:=by simpa using hc
    have w1:IntKind.i64.wrap ((i:Int)+1)=((i+1:Nat):Int):=by rw [i64_of (by omega)];omega
    obtain ⟨c,hcd⟩:∃ c,c=l[i]:=⟨_,rfl⟩
    have hcg:(cgRows l).getD i []=c.ds:=by rw [cgRows_get hlt,← hcd]
    rw [List.drop_eq_getElem_cons hlt,← hcd] at hloc
    obtain ⟨q,rfl,hq⟩:=ho
    have hql:=(List.getElem?_eq_some_iff.1 hq).1
    have gq:∀ t':Heap,(t++t')[q]? = some (inIB rows):=fun t'=>hp_gl hq
    have sq:∀ (t':Heap) X,(t++t').set q X=t.set q X++t':=fun t' X=>List.set_append_left _ _ hql
    simp only [xq,reduceIte,qE,qA,qL,qD]
    refine W_seq (W_block ?_)
    refine W_seq (W_reg ?_);simp only [xq,reduceIte,qE,qA,qL,qD,cgRows_len,hcg,Cg.ds,zQ,hp_g0,hp_s0]
    refine ⟨by omega,by omega,?_⟩
    refine W_seq ?_
    refine W_seq (W_reg ?_);simp only [xq,reduceIte,qE,qA,qL,qD,hp_g0,Cg.ds]
    refine W_cond rfl (fun hk=>?_) (fun hk=>W_skip ?_)
    · refine W_seq (W_reg ?_);simp only [xq,reduceIte,qE,qA,qL,qD]
      refine c_fn (Ha) rfl ?_;simp only [xq,reduceIte,qE,qA,qL,qD]
      refine W_ret ?_
      simp only [xq,reduceIte,qE,qA,qL,qD]
      refine .tmp ?_ rfl
      simp only [x_upd,reduceIte]
    have hk:¬ c.kind=2:=of_decide_eq_false hk
    rw [locB_cons hk] at hloc
    simp only [xq,reduceIte,qE,qA,qL,qD]
    refine W_seq (W_reg ?_);simp only [xq,reduceIte,qE,qA,qL,qD,gq,inI_len]
    let V:St:=⟨look [(2,.iptr a.ds),(3,.iptr b.ds),(5,.ref q rows.length 0 rows.length true),(7,.ptr t.length 1 0 0),(8,.int rows.length),(31,cgsA l),(32,.int l.length),(33,.int i)],t++[cgB c]⟩
    refine W_co (s':=V) (Co.keep _ (by simp [x_upd,x_look])) ?_
    simp only [V]
    have next:∀ (sl:Nat→A) (t2:Heap) (x2:A) (rows2:List Int),sl 2 = .iptr a.ds→sl 3 = .iptr b.ds→sl 5=x2→sl 31=cgsA l→sl 32 = .int l.length→sl 33 = .int ((i+1:Nat):Int)→InsJ t2 rows2 x2→rows2.length≤i+1→(locB rows2 (l.drop (i+1))=none∨locB rows2 (l.drop (i+1))=some (R.map fun (i:Nat)=>(i:Int))) →
        ∃ m' s'',m'<l.length-i∧Co 0 ⟨sl,t2⟩ s''∧∃ i x t rows,i≤l.length∧m'=l.length-i∧s''=S x t i∧InsJ t rows x∧rows.length≤i∧(locB rows (l.drop i)=none∨locB rows (l.drop i)=some (R.map fun (i:Nat)=>(i:Int))):=by
      intro sl t2 x2 rows2 q1 q2 q3 q4 q5 q6 ho2 hl2 hloc2
      exact ⟨l.length-(i+1),S x2 t2 (i+1),by omega,Co.keep _ (by simp [q1,q2,q3,q4,q5,q6]),i+1,x2,t2,rows2,hlt,rfl,rfl,ho2,hl2,hloc2⟩
    refine W_cut (· = ⟨look [(2,.iptr a.ds),(3,.iptr b.ds),(5,.ref q rows.length 0 rows.length true),(7,.ptr t.length 1 0 0),(31,cgsA l),(32,.int l.length),(33,.int i),(59,.bool (locT rows c))],t++[cgB c]⟩) (W_drw (by simp) ?_) ?_
    · simp only [List.replicate_zero,List.append_nil]
      unfold locT
      cases e1:decide (c.kind=3)
      · refine run_take 8 fun K1 hK1=>?_
        simp only [xq,reduceIte,qE,qA,qL,qD,hp_g0,Cg.ds,e1,undefA,zE]
        refine hK1 _ ?_
        simp only [xq,reduceIte,qE,qA,qL,qD,undefA,zE]
        exact ⟨_,Co.keep _ (by simp [x_upd,x_look]),rfl⟩
      · by_cases h0:rows=[]
        · have e2:decide ((rows.length:Int)=0)=true:=decide_eq_true (by rw [h0];rfl)
          refine run_take 8 fun K1 hK1=>?_
          simp only [xq,reduceIte,qE,qA,qL,qD,hp_g0,Cg.ds,e1,e2,undefA,zE]
          refine hK1 _ ?_
          simp only [xq,reduceIte,qE,qA,qL,qD,undefA,zE]
          exact ⟨_,Co.keep _ (by simp [x_upd,x_look,h0]),rfl⟩
        · have hpos:0<rows.length:=List.length_pos_iff.2 h0
          have e2:decide ((rows.length:Int)=0)=false:=decide_eq_false (by omega)
          obtain ⟨k,hk2⟩:∃ k,rows.length=k+1:=⟨rows.length-1,by omega⟩
          have hkl:k<rows.length:=by omega
          have w2:IntKind.i64.wrap ((rows.length:Int)-1)=(k:Int):=by rw [i64_of (by omega)];omega
          have hg:=inI_get hkl
          have hlast:rows.getLast? = some rows[k]:=by rw [List.getLast?_eq_getElem?,show rows.length-1=k by omega,zB hkl]
          refine run_take 8 fun K1 hK1=>?_
          simp only [xq,reduceIte,qE,qA,qL,qD,hp_g0,Cg.ds,e1,e2,undefA,zE]
          refine hK1 _ ?_
          simp only [xq,reduceIte,qE,qA,qL,qD,hp_g0,Cg.ds,w2,gq,hg,zQ,undefA,zE,inI_len]
          repeat refine And.intro (by omega) ?_
          refine ⟨_,Co.keep _ ?_,rfl⟩
          simp [x_upd,x_look,h0,hlast]
    rintro _ rfl
    refine W_cond rfl (fun hd=>?_) (fun hd=>W_skip ?_)
    · rw [hd,if_pos rfl] at hloc
      refine W_reg ?_;simp only [xq,reduceIte,qE,qA,qL,qD,List.append_assoc,hp_g0,hp_g1,hp_gk,gq,sq,inI_len,Cg.ds]
      refine ⟨by simp only [room];omega,by simp only [maxLen];omega,?_⟩
      refine W_reg ?_;simp only [xq,reduceIte,qE,qA,qL,qD,w1]
      refine next _ _ (.ref q (rows.length+1) 0 (rows.length+1) true) (rows++[c.row]) (by simp [x_upd,x_look]) (by simp [x_upd,x_look]) (by simp [x_upd]) (by simp [x_upd,x_look]) (by simp [x_upd,x_look]) (by simp [x_upd]) ⟨q,by rw [zb];rfl,?_⟩ (by rw [zb,List.length_singleton];omega) hloc
      rw [List.getElem?_append_left (by simpa using hql),List.getElem?_set_self hql]
      simp [inIB,inI]
    · rw [hd,if_neg (by decide)] at hloc
      simp only [xq,reduceIte,qE,qA,qL,qD]
      refine W_reg ?_;simp only [xq,reduceIte,qE,qA,qL,qD,w1]
      exact next _ _ (.ref q rows.length 0 rows.length true) rows (by simp [x_upd,x_look]) (by simp [x_upd,x_look]) (by simp [x_upd,x_look]) (by simp [x_upd,x_look]) (by simp [x_upd,x_look]) (by simp [x_upd]) ⟨q,rfl,gq _⟩ (by omega) hloc
  · have hle:i=l.length:=by simp at hc;omega
    subst hle
    rw [List.drop_length] at hloc
    have hres:rows=R.map fun (i:Nat)=>(i:Int):=by
      rcases hloc with h | h
      · cases h
      · exact Option.some.inj h
    simp only [xq,reduceIte,qE,qA,qL,qD]
    refine W_co (s':=⟨look [(2,.iptr a.ds),(3,.iptr b.ds),(5,insA R)],[]⟩) (Co.frz _ 0 ?_ (zI _) (zI _) u0) ?_
    · intro p hp
      simp only [List.mem_cons,List.not_mem_nil,or_false] at hp
      rcases hp with rfl | rfl | rfl
      · simp only [x_upd,x_look];exact .same rfl
      · simp only [x_upd,x_look];exact .same rfl
      · have:=ho.frz
        rw [hres,inI_nat] at this
        simp only [x_upd,x_look];exact this
    refine W_seq (W_reg ?_);simp only [xq,reduceIte,qE,qA,qL,qD,Vw.ds]
    refine c_fn (hr) rfl ?_;simp only [xq,reduceIte,qE,qA,qL,qD]
    refine c_fn (hi) rfl ?_;simp only [xq,reduceIte,qE,qA,qL,qD]
    refine c_fn (Ha) rfl ?_;simp only [xq,reduceIte,qE,qA,qL,qD]
    refine W_ret (.tmp ?_ rfl)
    simp only [x_upd,reduceIte]
end Go.Proofs.YtigfbnglplbbpaaDoor.Nx

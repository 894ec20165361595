import Derived.Test.YtigfbnglplbbpaaGreatDoorNxE15
import Derived.Test.YtigfbnglplbbpaaGreatDoorNxI21
import Derived.Test.YtigfbnglplbbpaaGreatDoorNxI14
set_option linter.unusedSimpArgs false
set_option linter.unusedVariables false
set_option linter.unnecessarySimpa false
open List renaming getElem?_eq_some_iff → zA, getElem?_eq_getElem → zB, getD_eq_getElem?_getD → zC, getElem?_append_left → zF, getElem?_append_right → zG, getElem?_map → zK, getElem?_set_ne → zM, getElem?_set_self → zN, append_nil → zP, append_assoc → zS, length_append → zb, length_map → zg, getElem_mem → zi, getElem?_range → zj, replicate_zero → zr, set_append_left → zu
open Bool renaming true_eq_false → zE
open Nat renaming zero_le → zI, le_refl → zL
open Int renaming toNat_natCast → zQ
open Nat renaming reduceEqDiff → qE, reduceAdd → qA, reduceLT → qL, reduceLeDiff → qD
namespace Go.Proofs.YtigfbnglplbbpaaGreatDoor.Nx
open Go
variable {P:Program} {N:Nat} {Γ:Tabs}
def nuRows (f:Gl→Int) (l:List Gl):List (List D):=l.map fun g=>[.sc (.int .i64 (f g))]
theorem nuRows_len {f:Gl→Int} {l:List Gl}:(nuRows f l).length=l.length:=by simp [nuRows]
theorem nuRows_get {f:Gl→Int} {l:List Gl} {i:Nat} (h:i<l.length):(nuRows f l).getD i []=[.sc (.int .i64 (f l[i]))]:=by
 rw [nuRows,zC,zK,zB h];rfl
def Sep (f:Gl→Int) (a b:List Gl):Prop:=∀ x∈a,∀ y∈b,(f x=f y↔x=y)
set_option maxHeartbeats 2000000 in
theorem table16_fn {f:FuncId} (H:FnIs P f N [.t 4] x_ref16_table) (hN:2≤N) {g:Gl→Int} (a b:List Gl) (hg:Sep g a b) (ha:a.length≤50000) (hb:b.length≤50000):FnP Γ P f [.d (.sl eInt (nuRows g a)),.d (.sl eInt (nuRows g b))] (.d (.sl eRw (lenD a b))):=by
 refine .of_W H (by simpa using hN) ?_
 obtain ⟨na,hna⟩:∃ k,k=a.length+1:=⟨_,rfl⟩
 obtain ⟨nb,hnb⟩:∃ k,k=b.length+1:=⟨_,rfl⟩
 have wa:IntKind.i64.wrap ((a.length:Int)+1)=(na:Int):=by rw [i64_of (by omega)];omega
 have wb:IntKind.i64.wrap ((b.length:Int)+1)=(nb:Int):=by rw [i64_of (by omega)];omega
 have wa1:IntKind.i64.wrap ((a.length:Int)-1)=(a.length:Int)-1:=i64_of (by omega)
 have wb1:IntKind.i64.wrap ((b.length:Int)-1)=(b.length:Int)-1:=i64_of (by omega)
 have r24:(na:Int) * ((24:Nat):Int)≤((room:Nat):Int):=by simp only [room];omega
 have r8:(nb:Int) * ((8:Nat):Int)≤((room:Nat):Int):=by simp only [room];omega
 unfold x_ref16_table
 refine wR ?_;simp only [xq,reduceIte,qE,qA,qL,qD]
 refine wR ?_;simp only [xq,reduceIte,qE,qA,qL,qD,nuRows_len,wa,zQ]
 refine ⟨by omega,by omega,by omega,r24,?_⟩
 have hO:(List.replicate na [A.nil])=lenO a b (a.length+1):=by rw [hna,lenO_nil]
 have hH:([]:Heap)=lenH a b (a.length+1):=by rw [lenH,Nat.sub_self];rfl
 repeat refine And.intro (by omega) ?_
 refine W_seq ?_
 refine wR ?_;simp only [xq,reduceIte,qE,qA,qL,qD,nuRows_len]
 refine W_block ?_
 let da:A:=.d (.sl eInt (nuRows g a))
 let db:A:=.d (.sl eInt (nuRows g b))
 let S:Nat→St:=fun i=>⟨look [(0,da),(1,db),(5,.ref 0 na 0 na true),(6,.int ((i:Int)-1))],.cells eRw (lenO a b i)::lenH a b i⟩
 have es:(((a.length+1:Nat):Int)-1)=(a.length:Int):=by omega
 refine W_co (s':=S (a.length+1)) ?_ ?_
 ·simp only [S,da,db,← hO,← hH,es]
  exact Co.keep _ (by simp [x_upd,x_look])
 refine W_loop (fun m s=>∃ i,i≤a.length+1∧m=i∧s=S i) ⟨a.length+1,zL _,rfl,rfl⟩ ?_
 rintro m s ⟨i,hi,rfl,rfl⟩
 simp only [S,da,db]
 refine W_seq ?_
 refine wR ?_;simp only [xq,reduceIte,qE,qA,qL,qD]
 refine W_cond rfl (fun hc=>W_skip ?_) (fun hc=>W_exit ?_)
 ·obtain ⟨p,rfl⟩:∃ p,m=p+1:=⟨m-1,by simp at hc;omega⟩
  have e0:(((p+1:Nat):Int)-1)=(p:Int):=by omega
  have e1:(lenH a b (p+1)).length+1=1+(a.length-p):=by rw [lenH_len];omega
  have hp:p≤a.length:=by omega
  simp only [xq,reduceIte,qE,qA,qL,qD,e0]
  obtain ⟨q,hq⟩:∃ q,q=1+(a.length-p):=⟨_,rfl⟩
  obtain ⟨Hq,hHq⟩:∃ Hq:Nat→Heap,∀ j,Hq j = .cells eRw (lenO a b p)::(lenH a b (p+1)++[lenB a b p j]):=⟨_,fun _=>rfl⟩
  have g0:∀ j,(Hq j)[0]? = some (.cells eRw (lenO a b p)):=fun j=>by rw [hHq];rfl
  have gq:∀ j,(Hq j)[q]? = some (lenB a b p j):=fun j=>by
   rw [hHq,hq,Nat.add_comm 1,List.getElem?_cons_succ,zG (by rw [lenH_len];omega),lenH_len,show a.length-p-(a.length+1-(p+1))=0 by omega];rfl
  have sq:∀ j X,(Hq j).set q X = .cells eRw (lenO a b p)::(lenH a b (p+1)++[X]):=fun j X=>by
   rw [hHq,hq,Nat.add_comm 1,List.set_cons_succ,List.set_append_right _ _ (by rw [lenH_len];omega),lenH_len,show a.length-p-(a.length+1-(p+1))=0 by omega];rfl
  have op1:(lenO a b p)[p]? = some [.ref q nb 0 nb true]:=by rw [lenO_ge (zL _) (by omega),hq,hnb]
  have og:(lenO a b (p+1))[p]? = some [.nil]:=by rw [lenO_get (by omega),lenR,if_pos (Nat.lt_succ_self p)]
  have os:(lenO a b (p+1)).set p [.ref q nb 0 nb true]=lenO a b p:=by rw [hq,hnb,lenO_set (by omega)]
  refine W_seq (W_block ?_)
  refine wR ?_;simp only [xq,reduceIte,qE,qA,qL,qD,nuRows_len,wb,zQ,e1,← hq,lenO_len,og]
  refine ⟨by omega,by omega,by omega,r8,?_⟩
  repeat refine And.intro (by omega) ?_
  refine wR ?_;simp only [xq,reduceIte,qE,qA,qL,qD,nuRows_len,wb1]
  let S2:Nat→St:=fun j=>⟨look [(0,da),(1,db),(5,.ref 0 na 0 na true),(6,.int p),(7,.int ((j:Int)-1))],Hq j⟩
  have hstart:HB.cells eRw ((lenO a b (p+1)).set p [A.ref q nb 0 nb true])::(lenH a b (p+1)++[HB.cells { sz:=1,bytes:=8 } (List.replicate nb [A.int 0])])=Hq b.length:=by
   rw [hHq,os,lenB_zero,hnb]
  refine W_block ?_
  refine W_co (s':=S2 b.length) ?_ ?_
  ·simp only [S2,da,db,← hstart]
   exact Co.keep _ (by simp [x_upd,x_look])
  refine W_loop (fun m s=>∃ j,j≤b.length∧m=j∧s=S2 j) ⟨b.length,zL _,rfl,rfl⟩ ?_
  rintro j s ⟨_,hj,rfl,rfl⟩
  simp only [S2,da,db]
  let S3:Bool→St:=fun c=>⟨look [(0,da),(1,db),(5,.ref 0 na 0 na true),(6,.int p),(7,.int ((j:Int)-1)),(35,.bool c)],Hq j⟩
  have hdi:decide ((p:Int)<(a.length:Int))=decide (p<a.length):=by rw [decide_eq_decide];omega
  have hdj:decide ((0:Int)≤(j:Int)-1)=decide (0<j):=by rw [decide_eq_decide];omega
  refine W_seq (W_cutX (· = S3 (decide (0<j)&&decide (p<a.length))) rfl (fun K hK=>?_) ?_)
  ·cases e:decide (0<j)
   ·simp only [xq,reduceIte,qE,qA,qL,qD,nuRows_len,hdi,hdj,e,undefA,zE,ge_iff_le]
    refine hK _ _ (Co.keep _ ?_) rfl
    simp [x_upd,x_look,da,db,of_decide_eq_false e]
   ·simp only [xq,reduceIte,qE,qA,qL,qD,nuRows_len,hdi,hdj,e,undefA,zE,ge_iff_le]
    refine hK _ _ (Co.keep _ ?_) rfl
    simp [x_upd,x_look,da,db,of_decide_eq_true e]
  rintro _ rfl
  simp only [S3,da,db]
  refine W_cond rfl (fun hc=>W_skip ?_) (fun hc=>W_exit ?_)
  ·have hc:0<j∧p<a.length:=by simpa using hc
   obtain ⟨u,rfl⟩:∃ u,j=u+1:=⟨j-1,by omega⟩
   have hp:p<a.length:=hc.2
   have gp:∀ j,(Hq j)[1+(a.length-(p+1))]? = some (lenB a b (p+1) 0):=fun j=>by
    rw [hHq,Nat.add_comm 1 (a.length-(p+1)),List.getElem?_cons_succ,zF (by rw [lenH_len];omega),lenH_get (zL _) hp]
   have op2:(lenO a b p)[p+1]? = some [.ref (1+(a.length-(p+1))) nb 0 nb true]:=by rw [lenO_ge (by omega) (by omega),hnb]
   have e2:(((u+1:Nat):Int)-1)=(u:Int):=by omega
   have hu:u<b.length:=by omega
   have wp:IntKind.i64.wrap ((p:Int)+1)=((p+1:Nat):Int):=by rw [i64_of (by omega)];omega
   have wu:IntKind.i64.wrap ((u:Int)+1)=((u+1:Nat):Int):=by rw [i64_of (by omega)];omega
   have wu1:IntKind.i64.wrap ((u:Int)-1)=(u:Int)-1:=i64_of (by omega)
   have l1:=lenRow_ge (a:=a) (b:=b) (i:=p+1) (j:=0) (q:=u+1) (zI _) (by omega)
   have l2:=lenRow_ge (a:=a) (b:=b) (i:=p+1) (j:=0) (q:=u) (zI _) (by omega)
   have l3:=lenRow_ge (a:=a) (b:=b) (i:=p) (j:=u+1) (q:=u+1) (zL _) (by omega)
   have l4:((List.range (b.length+1)).map (lenRow a b p (u+1)))[u]? = some [.int ((0:Nat):Int)]:=by
    rw [lenRow_get (by omega),lenRow,if_neg (by omega)]
   have hset:=lenRow_set (a:=a) (b:=b) (i:=p) hu
   have hst:=lcsAt_step (a:=a) (b:=b) hp hu
   have hle:=lcsAt_le (a:=a) (b:=b) (i:=p+1) (j:=u+1)
   have key:∀ X:HB,X=lenB a b p u→(Hq (u+1)).set q X=Hq u:=fun X hX=>by rw [sq,hHq,hX]
   have hnxt:∀ (sl:Nat→A) (X:HB),X=lenB a b p u→sl 0=da→sl 1=db→sl 5 = .ref 0 na 0 na true→sl 6 = .int p→sl 7 = .int ((u:Int)-1)→Co 0 ⟨sl,(Hq (u+1)).set q X⟩ (S2 u):=fun sl X hX k0 k1 k5 k6 k7=>by
    rw [key X hX]
    exact Co.keep _ (by simp [k0,k1,k5,k6,k7])
   simp only [xq,reduceIte,qE,qA,qL,qD,e2]
   refine W_seq (W_block ?_)
   refine W_seq (W_drw (by simp) ?_)
   simp only [xq,reduceIte,qE,qA,qL,qD,nuRows_get hp,nuRows_get hu,nuRows_len,zQ]
   repeat refine And.intro (by omega) ?_
   refine W_cond rfl (fun hd=>?_) (fun hd=>?_)
   ·have hd:a[p]=b[u]:=(hg _ (zi hp) _ (zi hu)).1 (by simpa using hd)
    rw [if_pos hd] at hst
    have wv:IntKind.i64.wrap (((lcsAt a b (p+1) (u+1):Nat):Int)+1)=((lcsAt a b p u:Nat):Int):=by rw [i64_of (by omega)];omega
    refine W_drw (by simp) ?_
    simp only [xq,reduceIte,qE,qA,qL,qD,g0,gq,gp,lenB,lenO_len,op1,op2,l1,l2,l3,l4,wp,wu,wv,zQ,zg,List.length_range]
    repeat refine And.intro (by omega) ?_
    refine W_reg ?_;simp only [xq,reduceIte,qE,qA,qL,qD,wu1]
    exact ⟨u,S2 u,by omega,hnxt _ _ (by rw [hset];rfl) rfl rfl rfl rfl rfl,u,by omega,rfl,rfl⟩
   ·have hd:¬ a[p]=b[u]:=fun hh=>(by simpa using hd:¬ g a[p]=g b[u]) (by rw [hh])
    rw [if_neg hd] at hst
    refine W_seq (W_drw (by simp) ?_);simp only [xq,reduceIte,qE,qA,qL,qD,g0,gq,gp,lenB,lenO_len,op1,op2,l1,l2,l3,l4,wp,wu,zQ,zg,List.length_range]
    repeat refine And.intro (by omega) ?_
    refine W_cond rfl (fun hd2=>?_) (fun hd2=>?_)
    ·have hd2:=of_decide_eq_true hd2
     have wv:((lcsAt a b (p+1) u:Nat):Int)=((lcsAt a b p u:Nat):Int):=by omega
     refine W_drw (by simp) ?_
     simp only [xq,reduceIte,qE,qA,qL,qD,g0,gq,gp,lenB,lenO_len,op1,op2,l1,l2,l3,l4,wp,wu,wv,zQ,zg,List.length_range]
     repeat refine And.intro (by omega) ?_
     refine W_reg ?_;simp only [xq,reduceIte,qE,qA,qL,qD,wu1]
     exact ⟨u,S2 u,by omega,hnxt _ _ (by rw [hset];rfl) rfl rfl rfl rfl rfl,u,by omega,rfl,rfl⟩
    ·have hd2:=of_decide_eq_false hd2
     have wv:((lcsAt a b p (u+1):Nat):Int)=((lcsAt a b p u:Nat):Int):=by omega
     refine W_drw (by simp) ?_
     simp only [xq,reduceIte,qE,qA,qL,qD,g0,gq,gp,lenB,lenO_len,op1,op2,l1,l2,l3,l4,wp,wu,wv,zQ,zg,List.length_range]
     repeat refine And.intro (by omega) ?_
     refine W_reg ?_;simp only [xq,reduceIte,qE,qA,qL,qD,wu1]
     exact ⟨u,S2 u,by omega,hnxt _ _ (by rw [hset];rfl) rfl rfl rfl rfl rfl,u,by omega,rfl,rfl⟩
  ·have hc:0<j→a.length≤p:=by simpa using hc
   have wp1:IntKind.i64.wrap ((p:Int)-1)=(p:Int)-1:=i64_of (by omega)
   simp only [xq,reduceIte,qE,qA,qL,qD]
   refine W_reg ?_;simp only [xq,reduceIte,qE,qA,qL,qD,wp1]
   refine ⟨p,S p,by omega,?_,p,by omega,rfl,rfl⟩
   have:Hq j=HB.cells eRw (lenO a b p)::lenH a b p:=by
    have hB:lenB a b p j=lenB a b p 0:=by
     rcases Nat.eq_zero_or_pos j with h0 | h0
     ·rw [h0]
     ·have hpa:p=a.length:=by have:=hc h0;omega
      rw [hpa,lenB_a,lenB_a]
    rw [hHq,hB,lenH_snoc (by omega)]
   simp only [S,da,db,← this]
   exact Co.keep _ (by simp [x_upd,x_look])
 ·have hm:m=0:=by simp at hc;omega
  subst hm
  simp only [xq,reduceIte,qE,qA,qL,qD]
  refine wR ?_;simp only [xq,reduceIte,qE,qA,qL,qD]
  refine W_ret (.frz ?_)
  simp only [xq,reduceIte,qE,qA,qL,qD]
  have hNa:na=(lenO a b 0).length:=by rw [lenO_len,hna]
  have hrow:∀ i r,(lenD a b)[i]? = some r→i<a.length+1∧r=[.sl eInt ((List.range (b.length+1)).map fun j=>[.sc (.int .i64 (lcsAt a b i j:Nat))])]:=by
   intro i r hi
   have hlt:i<a.length+1:=by have:=(zA.1 hi).1;simpa [lenD] using this
   rw [lenD,zK,zj hlt] at hi
   exact ⟨hlt,by simpa using hi.symm⟩
  have hO:∀ i,i<a.length+1→(lenO a b 0).getD (0+i) []=[.ref (1+(a.length-i)) (b.length+1) 0 (b.length+1) true]:=fun i hi=>by
   rw [Nat.zero_add,zC,lenO_ge (zI _) hi];rfl
  have e0:FrzD 0 (HB.cells eRw (lenO a b 0)::lenH a b 0) (.ref 0 (lenO a b 0).length 0 na true) (.sl eRw (lenD a b)):=by
   refine .ref (zL _) rfl (by simp [lenD,hna]) (fun i r hi=>?_) (fun i r j d hi hj=>?_)
   ·obtain ⟨hlt,rfl⟩:=hrow i r hi
    rw [hO i hlt];rfl
   ·obtain ⟨hlt,rfl⟩:=hrow i r hi
    rw [hO i hlt]
    match j,hj with
    | j+1,hj=>simp at hj
    | 0,hj =>
     simp only [List.getElem?_cons_zero,Option.some.injEq] at hj
     subst hj
     have hB:(HB.cells eRw (lenO a b 0)::lenH a b 0)[1+(a.length-i)]? = some (lenB a b i 0):=by
      rw [Nat.add_comm 1,List.getElem?_cons_succ,lenH_get (zI _) (by omega)]
     have hl:((List.range (b.length+1)).map (lenRow a b i 0)).length=b.length+1:=by simp
     have h2:∀ j r,((List.range (b.length+1)).map fun j=>[D.sc (.int .i64 (lcsAt a b i j:Nat))])[j]? = some r→((List.range (b.length+1)).map (lenRow a b i 0)).getD (0+j) []=r.map .d:=fun j r hr=>by
      have hlt:j<b.length+1:=by have:=(zA.1 hr).1;simpa using this
      rw [zK,zj hlt] at hr
      rw [Nat.zero_add,zC,lenRow_ge (zI _) hlt]
      simp at hr
      subst hr;rfl
     have e:FrzD 0 (HB.cells eRw (lenO a b 0)::lenH a b 0) (.ref (1+(a.length-i)) ((List.range (b.length+1)).map (lenRow a b i 0)).length 0 (b.length+1) true) (.sl eInt ((List.range (b.length+1)).map fun j=>[D.sc (.int .i64 (lcsAt a b i j:Nat))])):=by
      refine .ref (zI _) hB (by simp) (fun j r hr=>by rw [h2 j r hr];simp) (fun j r k d hr hk=>?_)
      rw [h2 j r hr,zC,zK,hk]
      exact .d d
     rw [hl] at e
     exact e
  rw [← hNa] at e0
  exact .d e0
end Go.Proofs.YtigfbnglplbbpaaGreatDoor.Nx
namespace Go.Proofs.YtigfbnglplbbpaaGreatDoor.Nx
open Go
variable {P:Program} {N:Nat} {Γ:Tabs}
structure WS16 (g:Gl→Int) (a b:List Gl) (x:A) (i j n:Nat) (sl:Nat→A):Prop where
 q0:sl 0 = .d (.sl eInt (nuRows g a))
 q1:sl 1 = .d (.sl eInt (nuRows g b))
 q2:sl 5 = .d (.sl eRw (lenD a b))
 q4:sl 6=x
 q5:sl 7 = .int i
 q6:sl 8 = .int j
 q7:sl 9 = .int n
def wlkS (a b:List Gl):List Nat:=(wlk a b 0).map Prod.fst
theorem wlkS_len {a b:List Gl}:(wlkS a b).length=(wlk a b 0).length:=by simp [wlkS]
set_option maxHeartbeats 2000000 in
theorem walk16_fn {f ft:FuncId} (H:FnIs P f N [.t 4] (x_ref16_Walk ft)) (hN:2≤N) {g:Gl→Int} (a b:List Gl) (hg:Sep g a b) (ha:a.length≤50000) (hb:b.length≤50000) (Ht:FnP Γ P ft [.d (.sl eInt (nuRows g a)),.d (.sl eInt (nuRows g b))] (.d (.sl eRw (lenD a b)))) :
  FnP Γ P f [.d (.sl eInt (nuRows g a)),.d (.sl eInt (nuRows g b))] (insA (wlkS a b)):=by
 refine .of_W H (by simpa using hN) ?_
 unfold x_ref16_Walk
 refine wR ?_;simp only [xq,reduceIte,qE,qA,qL,qD]
 refine wR ?_;simp only [xq,reduceIte,qE,qA,qL,qD]
 refine c_fn (Ht) rfl ?_;simp only [xq,reduceIte,qE,qA,qL,qD]
 refine wR ?_;simp only [xq,reduceIte,qE,qA,qL,qD]
 refine wR ?_;simp only [xq,reduceIte,qE,qA,qL,qD]
 refine W_seq (W_block ?_)
 let S:A→Heap→Nat→Nat→St:=fun x t i j=>⟨look [(0,.d (.sl eInt (nuRows g a))),(1,.d (.sl eInt (nuRows g b))),(5,.d (.sl eRw (lenD a b))),(6,x),(7,.int i),(8,.int j)],t⟩
 refine W_co (s':=S (.ref 0 0 0 0 true) [inLB []] 0 0) (Co.keep _ (by simp [x_upd,x_look])) ?_
 refine W_loop (fun m s=>∃ i j k x t,i≤a.length∧j≤b.length∧m=(a.length-i)+(b.length-j)∧s=S x t i j∧k≤(wlk a b 0).length∧(wlk a b 0).drop k=wlk (a.drop i) (b.drop j) i∧InsR t ((wlkS a b).take k) x) ⟨0,0,0,_,_,zI _,zI _,rfl,rfl,zI _,rfl,⟨0,rfl,rfl⟩⟩ ?_
 rintro m s ⟨i,j,k,x,t,hi,hj,rfl,rfl,hk,hx,ho⟩
 let S1:Bool→St:=fun c=>⟨look [(0,.d (.sl eInt (nuRows g a))),(1,.d (.sl eInt (nuRows g b))),(5,.d (.sl eRw (lenD a b))),(6,x),(7,.int i),(8,.int j),(23,.bool c)],t⟩
 have hdi:decide ((i:Int)<(a.length:Int))=decide (i<a.length):=by rw [decide_eq_decide];omega
 have hdj:decide ((j:Int)<(b.length:Int))=decide (j<b.length):=by rw [decide_eq_decide];omega
 refine W_seq (W_cutX (· = S1 (decide (i<a.length)||decide (j<b.length))) rfl (fun K hK=>?_) ?_)
 ·cases e:decide (i<a.length)
  ·simp only [xq,reduceIte,qE,qA,qL,qD,S,nuRows_len,hdi,hdj,e,undefA,zE]
   refine hK _ _ (Co.keep _ ?_) rfl
   simp only [e,Bool.false_or,Bool.true_or];simp [x_upd,x_look]
  ·simp only [xq,reduceIte,qE,qA,qL,qD,S,nuRows_len,hdi,hdj,e,undefA,zE]
   refine hK _ _ (Co.keep _ ?_) rfl
   simp only [e,Bool.false_or,Bool.true_or];simp [x_upd,x_look]
 rintro _ rfl
 refine W_cond rfl (fun hc=>W_skip ?_) (fun hc=>W_exit ?_)
 ·have hor:i<a.length∨j<b.length:=by simpa using hc
  obtain ⟨n,hn⟩:∃ n,n=stepAt a b i j:=⟨_,rfl⟩
  have hst:=wlk_step hi hj hor
  have hn2:n≤2:=by rw [hn];exact stepAt_lt
  rw [← hn] at hst
  let T1:St:=⟨look [(0,.d (.sl eInt (nuRows g a))),(1,.d (.sl eInt (nuRows g b))),(5,.d (.sl eRw (lenD a b))),(6,x),(7,.int i),(8,.int j),(9,.int n)],t⟩
  simp only [xq,reduceIte,qE,qA,qL,qD,S1]
  refine W_block ?_
  refine wR ?_;simp only [xq,reduceIte,qE,qA,qL,qD]
  refine W_cut (· = T1) ?_ ?_
  ·have ok:∀ (sl:Nat→A),WS16 g a b x i j n sl→∃ s1,Co 0 ⟨sl,t⟩ s1∧s1=T1:=fun sl hs=>⟨T1,Co.keep _ (by simp [hs.q0,hs.q1,hs.q2,hs.q4,hs.q5,hs.q6,hs.q7]),rfl⟩
   have wi:IntKind.i64.wrap ((i:Int)+1)=((i+1:Nat):Int):=by rw [i64_of (by omega)];omega
   have wj:IntKind.i64.wrap ((j:Int)+1)=((j+1:Nat):Int):=by rw [i64_of (by omega)];omega
   have dj:decide ((j:Int)=(b.length:Int))=decide (j=b.length):=by rw [decide_eq_decide];omega
   by_cases h1:i<a.length
   ·have d1:decide (i<a.length)=true:=decide_eq_true h1
    refine W_sdrw (by simp) fun K hK=>?_
    simp only [zr,zP]
    refine run_stage (H:=t) 5 (fun sl=>WS16 g a b x i j 2 sl∧sl 28 = .bool true) (fun K' hK'=>?_) ?_
    ·simp only [xq,reduceIte,qE,qA,qL,qD,nuRows_len,hdi,d1]
     exact hK' _ ⟨⟨rfl,rfl,rfl,rfl,rfl,rfl,rfl⟩,rfl⟩
    rintro sl ⟨q,h28⟩
    by_cases h2:j<b.length
    ·have d2:decide (j<b.length)=true:=decide_eq_true h2
     have d3:decide (j=b.length)=false:=decide_eq_false (by omega)
     rw [stepAt_a h1 h2] at hn
     refine run_stage (H:=t) 6 (fun sl=>WS16 g a b x i j 2 sl∧sl 34 = .bool true) (fun K' hK'=>run_strip [(28,some true)] rfl (by simp [gval,h28]) ?_) ?_
     ·simp only [xq,reduceIte,qE,qA,qL,qD,stripO,kget,List.drop,List.take,List.map,nuRows_len,hdj,d2,h28,q.q0,q.q1,q.q2,q.q4,q.q5,q.q6,q.q7]
      exact hK' _ ⟨⟨q.q0,q.q1,q.q2,q.q4,q.q5,q.q6,q.q7⟩,rfl⟩
     rintro sl ⟨q,h34⟩
     refine run_strip [(34,some true)] rfl (by simp [gval,h34]) ?_
     simp only [xq,reduceIte,qE,qA,qL,qD,stripO,kget,List.drop,List.take,List.map,h34,q.q0,q.q1,q.q2,q.q4,q.q5,q.q6,q.q7,nuRows_len,nuRows_get h1,nuRows_get h2,zQ]
     repeat refine And.intro (by omega) ?_
     refine hK _ ?_
     refine W_cond rfl (fun hd=>?_) (fun hd=>?_)
     ·have hd:a[i]=b[j]:=(hg _ (zi h1) _ (zi h2)).1 (by simpa using hd)
      rw [if_pos hd] at hn
      refine W_reg ?_;simp only [xq,reduceIte,qE,qA,qL,qD]
      exact ok _ ⟨q.q0,q.q1,q.q2,q.q4,q.q5,q.q6,by rw [hn];rfl⟩
     ·have hd:¬ a[i]=b[j]:=fun hh=>(by simpa using hd:¬ g a[i]=g b[j]) (by rw [hh])
      rw [if_neg hd] at hn
      have dl:decide (((lcsAt a b i (j+1):Nat):Int)≤((lcsAt a b (i+1) j:Nat):Int))=decide (lcsAt a b i (j+1)≤lcsAt a b (i+1) j):=by rw [decide_eq_decide];omega
      have e1:=lenD_get (a:=a) (b:=b) (show i<a.length+1 by omega)
      have e2:=lenD_get (a:=a) (b:=b) (show i+1<a.length+1 by omega)
      have e3:=lenDr_get (a:=a) (b:=b) (i:=i+1) (show j<b.length+1 by omega)
      have e4:=lenDr_get (a:=a) (b:=b) (i:=i) (show j+1<b.length+1 by omega)
      refine W_sdrw (by simp) fun K2 hK2=>?_
      simp only [zr,zP]
      refine run_stage (H:=t) 5 (fun sl=>WS16 g a b x i j 2 sl∧sl 49 = .bool false) (fun K' hK'=>?_) ?_
      ·simp only [xq,reduceIte,qE,qA,qL,qD,nuRows_len,dj,d3,q.q0,q.q1,q.q2,q.q4,q.q5,q.q6,q.q7]
       exact hK' _ ⟨⟨q.q0,q.q1,q.q2,q.q4,q.q5,q.q6,q.q7⟩,rfl⟩
      rintro sl ⟨q,h50⟩
      refine run_stage (H:=t) 5 (fun sl=>WS16 g a b x i j 2 sl∧sl 49 = .bool false∧sl 54 = .bool true) (fun K' hK'=>run_strip [(49,some false)] rfl (by simp [gval,h50]) ?_) ?_
      ·simp only [xq,reduceIte,qE,qA,qL,qD,stripO,kget,List.drop,List.take,List.map,nuRows_len,hdi,d1,h50,q.q0,q.q1,q.q2,q.q4,q.q5,q.q6,q.q7]
       exact hK' _ ⟨⟨q.q0,q.q1,q.q2,q.q4,q.q5,q.q6,q.q7⟩,h50,rfl⟩
      rintro sl ⟨q,h50,h55⟩
      refine run_strip [(49,some false),(54,some true)] rfl (by simp [gval,h50,h55]) ?_
      simp only [xq,reduceIte,qE,qA,qL,qD,stripO,kget,List.drop,List.take,List.map,h50,h55,q.q0,q.q1,q.q2,q.q4,q.q5,q.q6,q.q7,wi,wj,lenD_len,lenDr_len,e1,e2,e3,e4,zQ,dl]
      repeat refine And.intro (by omega) ?_
      refine hK2 _ ?_
      refine W_cond rfl (fun hd=>?_) (fun hd=>W_skip ?_)
      ·have hd:=of_decide_eq_true hd
       rw [if_pos hd] at hn
       refine W_reg ?_;simp only [xq,reduceIte,qE,qA,qL,qD]
       exact ok _ ⟨q.q0,q.q1,q.q2,q.q4,q.q5,q.q6,by rw [hn];rfl⟩
      ·have hd:=of_decide_eq_false hd
       rw [if_neg hd] at hn
       exact ⟨rfl,ok _ ⟨q.q0,q.q1,q.q2,q.q4,q.q5,q.q6,by rw [hn];exact q.q7⟩⟩
    ·have hj2:j=b.length:=by omega
     have d2:decide (j<b.length)=false:=decide_eq_false h2
     have d3:decide (j=b.length)=true:=decide_eq_true hj2
     rw [stepAt_b hj2] at hn
     refine run_stage (H:=t) 6 (fun sl=>WS16 g a b x i j 2 sl∧sl 34 = .bool false) (fun K' hK'=>run_strip [(28,some true)] rfl (by simp [gval,h28]) ?_) ?_
     ·simp only [xq,reduceIte,qE,qA,qL,qD,stripO,kget,List.drop,List.take,List.map,nuRows_len,hdj,d2,h28,q.q0,q.q1,q.q2,q.q4,q.q5,q.q6,q.q7]
      exact hK' _ ⟨⟨q.q0,q.q1,q.q2,q.q4,q.q5,q.q6,q.q7⟩,rfl⟩
     rintro sl ⟨q,h34⟩
     refine run_strip [(34,some false)] rfl (by simp [gval,h34]) ?_
     simp only [xq,reduceIte,qE,qA,qL,qD,stripO,kget,List.drop,List.take,List.map,Bool.false_eq_true,h34]
     refine hK _ ?_
     refine W_cond rfl (fun hd=>by cases hd) (fun hd=>?_)
     refine W_sdrw (by simp) fun K2 hK2=>?_
     simp only [zr,zP]
     refine run_stage (H:=t) 5 (fun sl=>WS16 g a b x i j 2 sl∧sl 49 = .bool true) (fun K' hK'=>?_) ?_
     ·simp only [xq,reduceIte,qE,qA,qL,qD,nuRows_len,dj,d3,q.q0,q.q1,q.q2,q.q4,q.q5,q.q6,q.q7]
      exact hK' _ ⟨⟨q.q0,q.q1,q.q2,q.q4,q.q5,q.q6,q.q7⟩,rfl⟩
     rintro sl ⟨q,h50⟩
     refine run_stage (H:=t) 5 (fun sl=>WS16 g a b x i j 2 sl∧sl 49 = .bool true∧sl 54=undefA) (fun K' hK'=>run_strip [(49,some true)] rfl (by simp [gval,h50]) ?_) ?_
     ·simp only [xq,reduceIte,qE,qA,qL,qD,stripO,kget,List.drop,List.take,List.map,zE]
      exact hK' _ ⟨⟨q.q0,q.q1,q.q2,q.q4,q.q5,q.q6,q.q7⟩,h50,rfl⟩
     rintro sl ⟨q,h50,h55⟩
     refine run_strip [(49,some true),(54,none)] rfl (by simp [gval,h50,h55]) ?_
     simp only [xq,reduceIte,qE,qA,qL,qD,stripO,kget,List.drop,List.take,List.map,zE,h50]
     refine hK2 _ ?_
     refine W_cond rfl (fun hd=>?_) (fun hd=>by cases hd)
     refine W_reg ?_;simp only [xq,reduceIte,qE,qA,qL,qD]
     exact ok _ ⟨q.q0,q.q1,q.q2,q.q4,q.q5,q.q6,by rw [hn];rfl⟩
   ·have h2:j<b.length:=by omega
    have d1:decide (i<a.length)=false:=decide_eq_false h1
    have d3:decide (j=b.length)=false:=decide_eq_false (by omega)
    rw [stepAt_c h1 h2] at hn
    refine W_sdrw (by simp) fun K hK=>?_
    simp only [zr,zP]
    refine run_stage (H:=t) 5 (fun sl=>WS16 g a b x i j 2 sl∧sl 28 = .bool false) (fun K' hK'=>?_) ?_
    ·simp only [xq,reduceIte,qE,qA,qL,qD,nuRows_len,hdi,d1]
     exact hK' _ ⟨⟨rfl,rfl,rfl,rfl,rfl,rfl,rfl⟩,rfl⟩
    rintro sl ⟨q,h28⟩
    refine run_stage (H:=t) 6 (fun sl=>WS16 g a b x i j 2 sl∧sl 34 = .bool false) (fun K' hK'=>run_strip [(28,some false)] rfl (by simp [gval,h28]) ?_) ?_
    ·simp only [xq,reduceIte,qE,qA,qL,qD,stripO,kget,List.drop,List.take,List.map,Bool.false_eq_true,h28]
     exact hK' _ ⟨⟨q.q0,q.q1,q.q2,q.q4,q.q5,q.q6,q.q7⟩,rfl⟩
    rintro sl ⟨q,h34⟩
    refine run_strip [(34,some false)] rfl (by simp [gval,h34]) ?_
    simp only [xq,reduceIte,qE,qA,qL,qD,stripO,kget,List.drop,List.take,List.map,Bool.false_eq_true,h34]
    refine hK _ ?_
    refine W_cond rfl (fun hd=>by cases hd) (fun hd=>?_)
    refine W_sdrw (by simp) fun K2 hK2=>?_
    simp only [zr,zP]
    refine run_stage (H:=t) 5 (fun sl=>WS16 g a b x i j 2 sl∧sl 49 = .bool false) (fun K' hK'=>?_) ?_
    ·simp only [xq,reduceIte,qE,qA,qL,qD,nuRows_len,dj,d3,q.q0,q.q1,q.q2,q.q4,q.q5,q.q6,q.q7]
     exact hK' _ ⟨⟨q.q0,q.q1,q.q2,q.q4,q.q5,q.q6,q.q7⟩,rfl⟩
    rintro sl ⟨q,h50⟩
    refine run_stage (H:=t) 5 (fun sl=>WS16 g a b x i j 2 sl∧sl 49 = .bool false∧sl 54 = .bool false) (fun K' hK'=>run_strip [(49,some false)] rfl (by simp [gval,h50]) ?_) ?_
    ·simp only [xq,reduceIte,qE,qA,qL,qD,stripO,kget,List.drop,List.take,List.map,nuRows_len,hdi,d1,h50,q.q0,q.q1,q.q2,q.q4,q.q5,q.q6,q.q7]
     exact hK' _ ⟨⟨q.q0,q.q1,q.q2,q.q4,q.q5,q.q6,q.q7⟩,h50,rfl⟩
    rintro sl ⟨q,h50,h55⟩
    refine run_strip [(49,some false),(54,some false)] rfl (by simp [gval,h50,h55]) ?_
    simp only [xq,reduceIte,qE,qA,qL,qD,stripO,kget,List.drop,List.take,List.map,Bool.false_eq_true,h50,h55]
    refine hK2 _ ?_
    refine W_cond rfl (fun hd=>by cases hd) (fun hd=>W_skip ?_)
    exact ⟨rfl,ok _ ⟨q.q0,q.q1,q.q2,q.q4,q.q5,q.q6,by rw [hn];exact q.q7⟩⟩
  rintro _ rfl
  have wi:IntKind.i64.wrap ((i:Int)+1)=((i+1:Nat):Int):=by rw [i64_of (by omega)];omega
  have wj:IntKind.i64.wrap ((j:Int)+1)=((j+1:Nat):Int):=by rw [i64_of (by omega)];omega
  let T2:St:=⟨look [(0,.d (.sl eInt (nuRows g a))),(1,.d (.sl eInt (nuRows g b))),(5,.d (.sl eRw (lenD a b))),(6,x),(7,.int (nextI n i:Nat)),(8,.int j),(9,.int n)],t⟩
  let T3:St:=⟨look [(0,.d (.sl eInt (nuRows g a))),(1,.d (.sl eInt (nuRows g b))),(5,.d (.sl eRw (lenD a b))),(6,x),(7,.int (nextI n i:Nat)),(8,.int (nextJ n j:Nat)),(9,.int n)],t⟩
  have d2:decide ((n:Int)=2)=decide (n=2):=by rw [decide_eq_decide];omega
  have d1:decide ((n:Int)=1)=decide (n=1):=by rw [decide_eq_decide];omega
  refine W_cut (· = T2) ?_ ?_
  ·simp only [T1]
   refine wR ?_;simp only [xq,reduceIte,qE,qA,qL,qD,d2]
   refine W_cond rfl (fun hd=>W_reg ?_) (fun hd=>W_skip ?_)
   ·have hd:¬ n=2:=by simpa using hd
    simp only [xq,reduceIte,qE,qA,qL,qD,wi]
    refine ⟨T2,Co.keep _ ?_,rfl⟩
    simp [x_upd,x_look,nextI,hd]
   ·have hd:n=2:=by simpa using hd
    refine ⟨rfl,T2,Co.keep _ ?_,rfl⟩
    simp [x_upd,x_look,nextI,hd]
  rintro _ rfl
  refine W_cut (· = T3) ?_ ?_
  ·simp only [T2]
   refine wR ?_;simp only [xq,reduceIte,qE,qA,qL,qD,d1]
   refine W_cond rfl (fun hd=>W_reg ?_) (fun hd=>W_skip ?_)
   ·have hd:¬ n=1:=by simpa using hd
    simp only [xq,reduceIte,qE,qA,qL,qD,wj]
    refine ⟨T3,Co.keep _ ?_,rfl⟩
    simp [x_upd,x_look,nextJ,hd]
   ·have hd:n=1:=by simpa using hd
    refine ⟨rfl,T3,Co.keep _ ?_,rfl⟩
    simp [x_upd,x_look,nextJ,hd]
  rintro _ rfl
  have hks:k<(wlk a b 0).length:=by
   have:=congrArg List.length (hx.trans hst)
   simp at this;omega
  have hgk:(wlkS a b)[k]? = some n:=by
   have:(wlk a b 0)[k]? = some (n,i):=by
    have h0:=congrArg (fun l=>l[0]?) (hx.trans hst)
    simpa using h0
   rw [wlkS,zK,this];rfl
  have hxn:(wlk a b 0).drop (k+1)=wlk (a.drop (nextI n i)) (b.drop (nextJ n j)) (nextI n i):=by
   have:=congrArg (List.drop 1) (hx.trans hst)
   simpa [List.drop_drop,Nat.add_comm] using this
  have bnd:nextI n i≤a.length∧nextJ n j≤b.length∧(a.length-nextI n i)+(b.length-nextJ n j)<(a.length-i)+(b.length-j):=by
   have h3:n≠2→i<a.length:=fun h=>by
    rcases Nat.lt_or_ge i a.length with h' | h'
    ·exact h'
    ·exact absurd (hn.trans (stepAt_c (by omega) (by omega))) h
   have h4:n≠1→j<b.length:=fun h=>by
    rcases Nat.lt_or_ge j b.length with h' | h'
    ·exact h'
    ·exact absurd (hn.trans (stepAt_b (by omega))) h
   simp only [nextI,nextJ]
   have:n=0∨n=1∨n=2:=by omega
   rcases this with h | h | h
   ·have:=h3 (by omega);have:=h4 (by omega)
    rw [if_neg (by omega),if_neg (by omega)];omega
   ·have:=h3 (by omega)
    rw [if_neg (by omega),if_pos h];omega
   ·have:=h4 (by omega)
    rw [if_pos h,if_neg (by omega)];omega
  simp only [T3]
  have hks2:k<(wlkS a b).length:=by rw [wlkS_len];exact hks
  have hwl:=wlk_len a b 0
  obtain ⟨o,hod⟩:∃ o,o=(wlkS a b).take k:=⟨_,rfl⟩
  have hol:o.length=k:=by rw [hod,List.length_take];omega
  have hsu:(wlkS a b).take (k+1)=o++[n]:=by rw [List.take_add_one,hgk,hod];rfl
  rw [← hod] at ho
  obtain ⟨q,rfl,hq⟩:=ho
  have hql:=(zA.1 hq).1
  have gq:∀ t':Heap,(t++t')[q]? = some (inLB o):=fun t'=>hp_gl hq
  have sq:∀ (t':Heap) X,(t++t').set q X=t.set q X++t':=fun t' X=>zu _ _ hql
  refine W_reg ?_;simp only [xq,reduceIte,qE,qA,qL,qD,zS,hp_g0,gq,sq,inRows_len]
  refine ⟨by simp only [room];omega,by simp only [maxLen];omega,?_⟩
  refine ⟨_,S (.ref q (o.length+1) 0 (o.length+1) true) (t.set q (inLB (o++[n]))++[inLB [n]]) (nextI n i) (nextJ n j),bnd.2.2,?_,nextI n i,nextJ n j,k+1,_,_,bnd.1,bnd.2.1,rfl,rfl,hks,hxn,⟨q,by rw [hsu,zb];rfl,?_⟩⟩
  ·have:inLB (o++[n]) = .cells eInt ((inRows o).map (fun r=>r.map A.d)++[[.int n]]):=by simp only [inLB,inRows_app,List.map_append];rfl
   rw [this]
   exact Co.keep _ (by simp [x_upd,x_look])
  ·rw [hsu,zF (by simpa using hql),zN hql]
 ·simp only [Bool.or_eq_false_iff,decide_eq_false_iff_not] at hc
  have h1:i=a.length:=by omega
  have h2:j=b.length:=by omega
  subst h1 h2
  simp only [List.drop_length,wlk,List.map_nil] at hx
  have hk2:k=(wlk a b 0).length:=by
   have:=congrArg List.length hx
   simp at this;omega
  simp only [xq,reduceIte,qE,qA,qL,qD,S1]
  refine wR ?_;simp only [xq,reduceIte,qE,qA,qL,qD]
  refine W_ret (.frz ?_)
  simp only [xq,reduceIte,qE,qA,qL,qD]
  rw [hk2,← wlkS_len,List.take_length] at ho
  exact ho.frz
end Go.Proofs.YtigfbnglplbbpaaGreatDoor.Nx
namespace Go.Proofs.YtigfbnglplbbpaaGreatDoor.Nx
open Go
variable {P:Program} {N:Nat} {Γ:Tabs}
abbrev nuB (g:Gl→Int) (l:List Gl):HB:=.cells eInt ((nuRows g l).map fun r=>r.map A.d)
theorem nuB_frz {g:Gl→Int} {t:Heap} {p:Nat} {l:List Gl} (h:t[p]? = some (nuB g l)):FrzD 0 t (.ref p l.length 0 l.length true) (.sl eInt (nuRows g l)):=by
 have:=frzD_rows (k:=0) (off:=0) (len:=l.length) (full:=true) (e:=eInt) (rows:=nuRows g l) (zI p) h (by rw [nuRows_len];omega)
 rw [nuRows_len,List.drop_zero,List.take_of_length_le (by rw [nuRows_len];exact zL _)] at this
 exact this
def ednDs (g:Gl→Int) (e:Edt):List D:=[.sc (.int .i64 e.at'),.sc (.int .i64 e.del),.sl eInt (nuRows g e.ins)]
def ednRows (g:Gl→Int) (l:List Edt):List (List D):=l.map (ednDs g)
theorem ednRows_len {g:Gl→Int} {l:List Edt}:(ednRows g l).length=l.length:=by simp [ednRows]
theorem ednRows_get {g:Gl→Int} {l:List Edt} {i:Nat} (hi:i<l.length):(ednRows g l).getD i []=ednDs g l[i]:=by
 rw [ednRows,zC,zK,zB hi];rfl
def InsN (g:Gl→Int) (t:Heap) (cp:Option Nat) (y:A) (l:List Gl):Prop:=(y = .nil∧l=[])∨∃ p,y = .ref p l.length 0 l.length true∧t[p]? = some (nuB g l)∧cp≠some p
def CurN (g:Gl→Int) (t:Heap) (cp:Option Nat) (e:Edt) (y:A):Prop:=(y = .nil∧e.ins=[]∧cp=none)∨∃ p,y = .ref p e.ins.length 0 e.ins.length true∧t[p]? = some (nuB g e.ins)∧cp=some p
def RowsN (g:Gl→Int) (t:Heap) (cp:Option Nat) (es:List Edt) (R:List (List A)):Prop:=R.length=es.length∧∀ (i:Nat) (e:Edt),es[i]? = some e→∃ y,R[i]? = some (edA e y)∧InsN g t cp y e.ins
def ScN (g:Gl→Int) (t:Heap) (es:List Edt):Option Edt→Prop
 | none=>∃ R,t[0]? = some (.cells eEd R)∧RowsN g t none es R
 | some e=>∃ R y cp,t[0]? = some (.cells eEd (R++[edA e y]))∧RowsN g t cp es R∧CurN g t cp e y
theorem RowsN.keep {g:Gl→Int} {t t':Heap} {cp cp':Option Nat} {es:List Edt} {R:List (List A)} (h:RowsN g t cp es R) (hk:∀ (p:Nat) (l:List Gl),t[p]? = some (nuB g l)→cp≠some p→t'[p]? = some (nuB g l)∧cp'≠some p):RowsN g t' cp' es R :=
 ⟨h.1,fun i e hi=>by
  obtain ⟨y,h1,h2⟩:=h.2 i e hi
  refine ⟨y,h1,?_⟩
  rcases h2 with h2 | ⟨p,h2,h3,h4⟩
  ·exact .inl h2
  ·exact .inr ⟨p,h2,(hk p _ h3 h4).1,(hk p _ h3 h4).2⟩⟩
theorem ScN.close {g:Gl→Int} {t:Heap} {es:List Edt} {cur:Option Edt} (h:ScN g t es cur):ScN g t (es++cur.toList) none:=by
 cases cur with
 | none=>simpa using h
 | some e =>
  obtain ⟨R,y,cp,h0,hR,hC⟩:=h
  refine ⟨R++[edA e y],h0,by simp [hR.1],fun i e' hi=>?_⟩
  rcases Nat.lt_or_ge i es.length with hlt | hge
  ·rw [zF hlt] at hi
   obtain ⟨y',h1,h2⟩:=hR.2 i e' hi
   refine ⟨y',by rw [zF (by rw [hR.1];exact hlt)];exact h1,?_⟩
   rcases h2 with h2 | ⟨p,h2,h3,_⟩
   ·exact .inl h2
   ·exact .inr ⟨p,h2,h3,by simp⟩
  ·rw [zG hge] at hi
   have h1:i-es.length=0:=by
    have:=(zA.1 hi).1
    simp at this;omega
   rw [h1] at hi
   simp at hi
   subst hi
   refine ⟨y,by rw [zG (by rw [hR.1];exact hge),hR.1,h1];rfl,?_⟩
   rcases hC with ⟨rfl,h2,_⟩ | ⟨p,rfl,h2,_⟩
   ·exact .inl ⟨rfl,h2⟩
   ·exact .inr ⟨p,rfl,h2,by simp⟩
theorem ScN.frz {g:Gl→Int} {t:Heap} {es:List Edt} (h:ScN g t es none):FrzA 0 t (.ref 0 es.length 0 es.length true) (.d (.sl eEd (ednRows g es))):=by
 obtain ⟨R,h0,hR⟩:=h
 rw [← hR.1]
 have get:∀ (i:Nat) (r:List D),(ednRows g es)[i]? = some r→∃ (hi:i<es.length) (y:A),r=ednDs g es[i]∧R.getD (0+i) []=edA es[i] y∧InsN g t none y es[i].ins:=fun i r hi=>by
  have hlt:i<es.length:=by have:=(zA.1 hi).1;rwa [ednRows_len] at this
  obtain ⟨y,h1,h2⟩:=hR.2 i _ (zB hlt)
  refine ⟨hlt,y,?_,?_,h2⟩
  ·rw [ednRows,zK,zB hlt] at hi
   simpa using hi.symm
  ·rw [Nat.zero_add,zC,h1];rfl
 refine .d (.ref (zI _) h0 (by rw [ednRows_len,hR.1]) (fun i r hi=>?_) (fun i r j d hi hj=>?_))
 ·obtain ⟨_,y,rfl,h2,_⟩:=get i r hi
  rw [h2];rfl
 ·obtain ⟨_,y,rfl,h2,h4⟩:=get i r hi
  rw [h2]
  rcases j with _ | _ | _ | j
  ·cases hj;exact .d _
  ·cases hj;exact .d _
  ·cases hj
   rcases h4 with ⟨rfl,h5⟩ | ⟨p,rfl,h5,_⟩
   ·rw [h5];exact .nil _
   ·exact nuB_frz h5
  ·simp [ednDs] at hj
set_option maxHeartbeats 2000000 in
theorem script16_fn {f fw:FuncId} (H:FnIs P f N [.t 4] (x_ref16_Script fw)) (hN:2≤N) {g:Gl→Int} (a b:List Gl) (ha:a.length≤50000) (hb:b.length≤50000)
  (Hw:FnP Γ P fw [.d (.sl eInt (nuRows g a)),.d (.sl eInt (nuRows g b))] (insA (wlkS a b))):FnP Γ P f [.d (.sl eInt (nuRows g a)),.d (.sl eInt (nuRows g b))] (.d (.sl eEd (ednRows g (scriptE a b)))):=by
 refine .of_W H (by simpa using hN) ?_
 have hwl:=wlk_len a b 0
 have hwS:=wlkS_len (a:=a) (b:=b)
 obtain ⟨w,hwd⟩:∃ w,w=wlkS a b:=⟨_,rfl⟩
 rw [← hwd] at Hw hwS
 unfold x_ref16_Script
 refine wR ?_;simp only [xq,reduceIte,qE,qA,qL,qD]
 refine wR ?_;simp only [xq,reduceIte,qE,qA,qL,qD]
 refine wR ?_;simp only [xq,reduceIte,qE,qA,qL,qD]
 refine c_fn (Hw) rfl ?_;simp only [xq,reduceIte,qE,qA,qL,qD]
 refine wR ?_;simp only [xq,reduceIte,qE,qA,qL,qD]
 refine wR ?_;simp only [xq,reduceIte,qE,qA,qL,qD]
 refine W_seq ?_
 refine wR ?_;simp only [xq,reduceIte,qE,qA,qL,qD]
 refine W_block ?_
 let S:Nat→Bool→Heap→Nat→Nat→Nat→St:=fun n o t i j k=>⟨look [(0,.d (.sl eInt (nuRows g a))),(1,.d (.sl eInt (nuRows g b))),(5,.ref 0 n 0 n true),(6,insA w),(7,.int i),(8,.int j),(9,.bool o),(10,.int k)],t⟩
 refine W_co (s':=S 0 false [.cells eEd []] 0 0 0) (Co.keep _ (by simp [x_upd,x_look])) ?_
 refine W_loop (fun m s=>∃ es cur i j k t,k≤w.length∧m=w.length-k∧s=S (es.length+cur.toList.length) cur.isSome t i j k∧ScI a b k es cur i j∧ScN g t es cur) ⟨[],none,0,0,0,_,zI _,rfl,rfl,⟨zI _,zI _,rfl,rfl,zL _,zL _,zL _⟩,⟨[],rfl,rfl,fun i e hi=>by simp at hi⟩⟩ ?_
 rintro m s ⟨es,cur,i,j,k,t,hk,rfl,rfl,hI,hS⟩
 simp only [S]
 refine W_seq ?_
 refine wR ?_;simp only [xq,reduceIte,qE,qA,qL,qD,inRows_len]
 refine W_cond rfl (fun hc=>W_skip ?_) (fun hc=>W_exit ?_)
 ·have hlt:k<w.length:=by simpa using hc
  have hk0:k<(wlk a b 0).length:=by omega
  obtain ⟨s,i',hp⟩:∃ s i',(wlk a b 0)[k]=(s,i'):=⟨_,_,rfl⟩
  have hks:(wlk a b 0)[k]? = some (s,i'):=by rw [zB hk0,hp]
  have hsw:(inRows w).getD k []=[.sc (.int .i64 s)]:=by
   rw [inRows_get hlt]
   have:w[k]=s:=by simp [hwd,wlkS,hp]
   rw [this]
  obtain ⟨rfl,hz,hnz⟩:=hI.step hks
  have w1:IntKind.i64.wrap ((k:Int)+1)=((k+1:Nat):Int):=by rw [i64_of (by omega)];omega
  have wi:i'≤100000:=by have:=hI.hi;omega
  have wj:j≤100000:=by have:=hI.hj;omega
  have w2:IntKind.i64.wrap ((i':Int)+1)=((i'+1:Nat):Int):=by rw [i64_of (by omega)];omega
  have w3:IntKind.i64.wrap ((j:Int)+1)=((j+1:Nat):Int):=by rw [i64_of (by omega)];omega
  simp only [xq,reduceIte,qE,qA,qL,qD]
  refine W_seq (W_block ?_)
  refine W_seq ?_
  refine wR ?_;simp only [xq,reduceIte,qE,qA,qL,qD,hsw,inRows_len,zQ]
  repeat refine And.intro (by omega) ?_
  refine W_cond rfl (fun hd=>?_) (fun hd=>W_skip ?_)
  ·have hs0:s=0:=by simpa using hd
   obtain ⟨hjb,hI'⟩:=hz hs0
   refine wR ?_;simp only [xq,reduceIte,qE,qA,qL,qD,w2]
   refine wR ?_;simp only [xq,reduceIte,qE,qA,qL,qD,w3]
   refine wR ?_;simp only [xq,reduceIte,qE,qA,qL,qD]
   refine W_exit ?_
   simp only [xq,reduceIte,qE,qA,qL,qD]
   refine W_reg ?_;simp only [xq,reduceIte,qE,qA,qL,qD,w1]
   exact ⟨w.length-(k+1),S ((es++cur.toList).length+0) false t (i'+1) (j+1) (k+1),by omega,Co.keep _ (by simp [x_upd,x_look]),_,none,_,_,_,_,hlt,rfl,rfl,hI',hS.close⟩
  have hs0:¬ s=0:=by simpa using hd
  obtain ⟨hs,h1,h2⟩:=hnz hs0
  have b1:=hI.del
  have b2:=hI.ins
  have b3:=hI.es
  obtain ⟨e,hed⟩:∃ e,e=cur.getD ⟨i',0,[]⟩:=⟨_,rfl⟩
  have c0:e.del≤k∧e.ins.length≤k:=by rw [hed];cases cur<;>exact ⟨b1,b2⟩
  rw [edDel_get,← hed] at h1
  rw [edIns_get,← hed] at h2
  have wl:IntKind.i64.wrap (((es.length+1:Nat):Int)-1)=(es.length:Int):=by rw [i64_of (by omega)];omega
  refine W_cut (fun s'=>∃ t1,ScN g t1 es (some e)∧s'=S (es.length+1) true t1 i' j k) ?_ ?_
  ·cases cur with
   | some e0 =>
    cases hed
    refine wR ?_;simp only [xq,reduceIte,qE,qA,qL,qD]
    refine W_cond rfl (fun hd=>by cases hd) (fun hd=>W_skip ?_)
    exact ⟨rfl,_,Co.keep _ (by simp [x_upd,x_look]),t,hS,rfl⟩
   | none =>
    obtain ⟨R,h0,hR⟩:=hS
    have hRl:=hR.1
    have hl0:=(zA.1 h0).1
    have e0:∀ t':Heap,(t++t')[0]? = some (.cells eEd R):=fun t'=>hp_gl h0
    have s0:∀ (t':Heap) X,(t++t').set 0 X=t.set 0 X++t':=fun t' X=>hp_sl hl0
    refine wR ?_;simp only [xq,reduceIte,qE,qA,qL,qD]
    refine W_cond rfl (fun hd=>?_) (fun hd=>by cases hd)
    refine wR ?_;simp only [xq,reduceIte,qE,qA,qL,qD,zS,hp_g0,e0,s0,Option.toList,List.length_nil,Nat.add_zero]
    repeat refine And.intro (by first | omega | (simp only [room];omega) | (simp only [maxLen];omega)) ?_
    refine W_reg ?_;simp only [xq,reduceIte,qE,qA,qL,qD]
    have hE:edA e .nil=[.int i',.int 0,.nil]:=by rw [hed];rfl
    refine ⟨S (es.length+1) true (t.set 0 (.cells eEd (R++[[.int i',.int 0,.nil]]))++[.cells eEd [[.int i',.int 0,.nil]]]) i' j k,Co.keep _ ?_,_,?_,rfl⟩
    ·simp [x_upd,x_look]
    ·refine ⟨R,.nil,none,by rw [hE];exact hp_gs hl0,hR.keep fun p l hp _=>⟨hp_gn (fun hh=>blk_ne h0 hp (by simp) hh) hp,by simp⟩,.inl ⟨rfl,by rw [hed];rfl,rfl⟩⟩
  rintro _ ⟨t1,⟨R,y,cp,h0,hR,hC⟩,rfl⟩
  have hRl:=hR.1
  have hl0:=(zA.1 h0).1
  have rl:∀ r:List A,(R++[r])[es.length]? = some r:=fun r=>by rw [← hRl];exact row_last
  have rs:∀ r r':List A,(R++[r]).set es.length r'=R++[r']:=fun r r'=>by rw [← hRl];exact row_setl
  simp only [S]
  refine wR ?_;simp only [xq,reduceIte,qE,qA,qL,qD,wl,h0,hRl,zb,List.length_singleton]
  refine wR ?_;simp only [xq,reduceIte,qE,qA,qL,qD,hsw,inRows_len,zQ]
  repeat refine And.intro (by omega) ?_
  refine W_cond rfl (fun hd=>?_) (fun hd=>?_)
  ·have hs1:s=1:=by have hd:=of_decide_eq_true hd;omega
   have hI':=h1 hs1
   have w4:IntKind.i64.wrap ((e.del:Int)+1)=((e.del+1:Nat):Int):=by rw [i64_of (by omega)];omega
   refine wR ?_;simp only [xq,reduceIte,qE,qA,qL,qD,h0,rl,rs,w4,hRl,zb,List.length_singleton,zQ,Nat.zero_add]
   repeat refine And.intro (by omega) ?_
   refine W_reg ?_;simp only [xq,reduceIte,qE,qA,qL,qD,w2]
   refine W_reg ?_;simp only [xq,reduceIte,qE,qA,qL,qD,w1]
   obtain ⟨e',he'⟩:∃ e':Edt,e'={ e with del:=e.del+1 }:=⟨_,rfl⟩
   rw [← he'] at hI'
   have hE:edA e' y=[.int e.at',.int ((e.del+1:Nat):Int),y]:=by rw [he']
   refine ⟨w.length-(k+1),S (es.length+1) true (t1.set 0 (.cells eEd (R++[[.int e.at',.int ((e.del+1:Nat):Int),y]]))) (i'+1) j (k+1),by omega,Co.keep _ (by simp [x_upd,x_look]),es,some e',_,_,_,_,hlt,rfl,rfl,hI',?_⟩
   refine ⟨R,y,cp,by rw [hE];exact zN hl0,hR.keep fun p l hp hq=>⟨by rw [zM (blk_ne h0 hp (by simp))];exact hp,hq⟩,?_⟩
   rcases hC with ⟨rfl,h5,h6⟩ | ⟨p,rfl,h5,h6⟩
   ·exact .inl ⟨rfl,by rw [he'];exact h5,h6⟩
   ·exact .inr ⟨p,by rw [he'],by rw [he',zM (blk_ne h0 h5 (by simp))];exact h5,h6⟩
  ·have hs1:¬ s=1:=by have hd:=of_decide_eq_false hd;omega
   have hs2:s=2∧j<b.length:=by rcases hs with hs | hs;exact absurd hs hs1;exact hs
   have hI':=h2 hs2.1
   have hjb:=hs2.2
   have hg:(b.drop j).take 1=[b[j]]:=by rw [List.drop_eq_getElem_cons hjb];rfl
   rw [hg] at hI'
   obtain ⟨e',he'⟩:∃ e':Edt,e'={ e with ins:=e.ins++[b[j]] }:=⟨_,rfl⟩
   rw [← he'] at hI'
   have e0:∀ t':Heap,(t1++t')[0]? = some (.cells eEd (R++[edA e y])):=fun t'=>hp_gl h0
   rcases hC with ⟨rfl,h5,rfl⟩ | ⟨p,rfl,h5,rfl⟩
   ·have s0:∀ (t':Heap) X,(t1++t').set 0 X=t1.set 0 X++t':=fun t' X=>hp_sl hl0
    have hin:e'.ins=[b[j]]:=by rw [he'];simp [h5]
    refine W_seq (W_drw (by simp) ?_)
    simp only [xq,reduceIte,qE,qA,qL,qD,e0,s0,rl,rs,hRl,zb,List.length_singleton,nuRows_len,nuRows_get hjb,zQ,Nat.zero_add,hp_g0,hp_s0,hp_g1,hp_s1]
    repeat refine And.intro (by omega) ?_
    rw [if_neg (by simp)]
    refine ⟨by decide,by decide,?_⟩
    repeat refine And.intro (by omega) ?_
    refine W_reg ?_;simp only [xq,reduceIte,qE,qA,qL,qD,w3]
    refine W_reg ?_;simp only [xq,reduceIte,qE,qA,qL,qD,w1]
    have hE:edA e' (.ref (t1.length+1) 1 0 1 true)=[.int e.at',.int e.del,.ref (t1.length+1) 1 0 1 true]:=by rw [he']
    refine ⟨w.length-(k+1),S (es.length+1) true (t1.set 0 (.cells eEd (R++[[.int e.at',.int e.del,.ref (t1.length+1) 1 0 1 true]]))++[.cells eInt [[.int (g b[j])]],.cells eInt [[.int (g b[j])]]]) i' (j+1) (k+1),by omega,Co.keep _ (by simp [x_upd,x_look]),es,some e',_,_,_,_,hlt,rfl,rfl,hI',?_⟩
    refine ⟨R,.ref (t1.length+1) 1 0 1 true,some (t1.length+1),by rw [hE];exact hp_gs hl0,hR.keep fun p l hp _=>⟨hp_gn (blk_ne h0 hp (by simp)) hp,fun hh=>?_⟩,.inr ⟨_,by rw [hin];rfl,by rw [hin,hp_gsk];rfl,rfl⟩⟩
    have:=(zA.1 hp).1
    simp at hh;omega
   ·have hlp:=(zA.1 h5).1
    have p0:p≠0:=Ne.symm (blk_ne h0 h5 (by simp))
    have ep:∀ t':Heap,(t1++t')[p]? = some (nuB g e.ins):=fun t'=>hp_gl h5
    have sp:∀ (t':Heap) X,(t1++t').set p X=t1.set p X++t':=fun t' X=>hp_sl hlp
    have e0':∀ (t':Heap) X,(t1.set p X++t')[0]? = some (.cells eEd (R++[edA e (.ref p e.ins.length 0 e.ins.length true)])):=fun t' X=>hp_gn p0 h0
    have s0:∀ (t':Heap) X Y,(t1.set p X++t').set 0 Y=(t1.set p X).set 0 Y++t':=fun t' X Y=>zu _ _ (by simpa using hl0)
    have hin:nuB g e'.ins = .cells eInt ((nuRows g e.ins).map (fun r=>r.map A.d)++[[.int (g b[j])]]):=by rw [he'];simp [nuRows]
    have hle:e'.ins.length=e.ins.length+1:=by rw [he'];simp
    have rl1:((nuRows g e.ins).map fun r=>r.map A.d).length=e.ins.length:=by simp [nuRows]
    refine W_seq (W_drw (by simp) ?_)
    simp only [xq,reduceIte,qE,qA,qL,qD,e0,ep,sp,e0',s0,rl,rs,rl1,hRl,zb,List.length_singleton,nuRows_len,nuRows_get hjb,zQ,Nat.zero_add,hp_g0,hp_s0,hp_g1,hp_s1]
    repeat refine And.intro (by first | omega | (simp only [room];omega) | (simp only [maxLen];omega)) ?_
    refine W_reg ?_;simp only [xq,reduceIte,qE,qA,qL,qD,w3]
    refine W_reg ?_;simp only [xq,reduceIte,qE,qA,qL,qD,w1]
    have hE:edA e' (.ref p (e.ins.length+1) 0 (e.ins.length+1) true)=[.int e.at',.int e.del,.ref p (e.ins.length+1) 0 (e.ins.length+1) true]:=by rw [he']
    refine ⟨w.length-(k+1),S (es.length+1) true ((t1.set p (.cells eInt ((nuRows g e.ins).map (fun r=>r.map A.d)++[[.int (g b[j])]]))).set 0 (.cells eEd (R++[[.int e.at',.int e.del,.ref p (e.ins.length+1) 0 (e.ins.length+1) true]]))++[.cells eInt [[.int (g b[j])]],.res]) i' (j+1) (k+1),by omega,Co.keep _ (by simp [x_upd,x_look]),es,some e',_,_,_,_,hlt,rfl,rfl,hI',?_⟩
    refine ⟨R,.ref p (e.ins.length+1) 0 (e.ins.length+1) true,some p,by rw [hE];exact hp_gs (by simpa using hl0),hR.keep fun p' l hp hq=>⟨hp_gn (blk_ne h0 hp (by simp)) (by rw [zM (fun hh=>hq (by rw [hh]))];exact hp),hq⟩,.inr ⟨p,by rw [hle],by rw [hin];exact hp_gn (Ne.symm p0) (zN hlp),rfl⟩⟩
 ·have hle:k=w.length:=by simp at hc;omega
  have he:=hI.e
  rw [hle,hwS,List.drop_length,edG] at he
  have hS:=hS.close
  rw [he] at hS
  have hlen:es.length+cur.toList.length=(scriptE a b).length:=by rw [← he,zb]
  simp only [xq,reduceIte,qE,qA,qL,qD]
  refine wR ?_;simp only [xq,reduceIte,qE,qA,qL,qD]
  refine W_ret (.frz ?_)
  simp only [xq,reduceIte,qE,qA,qL,qD,hlen]
  exact hS.frz
end Go.Proofs.YtigfbnglplbbpaaGreatDoor.Nx
namespace Go.Proofs.YtigfbnglplbbpaaGreatDoor.Nx
open Go
variable {P:Program} {N:Nat} {Γ:Tabs}
def numG (l:List Gl) (x:Gl):Int:=((l.findIdx fun y=>decide (y=x):Nat):Int)
theorem numG_eq {l:List Gl} {x:Gl} {j:Nat} (hj:j<l.length) (he:l[j]=x) (hlt:∀ (k:Nat) (hk:k<j),l[k]≠x):numG l x=j:=by
 unfold numG
 congr 1
 rw [List.findIdx_eq hj]
 exact ⟨decide_eq_true he,fun k hk=>decide_eq_false (hlt k hk)⟩
theorem numG_sep {a b:List Gl}:Sep (numG (a++b)) a b:=by
 intro x hx y hy
 refine ⟨fun h=>?_,fun h=>by rw [h]⟩
 have h1:(a++b).findIdx (fun z=>decide (z=x))<(a++b).length:=List.findIdx_lt_length_of_exists ⟨x,List.mem_append_left _ hx,by simp⟩
 have h2:(a++b).findIdx (fun z=>decide (z=y))<(a++b).length:=List.findIdx_lt_length_of_exists ⟨y,List.mem_append_right _ hy,by simp⟩
 have e1:=List.findIdx_getElem (w:=h1)
 have e2:=List.findIdx_getElem (w:=h2)
 simp only [decide_eq_true_eq] at e1 e2
 unfold numG at h
 have h:(a++b).findIdx (fun z=>decide (z=x))=(a++b).findIdx (fun z=>decide (z=y)):=by omega
 rw [← e1,← e2]
 simp only [h]
theorem nuRows_snoc {g:Gl→Int} {l:List Gl} {x:Gl}:nuRows g (l++[x])=nuRows g l++[[.sc (.int .i64 (g x))]]:=by simp [nuRows]
theorem nuRows_app {g:Gl→Int} {a b:List Gl}:nuRows g (a++b)=nuRows g a++nuRows g b:=by simp [nuRows]
def numA (a b:List Gl):A:=.tup [.d (.sl eInt (nuRows (numG (a++b)) a)),.d (.sl eInt (nuRows (numG (a++b)) b))]
set_option maxHeartbeats 2000000 in
theorem numbers17_fn {f:FuncId} (H:FnIs P f N [.t 4,.t 5] x_ref17_numbers) (hN:2≤N) (a b:List Gl) (ha:a.length≤50000) (hb:b.length≤50000):FnP Γ P f [.d (.sl eGl (glRows a)),.d (.sl eGl (glRows b))] (numA a b):=by
 refine .of_W H (by simpa using hN) ?_
 obtain ⟨l,hld⟩:∃ l,l=a++b:=⟨_,rfl⟩
 have hll:l.length=a.length+b.length:=by rw [hld,zb]
 unfold x_ref17_numbers
 refine wR ?_;simp only [xq,reduceIte,qE,qA,qL,qD]
 refine wR ?_;simp only [xq,reduceIte,qE,qA,qL,qD,glRows_len]
 repeat refine And.intro (by first | omega | (simp only [room];omega) | (simp only [maxLen];omega)) ?_
 refine W_co (s':=⟨look [(0,.d (.sl eGl (glRows a))),(1,.d (.sl eGl (glRows b))),(6,.d (.sl eGl (glRows l)))],[]⟩) (Co.frz _ 0 ?_ (zI _) (zI _) (by simp)) ?_
 ·intro p hp
  simp only [List.mem_cons,List.not_mem_nil,or_false] at hp
  rcases hp with rfl | rfl | rfl
  ·exact .same rfl
  ·exact .same rfl
  ·simp only [x_upd,reduceIte,qE]
   have:=frz_all (id:=0) (full:=true) (e:=eGl) (rows:=glRows l) (h:=[.cells eGl ((glRows a++glRows b).map fun r=>r.map A.d)]) (by rw [hld];simp [glRows])
   rw [glRows_len,List.map_append,hll] at this
   exact this
 refine wR ?_;simp only [xq,reduceIte,qE,qA,qL,qD]
 refine W_seq ?_
 refine wR ?_;simp only [xq,reduceIte,qE,qA,qL,qD]
 refine W_block ?_
 let S:A→Heap→Nat→St:=fun x t i=>⟨look [(0,.d (.sl eGl (glRows a))),(1,.d (.sl eGl (glRows b))),(6,.d (.sl eGl (glRows l))),(7,x),(8,.int i)],t⟩
 refine W_co (s':=S (.ref 0 0 0 0 true) [nuB (numG l) []] 0) (Co.keep _ (by simp [x_upd,x_look])) ?_
 refine W_loop (fun m s=>∃ i q t,i≤l.length∧m=l.length-i∧s=S (.ref q i 0 i true) t i∧t[q]? = some (nuB (numG l) (l.take i))) ⟨0,0,_,zI _,rfl,rfl,rfl⟩ ?_
 rintro m s ⟨i,q,t,hi,rfl,rfl,hq⟩
 simp only [S]
 refine W_seq ?_
 refine wR ?_;simp only [xq,reduceIte,qE,qA,qL,qD,glRows_len]
 refine W_cond rfl (fun hc=>W_skip ?_) (fun hc=>W_exit ?_)
 ·have hlt:i<l.length:=by simpa using hc
  have w1:IntKind.i64.wrap ((i:Int)+1)=((i+1:Nat):Int):=by rw [i64_of (by omega)];omega
  have hql:=(zA.1 hq).1
  simp only [xq,reduceIte,qE,qA,qL,qD]
  refine W_seq (W_block ?_)
  refine wR ?_;simp only [xq,reduceIte,qE,qA,qL,qD]
  let T:Int→Nat→St:=fun n j=>⟨look [(0,.d (.sl eGl (glRows a))),(1,.d (.sl eGl (glRows b))),(6,.d (.sl eGl (glRows l))),(7,.ref q i 0 i true),(8,.int i),(9,.int n),(10,.int j)],t⟩
  refine W_cut (fun s'=>∃ j,s'=T (numG l l[i]) j) ?_ ?_
  ·refine wR ?_;simp only [xq,reduceIte,qE,qA,qL,qD]
   refine W_block ?_
   refine W_co (s':=T i 0) (Co.keep _ (by simp [x_upd,x_look])) ?_
   refine W_loop (fun m s=>∃ j,j≤i∧m=i-j∧s=T i j∧∀ (k:Nat) (hk:k<j) (hk2:k<l.length),l[k]≠l[i]) ⟨0,zI _,rfl,rfl,fun k hk=>absurd hk (Nat.not_lt_zero k)⟩ ?_
   rintro m s ⟨j,hj,rfl,rfl,hno⟩
   simp only [T]
   refine W_seq ?_
   refine wR ?_;simp only [xq,reduceIte,qE,qA,qL,qD]
   refine W_cond rfl (fun hc=>W_skip ?_) (fun hc=>W_exit ?_)
   ·have hjl:j<i:=by have:=of_decide_eq_true hc;omega
    have hjl2:j<l.length:=by omega
    have w2:IntKind.i64.wrap ((j:Int)+1)=((j+1:Nat):Int):=by rw [i64_of (by omega)];omega
    simp only [xq,reduceIte,qE,qA,qL,qD]
    refine W_seq (W_block ?_)
    refine W_seq (W_drw (by simp) ?_)
    simp only [xq,reduceIte,qE,qA,qL,qD,glRows_get hlt,glRows_get hjl2,Gl.row,gl_eq,glRows_len,zQ]
    repeat refine And.intro (by omega) ?_
    refine W_cond rfl (fun hd=>?_) (fun hd=>W_skip ?_)
    ·have hd:l[j]=l[i]:=by simpa using hd
     have hn:numG l l[i]=j:=numG_eq hjl2 hd fun k hk=>hno k hk (by omega)
     refine wR ?_;simp only [xq,reduceIte,qE,qA,qL,qD]
     refine W_exit ?_
     simp only [xq,reduceIte,qE,qA,qL,qD]
     exact ⟨_,Co.keep _ (by simp [x_upd,x_look,hn]),j,rfl⟩
    ·have hd:¬ l[j]=l[i]:=by simpa using hd
     simp only [xq,reduceIte,qE,qA,qL,qD]
     refine W_reg ?_;simp only [xq,reduceIte,qE,qA,qL,qD,w2]
     refine ⟨i-(j+1),T i (j+1),by omega,Co.keep _ (by simp [x_upd,x_look]),j+1,hjl,rfl,rfl,fun k hk hk2=>?_⟩
     rcases Nat.lt_or_ge k j with h | h
     ·exact hno k h hk2
     ·have:k=j:=by omega
      subst this;exact hd
   ·have hji:j=i:=by have:=of_decide_eq_false hc;omega
    subst hji
    have hn:numG l l[j]=j:=numG_eq hlt rfl fun k hk=>hno k hk (by omega)
    simp only [xq,reduceIte,qE,qA,qL,qD]
    exact ⟨_,Co.keep _ (by simp [x_upd,x_look,hn]),j,rfl⟩
  rintro _ ⟨j,rfl⟩
  have gq:∀ t':Heap,(t++t')[q]? = some (nuB (numG l) (l.take i)):=fun t'=>hp_gl hq
  have sq:∀ (t':Heap) X,(t++t').set q X=t.set q X++t':=fun t' X=>zu _ _ hql
  have htl:(l.take i).length=i:=by rw [List.length_take];omega
  simp only [T]
  refine W_reg ?_;simp only [xq,reduceIte,qE,qA,qL,qD,zS,hp_g0,gq,sq,nuRows_len,htl]
  repeat refine And.intro (by first | omega | (simp only [room];omega) | (simp only [maxLen];omega)) ?_
  refine W_reg ?_;simp only [xq,reduceIte,qE,qA,qL,qD,w1]
  have hB:nuB (numG l) (l.take (i+1)) = .cells eInt ((nuRows (numG l) (l.take i)).map (fun r=>r.map A.d)++[[.int (numG l l[i])]]):=by
   rw [List.take_add_one,zB hlt,Option.toList_some,nuB,nuRows_snoc,List.map_append];rfl
  refine ⟨l.length-(i+1),S (.ref q (i+1) 0 (i+1) true) (t.set q (.cells eInt ((nuRows (numG l) (l.take i)).map (fun r=>r.map A.d)++[[.int (numG l l[i])]]))++[.cells eInt [[.int (numG l l[i])]]]) (i+1),by omega,Co.keep _ (by simp [x_upd,x_look]),i+1,q,_,hlt,rfl,rfl,?_⟩
  rw [hB];exact hp_gs hql
 ·have hle:i=l.length:=by simp at hc;omega
  subst hle
  rw [List.take_length] at hq
  simp only [xq,reduceIte,qE,qA,qL,qD]
  refine W_seq (W_drw (by simp) ?_)
  simp only [xq,reduceIte,qE,qA,qL,qD,glRows_len,zQ,hq,zg,nuRows_len]
  repeat refine And.intro (by first | omega | (simp only [room];omega) | (simp only [maxLen];omega)) ?_
  refine W_ret ⟨.inr rfl,?_⟩
  simp only [readRs,readR,single,x_upd,reduceIte,qE]
  have f1:=frz_rows (k:=0) (off:=0) (len:=a.length) (full:=true) (e:=eInt) (rows:=nuRows (numG l) l) (zI q) hq (by rw [nuRows_len];omega)
  have f2:=frz_rows (k:=0) (off:=a.length) (len:=b.length) (full:=true) (e:=eInt) (rows:=nuRows (numG l) l) (zI q) hq (by rw [nuRows_len];omega)
  have e1:((nuRows (numG l) l).drop 0).take a.length=nuRows (numG (a++b)) a:=by
   rw [hld,nuRows_app,List.drop_zero,List.take_append_of_le_length (by rw [nuRows_len];exact zL _),List.take_of_length_le (by rw [nuRows_len];exact zL _)]
  have e2:((nuRows (numG l) l).drop a.length).take b.length=nuRows (numG (a++b)) b:=by
   rw [hld,nuRows_app,List.drop_append_of_le_length (by rw [nuRows_len];exact zL _),List.drop_of_length_le (by rw [nuRows_len];exact zL _),List.nil_append,List.take_of_length_le (by rw [nuRows_len];exact zL _)]
  rw [e1,nuRows_len] at f1
  rw [e2,nuRows_len] at f2
  rw [show ((a.length:Int)-((0:Nat):Int)).toNat=a.length by omega,show ((l.length:Int)-(a.length:Int)).toNat=b.length by omega]
  unfold numA
  refine .tup rfl fun k y hk=>?_
  rcases k with _ | _ | k
  ·cases hk;exact f1
  ·cases hk;exact f2
  ·simp at hk
end Go.Proofs.YtigfbnglplbbpaaGreatDoor.Nx

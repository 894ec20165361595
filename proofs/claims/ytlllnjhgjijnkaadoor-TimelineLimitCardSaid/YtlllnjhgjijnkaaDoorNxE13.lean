import Derived.Test.YtlllnjhgjijnkaaDoorNxE6
import Derived.Test.YtlllnjhgjijnkaaDoorNxH0
set_option linter.unusedSimpArgs false
set_option linter.unusedVariables false
set_option linter.unnecessarySimpa false
open List renaming getElem?_eq_some_iff → zA, getD_eq_getElem?_getD → zC, getElem?_map → zK, drop_eq_getElem_cons → zd, getElem?_range → zj, getElem?_eq_none → zk
open Nat renaming zero_le → zI, le_refl → zL
open Int renaming toNat_natCast → zQ
open Nat renaming reduceEqDiff → qE, reduceAdd → qA, reduceLT → qL, reduceLeDiff → qD
namespace Go.Proofs.YtlllnjhgjijnkaaDoor.Nx
open Go
variable {P:Program} {N:Nat} {Γ:Tabs}
def cgRows (l:List Cg):List (List D):=l.map Cg.ds
theorem cgRows_len {l:List Cg}:(cgRows l).length=l.length:=by simp [cgRows]
theorem cgRows_get {l:List Cg} {i:Nat} (hi:i<l.length):(cgRows l).getD i []=l[i].ds:=by
 rw [cgRows,zC,zK,List.getElem?_eq_getElem hi];rfl
abbrev cgsA (l:List Cg):A:=.d (.sl eCg (cgRows l))
structure CgOk (c:Cg):Prop where
 len:c.gl.length≤1000
 txt:∀ g∈c.gl,g.text.size≤1000
def RunOk:Vw→List Cg→Prop
 | v,[]=>Sm v 50000
 | v,c::l=>Sm v 50000∧(chgC v c=0→RunOk (stepV v c) l)
theorem RunOk.sm {v:Vw} {l:List Cg} (h:RunOk v l):Sm v 50000:=by
 cases l with
 | nil=>exact h
 | cons c l=>exact h.1
theorem EdIs.setOther {h:Heap} {id:Nat} {v:Vw} {k:Nat} {R:List (List A)} (e:EdIs h id v k R) {q:Nat} {rows:List (List A)} {X:HB} (hq:h[q]? = some (.cells eVw rows)) (hne:id≠q):EdIs (h.set q X) id v k R:=by
 have up:∀ {p:Nat} {e':Elt} {l:List (List A)},h[p]? = some (.cells e' l)→e'.sz≠6∨p≠q→(h.set q X)[p]? = some (.cells e' l):=fun {p e' l} hp hor=>by
  have:q≠p:=by
   rintro rfl
   rw [hq] at hp
   cases hp
   rcases hor with h1 | h1
   ·exact h1 rfl
   ·exact h1 rfl
  rw [List.getElem?_set_ne this];exact hp
 refine ⟨up e.hid (.inr hne),up e.hk (.inl (by decide)),e.len,fun i r hr=>?_,e.dis⟩
 obtain ⟨x,h1,h2⟩:=e.row i r hr
 refine ⟨x,h1,?_⟩
 rcases h2 with h2 | ⟨b,h2,h3⟩
 ·exact .inl h2
 ·exact .inr ⟨b,h2,up h3 (.inl (by decide))⟩
def apA (x:Vw × Int × Int):A:=.tup [vwA x.1,.int x.2.1,.int x.2.2]
abbrev zrow:List A:=[.int 0,.int 0,.nil,.int 0,.int 0,.bool false]
abbrev zeroB:HB:=.cells eVw [zrow]
theorem flat_sc' {n:Int}:FlatA (.int n):=flat_sc
end Go.Proofs.YtlllnjhgjijnkaaDoor.Nx
namespace Go.Proofs.YtlllnjhgjijnkaaDoor.Nx
open Go
variable {P:Program} {N:Nat} {Γ:Tabs}
abbrev eInt:Elt:=⟨1,8⟩
def lcsAt (a b:List Gl) (i j:Nat):Nat:=lcsN (a.drop i) (b.drop j)
theorem lcsAt_a {a b:List Gl} {j:Nat}:lcsAt a b a.length j=0:=by simp [lcsAt,lcsN]
theorem lcs_nil (l:List Gl):lcsN l []=0:=by cases l<;>rfl
theorem lcsAt_b {a b:List Gl} {i:Nat}:lcsAt a b i b.length=0:=by rw [lcsAt,List.drop_length,lcs_nil]
theorem lcsAt_step {a b:List Gl} {i j:Nat} (hi:i<a.length) (hj:j<b.length):lcsAt a b i j=if a[i]=b[j] then 1+lcsAt a b (i+1) (j+1) else max (lcsAt a b (i+1) j) (lcsAt a b i (j+1)):=by
 have e1:=zd hi
 have e2:=zd hj
 simp only [lcsAt]
 rw [e1,e2]
 rfl
theorem lcs_le:∀ (n:Nat) (a b:List Gl),a.length+b.length≤n→lcsN a b≤a.length∧lcsN a b≤b.length
 | _,[],_,_=>by simp [lcsN]
 | _,_::_,[],_=>by simp [lcsN,lcsG]
 | 0,_::_,_::_,h=>by simp at h
 | n+1,x::a,y::b,h=>by
  simp only [List.length_cons] at h
  have h1:=lcs_le n a b (by omega)
  have h2:=lcs_le n a (y::b) (by simp;omega)
  have h3:=lcs_le n (x::a) b (by simp;omega)
  simp only [lcsN] at h3 ⊢
  simp only [lcsG,List.length_cons] at *
  split<;>omega
theorem lcsAt_le {a b:List Gl} {i j:Nat}:lcsAt a b i j≤a.length:=by
 have:=(lcs_le _ (a.drop i) (b.drop j) (zL _)).1
 rw [List.length_drop] at this
 simp only [lcsAt];omega
def lenRow (a b:List Gl) (i j q:Nat):List A:=[.int (if j≤q then (lcsAt a b i q:Nat) else 0:Nat)]
def lenB (a b:List Gl) (i j:Nat):HB:=.cells eInt ((List.range (b.length+1)).map (lenRow a b i j))
def lenR (a b:List Gl) (i j:Nat):List A:=if j<i then [.nil] else [.ref (1+(a.length-j)) (b.length+1) 0 (b.length+1) true]
def lenO (a b:List Gl) (i:Nat):List (List A):=(List.range (a.length+1)).map (lenR a b i)
def lenH (a b:List Gl) (i:Nat):Heap:=(List.range (a.length+1-i)).map fun t=>lenB a b (a.length-t) 0
theorem lenO_len {a b:List Gl} {i:Nat}:(lenO a b i).length=a.length+1:=by simp [lenO]
theorem lenH_len {a b:List Gl} {i:Nat}:(lenH a b i).length=a.length+1-i:=by simp [lenH]
theorem lenO_get {a b:List Gl} {i j:Nat} (hj:j<a.length+1):(lenO a b i)[j]? = some (lenR a b i j):=by
 rw [lenO,zK,zj hj];rfl
theorem lenO_set {a b:List Gl} {i:Nat} (hi:i<a.length+1):(lenO a b (i+1)).set i [.ref (1+(a.length-i)) (b.length+1) 0 (b.length+1) true]=lenO a b i:=by
 apply List.ext_getElem?
 intro j
 rw [List.getElem?_set]
 by_cases hij:i=j
 ·subst hij
  rw [if_pos rfl,if_pos (by rw [lenO_len];exact hi),lenO_get hi,lenR,if_neg (by omega)]
 ·rw [if_neg hij]
  by_cases hj:j<a.length+1
  ·rw [lenO_get hj,lenO_get hj]
   simp only [lenR]
   by_cases h1:j<i
   ·rw [if_pos h1,if_pos (by omega)]
   ·rw [if_neg h1,if_neg (by omega)]
  ·rw [zk (by rw [lenO_len];omega),zk (by rw [lenO_len];omega)]
theorem lenB_zero {a b:List Gl} {i:Nat}:lenB a b i b.length = .cells eInt (List.replicate (b.length+1) [.int 0]):=by
 rw [lenB]
 congr 1
 apply List.ext_getElem?
 intro q
 by_cases hq:q<b.length+1
 ·rw [zK,zj hq,List.getElem?_replicate,if_pos hq]
  simp only [Option.map_some,lenRow]
  split
  ·have:q=b.length:=by omega
   subst this;rw [lcsAt_b];rfl
  ·rfl
 ·rw [zk (by simp;omega),zk (by simp;omega)]
theorem lenB_a {a b:List Gl} {j:Nat}:lenB a b a.length j = .cells eInt (List.replicate (b.length+1) [.int 0]):=by
 rw [lenB]
 congr 1
 apply List.ext_getElem?
 intro q
 by_cases hq:q<b.length+1
 ·rw [zK,zj hq,List.getElem?_replicate,if_pos hq]
  simp only [Option.map_some,lenRow,lcsAt_a,ite_self];rfl
 ·rw [zk (by simp;omega),zk (by simp;omega)]
theorem lenRow_get {a b:List Gl} {i j q:Nat} (hq:q<b.length+1):((List.range (b.length+1)).map (lenRow a b i j))[q]? = some (lenRow a b i j q):=by
 rw [zK,zj hq];rfl
theorem lenRow_set {a b:List Gl} {i j:Nat} (hj:j<b.length):((List.range (b.length+1)).map (lenRow a b i (j+1))).set j [.int (lcsAt a b i j:Nat)]=(List.range (b.length+1)).map (lenRow a b i j):=by
 apply List.ext_getElem?
 intro q
 rw [List.getElem?_set]
 by_cases hq:j=q
 ·subst hq
  rw [if_pos rfl,if_pos (by simp;omega),lenRow_get (by omega),lenRow,if_pos (zL _)]
 ·rw [if_neg hq]
  by_cases hq2:q<b.length+1
  ·rw [lenRow_get hq2,lenRow_get hq2]
   simp only [lenRow]
   by_cases h1:j≤q
   ·rw [if_pos (by omega),if_pos h1]
   ·rw [if_neg (by omega),if_neg h1]
  ·rw [zk (by simp;omega),zk (by simp;omega)]
theorem lenH_get {a b:List Gl} {i p:Nat} (hp:i≤p) (hpa:p≤a.length):(lenH a b i)[a.length-p]? = some (lenB a b p 0):=by
 rw [lenH,zK,zj (by omega),Option.map_some]
 congr 2;omega
theorem lenH_snoc {a b:List Gl} {i:Nat} (hi:i≤a.length):lenH a b (i+1)++[lenB a b i 0]=lenH a b i:=by
 have e:a.length+1-i=(a.length+1-(i+1))+1:=by omega
 rw [lenH,lenH,e,List.range_succ,List.map_append]
 congr 2
 simp only [List.map_cons,List.map_nil]
 congr 2;omega
theorem lenRow_ge {a b:List Gl} {i j q:Nat} (hj:j≤q) (hq:q<b.length+1):((List.range (b.length+1)).map (lenRow a b i j))[q]? = some [.int (lcsAt a b i q:Nat)]:=by
 rw [lenRow_get hq,lenRow,if_pos hj]
theorem lenO_ge {a b:List Gl} {i j:Nat} (hj:i≤j) (hja:j<a.length+1):(lenO a b i)[j]? = some [.ref (1+(a.length-j)) (b.length+1) 0 (b.length+1) true]:=by
 rw [lenO_get hja,lenR,if_neg (by omega)]
theorem lenO_nil {a b:List Gl}:lenO a b (a.length+1)=List.replicate (a.length+1) [.nil]:=by
 apply List.ext_getElem?
 intro j
 by_cases hj:j<a.length+1
 ·rw [lenO_get hj,lenR,if_pos hj,List.getElem?_replicate,if_pos hj]
 ·rw [zk (by rw [lenO_len];omega),zk (by simp;omega)]
theorem lenH_a {a b:List Gl}:lenH a b a.length=[.cells eInt (List.replicate (b.length+1) [.int 0])]:=by
 rw [lenH,show a.length+1-a.length=1 by omega]
 simp only [List.range_one,List.map_cons,List.map_nil,Nat.sub_zero,lenB_a]
def lenD (a b:List Gl):List (List D):=(List.range (a.length+1)).map fun i=>[.sl eInt ((List.range (b.length+1)).map fun j=>[.sc (.int .i64 (lcsAt a b i j:Nat))])]
set_option maxHeartbeats 2000000 in
theorem lengths_fn {f:FuncId} (H:FnIs P f N [.t 4] x_editscript_lengths_365) (hN:2≤N) (a b:List Gl) (ha:a.length≤50000) (hb:b.length≤50000):FnP Γ P f [.d (.sl eGl (glRows a)),.d (.sl eGl (glRows b))] (.d (.sl eRw (lenD a b))):=by
 refine .of_W H (by simpa using hN) ?_
 obtain ⟨na,hna⟩:∃ k,k=a.length+1:=⟨_,rfl⟩
 obtain ⟨nb,hnb⟩:∃ k,k=b.length+1:=⟨_,rfl⟩
 have wa:IntKind.i64.wrap ((a.length:Int)+1)=(na:Int):=by rw [i64_of (by omega)];omega
 have wb:IntKind.i64.wrap ((b.length:Int)+1)=(nb:Int):=by rw [i64_of (by omega)];omega
 have wa1:IntKind.i64.wrap ((a.length:Int)-1)=(a.length:Int)-1:=i64_of (by omega)
 have wb1:IntKind.i64.wrap ((b.length:Int)-1)=(b.length:Int)-1:=i64_of (by omega)
 have r24:(na:Int) * ((24:Nat):Int)≤((room:Nat):Int):=by simp only [room];omega
 have r8:(nb:Int) * ((8:Nat):Int)≤((room:Nat):Int):=by simp only [room];omega
 unfold x_editscript_lengths_365
 refine wR ?_;simp only [xq,reduceIte,qE,qA,qL,qD]
 refine wR ?_;simp only [xq,reduceIte,qE,qA,qL,qD,glRows_len,wa,zQ]
 refine ⟨by omega,by omega,by omega,r24,?_⟩
 have hr0:(List.replicate na [A.nil])[a.length]? = some [A.nil]:=by rw [List.getElem?_replicate,if_pos (by omega)]
 have hO:(List.replicate na [A.nil]).set a.length [.ref 1 nb 0 nb true]=lenO a b a.length:=by
  rw [hna,hnb,← lenO_nil (b:=b),← lenO_set (b:=b) (Nat.lt_succ_self _),Nat.sub_self]
 have hH:[HB.cells eInt (List.replicate nb [A.int 0])]=lenH a b a.length:=by rw [lenH_a,hnb]
 refine wR ?_;simp only [xq,reduceIte,qE,qA,qL,qD,glRows_len,wb,wa,zQ,List.length_replicate,hr0]
 refine ⟨by omega,by omega,by omega,r8,?_⟩
 repeat refine And.intro (by omega) ?_
 refine W_seq ?_
 refine wR ?_;simp only [xq,reduceIte,qE,qA,qL,qD,glRows_len,wa1]
 refine W_block ?_
 let da:A:=.d (.sl eGl (glRows a))
 let db:A:=.d (.sl eGl (glRows b))
 let S:Nat→St:=fun i=>⟨look [(0,da),(1,db),(5,.ref 0 na 0 na true),(6,.int ((i:Int)-1))],.cells eRw (lenO a b i)::lenH a b i⟩
 refine W_co (s':=S a.length) ?_ ?_
 ·simp only [S,da,db,← hO,← hH]
  exact Co.keep _ (by simp [x_upd,x_look])
 refine W_loop (fun m s=>∃ i,i≤a.length∧m=i∧s=S i) ⟨a.length,zL _,rfl,rfl⟩ ?_
 rintro m s ⟨i,hi,rfl,rfl⟩
 simp only [S,da,db]
 refine W_seq ?_
 refine wR ?_;simp only [xq,reduceIte,qE,qA,qL,qD]
 refine W_cond rfl (fun hc=>W_skip ?_) (fun hc=>W_exit ?_)
 ·obtain ⟨p,rfl⟩:∃ p,m=p+1:=⟨m-1,by simp at hc;omega⟩
  have e0:(((p+1:Nat):Int)-1)=(p:Int):=by omega
  have e1:(lenH a b (p+1)).length+1=1+(a.length-p):=by rw [lenH_len];omega
  have hp:p<a.length:=hi
  simp only [xq,reduceIte,qE,qA,qL,qD,e0]
  obtain ⟨q,hq⟩:∃ q,q=1+(a.length-p):=⟨_,rfl⟩
  obtain ⟨Hq,hHq⟩:∃ Hq:Nat→Heap,∀ j,Hq j = .cells eRw (lenO a b p)::(lenH a b (p+1)++[lenB a b p j]):=⟨_,fun _=>rfl⟩
  have g0:∀ j,(Hq j)[0]? = some (.cells eRw (lenO a b p)):=fun j=>by rw [hHq];rfl
  have gq:∀ j,(Hq j)[q]? = some (lenB a b p j):=fun j=>by
   rw [hHq,hq,Nat.add_comm 1,List.getElem?_cons_succ,List.getElem?_append_right (by rw [lenH_len];omega),lenH_len,show a.length-p-(a.length+1-(p+1))=0 by omega];rfl
  have gp:∀ j,(Hq j)[1+(a.length-(p+1))]? = some (lenB a b (p+1) 0):=fun j=>by
   rw [hHq,Nat.add_comm 1 (a.length-(p+1)),List.getElem?_cons_succ,List.getElem?_append_left (by rw [lenH_len];omega),lenH_get (zL _) hp]
  have sq:∀ j X,(Hq j).set q X = .cells eRw (lenO a b p)::(lenH a b (p+1)++[X]):=fun j X=>by
   rw [hHq,hq,Nat.add_comm 1,List.set_cons_succ,List.set_append_right _ _ (by rw [lenH_len];omega),lenH_len,show a.length-p-(a.length+1-(p+1))=0 by omega];rfl
  have op1:(lenO a b p)[p]? = some [.ref q nb 0 nb true]:=by rw [lenO_ge (zL _) (by omega),hq,hnb]
  have op2:(lenO a b p)[p+1]? = some [.ref (1+(a.length-(p+1))) nb 0 nb true]:=by rw [lenO_ge (by omega) (by omega),hnb]
  have og:(lenO a b (p+1))[p]? = some [.nil]:=by rw [lenO_get (by omega),lenR,if_pos (Nat.lt_succ_self p)]
  have os:(lenO a b (p+1)).set p [.ref q nb 0 nb true]=lenO a b p:=by rw [hq,hnb,lenO_set (by omega)]
  refine W_seq (W_block ?_)
  refine wR ?_;simp only [xq,reduceIte,qE,qA,qL,qD,glRows_len,wb,zQ,e1,← hq,lenO_len,og]
  refine ⟨by omega,by omega,by omega,r8,?_⟩
  repeat refine And.intro (by omega) ?_
  refine wR ?_;simp only [xq,reduceIte,qE,qA,qL,qD,glRows_len,wb1]
  let S2:Nat→St:=fun j=>⟨look [(0,da),(1,db),(5,.ref 0 na 0 na true),(6,.int p),(7,.int ((j:Int)-1))],Hq j⟩
  have hstart:HB.cells eRw ((lenO a b (p+1)).set p [A.ref q nb 0 nb true])::(lenH a b (p+1)++[HB.cells { sz:=1,bytes:=8 } (List.replicate nb [A.int 0])])=Hq b.length:=by
   rw [hHq,os,lenB_zero,hnb]
  refine W_block ?_
  refine W_co (s':=S2 b.length) ?_ ?_
  ·simp only [S2,da,db,← hstart]
   exact Co.keep _ (by simp [x_upd,x_look])
  refine W_loop (fun m s=>∃ j,j≤b.length∧m=j∧s=S2 j) ⟨b.length,zL _,rfl,rfl⟩ ?_
  rintro m s ⟨j,hj,rfl,rfl⟩
  simp only [S2,da,db]
  refine W_seq ?_
  refine wR ?_;simp only [xq,reduceIte,qE,qA,qL,qD]
  refine W_cond rfl (fun hc=>W_skip ?_) (fun hc=>W_exit ?_)
  ·obtain ⟨u,rfl⟩:∃ u,m=u+1:=⟨m-1,by simp at hc;omega⟩
   have e2:(((u+1:Nat):Int)-1)=(u:Int):=by omega
   have hu:u<b.length:=hj
   have wp:IntKind.i64.wrap ((p:Int)+1)=((p+1:Nat):Int):=by rw [i64_of (by omega)];omega
   have wu:IntKind.i64.wrap ((u:Int)+1)=((u+1:Nat):Int):=by rw [i64_of (by omega)];omega
   have wu1:IntKind.i64.wrap ((u:Int)-1)=(u:Int)-1:=i64_of (by omega)
   have l1:=lenRow_ge (a:=a) (b:=b) (i:=p+1) (j:=0) (q:=u+1) (zI _) (by omega)
   have l2:=lenRow_ge (a:=a) (b:=b) (i:=p+1) (j:=0) (q:=u) (zI _) (by omega)
   have l3:=lenRow_ge (a:=a) (b:=b) (i:=p) (j:=u+1) (q:=u+1) (zL _) (by omega)
   have l4:((List.range (b.length+1)).map (lenRow a b p (u+1)))[u]? = some [.int ((0:Nat):Int)]:=by
    rw [lenRow_get (by omega),lenRow,if_neg (by omega)]
   have hset:=lenRow_set (a:=a) (b:=b) (i:=p) hu
   have hst:=lcsAt_step (a:=a) (b:=b) hp hu
   have hle:=lcsAt_le (a:=a) (b:=b) (i:=p+1) (j:=u+1)
   have key:∀ X:HB,X=lenB a b p u→(Hq (u+1)).set q X=Hq u:=fun X hX=>by rw [sq,hHq,hX]
   have hnxt:∀ (sl:Nat→A) (X:HB),X=lenB a b p u→sl 0=da→sl 1=db→sl 5 = .ref 0 na 0 na true→sl 6 = .int p→sl 7 = .int ((u:Int)-1)→Co 0 ⟨sl,(Hq (u+1)).set q X⟩ (S2 u):=fun sl X hX k0 k1 k5 k6 k7=>by
    rw [key X hX]
    exact Co.keep _ (by simp [k0,k1,k5,k6,k7])
   simp only [xq,reduceIte,qE,qA,qL,qD,e2]
   refine W_seq (W_block ?_)
   refine W_seq (W_drw (by simp) ?_)
   simp only [xq,reduceIte,qE,qA,qL,qD,glRows_get hp,glRows_get hu,Gl.row,gl_eq,glRows_len,zQ]
   repeat refine And.intro (by omega) ?_
   refine W_cond rfl (fun hd=>?_) (fun hd=>?_)
   ·have hd:a[p]=b[u]:=by simpa using hd
    rw [if_pos hd] at hst
    have wv:IntKind.i64.wrap (1+((lcsAt a b (p+1) (u+1):Nat):Int))=((lcsAt a b p u:Nat):Int):=by rw [i64_of (by omega)];omega
    refine W_drw (by simp) ?_
    simp only [xq,reduceIte,qE,qA,qL,qD,g0,gq,gp,lenB,lenO_len,op1,op2,l1,l2,l3,l4,wp,wu,wv,zQ,List.length_map,List.length_range]
    repeat refine And.intro (by omega) ?_
    refine W_reg ?_;simp only [xq,reduceIte,qE,qA,qL,qD,wu1]
    exact ⟨u,S2 u,by omega,hnxt _ _ (by rw [hset];rfl) rfl rfl rfl rfl rfl,u,by omega,rfl,rfl⟩
   ·have hd:¬ a[p]=b[u]:=by simpa using hd
    rw [if_neg hd] at hst
    have wv:minmaxInt true ((lcsAt a b (p+1) u:Nat):Int) ((lcsAt a b p (u+1):Nat):Int)=((lcsAt a b p u:Nat):Int):=by
     simp only [minmaxInt,if_true];split<;>omega
    refine W_drw (by simp) ?_
    simp only [xq,reduceIte,qE,qA,qL,qD,g0,gq,gp,lenB,lenO_len,op1,op2,l1,l2,l3,l4,wp,wu,wv,zQ,List.length_map,List.length_range]
    repeat refine And.intro (by omega) ?_
    refine W_reg ?_;simp only [xq,reduceIte,qE,qA,qL,qD,wu1]
    exact ⟨u,S2 u,by omega,hnxt _ _ (by rw [hset];rfl) rfl rfl rfl rfl rfl,u,by omega,rfl,rfl⟩
  ·have hm:m=0:=by simp at hc;omega
   subst hm
   have wp1:IntKind.i64.wrap ((p:Int)-1)=(p:Int)-1:=i64_of (by omega)
   simp only [xq,reduceIte,qE,qA,qL,qD]
   refine W_reg ?_;simp only [xq,reduceIte,qE,qA,qL,qD,wp1]
   refine ⟨p,S p,by omega,?_,p,by omega,rfl,rfl⟩
   have:Hq 0=HB.cells eRw (lenO a b p)::lenH a b p:=by rw [hHq,lenH_snoc (by omega)]
   simp only [S,da,db,← this]
   exact Co.keep _ (by simp [x_upd,x_look])
 ·have hm:m=0:=by simp at hc;omega
  subst hm
  simp only [xq,reduceIte,qE,qA,qL,qD]
  refine wR ?_;simp only [xq,reduceIte,qE,qA,qL,qD]
  refine W_ret (.frz ?_)
  simp only [xq,reduceIte,qE,qA,qL,qD]
  have hNa:na=(lenO a b 0).length:=by rw [lenO_len,hna]
  have hrow:∀ i r,(lenD a b)[i]? = some r→i<a.length+1∧r=[.sl eInt ((List.range (b.length+1)).map fun j=>[.sc (.int .i64 (lcsAt a b i j:Nat))])]:=by
   intro i r hi
   have hlt:i<a.length+1:=by have:=(zA.1 hi).1;simpa [lenD] using this
   rw [lenD,zK,zj hlt] at hi
   exact ⟨hlt,by simpa using hi.symm⟩
  have hO:∀ i,i<a.length+1→(lenO a b 0).getD (0+i) []=[.ref (1+(a.length-i)) (b.length+1) 0 (b.length+1) true]:=fun i hi=>by
   rw [Nat.zero_add,zC,lenO_ge (zI _) hi];rfl
  have e0:FrzD 0 (HB.cells eRw (lenO a b 0)::lenH a b 0) (.ref 0 (lenO a b 0).length 0 na true) (.sl eRw (lenD a b)):=by
   refine .ref (zL _) rfl (by simp [lenD,hna]) (fun i r hi=>?_) (fun i r j d hi hj=>?_)
   ·obtain ⟨hlt,rfl⟩:=hrow i r hi
    rw [hO i hlt];rfl
   ·obtain ⟨hlt,rfl⟩:=hrow i r hi
    rw [hO i hlt]
    match j,hj with
    | j+1,hj=>simp at hj
    | 0,hj =>
     simp only [List.getElem?_cons_zero,Option.some.injEq] at hj
     subst hj
     have hB:(HB.cells eRw (lenO a b 0)::lenH a b 0)[1+(a.length-i)]? = some (lenB a b i 0):=by
      rw [Nat.add_comm 1,List.getElem?_cons_succ,lenH_get (zI _) (by omega)]
     have hl:((List.range (b.length+1)).map (lenRow a b i 0)).length=b.length+1:=by simp
     have h2:∀ j r,((List.range (b.length+1)).map fun j=>[D.sc (.int .i64 (lcsAt a b i j:Nat))])[j]? = some r→((List.range (b.length+1)).map (lenRow a b i 0)).getD (0+j) []=r.map .d:=fun j r hr=>by
      have hlt:j<b.length+1:=by have:=(zA.1 hr).1;simpa using this
      rw [zK,zj hlt] at hr
      rw [Nat.zero_add,zC,lenRow_ge (zI _) hlt]
      simp at hr
      subst hr;rfl
     have e:FrzD 0 (HB.cells eRw (lenO a b 0)::lenH a b 0) (.ref (1+(a.length-i)) ((List.range (b.length+1)).map (lenRow a b i 0)).length 0 (b.length+1) true) (.sl eInt ((List.range (b.length+1)).map fun j=>[D.sc (.int .i64 (lcsAt a b i j:Nat))])):=by
      refine .ref (zI _) hB (by simp) (fun j r hr=>by rw [h2 j r hr];simp) (fun j r k d hr hk=>?_)
      rw [h2 j r hr,zC,zK,hk]
      exact .d d
     rw [hl] at e
     exact e
  rw [← hNa] at e0
  exact .d e0
end Go.Proofs.YtlllnjhgjijnkaaDoor.Nx

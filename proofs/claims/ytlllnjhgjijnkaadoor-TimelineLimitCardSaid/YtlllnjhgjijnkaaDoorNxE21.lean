import Derived.Test.YtlllnjhgjijnkaaDoorNxE19
set_option linter.unusedSimpArgs false
set_option linter.unusedVariables false
set_option linter.unnecessarySimpa false
open List renaming getElem?_eq_getElem → zB, getD_eq_getElem?_getD → zC, append_assoc → zS, length_append → zb, take_length → zh, length_take → zs, length_drop → zt
open Nat renaming zero_le → zI, le_refl → zL
open Int renaming toNat_natCast → zQ
open Nat renaming reduceEqDiff → qE, reduceAdd → qA, reduceLT → qL, reduceLeDiff → qD
namespace Go.Proofs.YtlllnjhgjijnkaaDoor.Nx
open Go
variable {P:Program} {N:Nat} {Γ:Tabs}
def chkV (v:Vw) (c:Cg):Int:=if viewC v=0 then chgC v c else 1
theorem cg_eq {a b:Cg}:(((((decide (a.kind=b.kind)&&decide (a.row=b.row))&&decide (a.col=b.col))&&decide (a.count=b.count))&&decide (a.upto=b.upto))&&decide (a.gl=b.gl))=decide (a=b):=by
 rw [Bool.eq_iff_iff]
 cases a;cases b
 simp [and_assoc]
theorem equal1_fn {f fe:FuncId} (H:FnIs P f N [.t 4] (x_change_Equal_1 fe)) (hN:2≤N) (He:∀ a b:List Gl,FnP Γ P fe [.d (.sl eGl (glRows a)),.d (.sl eGl (glRows b))] (.bool (decide (a=b)))) (a b:Cg):FnP Γ P f [cgA a,cgA b] (.bool (decide (a=b))):=by
 refine .of_W H (by simpa using hN) ?_
 rw [← cg_eq]
 generalize hz:(((((decide (a.kind=b.kind)&&decide (a.row=b.row))&&decide (a.col=b.col))&&decide (a.count=b.count))&&decide (a.upto=b.upto))&&decide (a.gl=b.gl))=z
 unfold x_change_Equal_1
 refine wR ?_
 simp only [cgA,Cg.ds,List.map_cons,List.map_nil,xq,reduceIte,qE,qA,qL,qD]
 let S:Nat→Bool→St:=fun n b'=>⟨look [(2,.ptr 0 1 0 0),(3,.ptr 1 1 0 0),(n,.bool b')],[cgB a,cgB b]⟩
 refine W_sregC fun K hK=>?_
 refine runC_cut 6 (· = S 10 (decide (a.kind=b.kind))) rfl (by intro h;cases h) (fun K1 hK1=>?_) ?_
 ·simp only [xq,reduceIte,qE,qA,qL,qD]
  exact hK1 _ (S 10 (decide (a.kind=b.kind))) (Co.keep _ (by simp [x_upd])) rfl
 rintro _ rfl
 generalize decide (a.kind=b.kind)=b0 at hz ⊢
 refine runC_cut 7 (· = S 17 (b0&&decide (a.row=b.row))) rfl (by intro h;cases h) (fun K1 hK1=>?_) ?_
 ·cases b0<;>simp only [S,cgB,Cg.ds,xq,reduceIte,qE,qA,qL,qD,Bool.false_and]
  all_goals (refine hK1 _ _ (Co.keep _ ?_) rfl;simp [x_upd,x_look])
 rintro _ rfl
 generalize (b0&&decide (a.row=b.row))=b1 at hz ⊢
 refine runC_cut 7 (· = S 24 (b1&&decide (a.col=b.col))) rfl (by intro h;cases h) (fun K1 hK1=>?_) ?_
 ·cases b1<;>simp only [S,cgB,Cg.ds,xq,reduceIte,qE,qA,qL,qD,Bool.false_and]
  all_goals (refine hK1 _ _ (Co.keep _ ?_) rfl;simp [x_upd,x_look])
 rintro _ rfl
 generalize (b1&&decide (a.col=b.col))=b2 at hz ⊢
 refine runC_cut 7 (· = S 31 (b2&&decide (a.count=b.count))) rfl (by intro h;cases h) (fun K1 hK1=>?_) ?_
 ·cases b2<;>simp only [S,cgB,Cg.ds,xq,reduceIte,qE,qA,qL,qD,Bool.false_and]
  all_goals (refine hK1 _ _ (Co.keep _ ?_) rfl;simp [x_upd,x_look])
 rintro _ rfl
 generalize (b2&&decide (a.count=b.count))=b3 at hz ⊢
 refine runC_cut 7 (· = S 38 (b3&&decide (a.upto=b.upto))) rfl (by intro h;cases h) (fun K1 hK1=>?_) ?_
 ·cases b3<;>simp only [S,cgB,Cg.ds,xq,reduceIte,qE,qA,qL,qD,Bool.false_and]
  all_goals (refine hK1 _ _ (Co.keep _ ?_) rfl;simp [x_upd,x_look])
 rintro _ rfl
 generalize (b3&&decide (a.upto=b.upto))=b4 at hz ⊢
 refine runC_end rfl ?_
 cases b4
 ·simp only [S,cgB,Cg.ds,xq,reduceIte,qE,qA,qL,qD,Bool.false_and]
  refine hK _ (W_ret (.tmp ?_ rfl))
  simp only [x_upd,reduceIte,← hz,Bool.false_and]
 ·simp only [S,cgB,Cg.ds,xq,reduceIte,qE,qA,qL,qD]
  refine c_fn (He a.gl b.gl) rfl ?_;simp only [xq,reduceIte,qE,qA,qL,qD]
  refine hK _ (W_ret (.tmp ?_ rfl))
  simp only [x_upd,reduceIte,← hz,Bool.true_and]
theorem equalFunc19_fn {f f1:FuncId} (H:FnIs P f N [.t 6] x_slices_EqualFunc_49) (hN:3≤N) (H1:∀ a b:Cg,FnP Γ P f1 [cgA a,cgA b] (.bool (decide (a=b)))) (a b:List Cg):FnP Γ P f [cgsA a,cgsA b,.fn f1 []] (.bool (decide (a=b))):=by
 refine .of_W H (by simpa using hN) (W_sl 0 rfl fun ⟨_,hroom,_⟩=>?_)
 have hlr:a.length≤room:=le_of_mul (by rw [cgRows_len] at hroom;exact hroom)
 unfold x_slices_EqualFunc_49
 refine wR ?_;simp only [xq,reduceIte,qE,qA,qL,qD]
 refine W_seq ?_
 refine wR ?_;simp only [xq,reduceIte,qE,qA,qL,qD,cgRows_len]
 refine W_cond rfl (fun hc=>?_) (fun hc=>W_skip ?_)
 ·refine wR ?_;simp only [xq,reduceIte,qE,qA,qL,qD]
  have hne:a≠b:=by rintro rfl;simp at hc
  refine W_ret (.tmp ?_ rfl)
  simp [x_upd,hne]
 ·have hlen:a.length=b.length:=by simp at hc;omega
  simp only [xq,reduceIte,qE,qA,qL,qD]
  refine W_seq ?_
  refine wR ?_;simp only [xq,reduceIte,qE,qA,qL,qD,cgRows_len]
  refine W_block ?_
  let S:Nat→St:=fun i=>⟨look [(1,cgsA b),(2,.fn f1 []),(15,cgsA a),(16,.int a.length),(17,.int i)],[]⟩
  refine W_co (s':=S 0) (Co.keep _ (by simp [x_upd,x_look])) ?_
  refine W_loop (fun m s=>∃ i,i≤a.length∧m=a.length-i∧s=S i∧a.take i=b.take i) ⟨0,zI _,rfl,rfl,by simp⟩ ?_
  rintro m s ⟨i,hi,rfl,rfl,hpre⟩
  simp only [S]
  refine wR ?_;simp only [xq,reduceIte,qE,qA,qL,qD]
  refine W_seq (W_cond rfl (fun hc=>W_skip ?_) (fun hc=>W_exit ?_))
  ·have hlt:i<a.length:=by simpa using hc
   have hltb:i<b.length:=by omega
   have h1:=H1 a[i] b[i]
   simp only [cgA,Cg.ds,List.map_cons,List.map_nil] at h1
   simp only [xq,reduceIte,qE,qA,qL,qD]
   refine W_seq (W_block ?_)
   refine wR ?_;simp only [xq,reduceIte,qE,qA,qL,qD,cgRows_get hlt,cgRows_len,Cg.ds,zQ]
   refine ⟨by omega,by omega,?_⟩
   refine wR ?_;simp only [xq,reduceIte,qE,qA,qL,qD,cgRows_get hltb,cgRows_len,Cg.ds,zQ]
   refine ⟨by omega,by omega,?_⟩
   refine wR ?_;simp only [xq,reduceIte,qE,qA,qL,qD]
   refine c_fn (h1) rfl ?_;simp only [xq,reduceIte,qE,qA,qL,qD]
   refine W_cond rfl (fun hd=>?_) (fun hd=>W_skip ?_)
   ·refine wR ?_;simp only [xq,reduceIte,qE,qA,qL,qD]
    have hne:a≠b:=by
     rintro rfl
     simp at hd
    refine W_ret ?_
    simp only [xq,reduceIte,qE,qA,qL,qD]
    refine .tmp ?_ rfl
    simp [x_upd,hne]
   ·have he:a[i]=b[i]:=by simpa using hd
    simp only [xq,reduceIte,qE,qA,qL,qD]
    refine W_reg ?_;simp only [xq,reduceIte,qE,qA,qL,qD]
    refine ⟨a.length-(i+1),S (i+1),by omega,Co.to _ 0 ?_ (zI _) (zI _) u0,i+1,hlt,rfl,rfl,take_eq_succ hlt hltb hpre he⟩
    simp [x_upd,x_look,i64_succ hlt hlr,A.under,A.underL]
  ·have hle:i=a.length:=by simp at hc;omega
   have heq:a=b:=by
    subst hle
    rw [zh,hlen,zh] at hpre
    exact hpre
   simp only [xq,reduceIte,qE,qA,qL,qD]
   refine wR ?_;simp only [xq,reduceIte,qE,qA,qL,qD]
   refine W_ret (.tmp ?_ rfl)
   simp [x_upd,heq]
theorem equal19_fn {f ff f1:FuncId} (H:FnIs P f N [.t 4] (x_change_Equal ff f1)) (hN:2≤N) (a b:List Cg) (Hf:FnP Γ P ff [cgsA a,cgsA b,.fn f1 []] (.bool (decide (a=b)))):FnP Γ P f [cgsA a,cgsA b] (.bool (decide (a=b))):=by
 refine .of_W H (by simpa using hN) ?_
 unfold x_change_Equal
 refine wR ?_;simp only [xq,reduceIte,qE,qA,qL,qD]
 refine wR ?_;simp only [xq,reduceIte,qE,qA,qL,qD]
 refine c_fn (Hf) rfl ?_;simp only [xq,reduceIte,qE,qA,qL,qD]
 refine W_ret (.tmp ?_ rfl)
 simp [x_upd]
end Go.Proofs.YtlllnjhgjijnkaaDoor.Nx
namespace Go.Proofs.YtlllnjhgjijnkaaDoor.Nx
open Go
theorem greatRow_small {l:List Gl} (h:greatRow l=false):l.length≤140∧∀ g∈l,g.text.size≤40:=by
 simp only [greatRow,Bool.or_eq_false_iff,decide_eq_false_iff_not,List.any_eq_false,decide_eq_true_eq] at h
 exact ⟨by omega,fun g hg=>by have:=h.2 g hg;omega⟩
theorem Sm.mono {v:Vw} {m n:Nat} (h:Sm v m) (hm:m≤n):Sm v n:=⟨fun r hr=>Nat.le_trans (h.row r hr) hm,h.txt⟩
theorem cutW_len {w:Int} {l:List Gl}:(cutW w l).length≤l.length:=by
 obtain ⟨n,hn⟩:=cutW_pre w l
 rw [hn,zs];omega
theorem sizeR_len {w:Int} {l:List Gl}:(sizeR w l).length≤l.length:=Nat.le_trans (trim_len _) cutW_len
theorem greatV_sm {v:Vw} (h:greatV v=false):Sm v 140∧v.rows.length≤12:=by
 have h0:=h
 simp only [greatV,Bool.or_eq_false_iff,decide_eq_false_iff_not,List.any_eq_false] at h
 refine ⟨⟨fun r hr=>(greatRow_small (by simpa using h.2 r hr)).1,fun r hr g hg=>greatV_small h0 r hr g hg⟩,by have:=h.1.1;omega⟩
theorem runOk_cgs {A B:List Gl} (hA:endsBlank A=false) (hB:endsBlank B=false) (hBl:B.length≤264) (hAl:A.length≤20000) (hg:∀ g∈B,glyphC g=0) (hgB:∀ g∈B,g.text.size≤1000) (hgA:∀ g∈A,g.text.size≤1000) (row:Nat):∀ (es:List Edt) (i j:Nat) (m:Int) (v:Vw) (tail:List Cg),row<v.rows.length→(v.rows.length:Int)=v.height →
  v.rows[row]? = some (B.take j++A.drop i)→m=(j:Int)-i→okE A B i j es→Sm v 50000→RunOk { v with rows:=v.rows.set row B } tail→RunOk v (cgsE row m es++tail):=by
 intro es
 induction es with
 | nil =>
  intro i j m v tail hrow hh hr hm hok hs ht
  rw [okE] at hok
  rw [hok] at hr
  have:v.rows.set row B=v.rows:=by
   apply List.ext_getElem?
   intro q
   rw [List.getElem?_set]
   split
   ·rename_i h;subst h;rw [hr]
   ·rfl
  rw [this] at ht
  simpa [cgsE] using ht
 | cons e es ih =>
  intro i j m v tail hrow hh hr hm hok hs ht
  rw [okE] at hok
  obtain ⟨j1,h1,h2,h3,h4,h5,h6,h7,h8⟩:=hok
  have hRr:v.rows[row]=B.take j1++A.drop e.at':=by
   rw [zB hrow] at hr
   rw [← h1];exact Option.some.inj hr
  have hcol:(e.at':Int)+m=(j1:Int):=by omega
  have htl:(B.take j1).length=j1:=by rw [zs];omega
  have hRl:v.rows[row].length=j1+(A.length-e.at'):=by rw [hRr,zb,htl,zt]
  have hins:∀ g∈e.ins,glyphC g=0:=fun g hg'=>hg g (by rw [h5] at hg';exact List.mem_of_mem_drop (List.mem_of_mem_take hg'))
  obtain ⟨s1,s2⟩:=splice_step (v:=v) (row:=row) (col:=j1) (cnt:=e.del) (ins:=e.ins) hrow hh (by omega) (by omega) hins
  have hnew:v.rows[row].take j1++e.ins++v.rows[row].drop (j1+e.del)=B.take (j1+e.ins.length)++A.drop (e.at'+e.del):=by
   rw [hRr,List.take_left' htl,List.drop_append,htl,List.drop_eq_nil_of_le (by rw [htl];omega),List.nil_append,show j1+e.del-j1=e.del by omega,List.drop_drop,List.take_add]
   rw [← h5]
  have htr:endsBlank (B.take (j1+e.ins.length)++A.drop (e.at'+e.del))=false:=by
   rcases h7 with rfl | h7
   ·rw [okE] at h8;rw [h8];exact hB
   ·exact ends_drop hA h7 _
  rw [hnew,trim_id htr] at s2
  rw [cgsE,hcol,List.cons_append]
  refine ⟨hs,fun _=>?_⟩
  rw [s2]
  refine ih (e.at'+e.del) (j1+e.ins.length) (m+e.ins.length-e.del) { v with rows:=v.rows.set row (B.take (j1+e.ins.length)++A.drop (e.at'+e.del)) } tail (by simpa using hrow) (by simpa using hh) (by simp [List.getElem?_set,hrow]) (by omega) h8 ⟨fun r hr'=>?_,fun r hr' g hg'=>?_⟩ (by simp only [List.set_set];exact ht)
  ·rcases List.mem_or_eq_of_mem_set hr' with hr' | rfl
   ·exact hs.row r hr'
   ·simp only [zb,zs,zt];omega
  ·rcases List.mem_or_eq_of_mem_set hr' with hr' | rfl
   ·exact hs.txt r hr' g hg'
   ·rcases List.mem_append.1 hg' with hg' | hg'
    ·exact hgB g (List.mem_of_mem_take hg')
    ·exact hgA g (List.mem_of_mem_drop hg')
theorem runOk_splices {v:Vw} {row:Nat} {A B:List Gl} (hrow:row<v.rows.length) (hh:(v.rows.length:Int)=v.height) (hr:v.rows[row]? = some A) (hA:endsBlank A=false) (hB:endsBlank B=false) (hBl:B.length≤264) (hAl:A.length≤20000) (hg:∀ g∈B,glyphC g=0)
  (hgB:∀ g∈B,g.text.size≤1000) (hs:Sm v 50000) (tail:List Cg) (ht:RunOk { v with rows:=v.rows.set row B } tail):RunOk v (splicesV row A B++tail):=by
 have hok:=script_ok (A:=A) (B:=B) _ A B 0 0 none (zL _) rfl rfl (zI _) (zI _) trivial
 unfold splicesV
 rw [trim_id hA,trim_id hB]
 simp only
 have hAm:A∈v.rows:=List.mem_of_getElem? hr
 split
 ·have hRr:v.rows[row]=A:=by
   rw [zB hrow] at hr;exact Option.some.inj hr
  obtain ⟨s1,s2⟩:=splice_step (v:=v) (row:=row) (col:=0) (cnt:=A.length) (ins:=B) hrow hh (by omega) (by rw [hRr];omega) hg
  rw [hRr,List.take_zero,List.nil_append,Nat.zero_add,List.drop_length,List.append_nil,trim_id hB] at s2
  have:wholeG row A B=⟨3,row,(0:Nat),A.length,0,B⟩:=by unfold wholeG;rw [trim_id hA,trim_id hB];rfl
  rw [this,List.singleton_append]
  exact ⟨hs,fun _=>by rw [s2];exact ht⟩
 ·exact runOk_cgs hA hB hBl hAl hg hgB (hs.txt A hAm) row _ 0 0 0 v tail hrow hh (by simpa using hr) (by simp) hok hs ht
theorem sm_mix {x b:Vw} {n m:Nat} (hx:Sm x m) (hb:Sm b m):Sm { x with rows:=b.rows.take n++x.rows.drop n } m:=by
 refine ⟨fun r hr=>?_,fun r hr=>?_⟩
 ·rcases List.mem_append.1 hr with hr | hr
  ·exact hb.row r (List.mem_of_mem_take hr)
  ·exact hx.row r (List.mem_of_mem_drop hr)
 ·rcases List.mem_append.1 hr with hr | hr
  ·exact hb.txt r (List.mem_of_mem_take hr)
  ·exact hx.txt r (List.mem_of_mem_drop hr)
theorem runOk_splicesTo {x b:Vw} (ex:Ed x) (hb:viewC b=0) (hh:x.height=b.height) (sx:Sm x 20000) (sb:Sm b 20000):∀ (n:Nat),n≤b.rows.length→∀ (tail:List Cg),RunOk { x with rows:=b.rows.take n++x.rows.drop n } tail→RunOk x (splicesTo x b n++tail):=by
 obtain ⟨eb,hw⟩:=viewC_zero.1 hb
 have hlx:=ex.len
 have hlb:=eb.len
 have hsb:=szOk_iff.1 eb.sz
 intro n
 induction n with
 | zero=>intro _ tail ht;simpa [splicesTo] using ht
 | succ n ih =>
  intro hn tail ht
  have hnb:n<b.rows.length:=hn
  have hnx:n<x.rows.length:=by omega
  rw [splicesTo,zS]
  refine ih (by omega) _ ?_
  have gx:x.rows.getD n []=x.rows[n]:=by rw [zC,zB hnx];rfl
  have gb:b.rows.getD n []=b.rows[n]:=by rw [zC,zB hnb];rfl
  rw [gx,gb]
  have hmx:x.rows[n]∈x.rows:=List.getElem_mem hnx
  have hmb:b.rows[n]∈b.rows:=List.getElem_mem hnb
  have htl:(b.rows.take n).length=n:=by rw [zs];omega
  have hwid:=wide_row hw hmb
  have hrl:=row_len (r:=b.rows[n])
  have hget:(b.rows.take n++x.rows.drop n)[n]? = some x.rows[n]:=by
   rw [List.getElem?_append_right (by omega),htl,Nat.sub_self,List.getElem?_drop,Nat.add_zero,zB hnx]
  refine runOk_splices (v:={ x with rows:=b.rows.take n++x.rows.drop n }) (row:=n) (A:=x.rows[n]) (B:=b.rows[n])
   (by simp only [zb,htl,zt];omega) (by simp only [zb,htl,zt];omega) hget (ex.tr _ hmx) (eb.tr _ hmb) (by omega) (sx.row _ hmx) (eb.gl _ hmb) (sb.txt _ hmb) (sm_mix (sx.mono (by omega)) (sb.mono (by omega))) tail ?_
  have e:(b.rows.take n++x.rows.drop n).set n b.rows[n]=b.rows.take (n+1)++x.rows.drop (n+1):=by
   rw [List.set_append_right _ _ (by omega),htl,Nat.sub_self,List.drop_eq_getElem_cons hnx,List.set_cons_zero,List.take_add_one,zB hnb,Option.toList_some,zS]
   rfl
  simp only
  rw [e];exact ht
theorem runOk_rest {x b:Vw} (ex:Ed x) (hb:viewC b=0) (hh:x.height=b.height) (sx:Sm x 20000) (sb:Sm b 20000):RunOk x (restV x b):=by
 obtain ⟨eb,hwb⟩:=viewC_zero.1 hb
 have hlx:=ex.len
 have hlb:=eb.len
 unfold restV
 refine runOk_splicesTo ex hb hh sx sb b.rows.length (zL _) _ ?_
 rw [zh,List.drop_eq_nil_of_le (by omega),List.append_nil]
 have sm:Sm { x with rows:=b.rows } 50000:=⟨(sb.mono (by omega:20000≤50000)).row,sb.txt⟩
 unfold cursorV
 split
 ·exact sm
 ·refine ⟨sm,fun _=>?_⟩
  show Sm _ _
  simp only [stepV,if_neg (show ¬ (4:Int)=1 by decide),if_neg (show ¬ (4:Int)=2 by decide),if_neg (show ¬ (4:Int)=3 by decide)]
  exact ⟨sm.row,sm.txt⟩
theorem sizeV_sm {v:Vw} {h w:Int} {n:Nat} (s:Sm v n):Sm (sizeV v h w) n:=by
 refine ⟨fun r hr=>?_,fun r hr g hg=>?_⟩
 ·obtain ⟨l,hl',rfl⟩:=sizeV_rows hr
  have:=sizeR_len (w:=w) (l:=l)
  rcases hl' with rfl | hl'
  ·rw [List.length_nil] at this;omega
  ·have:=s.row l hl';omega
 ·obtain ⟨l,hl',rfl⟩:=sizeV_rows hr
  have:=sizeR_mem hg
  rcases hl' with rfl | hl'
  ·simp at this
  ·exact s.txt l hl' g this
theorem splices_mem {row:Int} {a b:List Gl} {c:Cg} (h:c∈splicesV row a b):∀ g∈c.gl,g∈b:=by
 have hok:=script_ok (A:=trimGl a) (B:=trimGl b) _ _ _ 0 0 none (zL _) rfl rfl (zI _) (zI _) trivial
 have hin:∀ {A B:List Gl} {es:List Edt} {i j:Nat},okE A B i j es→∀ e∈es,∀ g∈e.ins,g∈B:=by
  intro A B es
  induction es with
  | nil=>intro i j _ e he;simp at he
  | cons e0 es ih =>
   intro i j h e he g hg
   rw [okE] at h
   obtain ⟨j1,h1,h2,h3,h4,h5,h6,h7,h8⟩:=h
   rcases List.mem_cons.1 he with rfl | he
   ·rw [h5] at hg;exact List.mem_of_mem_drop (List.mem_of_mem_take hg)
   ·exact ih h8 e he g hg
 unfold splicesV at h
 simp only at h
 split at h
 ·simp only [List.mem_singleton] at h
  subst h
  intro g hg
  exact trim_mem (trim_mem hg)
 ·obtain ⟨e,he,hc⟩:=cgsE_gl h
  rw [hc]
  intro g hg
  exact trim_mem (hin hok e he g hg)
theorem splices_gl {row:Int} {a b:List Gl} {c:Cg} (h:c∈splicesV row a b):c.gl.length≤b.length:=by
 have hok:=script_ok (A:=trimGl a) (B:=trimGl b) _ _ _ 0 0 none (zL _) rfl rfl (zI _) (zI _) trivial
 have hb:=trim_len b
 unfold splicesV at h
 simp only at h
 split at h
 ·simp only [List.mem_singleton] at h
  subst h
  have:=trim_len (trimGl b)
  show (trimGl (trimGl b)).length≤_
  omega
 ·obtain ⟨e,he,hc⟩:=cgsE_gl h
  have:=(okE_mem hok e he).2
  rw [hc];omega
theorem splicesTo_mem {x b:Vw} {c:Cg}:∀ {n:Nat},c∈splicesTo x b n→∃ i<n,c∈splicesV i (x.rows.getD i []) (b.rows.getD i [])
 | 0,h=>by simp [splicesTo] at h
 | n+1,h=>by
  rw [splicesTo,List.mem_append] at h
  rcases h with h | h
  ·obtain ⟨i,h1,h2⟩:=splicesTo_mem h
   exact ⟨i,by omega,h2⟩
  ·exact ⟨n,by omega,h⟩
end Go.Proofs.YtlllnjhgjijnkaaDoor.Nx
namespace Go.Proofs.YtlllnjhgjijnkaaDoor.Nx
open Go
variable {P:Program} {N:Nat} {Γ:Tabs}
abbrev ApOk (Γ:Tabs) (P:Program) (f:FuncId):Prop:=∀ (v:Vw) (l:List Cg),RunOk v l→(∀ c∈l,CgOk c)→FnP Γ P f [vwA v,cgsA l] (apA (applyV v l))
abbrev VchkOk (Γ:Tabs) (P:Program) (f:FuncId):Prop:=∀ v:Vw,Sm v 50000→FnP Γ P f [vwA v] (.int (viewC v))
abbrev SameOk (Γ:Tabs) (P:Program) (f:FuncId):Prop:=∀ v u:Vw,FnP Γ P f [vwA v,vwA u] (.bool (decide (v=u)))
end Go.Proofs.YtlllnjhgjijnkaaDoor.Nx

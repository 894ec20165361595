import Derived.Test.YtlllnjhgjijnkaaDoorNxP15i
import Derived.Test.YtlllnjhgjijnkaaDoorNxG0
import Derived.Test.YtlllnjhgjijnkaaDoorNxP15g
import Derived.Test.YtlllnjhgjijnkaaDoorNxC1
set_option linter.unusedSimpArgs false
set_option linter.unusedVariables false
set_option linter.unnecessarySimpa false
open Nat renaming zero_le → zI
open Nat renaming reduceEqDiff → qE, reduceAdd → qA, reduceLT → qL, reduceLeDiff → qD
namespace Go.Proofs.YtlllnjhgjijnkaaDoor.Nx
open Go
variable {P:Program} {N:Nat} {Γ:Tabs}
theorem sized_fn {f:FuncId} (H:FnIs P f N [.t 4] x_view_sized) (hN:2≤N) (w h:Int):FnP Γ P f [.int w,.int h] (.bool (szOk w h)):=by
 refine .of_W H (by simpa using hN) ?_
 unfold x_view_sized
 refine wR ?_
 simp only [xq,reduceIte,qE,qA,qL,qD]
 refine wR ?_
 cases e1:decide (1≤w)
 ·simp only [xq,reduceIte,qE,qA,qL,qD,e1]
  refine W_ret (.tmp ?_ rfl)
  simp only [x_upd,reduceIte,szOk,e1,Bool.false_and]
 ·cases e2:decide (w≤132)
  ·simp only [xq,reduceIte,qE,qA,qL,qD,e1,e2]
   refine W_ret (.tmp ?_ rfl)
   simp only [x_upd,reduceIte,szOk,e1,e2,Bool.true_and,Bool.false_and]
  ·cases e3:decide (1≤h)
   ·simp only [xq,reduceIte,qE,qA,qL,qD,e1,e2,e3]
    refine W_ret (.tmp ?_ rfl)
    simp only [x_upd,reduceIte,szOk,e1,e2,e3,Bool.true_and,Bool.false_and]
   ·simp only [xq,reduceIte,qE,qA,qL,qD,e1,e2,e3]
    refine W_ret (.tmp ?_ rfl)
    simp only [x_upd,reduceIte,szOk,e1,e2,e3,Bool.true_and]
def badG (g:Gl):Bool:=(((g.wide != decide (widC g.text=2))||decide (g.style<0))||decide (3<g.style))||(decide (g.style=3) && !decide (g.text=⟨#[42]⟩))
def glyphC (g:Gl):Int:=if chkC g.text=0 then (if badG g then 9 else 0) else 3
theorem glyph_fn {f fc fw:FuncId} (H:FnIs P f N [.t 2] (x_view_glyph fc fw)) (hN:1≤N) (Hc:∀ s:ByteArray,s.size≤1000→FnP Γ P fc [.str s] (.int (chkC s))) (Hw:∀ s:ByteArray,s.size≤1000→FnP Γ P fw [.str s] (.int (widC s)))
  (g:Gl) (hs:g.text.size≤1000):FnP Γ P f [glA g] (.int (glyphC g)):=by
 refine .of_W H (by simpa using hN) ?_
 unfold x_view_glyph
 refine wR ?_
 simp only [glA,Gl.row,xq,reduceIte,qE,qA,qL,qD]
 refine W_seq (wR ?_)
 simp only [xq,reduceIte,qE,qA,qL,qD]
 refine c_fn (Hc _ hs) rfl ?_
 simp only [xq,reduceIte,qE,qA,qL,qD]
 refine W_cond rfl (fun hc=>?_) (fun hc=>W_skip ?_)
 ·have hc:¬ chkC g.text=0:=by simpa using hc
  refine wR ?_
  simp only [xq,reduceIte,qE,qA,qL,qD]
  refine W_ret (.tmp ?_ rfl)
  simp only [x_upd,reduceIte,glyphC,if_neg hc]
 ·have hc:chkC g.text=0:=by simpa using hc
  simp only [xq,reduceIte,qE,qA,qL,qD]
  let S:Bool→St:=fun b=>⟨look [(33,.bool b)],[]⟩
  refine W_seq (W_cut (· = S (badG g)) (W_drw (by simp) ?_) ?_)
  ·have fin:∀ sl h b,sl 33 = .bool b→b=badG g→∃ s1,Co 0 ⟨sl,h⟩ s1∧s1=S (badG g):=fun sl h b h1 h2=>by
    subst h2
    exact ⟨_,Co.to [(33,.bool (badG g))] 0 (by simp [h1,A.under]) (Nat.le_refl _) (zI _) (by simp),rfl⟩
   cases e0:(g.wide != decide (widC g.text=2))
   ·refine run_take 8 fun K1 hK1=>?_
    simp only [xq,reduceIte,qE,qA,qL,qD]
    refine c_fn (Hw _ hs) rfl ?_
    simp only [xq,reduceIte,qE,qA,qL,qD,e0]
    refine hK1 _ ?_
    cases e1:decide (g.style<0)
    ·refine run_take 5 fun K1 hK1=>?_
     simp only [xq,reduceIte,qE,qA,qL,qD,e1]
     refine hK1 _ ?_
     cases e2:decide (3<g.style)
     ·refine run_take 5 fun K1 hK1=>?_
      simp only [xq,reduceIte,qE,qA,qL,qD,e2]
      refine hK1 _ ?_
      cases e3:decide (g.style=3)
      ·refine run_take 4 fun K1 hK1=>?_
       simp only [xq,reduceIte,qE,qA,qL,qD,e3]
       refine hK1 _ ?_
       simp only [xq,reduceIte,qE,qA,qL,qD]
       exact fin _ _ false rfl (by rw [badG,e0,e1,e2,e3];rfl)
      ·refine run_take 4 fun K1 hK1=>?_
       simp only [xq,reduceIte,qE,qA,qL,qD,e3]
       refine hK1 _ ?_
       simp only [xq,reduceIte,qE,qA,qL,qD]
       exact fin _ _ (!decide (g.text=⟨#[42]⟩)) rfl (by rw [badG,e0,e1,e2,e3];rfl)
     ·refine run_take 5 fun K1 hK1=>?_
      simp only [xq,reduceIte,qE,qA,qL,qD,e2]
      refine hK1 _ ?_
      simp only [xq,reduceIte,qE,qA,qL,qD]
      exact fin _ _ true rfl (by rw [badG,e0,e1,e2];rfl)
    ·refine run_take 5 fun K1 hK1=>?_
     simp only [xq,reduceIte,qE,qA,qL,qD,e1]
     refine hK1 _ ?_
     refine run_take 5 fun K1 hK1=>?_
     simp only [xq,reduceIte,qE,qA,qL,qD]
     refine hK1 _ ?_
     simp only [xq,reduceIte,qE,qA,qL,qD]
     exact fin _ _ true rfl (by rw [badG,e0,e1];rfl)
   ·refine run_take 8 fun K1 hK1=>?_
    simp only [xq,reduceIte,qE,qA,qL,qD]
    refine c_fn (Hw _ hs) rfl ?_
    simp only [xq,reduceIte,qE,qA,qL,qD,e0]
    refine hK1 _ ?_
    refine run_take 5 fun K1 hK1=>?_
    simp only [xq,reduceIte,qE,qA,qL,qD]
    refine hK1 _ ?_
    refine run_take 5 fun K1 hK1=>?_
    simp only [xq,reduceIte,qE,qA,qL,qD]
    refine hK1 _ ?_
    simp only [xq,reduceIte,qE,qA,qL,qD]
    exact fin _ _ true rfl (by rw [badG,e0];rfl)
  ·rintro _ rfl
   refine W_cond rfl (fun hd=>?_) (fun hd=>W_skip ?_)
   ·refine wR ?_
    simp only [S,xq,reduceIte,qE,qA,qL,qD]
    refine W_ret (.tmp ?_ rfl)
    simp only [x_upd,reduceIte,glyphC,if_pos hc,hd]
   ·simp only [S,xq,reduceIte,qE,qA,qL,qD]
    refine wR ?_
    simp only [xq,reduceIte,qE,qA,qL,qD]
    refine W_ret (.tmp ?_ rfl)
    simp only [x_upd,reduceIte,glyphC,if_pos hc,hd,Bool.false_eq_true]
def fnz {α:Type} (F:α→Int):List α→Int
 | []=>0
 | a::l=>if F a=0 then fnz F l else F a
theorem fnz_drop {α:Type} {F:α→Int} {l:List α} {i:Nat} (hi:i<l.length):fnz F (l.drop i)=if F l[i]=0 then fnz F (l.drop (i+1)) else F l[i]:=by
 rw [List.drop_eq_getElem_cons hi,fnz]
def endsBlank (l:List Gl):Bool:=decide (l.getLast? = some spaceGl)
theorem endsBlank_at {l:List Gl} {k:Nat} (hk:l.length=k+1):endsBlank l=decide (l[k]'(by omega)=spaceGl):=by
 unfold endsBlank
 have h1:l.length-1=k:=by omega
 rw [List.getLast?_eq_getElem?,h1,List.getElem?_eq_getElem (by omega)]
 simp
def rowC (w:Int) (l:List Gl):Int:=if fnz glyphC l=0 then (if w<(widthN l:Int) then 12 else if endsBlank l then 1 else 0) else fnz glyphC l
def outV (v:Vw):Bool:=((decide (v.row<0)||decide (v.height≤v.row))||decide (v.col<0))||decide (v.width≤v.col)
def viewC (v:Vw):Int:=if szOk v.width v.height then (if (v.rows.length:Int)=v.height then (if outV v then 2 else fnz (rowC v.width) v.rows) else 11) else 2
theorem keep1 {v:Vw} {B:HB} {h:Heap} (hB:B∈(vwB v::h).take 1):HB.under 1 B:=by
 simp only [List.take_succ_cons,List.take_zero,List.mem_cons,List.not_mem_nil,or_false] at hB
 subst hB
 intro r hr x hx
 simp only [List.mem_cons,List.not_mem_nil,or_false] at hr
 subst hr
 obtain ⟨d,_,rfl⟩:=List.mem_map.1 hx
 rfl
theorem viewCheck_fn {f fs fg fw fb:FuncId} (H:FnIs P f N [.t 2] (x_view_Check fs fg fw fb)) (hN:1≤N) (Hs:∀ w h,FnP Γ P fs [.int w,.int h] (.bool (szOk w h))) (Hg:∀ g:Gl,g.text.size≤1000→FnP Γ P fg [glA g] (.int (glyphC g)))
  (Hw:∀ l,FnP Γ P fw [.d (.sl eGl (glRows l))] (.int (widthN l))) (Hb:FnP Γ P fb [] (glA spaceGl)) (v:Vw) (ht:∀ l∈v.rows,∀ g∈l,g.text.size≤1000):FnP Γ P f [vwA v] (.int (viewC v)):=by
 refine .of_W H (by simpa using hN) (W_aggsl 0 2 rfl rfl fun ⟨_,hroom,_⟩=>?_)
 have hlr:v.rows.length≤room:=le_of_mul (by rw [rwRows_len] at hroom;exact hroom)
 unfold x_view_Check
 refine wR ?_
 simp only [vwA,Vw.ds,xq,reduceIte,qE,qA,qL,qD]
 let T:List (Nat × A)→St:=fun l=>⟨look ((1,.ptr 0 1 0 0)::l),[vwB v]⟩
 refine W_seq (W_block (wR ?_))
 simp only [xq,reduceIte,qE,qA,qL,qD]
 refine c_fn (Hs _ _) rfl ?_
 simp only [xq,reduceIte,qE,qA,qL,qD]
 refine W_cond rfl (fun hc=>?_) (fun hc=>wR ?_)
 ·refine wR ?_
  simp only [xq,reduceIte,qE,qA,qL,qD]
  refine W_ret ?_
  simp only [xq,reduceIte,qE,qA,qL,qD]
  refine .tmp ?_ rfl
  have:szOk v.width v.height=false:=by simpa using hc
  simp only [x_upd,reduceIte,viewC,this,Bool.false_eq_true]
 have hsz:szOk v.width v.height=true:=by simpa using hc
 simp only [xq,reduceIte,qE,qA,qL,qD,rwRows_len]
 refine W_cond rfl (fun hc=>?_) (fun hc=>?_)
 ·refine wR ?_
  simp only [xq,reduceIte,qE,qA,qL,qD]
  refine W_ret ?_
  simp only [xq,reduceIte,qE,qA,qL,qD]
  refine .tmp ?_ rfl
  have:¬ (v.rows.length:Int)=v.height:=by simpa using hc
  simp only [x_upd,reduceIte,viewC,hsz,if_neg this]
 have hln:(v.rows.length:Int)=v.height:=by simpa using hc
 refine W_cutC (· = T [(23,.bool (outV v))]) (fun K hK=>?_) ?_
 ·unfold outV at hK
  refine runC_cut 4 (· = T [(27,.bool (decide (v.row<0)))]) rfl (by intro h;cases h) (fun K1 hK1=>?_) ?_
  ·simp only [xq,reduceIte,qE,qA,qL,qD]
   exact hK1 _ (T [(27,.bool (decide (v.row<0)))]) (Co.keep _ (by simp [x_upd,x_look])) rfl
  rintro _ rfl
  generalize decide (v.row<0)=b0 at hK ⊢
  refine runC_cut 7 (· = T [(34,.bool (b0||decide (v.height≤v.row)))]) rfl (by intro h;cases h) (fun K1 hK1=>?_) ?_
  ·cases b0<;>simp only [T,vwB,Vw.ds,xq,reduceIte,qE,qA,qL,qD,Bool.false_or,Bool.true_or]
   all_goals (refine hK1 _ _ (Co.keep _ ?_) rfl;simp [x_upd,x_look])
  rintro _ rfl
  generalize (b0||decide (v.height≤v.row))=b1 at hK ⊢
  refine runC_cut 5 (· = T [(39,.bool (b1||decide (v.col<0)))]) rfl (by intro h;cases h) (fun K1 hK1=>?_) ?_
  ·cases b1<;>simp only [T,vwB,Vw.ds,xq,reduceIte,qE,qA,qL,qD,Bool.false_or,Bool.true_or]
   all_goals (refine hK1 _ _ (Co.keep _ ?_) rfl;simp [x_upd,x_look])
  rintro _ rfl
  generalize (b1||decide (v.col<0))=b2 at hK ⊢
  refine runC_end rfl ?_
  cases b2<;>simp only [T,vwB,Vw.ds,xq,reduceIte,qE,qA,qL,qD,Bool.false_or,Bool.true_or]
  all_goals (refine hK _ _ (Co.keep _ ?_) rfl;simp [x_upd,x_look])
 rintro _ rfl
 refine W_cond rfl (fun hc=>?_) (fun hc=>W_skip ?_)
 ·refine wR ?_
  simp only [T,xq,reduceIte,qE,qA,qL,qD]
  refine W_ret ?_
  simp only [xq,reduceIte,qE,qA,qL,qD]
  refine .tmp ?_ rfl
  simp only [x_upd,reduceIte,viewC,hsz,hln,hc]
 have hvc:viewC v=fnz (rowC v.width) v.rows:=by rw [viewC,if_pos hsz,if_pos hln,if_neg (by rw [hc];simp)]
 rw [hvc]
 simp only [T,vwB,Vw.ds,xq,reduceIte,qE,qA,qL,qD]
 refine W_seq (wR ?_)
 simp only [xq,reduceIte,qE,qA,qL,qD,rwRows_len]
 refine W_block ?_
 let S:Nat→St:=fun i=>T [(47,.d (.sl eRw (rwRows v.rows))),(48,.int v.rows.length),(49,.int i)]
 refine W_co (s':=S 0) (Co.keep _ (by simp [x_upd,x_look])) ?_
 refine W_loop (fun m s=>∃ i,i≤v.rows.length∧m=v.rows.length-i∧s=S i∧fnz (rowC v.width) (v.rows.drop i)=fnz (rowC v.width) v.rows) ⟨0,zI _,rfl,rfl,by simp⟩ ?_
 rintro m s ⟨i,hi,rfl,rfl,hpre⟩
 refine wR ?_
 simp only [S,T,vwB,Vw.ds,xq,reduceIte,qE,qA,qL,qD]
 refine W_seq (W_cond rfl (fun hc=>W_skip ?_) (fun hc=>W_exit ?_))
 ·have hlt:i<v.rows.length:=by simpa using hc
  have htl:=ht _ (List.getElem_mem hlt)
  rw [fnz_drop hlt] at hpre
  simp only [xq,reduceIte,qE,qA,qL,qD]
  refine W_seq (W_block (wR ?_))
  simp only [xq,reduceIte,qE,qA,qL,qD,rwRows_get hlt,rwRows_len]
  refine ⟨by omega,by omega,?_⟩
  generalize hL:v.rows[i]=L at hpre htl
  refine W_sl 4 rfl fun ⟨_,hroomL,_⟩=>?_
  have hLr:L.length≤room:=le_of_mul (by rw [glRows_len] at hroomL;exact hroomL)
  refine W_seq (wR ?_)
  simp only [xq,reduceIte,qE,qA,qL,qD,glRows_len]
  refine W_block ?_
  let U:Nat→St:=fun k=>T [(47,.d (.sl eRw (rwRows v.rows))),(48,.int v.rows.length),(49,.int i),(4,.d (.sl eGl (glRows L))),(53,.d (.sl eGl (glRows L))),(54,.int L.length),(55,.int k)]
  refine W_co (s':=U 0) (Co.keep _ (by simp [x_upd,x_look])) ?_
  refine W_loop (fun m s=>∃ k,k≤L.length∧m=L.length-k∧s=U k∧fnz glyphC (L.drop k)=fnz glyphC L) ⟨0,zI _,rfl,rfl,by simp⟩ ?_
  rintro m s ⟨k,hk,rfl,rfl,hpk⟩
  refine wR ?_
  simp only [U,T,vwB,Vw.ds,xq,reduceIte,qE,qA,qL,qD]
  refine W_seq (W_cond rfl (fun hc=>W_skip ?_) (fun hc=>W_exit ?_))
  ·have hltk:k<L.length:=by simpa using hc
   have htk:=htl _ (List.getElem_mem hltk)
   rw [fnz_drop hltk] at hpk
   simp only [xq,reduceIte,qE,qA,qL,qD]
   refine W_seq (W_block (wR ?_))
   simp only [xq,reduceIte,qE,qA,qL,qD,glRows_get hltk,Gl.row,glRows_len]
   refine ⟨by omega,by omega,?_⟩
   refine wR ?_
   simp only [xq,reduceIte,qE,qA,qL,qD]
   refine c_fn (Hg L[k] htk) rfl ?_
   simp only [xq,reduceIte,qE,qA,qL,qD]
   refine wR ?_
   simp only [xq,reduceIte,qE,qA,qL,qD]
   refine W_cond rfl (fun hd=>?_) (fun hd=>W_skip ?_)
   ·have hne:¬ glyphC L[k]=0:=by simpa using hd
    rw [if_neg hne] at hpk
    refine wR ?_
    simp only [xq,reduceIte,qE,qA,qL,qD]
    refine W_ret ?_
    simp only [xq,reduceIte,qE,qA,qL,qD]
    refine .tmp ?_ rfl
    have hrow:rowC v.width L=glyphC L[k]:=by rw [rowC,if_neg (by rw [← hpk];exact hne),← hpk]
    rw [if_neg (by rw [hrow];exact hne),hrow] at hpre
    simp only [x_upd,reduceIte,qE,hpre]
   ·have hz:glyphC L[k]=0:=by simpa using hd
    rw [if_pos hz] at hpk
    simp only [xq,reduceIte,qE,qA,qL,qD]
    refine W_reg ?_
    simp only [xq,reduceIte,qE,qA,qL,qD]
    refine ⟨L.length-(k+1),U (k+1),by omega,?_,k+1,hltk,rfl,rfl,hpk⟩
    refine Co.to _ 1 ?_ (zI _) (by simp) (fun B hB=>keep1 (v:=v) hB)
    simp [x_upd,x_look,A.under,i64_succ hltk hLr]
  ·have hle:k=L.length:=by simp at hc;omega
   subst hle
   rw [List.drop_length] at hpk
   have hz:fnz glyphC L=0:=hpk.symm
   have hrc:rowC v.width L=if v.width<(widthN L:Int) then 12 else if endsBlank L then 1 else 0:=by rw [rowC,if_pos hz]
   simp only [xq,reduceIte,qE,qA,qL,qD]
   refine W_seq (W_seq (W_drw (by simp) ?_))
   simp only [xq,reduceIte,qE,qA,qL,qD]
   refine c_fn (Hw L) rfl ?_
   simp only [xq,reduceIte,qE,qA,qL,qD]
   refine W_cond rfl (fun hd=>?_) (fun hd=>W_skip ?_)
   ·have hd:v.width<(widthN L:Int):=by simpa using hd
    rw [if_pos hd] at hrc
    refine wR ?_
    simp only [xq,reduceIte,qE,qA,qL,qD]
    refine W_ret ?_
    simp only [xq,reduceIte,qE,qA,qL,qD]
    refine .tmp ?_ rfl
    rw [hrc] at hpre
    simp only [x_upd,reduceIte,← hpre];rfl
   have hd:¬ v.width<(widthN L:Int):=by simpa using hd
   rw [if_neg hd] at hrc
   simp only [xq,reduceIte,qE,qA,qL,qD]
   refine wR ?_
   simp only [xq,reduceIte,qE,qA,qL,qD,glRows_len]
   let V:Bool→St:=fun b=>T [(47,.d (.sl eRw (rwRows v.rows))),(48,.int v.rows.length),(49,.int i),(82,.bool b)]
   refine W_cut (· = V (endsBlank L)) (W_drw (by simp) ?_) ?_
   ·have fin:∀ sl b,sl 1 = .ptr 0 1 0 0→sl 47 = .d (.sl eRw (rwRows v.rows))→sl 48 = .int v.rows.length→sl 49 = .int i→sl 82 = .bool b→b=endsBlank L→∃ s1,Co 0 ⟨sl,[vwB v]⟩ s1∧s1=V (endsBlank L):=fun sl b a1 a2 a3 a4 a5 a6=>by
     subst a6
     exact ⟨V (endsBlank L),Co.keep _ (by simp [a1,a2,a3,a4,a5]),rfl⟩
    cases hk:L.length with
    | zero =>
     have h0:decide ((0:Int)<((0:Nat):Int))=false:=rfl
     simp only [xq,reduceIte,qE,qA,qL,qD,hk,h0]
     refine fin _ false rfl rfl rfl rfl rfl ?_
     have:L=[]:=List.eq_nil_of_length_eq_zero hk
     subst this;rfl
    | succ k =>
     have h0:decide ((0:Int)<((k+1:Nat):Int))=true:=decide_eq_true (by omega)
     have hkl:k<L.length:=by omega
     simp only [xq,reduceIte,qE,qA,qL,qD,hk,h0,i64_pred (show k≤room by omega),glRows_get hkl,Gl.row,glRows_len]
     refine ⟨by omega,by omega,?_⟩
     refine c_fn Hb rfl ?_
     simp only [xq,reduceIte,qE,qA,qL,qD,glA,Gl.row,gl_eq]
     exact fin _ _ rfl rfl rfl rfl rfl (endsBlank_at hk).symm
   ·rintro _ rfl
    refine W_cond rfl (fun he=>?_) (fun he=>W_skip ?_)
    ·refine wR ?_
     simp only [V,T,vwB,Vw.ds,xq,reduceIte,qE,qA,qL,qD]
     refine W_ret ?_
     simp only [xq,reduceIte,qE,qA,qL,qD]
     refine .tmp ?_ rfl
     rw [hrc,he] at hpre
     simp only [x_upd,reduceIte,← hpre];rfl
    ·rw [hrc,he] at hpre
     simp only [V,T,vwB,Vw.ds,xq,reduceIte,qE,qA,qL,qD]
     refine W_reg ?_
     simp only [xq,reduceIte,qE,qA,qL,qD]
     refine ⟨v.rows.length-(i+1),S (i+1),by omega,Co.keep _ ?_,i+1,hlt,rfl,rfl,hpre⟩
     simp [x_upd,x_look,i64_succ hlt hlr]
 ·have hle:i=v.rows.length:=by simp at hc;omega
  subst hle
  rw [List.drop_length] at hpre
  simp only [xq,reduceIte,qE,qA,qL,qD]
  refine wR ?_
  simp only [xq,reduceIte,qE,qA,qL,qD]
  refine W_ret (.tmp ?_ rfl)
  simp only [x_upd,reduceIte,← hpre];rfl
end Go.Proofs.YtlllnjhgjijnkaaDoor.Nx
namespace Go.Proofs.YtlllnjhgjijnkaaDoor.Nx
open Go
variable {P:Program} {N:Nat} {Γ:Tabs}
def zeroV:Vw:=⟨0,0,[],0,0,false⟩
theorem greatV_small {v:Vw} (h:greatV v=false):∀ l∈v.rows,∀ g∈l,g.text.size≤1000:=by
 intro l hl g hg
 simp only [greatV,Bool.or_eq_false_iff] at h
 have h1:=List.any_eq_false.1 h.2 l hl
 simp only [greatRow,Bool.or_eq_true,List.any_eq_true,decide_eq_true_eq,not_or,not_exists,not_and] at h1
 have:=h1.2 g hg
 omega
end Go.Proofs.YtlllnjhgjijnkaaDoor.Nx

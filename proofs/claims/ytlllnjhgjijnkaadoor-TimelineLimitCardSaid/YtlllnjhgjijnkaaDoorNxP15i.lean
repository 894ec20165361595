import Derived.Test.YtlllnjhgjijnkaaDoorNxP15a
import Derived.Test.YtlllnjhgjijnkaaDoorNxB0
set_option linter.unusedSimpArgs false
set_option linter.unusedVariables false
set_option linter.unnecessarySimpa false
open Nat renaming zero_le → zI
open Bool renaming eq_iff_iff → ze
open List renaming take_length → zh
open Nat renaming reduceEqDiff → qE, reduceAdd → qA, reduceLT → qL, reduceLeDiff → qD
namespace Go.Proofs.YtlllnjhgjijnkaaDoor.Nx
open Go
variable {P:Program} {N:Nat} {Γ:Tabs}
structure Vw where
 width:Int
 height:Int
 rows:List (List Gl)
 row:Int
 col:Int
 vis:Bool
 deriving DecidableEq
abbrev eVw:Elt:=⟨6,64⟩
def rwRows (l:List (List Gl)):List (List D):=l.map fun r=>[.sl eGl (glRows r)]
theorem rwRows_len {l:List (List Gl)}:(rwRows l).length=l.length:=by simp [rwRows]
theorem rwRows_get {l:List (List Gl)} {i:Nat} (hi:i<l.length):(rwRows l).getD i []=[.sl eGl (glRows l[i])]:=by
 rw [List.getD_eq_getElem?_getD,rwRows,List.getElem?_map,List.getElem?_eq_getElem hi];rfl
def Vw.ds (v:Vw):List D:=[.sc (.int .i64 v.width),.sc (.int .i64 v.height),.sl eRw (rwRows v.rows),.sc (.int .i64 v.row),.sc (.int .i64 v.col),.sc (.bool v.vis)]
def vwA (v:Vw):A:=.agg (v.ds.map .d)
abbrev vwB (v:Vw):HB:=.cells eVw [v.ds.map .d]
theorem vw_eq (v u:Vw):(((((decide (v.width=u.width)&&decide (v.height=u.height))&&decide (v.row=u.row))&&decide (v.col=u.col))&&(v.vis == u.vis))&&decide (v.rows=u.rows))=decide (v=u):=by
 cases v;cases u
 rw [ze]
 simp
 constructor
 ·rintro ⟨⟨⟨⟨⟨h1,h2⟩,h4⟩,h5⟩,h6⟩,h3⟩;exact ⟨h1,h2,h3,h4,h5,h6⟩
 ·rintro ⟨h1,h2,h3,h4,h5,h6⟩;exact ⟨⟨⟨⟨⟨h1,h2⟩,h4⟩,h5⟩,h6⟩,h3⟩
def greatV (v:Vw):Bool:=(decide (12<v.rows.length)||(decide (40<v.width)&&decide (2<v.rows.length)))||v.rows.any greatRow
theorem great_fn {f fg:FuncId} {Ng:Nat} (H:FnIs P f N [.t 2] (x_ref15_Great fg)) (hN:1≤N) (Hg:FnIs P fg Ng [.t 2] x_ref15_GreatRow) (hNg:1≤Ng) (v:Vw):FnP Γ P f [vwA v] (.bool (greatV v)):=by
 refine .of_W H (by simpa using hN) (W_aggsl 0 2 rfl rfl fun ⟨_,hroom,_⟩=>?_)
 have hlr:v.rows.length≤room:=le_of_mul (by rw [rwRows_len] at hroom;exact hroom)
 have hG:=fun l=>greatRow_fn (Γ:=Γ) Hg hNg l
 have c1:decide ((12:Int)<(v.rows.length:Int))=decide (12<v.rows.length):=by rw [ze];simp;omega
 have c2:decide ((2:Int)<(v.rows.length:Int))=decide (2<v.rows.length):=by rw [ze];simp;omega
 unfold x_ref15_Great
 refine wR ?_
 simp only [vwA,Vw.ds,xq,reduceIte,qE,qA,qL,qD]
 let S:Bool→St:=fun b=>⟨look [(1,.ptr 0 1 0 0),(18,.bool b)],[vwB v]⟩
 refine W_seq (W_cutX (· = S (decide (12<v.rows.length)||(decide (40<v.width)&&decide (2<v.rows.length)))) rfl (fun K hK=>?_) ?_)
 ·have fin:∀ b sl,sl 1 = .ptr 0 1 0 0→sl 18 = .bool b→b=(decide (12<v.rows.length)||(decide (40<v.width)&&decide (2<v.rows.length)))→K ⟨sl,[vwB v]⟩:=fun b sl h1 h2 hb=>by
   subst hb
   exact hK _ _ (Co.keep [(1,.ptr 0 1 0 0),(18,.bool _)] (by simp [h1,h2])) rfl
  cases h12:decide (12<v.rows.length) with
  | true =>
   simp only [xq,reduceIte,qE,qA,qL,qD,rwRows_len,c1,h12]
   exact fin true _ rfl rfl (by rw [h12];rfl)
  | false =>
   cases h40:decide (40<v.width) with
   | true =>
    simp only [xq,reduceIte,qE,qA,qL,qD,rwRows_len,c1,h12,h40,c2]
    exact fin _ _ rfl rfl (by rw [h12,h40];rfl)
   | false =>
    simp only [xq,reduceIte,qE,qA,qL,qD,rwRows_len,c1,h12,h40]
    exact fin false _ rfl rfl (by rw [h12,h40];rfl)
 ·rintro _ rfl
  refine W_cond rfl (fun hg=>?_) (fun hg=>W_skip ?_)
  ·refine wR ?_
   simp only [S,xq,reduceIte,qE,qA,qL,qD]
   refine W_ret (.tmp ?_ rfl)
   simp only [x_upd,reduceIte,greatV,hg,Bool.true_or]
  ·simp only [S,xq,reduceIte,qE,qA,qL,qD]
   refine W_seq (wR ?_)
   simp only [xq,reduceIte,qE,qA,qL,qD]
   refine W_block ?_
   let T:Nat→St:=fun i=>⟨look [(1,.ptr 0 1 0 0),(3,.int i)],[vwB v]⟩
   refine W_co (s':=T 0) (Co.keep _ (by simp [x_upd,x_look])) ?_
   refine W_loop (fun m s=>∃ i,i≤v.rows.length∧m=v.rows.length-i∧s=T i∧(v.rows.take i).any greatRow=false) ⟨0,zI _,rfl,rfl,by simp⟩ ?_
   rintro m s ⟨i,hi,rfl,rfl,hpre⟩
   refine W_seq (wR ?_)
   simp only [T,vwB,Vw.ds,xq,reduceIte,qE,qA,qL,qD,rwRows_len]
   refine W_cond rfl (fun hc=>W_skip ?_) (fun hc=>W_exit ?_)
   ·have hlt:i<v.rows.length:=by simpa using hc
    simp only [xq,reduceIte,qE,qA,qL,qD]
    refine W_seq (W_block (wR ?_))
    simp only [xq,reduceIte,qE,qA,qL,qD,rwRows_get hlt,rwRows_len]
    refine ⟨by omega,by omega,?_⟩
    refine c_fn (hG _) rfl ?_
    simp only [xq,reduceIte,qE,qA,qL,qD]
    refine W_cond rfl (fun hd=>?_) (fun hd=>W_skip ?_)
    ·refine wR ?_
     simp only [xq,reduceIte,qE,qA,qL,qD]
     refine W_ret ?_
     simp only [xq,reduceIte,qE,qA,qL,qD]
     refine .tmp ?_ rfl
     have:v.rows.any greatRow=true:=List.any_eq_true.2 ⟨v.rows[i],List.getElem_mem hlt,hd⟩
     simp only [x_upd,reduceIte,greatV,this,Bool.or_true]
    ·simp only [xq,reduceIte,qE,qA,qL,qD]
     refine W_reg ?_
     simp only [xq,reduceIte,qE,qA,qL,qD]
     refine ⟨v.rows.length-(i+1),T (i+1),by omega,Co.keep _ ?_,i+1,hlt,rfl,rfl,any_take_succ hlt hpre hd⟩
     simp [x_upd,x_look,i64_succ hlt hlr]
   ·have hle:i=v.rows.length:=by simp at hc;omega
    subst hle
    rw [zh] at hpre
    simp only [xq,reduceIte,qE,qA,qL,qD]
    refine wR ?_
    simp only [xq,reduceIte,qE,qA,qL,qD]
    refine W_ret (.tmp ?_ rfl)
    simp only [x_upd,reduceIte,greatV,hg,hpre,Bool.or_false]
theorem equal_fn {f:FuncId} (H:FnIs P f N [.t 4] x_slices_Equal_675) (hN:2≤N) (a b:List Gl):FnP Γ P f [.d (.sl eGl (glRows a)),.d (.sl eGl (glRows b))] (.bool (decide (a=b))):=by
 refine .of_W H (by simpa using hN) (W_sl 0 rfl fun ⟨_,hroom,_⟩=>?_)
 have hlr:a.length≤room:=le_of_mul (by rw [glRows_len] at hroom;exact hroom)
 unfold x_slices_Equal_675
 refine wR ?_
 simp only [xq,reduceIte,qE,qA,qL,qD]
 refine W_seq (wR ?_)
 simp only [xq,reduceIte,qE,qA,qL,qD,glRows_len]
 refine W_cond rfl (fun hc=>?_) (fun hc=>W_skip ?_)
 ·refine wR ?_
  simp only [xq,reduceIte,qE,qA,qL,qD]
  have hne:a≠b:=by rintro rfl;simp at hc
  refine W_ret (.tmp ?_ rfl)
  simp [x_upd,hne]
 ·have hlen:a.length=b.length:=by simp at hc;omega
  simp only [xq,reduceIte,qE,qA,qL,qD]
  refine W_seq (wR ?_)
  simp only [xq,reduceIte,qE,qA,qL,qD,glRows_len]
  refine W_block ?_
  let S:Nat→St:=fun i=>⟨look [(0,.d (.sl eGl (glRows a))),(1,.d (.sl eGl (glRows b))),(12,.int a.length),(13,.int i)],[]⟩
  refine W_co (s':=S 0) (Co.keep _ (by simp [x_upd,x_look])) ?_
  refine W_loop (fun m s=>∃ i,i≤a.length∧m=a.length-i∧s=S i∧a.take i=b.take i) ⟨0,zI _,rfl,rfl,by simp⟩ ?_
  rintro m s ⟨i,hi,rfl,rfl,hpre⟩
  refine wR ?_
  simp only [xq,reduceIte,qE,qA,qL,qD,S]
  refine W_seq (W_cond rfl (fun hc=>W_skip ?_) (fun hc=>W_exit ?_))
  ·have hlt:i<a.length:=by simpa using hc
   have hltb:i<b.length:=by omega
   simp only [xq,reduceIte,qE,qA,qL,qD]
   refine W_seq (W_block (wR ?_))
   simp only [xq,reduceIte,qE,qA,qL,qD]
   refine W_seq (W_drw (by simp) ?_)
   simp only [xq,reduceIte,qE,qA,qL,qD,glRows_get hlt,glRows_get hltb,Gl.row,gl_eq,glRows_len]
   refine ⟨by omega,by omega,by omega,by omega,?_⟩
   refine W_cond rfl (fun hd=>?_) (fun hd=>W_skip ?_)
   ·refine wR ?_
    simp only [xq,reduceIte,qE,qA,qL,qD]
    have hne:a≠b:=by
     rintro rfl
     simp at hd
    refine W_ret ?_
    simp only [xq,reduceIte,qE,qA,qL,qD]
    refine .tmp ?_ rfl
    simp [x_upd,hne]
   ·have he:a[i]=b[i]:=by simpa using hd
    simp only [xq,reduceIte,qE,qA,qL,qD]
    refine W_reg ?_
    simp only [xq,reduceIte,qE,qA,qL,qD]
    refine ⟨a.length-(i+1),S (i+1),by omega,Co.keep _ ?_,i+1,hlt,rfl,rfl,take_eq_succ hlt hltb hpre he⟩
    simp [x_upd,x_look,i64_succ hlt hlr]
  ·have hle:i=a.length:=by simp at hc;omega
   have heq:a=b:=by
    subst hle
    rw [zh,hlen,zh] at hpre
    exact hpre
   simp only [xq,reduceIte,qE,qA,qL,qD]
   refine wR ?_
   simp only [xq,reduceIte,qE,qA,qL,qD]
   refine W_ret (.tmp ?_ rfl)
   simp [x_upd,heq]
theorem equalFunc_fn {f fe:FuncId} {Ne:Nat} (H:FnIs P f N [.t 6] x_slices_EqualFunc_833) (hN:3≤N) (He:FnIs P fe Ne [.t 4] x_slices_Equal_675) (hNe:2≤Ne) (a b:List (List Gl)) :
  FnP Γ P f [.d (.sl eRw (rwRows a)),.d (.sl eRw (rwRows b)),.fn fe []] (.bool (decide (a=b))):=by
 refine .of_W H (by simpa using hN) (W_sl 0 rfl fun ⟨_,hroom,_⟩=>?_)
 have hlr:a.length≤room:=le_of_mul (by rw [rwRows_len] at hroom;exact hroom)
 have hE:=fun a b=>equal_fn (Γ:=Γ) He hNe a b
 unfold x_slices_EqualFunc_833
 refine wR ?_
 simp only [xq,reduceIte,qE,qA,qL,qD]
 refine W_seq (wR ?_)
 simp only [xq,reduceIte,qE,qA,qL,qD,rwRows_len]
 refine W_cond rfl (fun hc=>?_) (fun hc=>W_skip ?_)
 ·refine wR ?_
  simp only [xq,reduceIte,qE,qA,qL,qD]
  have hne:a≠b:=by rintro rfl;simp at hc
  refine W_ret (.tmp ?_ rfl)
  simp [x_upd,hne]
 ·have hlen:a.length=b.length:=by simp at hc;omega
  simp only [xq,reduceIte,qE,qA,qL,qD]
  refine W_seq (wR ?_)
  simp only [xq,reduceIte,qE,qA,qL,qD,rwRows_len]
  refine W_block ?_
  let S:Nat→St:=fun i=>⟨look [(1,.d (.sl eRw (rwRows b))),(2,.fn fe []),(15,.d (.sl eRw (rwRows a))),(16,.int a.length),(17,.int i)],[]⟩
  refine W_co (s':=S 0) (Co.keep _ (by simp [x_upd,x_look])) ?_
  refine W_loop (fun m s=>∃ i,i≤a.length∧m=a.length-i∧s=S i∧a.take i=b.take i) ⟨0,zI _,rfl,rfl,by simp⟩ ?_
  rintro m s ⟨i,hi,rfl,rfl,hpre⟩
  refine wR ?_
  simp only [xq,reduceIte,qE,qA,qL,qD,S]
  refine W_seq (W_cond rfl (fun hc=>W_skip ?_) (fun hc=>W_exit ?_))
  ·have hlt:i<a.length:=by simpa using hc
   have hltb:i<b.length:=by omega
   simp only [xq,reduceIte,qE,qA,qL,qD]
   refine W_seq (W_block (wR ?_))
   simp only [xq,reduceIte,qE,qA,qL,qD,rwRows_get hlt,rwRows_len]
   refine ⟨by omega,by omega,?_⟩
   refine wR ?_
   simp only [xq,reduceIte,qE,qA,qL,qD,rwRows_get hltb,rwRows_len]
   refine ⟨by omega,by omega,?_⟩
   refine wR ?_
   simp only [xq,reduceIte,qE,qA,qL,qD]
   refine c_fn (hE _ _) rfl ?_
   simp only [xq,reduceIte,qE,qA,qL,qD]
   refine W_cond rfl (fun hd=>?_) (fun hd=>W_skip ?_)
   ·refine wR ?_
    simp only [xq,reduceIte,qE,qA,qL,qD]
    have hne:a≠b:=by
     rintro rfl
     simp at hd
    refine W_ret ?_
    simp only [xq,reduceIte,qE,qA,qL,qD]
    refine .tmp ?_ rfl
    simp [x_upd,hne]
   ·have he:a[i]=b[i]:=by simpa using hd
    simp only [xq,reduceIte,qE,qA,qL,qD]
    refine W_reg ?_
    simp only [xq,reduceIte,qE,qA,qL,qD]
    refine ⟨a.length-(i+1),S (i+1),by omega,Co.keep _ ?_,i+1,hlt,rfl,rfl,take_eq_succ hlt hltb hpre he⟩
    simp [x_upd,x_look,i64_succ hlt hlr]
  ·have hle:i=a.length:=by simp at hc;omega
   have heq:a=b:=by
    subst hle
    rw [zh,hlen,zh] at hpre
    exact hpre
   simp only [xq,reduceIte,qE,qA,qL,qD]
   refine wR ?_
   simp only [xq,reduceIte,qE,qA,qL,qD]
   refine W_ret (.tmp ?_ rfl)
   simp [x_upd,heq]
theorem viewEqual_fn {f ff fe:FuncId} {Nf Ne:Nat} (H:FnIs P f N [.t 4] (x_view_Equal ff fe)) (hN:2≤N) (Hf:FnIs P ff Nf [.t 6] x_slices_EqualFunc_833) (hNf:3≤Nf) (He:FnIs P fe Ne [.t 4] x_slices_Equal_675) (hNe:2≤Ne) (v u:Vw) :
  FnP Γ P f [vwA v,vwA u] (.bool (decide (v=u))):=by
 refine .of_W H (by simpa using hN) ?_
 have hE:=fun a b=>equalFunc_fn (Γ:=Γ) Hf hNf He hNe a b
 rw [← vw_eq]
 generalize hz:(((((decide (v.width=u.width)&&decide (v.height=u.height))&&decide (v.row=u.row))&&decide (v.col=u.col))&&(v.vis == u.vis))&&decide (v.rows=u.rows))=z
 unfold x_view_Equal
 refine wR ?_
 simp only [vwA,Vw.ds,xq,reduceIte,qE,qA,qL,qD]
 let S:Nat→Bool→St:=fun n b=>⟨look [(2,.ptr 0 1 0 0),(3,.ptr 1 1 0 0),(n,.bool b)],[vwB v,vwB u]⟩
 refine W_sregC fun K hK=>?_
 refine runC_cut 6 (· = S 10 (decide (v.width=u.width))) rfl (by intro h;cases h) (fun K1 hK1=>?_) ?_
 ·simp only [xq,reduceIte,qE,qA,qL,qD]
  exact hK1 _ (S 10 (decide (v.width=u.width))) (Co.keep _ (by simp [x_upd])) rfl
 rintro _ rfl
 generalize decide (v.width=u.width)=b0 at hz ⊢
 refine runC_cut 7 (· = S 17 (b0&&decide (v.height=u.height))) rfl (by intro h;cases h) (fun K1 hK1=>?_) ?_
 ·cases b0<;>simp only [S,vwB,Vw.ds,xq,reduceIte,qE,qA,qL,qD,Bool.false_and]
  all_goals (refine hK1 _ _ (Co.keep _ ?_) rfl;simp [x_upd,x_look])
 rintro _ rfl
 generalize (b0&&decide (v.height=u.height))=b1 at hz ⊢
 refine runC_cut 7 (· = S 24 (b1&&decide (v.row=u.row))) rfl (by intro h;cases h) (fun K1 hK1=>?_) ?_
 ·cases b1<;>simp only [S,vwB,Vw.ds,xq,reduceIte,qE,qA,qL,qD,Bool.false_and]
  all_goals (refine hK1 _ _ (Co.keep _ ?_) rfl;simp [x_upd,x_look])
 rintro _ rfl
 generalize (b1&&decide (v.row=u.row))=b2 at hz ⊢
 refine runC_cut 7 (· = S 31 (b2&&decide (v.col=u.col))) rfl (by intro h;cases h) (fun K1 hK1=>?_) ?_
 ·cases b2<;>simp only [S,vwB,Vw.ds,xq,reduceIte,qE,qA,qL,qD,Bool.false_and]
  all_goals (refine hK1 _ _ (Co.keep _ ?_) rfl;simp [x_upd,x_look])
 rintro _ rfl
 generalize (b2&&decide (v.col=u.col))=b3 at hz ⊢
 refine runC_cut 7 (· = S 38 (b3&&(v.vis == u.vis))) rfl (by intro h;cases h) (fun K1 hK1=>?_) ?_
 ·cases b3<;>simp only [S,vwB,Vw.ds,xq,reduceIte,qE,qA,qL,qD,Bool.false_and]
  all_goals (refine hK1 _ _ (Co.keep _ ?_) rfl;simp [x_upd,x_look])
 rintro _ rfl
 generalize (b3&&(v.vis == u.vis))=b4 at hz ⊢
 refine runC_end rfl ?_
 cases b4
 ·simp only [S,vwB,Vw.ds,xq,reduceIte,qE,qA,qL,qD,Bool.false_and]
  refine hK _ (W_ret (.tmp ?_ rfl))
  simp only [x_upd,reduceIte,← hz,Bool.false_and]
 ·simp only [S,vwB,Vw.ds,xq,reduceIte,qE,qA,qL,qD]
  refine c_fn (hE _ _) rfl ?_
  simp only [xq,reduceIte,qE,qA,qL,qD]
  refine hK _ (W_ret (.tmp ?_ rfl))
  simp only [x_upd,reduceIte,← hz,Bool.true_and]
end Go.Proofs.YtlllnjhgjijnkaaDoor.Nx
namespace Go.Proofs.YtlllnjhgjijnkaaDoor.Nx
open Go
variable {P:Program} {N:Nat} {Γ:Tabs}
theorem vw_ne (v u:Vw) (h:((((((!decide (v.width=u.width))||(!decide (v.height=u.height)))||(!decide (v.row=u.row)))||(!decide (v.col=u.col)))||(v.vis != u.vis))||(!decide ((v.rows.length:Int)=(u.rows.length:Int))))=true):v≠u:=by
 rintro rfl
 simp at h
theorem vw_ne' (v u:Vw) (h:((((((!decide (v.width=u.width))||(!decide (v.height=u.height)))||(!decide (v.row=u.row)))||(!decide (v.col=u.col)))||(v.vis != u.vis))||(!decide ((v.rows.length:Int)=(u.rows.length:Int))))=false) :
  v.rows.length=u.rows.length∧(v.rows=u.rows→v=u):=by
 cases v;cases u
 simp at h
 obtain ⟨⟨⟨⟨⟨h1,h2⟩,h3⟩,h4⟩,h5⟩,h6⟩:=h
 subst h1;subst h2;subst h3;subst h4;subst h5
 refine ⟨by simp only at h6 ⊢; omega,fun h=>?_⟩
 simp only at h
 rw [h]
theorem same_fn {f fr:FuncId} {Nr:Nat} (H:FnIs P f N [.t 4] (x_ref15_Same fr)) (hN:2≤N) (Hr:FnIs P fr Nr [.t 4] x_ref15_SameRow) (hNr:2≤Nr) (v u:Vw):FnP Γ P f [vwA v,vwA u] (.bool (decide (v=u))):=by
 refine .of_W H (by simpa using hN) (W_aggsl 0 2 rfl rfl fun ⟨_,hroom,_⟩=>?_)
 have hlr:v.rows.length≤room:=le_of_mul (by rw [rwRows_len] at hroom;exact hroom)
 have hE:=fun a b=>sameRow_fn (Γ:=Γ) Hr hNr a b
 unfold x_ref15_Same
 refine wR ?_
 simp only [vwA,Vw.ds,xq,reduceIte,qE,qA,qL,qD]
 let S:Nat→Bool→St:=fun n b=>⟨look [(2,.ptr 0 1 0 0),(3,.ptr 1 1 0 0),(n,.bool b)],[vwB v,vwB u]⟩
 have hne:=vw_ne v u
 have hne':=vw_ne' v u
 generalize hz:((((((!decide (v.width=u.width))||(!decide (v.height=u.height)))||(!decide (v.row=u.row)))||(!decide (v.col=u.col)))||(v.vis != u.vis))||(!decide ((v.rows.length:Int)=(u.rows.length:Int))))=z at hne hne'
 refine W_seq (W_sregC fun K hK=>?_)
 have fin:∀ sl:Nat→A,sl 2 = .ptr 0 1 0 0→sl 3 = .ptr 1 1 0 0→sl 47 = .bool z→K ⟨sl,[vwB v,vwB u]⟩:=fun sl h2 h3 h47=>hK _ (by
  refine W_co (s':=S 47 z) (Co.keep _ (by simp [h2,h3,h47])) ?_
  refine W_cond rfl (fun hc=>?_) (fun hc=>W_skip ?_)
  ·refine wR ?_
   simp only [S,xq,reduceIte,qE,qA,qL,qD]
   refine W_ret (.tmp ?_ rfl)
   simp [x_upd,hne hc]
  ·obtain ⟨hlen,heq⟩:=hne' hc
   simp only [S,xq,reduceIte,qE,qA,qL,qD]
   refine W_seq (wR ?_)
   simp only [xq,reduceIte,qE,qA,qL,qD]
   refine W_block ?_
   let T:Nat→St:=fun i=>⟨look [(2,.ptr 0 1 0 0),(3,.ptr 1 1 0 0),(5,.int i)],[vwB v,vwB u]⟩
   refine W_co (s':=T 0) (Co.keep _ (by simp [x_upd,x_look])) ?_
   refine W_loop (fun m s=>∃ i,i≤v.rows.length∧m=v.rows.length-i∧s=T i∧v.rows.take i=u.rows.take i) ⟨0,zI _,rfl,rfl,by simp⟩ ?_
   rintro m s ⟨i,hi,rfl,rfl,hpre⟩
   refine W_seq (wR ?_)
   simp only [T,vwB,Vw.ds,xq,reduceIte,qE,qA,qL,qD,rwRows_len]
   refine W_cond rfl (fun hc=>W_skip ?_) (fun hc=>W_exit ?_)
   ·have hlt:i<v.rows.length:=by simpa using hc
    have hltb:i<u.rows.length:=by omega
    simp only [xq,reduceIte,qE,qA,qL,qD]
    refine W_seq (W_block (W_seq (W_drw (by simp) ?_)))
    simp only [xq,reduceIte,qE,qA,qL,qD,rwRows_get hlt,rwRows_get hltb,rwRows_len]
    refine ⟨by omega,by omega,by omega,by omega,?_⟩
    refine c_fn (hE _ _) rfl ?_
    simp only [xq,reduceIte,qE,qA,qL,qD]
    refine W_cond rfl (fun hd=>?_) (fun hd=>W_skip ?_)
    ·refine wR ?_
     simp only [xq,reduceIte,qE,qA,qL,qD]
     refine W_ret ?_
     simp only [xq,reduceIte,qE,qA,qL,qD]
     refine .tmp ?_ rfl
     have:v≠u:=by
      rintro rfl
      simp at hd
     simp [x_upd,this]
    ·have he:v.rows[i]=u.rows[i]:=by simpa using hd
     simp only [xq,reduceIte,qE,qA,qL,qD]
     refine W_reg ?_
     simp only [xq,reduceIte,qE,qA,qL,qD]
     refine ⟨v.rows.length-(i+1),T (i+1),by omega,Co.keep _ ?_,i+1,hlt,rfl,rfl,take_eq_succ hlt hltb hpre he⟩
     simp [x_upd,x_look,i64_succ hlt hlr]
   ·have hle:i=v.rows.length:=by simp at hc;omega
    have hvu:v=u:=by
     subst hle
     rw [zh,hlen,zh] at hpre
     exact heq hpre
    simp only [xq,reduceIte,qE,qA,qL,qD]
    refine wR ?_
    simp only [xq,reduceIte,qE,qA,qL,qD]
    refine W_ret (.tmp ?_ rfl)
    simp [x_upd,hvu])
 refine runC_cut 5 (· = S 10 (!decide (v.width=u.width))) rfl (by intro h;cases h) (fun K1 hK1=>?_) ?_
 ·simp only [xq,reduceIte,qE,qA,qL,qD]
  exact hK1 _ (S 10 (!decide (v.width=u.width))) (Co.keep _ (by simp [x_upd])) rfl
 rintro _ rfl
 generalize (!decide (v.width=u.width))=b0 at hz ⊢
 refine runC_cut 7 (· = S 17 (b0||(!decide (v.height=u.height)))) rfl (by intro h;cases h) (fun K1 hK1=>?_) ?_
 ·cases b0<;>simp only [S,vwB,Vw.ds,xq,reduceIte,qE,qA,qL,qD,Bool.false_or,Bool.true_or]
  all_goals (refine hK1 _ _ (Co.keep _ ?_) rfl;simp [x_upd,x_look])
 rintro _ rfl
 generalize (b0||(!decide (v.height=u.height)))=b1 at hz ⊢
 refine runC_cut 7 (· = S 24 (b1||(!decide (v.row=u.row)))) rfl (by intro h;cases h) (fun K1 hK1=>?_) ?_
 ·cases b1<;>simp only [S,vwB,Vw.ds,xq,reduceIte,qE,qA,qL,qD,Bool.false_or,Bool.true_or]
  all_goals (refine hK1 _ _ (Co.keep _ ?_) rfl;simp [x_upd,x_look])
 rintro _ rfl
 generalize (b1||(!decide (v.row=u.row)))=b2 at hz ⊢
 refine runC_cut 7 (· = S 31 (b2||(!decide (v.col=u.col)))) rfl (by intro h;cases h) (fun K1 hK1=>?_) ?_
 ·cases b2<;>simp only [S,vwB,Vw.ds,xq,reduceIte,qE,qA,qL,qD,Bool.false_or,Bool.true_or]
  all_goals (refine hK1 _ _ (Co.keep _ ?_) rfl;simp [x_upd,x_look])
 rintro _ rfl
 generalize (b2||(!decide (v.col=u.col)))=b3 at hz ⊢
 refine runC_cut 7 (· = S 38 (b3||(v.vis != u.vis))) rfl (by intro h;cases h) (fun K1 hK1=>?_) ?_
 ·cases b3<;>simp only [S,vwB,Vw.ds,xq,reduceIte,qE,qA,qL,qD,Bool.false_or,Bool.true_or]
  all_goals (refine hK1 _ _ (Co.keep _ ?_) rfl;simp [x_upd,x_look])
 rintro _ rfl
 generalize (b3||(v.vis != u.vis))=b4 at hz ⊢
 refine runC_end rfl ?_
 cases b4
 ·simp only [S,vwB,Vw.ds,xq,reduceIte,qE,qA,qL,qD,rwRows_len]
  refine fin _ rfl rfl ?_
  simp only [x_upd,reduceIte]
  rw [← hz,Bool.false_or]
 ·simp only [S,vwB,Vw.ds,xq,reduceIte,qE,qA,qL,qD]
  refine fin _ rfl rfl ?_
  simp only [x_upd,reduceIte]
  rw [← hz,Bool.true_or]
end Go.Proofs.YtlllnjhgjijnkaaDoor.Nx

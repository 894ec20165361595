import Derived.Test.YtlllnjhgjijnkaaDoorNxB0
set_option linter.unusedSimpArgs false
set_option linter.unusedVariables false
set_option linter.unnecessarySimpa false
open List renaming getElem?_eq_getElem → zB, take_length → zh
open Nat renaming le_refl → zL
open Nat renaming reduceEqDiff → qE, reduceAdd → qA, reduceLT → qL, reduceLeDiff → qD
namespace Go.Proofs.YtlllnjhgjijnkaaDoor.Nx
open Go
variable {P:Program} {N:Nat} {Γ:Tabs}
structure Gl where
 text:ByteArray
 wide:Bool
 style:Int
abbrev eGl:Elt:=⟨3,32⟩
def Gl.row (g:Gl):List D:=[.sc (.string g.text),.sc (.bool g.wide),.sc (.int .i64 g.style)]
def glRows (l:List Gl):List (List D):=l.map Gl.row
theorem glRows_len {l:List Gl}:(glRows l).length=l.length:=by simp [glRows]
theorem glRows_get {l:List Gl} {i:Nat} (hi:i<l.length):(glRows l).getD i []=l[i].row:=by
 rw [List.getD_eq_getElem?_getD,glRows,List.getElem?_map,zB hi];rfl
def glA (g:Gl):A:=.agg (g.row.map .d)
def spaceGl:Gl:=⟨⟨#[32]⟩,false,0⟩
theorem blank_fn {f:FuncId} (H:FnIs P f N [.c 0 3 true] x_view_blank):FnP Γ P f [] (glA spaceGl):=by
 refine .of_W H (by simp) ?_
 unfold x_view_blank
 refine wR ?_
 simp only [xq,reduceIte,qE,qA,qL,qD]
 refine wR ?_
 simp only [xq,reduceIte,qE,qA,qL,qD]
 refine W_ret ⟨.inr rfl,?_⟩
 simp only [readRs,readR,x_upd,xq,reduceIte,qE,qA,qL,qD,loadsTo,if_true]
 exact .same rfl
theorem clone_fn {f:FuncId} (H:FnIs P f N [.t 2] x_slices_Clone_675) (hN:1≤N) (rows:List (List D)):FnP Γ P f [.d (.sl eGl rows)] (.d (.sl eGl rows)):=by
 refine .of_W H (by simpa using hN) (W_sl 0 rfl fun ⟨hm,hroom,_⟩=>?_)
 unfold x_slices_Clone_675
 refine W_nil 0 rfl (fun h0=>?_) ?_
 ·subst h0
  refine wR ?_
  simp only [xq,reduceIte,qE,qA,qL,qD]
  refine W_seq (wR ?_)
  simp only [xq,reduceIte,qE,qA,qL,qD,x_eqnil,EqNil]
  refine W_cond (t:=true) (by simp [ev,x_upd]) (fun _=>?_) (fun h=>by cases h)
  refine wR ?_
  simp only [xq,reduceIte,qE,qA,qL,qD]
  refine W_ret (.frz ?_)
  simp only [xq,reduceIte,qE,qA,qL,qD]
  exact .d (.nil _)
 ·refine wR ?_
  simp only [xq,reduceIte,qE,qA,qL,qD]
  refine W_seq (wR ?_)
  simp only [xq,reduceIte,qE,qA,qL,qD,x_eqnil,EqNil]
  refine W_cond (t:=false) (by simp [ev,x_upd]) (fun h=>by cases h) (fun _=>W_skip ?_)
  simp only [xq,reduceIte,qE,qA,qL,qD]
  refine wR ?_
  simp only [xq,reduceIte,qE,qA,qL,qD]
  refine ⟨hroom,hm,W_ret (.frz ?_)⟩
  simp only [xq,reduceIte,qE,qA,qL,qD]
  have:=frz_all (id:=0) (full:=true) (e:=eGl) (h:=[HB.cells eGl (rows.map fun r=>r.map .d)]) (rows:=rows) rfl
  exact this
end Go.Proofs.YtlllnjhgjijnkaaDoor.Nx
namespace Go.Proofs.YtlllnjhgjijnkaaDoor.Nx
open Go
variable {P:Program} {N:Nat} {Γ:Tabs}
deriving instance DecidableEq for Gl
theorem gl_eq (x y:Gl):(decide (x.text=y.text)&&((x.wide == y.wide)&&(x.style == y.style)))=decide (x=y):=by
 cases x;cases y
 rw [Bool.eq_iff_iff]
 simp
theorem sameRow_fn {f:FuncId} (H:FnIs P f N [.t 4] x_ref15_SameRow) (hN:2≤N) (a b:List Gl):FnP Γ P f [.d (.sl eGl (glRows a)),.d (.sl eGl (glRows b))] (.bool (decide (a=b))):=by
 refine .of_W H (by simpa using hN) (W_sl 0 rfl fun ⟨_,hroom,_⟩=>?_)
 have hlr:a.length≤room:=le_of_mul (by rw [glRows_len] at hroom;exact hroom)
 unfold x_ref15_SameRow
 refine wR ?_
 simp only [xq,reduceIte,qE,qA,qL,qD]
 refine W_seq (wR ?_)
 simp only [xq,reduceIte,qE,qA,qL,qD,glRows_len]
 refine W_cond rfl (fun hc=>?_) (fun hc=>W_skip ?_)
 ·refine wR ?_
  simp only [xq,reduceIte,qE,qA,qL,qD]
  have hne:a≠b:=by rintro rfl;simp at hc
  refine W_ret (.tmp ?_ rfl)
  simp [x_upd,hne]
 ·have hlen:a.length=b.length:=by simp at hc;omega
  simp only [xq,reduceIte,qE,qA,qL,qD]
  refine W_seq (wR ?_)
  simp only [xq,reduceIte,qE,qA,qL,qD]
  refine W_block ?_
  let S:Nat→St:=fun i=>⟨look [(0,.d (.sl eGl (glRows a))),(1,.d (.sl eGl (glRows b))),(5,.int i)],[]⟩
  refine W_co (s':=S 0) (Co.keep _ (by simp [x_upd,x_look])) ?_
  refine W_loop (fun m s=>∃ i,i≤a.length∧m=a.length-i∧s=S i∧a.take i=b.take i) ⟨0,Nat.zero_le _,rfl,rfl,by simp⟩ ?_
  rintro m s ⟨i,hi,rfl,rfl,hpre⟩
  refine W_seq (wR ?_)
  simp only [xq,reduceIte,qE,qA,qL,qD,glRows_len,S]
  refine W_cond rfl (fun hc=>W_skip ?_) (fun hc=>W_exit ?_)
  ·have hlt:i<a.length:=by simpa using hc
   have hltb:i<b.length:=by omega
   simp only [xq,reduceIte,qE,qA,qL,qD]
   refine W_seq (W_block (W_seq (W_drw (by simp) ?_)))
   simp only [xq,reduceIte,qE,qA,qL,qD,glRows_get hlt,glRows_get hltb,Gl.row,gl_eq,glRows_len]
   refine ⟨by omega,by omega,by omega,by omega,?_⟩
   refine W_cond rfl (fun hd=>?_) (fun hd=>W_skip ?_)
   ·refine wR ?_
    simp only [xq,reduceIte,qE,qA,qL,qD]
    have hne:a≠b:=by
     rintro rfl
     simp at hd
    refine W_ret ?_
    simp only [xq,reduceIte,qE,qA,qL,qD]
    refine .tmp ?_ rfl
    simp [x_upd,hne]
   ·have he:a[i]=b[i]:=by simpa using hd
    simp only [xq,reduceIte,qE,qA,qL,qD]
    refine W_reg ?_
    simp only [xq,reduceIte,qE,qA,qL,qD]
    refine ⟨a.length-(i+1),S (i+1),by omega,Co.keep _ ?_,i+1,hlt,rfl,rfl,take_eq_succ hlt hltb hpre he⟩
    simp [x_upd,x_look,i64_succ hlt hlr]
  ·have hle:i=a.length:=by simp at hc;omega
   have heq:a=b:=by
    subst hle
    rw [zh,hlen,zh] at hpre
    exact hpre
   simp only [xq,reduceIte,qE,qA,qL,qD]
   refine wR ?_
   simp only [xq,reduceIte,qE,qA,qL,qD]
   refine W_ret (.tmp ?_ rfl)
   simp [x_upd,heq]
def greatRow (l:List Gl):Bool:=decide (140<l.length)||l.any fun g=>decide (40<g.text.size)
theorem greatRow_fn {f:FuncId} (H:FnIs P f N [.t 2] x_ref15_GreatRow) (hN:1≤N) (l:List Gl):FnP Γ P f [.d (.sl eGl (glRows l))] (.bool (greatRow l)):=by
 refine .of_W H (by simpa using hN) (W_sl 0 rfl fun ⟨_,hroom,_⟩=>?_)
 have hlr:l.length≤room:=le_of_mul (by rw [glRows_len] at hroom;exact hroom)
 unfold x_ref15_GreatRow
 refine wR ?_
 simp only [xq,reduceIte,qE,qA,qL,qD]
 refine W_seq (wR ?_)
 simp only [xq,reduceIte,qE,qA,qL,qD,glRows_len]
 refine W_cond rfl (fun hc=>?_) (fun hc=>W_skip ?_)
 ·refine wR ?_
  simp only [xq,reduceIte,qE,qA,qL,qD]
  have hlt:140<l.length:=by simp at hc;omega
  refine W_ret (.tmp ?_ rfl)
  simp [x_upd,greatRow,hlt]
 ·have hle:¬ 140<l.length:=by simp at hc;omega
  simp only [xq,reduceIte,qE,qA,qL,qD]
  refine W_seq (wR ?_)
  simp only [xq,reduceIte,qE,qA,qL,qD]
  refine W_block ?_
  let S:Nat→St:=fun i=>⟨look [(0,.d (.sl eGl (glRows l))),(3,.int i)],[]⟩
  refine W_co (s':=S 0) (Co.keep _ (by simp [x_upd,x_look])) ?_
  refine W_loop (fun m s=>∃ i,i≤l.length∧m=l.length-i∧s=S i∧(l.take i).any (fun g=>decide (40<g.text.size))=false) ⟨0,Nat.zero_le _,rfl,rfl,by simp⟩ ?_
  rintro m s ⟨i,hi,rfl,rfl,hpre⟩
  refine W_seq (wR ?_)
  simp only [xq,reduceIte,qE,qA,qL,qD,glRows_len,S]
  refine W_cond rfl (fun hc=>W_skip ?_) (fun hc=>W_exit ?_)
  ·have hlt:i<l.length:=by simpa using hc
   simp only [xq,reduceIte,qE,qA,qL,qD]
   refine W_seq (W_block (wR ?_))
   simp only [xq,reduceIte,qE,qA,qL,qD,glRows_get hlt,Gl.row,glRows_len]
   refine ⟨by omega,by omega,?_⟩
   refine W_cond rfl (fun hd=>?_) (fun hd=>W_skip ?_)
   ·refine wR ?_
    simp only [xq,reduceIte,qE,qA,qL,qD]
    refine W_ret ?_
    simp only [xq,reduceIte,qE,qA,qL,qD]
    refine .tmp ?_ rfl
    have hbig:40<l[i].text.size:=by simp at hd;omega
    have:greatRow l=true:=by
     simp only [greatRow,Bool.or_eq_true,List.any_eq_true]
     exact .inr ⟨l[i],List.getElem_mem hlt,by simpa using hbig⟩
    simp [x_upd,this]
   ·have he:decide (40<l[i].text.size)=false:=by simp at hd;simp;omega
    simp only [xq,reduceIte,qE,qA,qL,qD]
    refine W_reg ?_
    simp only [xq,reduceIte,qE,qA,qL,qD]
    refine ⟨l.length-(i+1),S (i+1),by omega,Co.keep _ ?_,i+1,hlt,rfl,rfl,any_take_succ hlt hpre he⟩
    simp [x_upd,x_look,i64_succ hlt hlr]
  ·have hle':i=l.length:=by simp at hc;omega
   subst hle'
   rw [zh] at hpre
   simp only [xq,reduceIte,qE,qA,qL,qD]
   refine wR ?_
   simp only [xq,reduceIte,qE,qA,qL,qD]
   refine W_ret (.tmp ?_ rfl)
   simp [x_upd,greatRow,hle,hpre]
def trimN (l:List Gl):Nat→Nat
 | 0=>0
 | n+1=>if l[n]? = some spaceGl then trimN l n else n+1
def trimGl (l:List Gl):List Gl:=l.take (trimN l l.length)
theorem trimN_le (l:List Gl):∀ n,trimN l n≤n
 | 0=>zL _
 | n+1=>by
  simp only [trimN]
  split
  ·have:=trimN_le l n;omega
  ·exact zL _
theorem glRows_take {l:List Gl} {n:Nat}:(glRows l).take n=glRows (l.take n):=by simp [glRows,List.map_take]
theorem trim_fn {f fb fc:FuncId} {Nb Nc:Nat} (H:FnIs P f N [.t 2] (x_view_Trim fb fc)) (hN:1≤N) (Hb:FnIs P fb Nb [.c 0 3 true] x_view_blank) (Hc:FnIs P fc Nc [.t 2] x_slices_Clone_675) (hNc:1≤Nc) (l:List Gl) :
  FnP Γ P f [.d (.sl eGl (glRows l))] (.d (.sl eGl (glRows (trimGl l)))):=by
 refine .of_W H (by simpa using hN) (W_sl 0 rfl fun ⟨_,hroom,_⟩=>?_)
 have hlr:l.length≤room:=le_of_mul (by rw [glRows_len] at hroom;exact hroom)
 unfold x_view_Trim
 refine wR ?_
 simp only [xq,reduceIte,qE,qA,qL,qD]
 refine wR ?_
 simp only [xq,reduceIte,qE,qA,qL,qD,glRows_len]
 refine W_seq (W_block ?_)
 let S:Nat→St:=fun i=>⟨look [(0,.d (.sl eGl (glRows l))),(3,.int i)],[]⟩
 refine W_co (s':=S l.length) (Co.keep _ (by simp [x_upd,x_look])) ?_
 refine W_loop (fun m s=>m≤l.length∧s=S m∧trimN l l.length=trimN l m) ⟨zL _,rfl,rfl⟩ ?_
 rintro m s ⟨hm,rfl,htr⟩
 have fin:∀ (sl:Nat→A) (n:Nat),sl 0 = .d (.sl eGl (glRows l))→sl 3 = .int n→n=trimN l l.length→W (Tabs.ctx Γ) P N none 0 (.seq (.reg [
  { dst:=some 19,op:=.mov (.t 0) },
  { dst:=some 20,op:=.mov (.t 3) },
  { dst:=some 21,op:=.slice ⟨3,32⟩ (.t 19) none (some (.t 20)) none },
  { dst:=some 22,op:=.call (.f fc) [(.t 21)] },
  { dst:=some 2,op:=.mov (.t 22) }]) .ret) (RetQ [.t 2] (.d (.sl eGl (glRows (trimGl l))))) ⟨sl,[]⟩:=by
  intro sl n h0 h3 hn
  have hnl:n≤l.length:=by rw [hn];exact trimN_le l _
  refine wR ?_
  simp only [xq,reduceIte,qE,qA,qL,qD,h0,h3,glRows_len,Int.natCast_zero,Int.sub_zero,glRows_take]
  refine ⟨by omega,by omega,by omega,by omega,?_⟩
  refine c_fn (clone_fn Hc hNc _) rfl ?_
  simp only [xq,reduceIte,qE,qA,qL,qD]
  refine W_ret (.frz ?_)
  simp only [xq,reduceIte,qE,qA,qL,qD,hn]
  exact .same rfl
 cases m with
 | zero =>
  refine W_seq (W_seq (W_drw (by simp) ?_))
  simp only [xq,reduceIte,qE,qA,qL,qD,S,Int.natCast_zero,Int.lt_irrefl,decide_false]
  refine W_cond rfl (fun hc=>by cases hc) (fun _=>W_exit ?_)
  simp only [xq,reduceIte,qE,qA,qL,qD]
  exact fin _ 0 rfl rfl htr.symm
 | succ n =>
  have hpos:decide ((0:Int)<((n+1:Nat):Int))=true:=decide_eq_true (by omega)
  have hlt:n<l.length:=by omega
  refine W_seq (W_seq (W_drw (by simp) ?_))
  simp only [xq,reduceIte,qE,qA,qL,qD,S,hpos,i64_pred (show n≤room by omega),glRows_get hlt,Gl.row,glRows_len]
  refine ⟨by omega,by omega,?_⟩
  refine c_fn (blank_fn Hb) rfl ?_
  simp only [xq,reduceIte,qE,qA,qL,qD,glA,Gl.row,gl_eq]
  refine W_cond rfl (fun hc=>W_skip ?_) (fun hc=>W_exit ?_)
  ·have he:l[n]=spaceGl:=by simpa using hc
   simp only [xq,reduceIte,qE,qA,qL,qD]
   refine W_block (W_reg ?_)
   simp only [xq,reduceIte,qE,qA,qL,qD]
   refine ⟨n,S n,Nat.lt_succ_self _,Co.keep _ ?_,by omega,rfl,?_⟩
   ·simp [x_upd,x_look,i64_nat (show n≤room by omega)]
   ·rw [htr];simp [trimN,zB hlt,he]
  ·have he:l[n]≠spaceGl:=by simpa using hc
   simp only [xq,reduceIte,qE,qA,qL,qD]
   refine fin _ (n+1) rfl rfl ?_
   rw [htr];simp [trimN,zB hlt,he]
theorem trimGl_len (l:List Gl):(trimGl l).length=trimN l l.length:=by
 have:=trimN_le l l.length
 simp [trimGl];omega
theorem trimN_last (l:List Gl):∀ n k,trimN l n=k+1→l[k]? ≠ some spaceGl
 | 0,k,h=>by simp [trimN] at h
 | n+1,k,h=>by
  simp only [trimN] at h
  split at h
  ·exact trimN_last l n k h
  ·rename_i hne
   have:n=k:=by omega
   subst this;exact hne
end Go.Proofs.YtlllnjhgjijnkaaDoor.Nx

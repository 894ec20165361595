import Derived.Test.YtlllnjhgjijnkaaGreatDoorNxD15
import Derived.Test.YtlllnjhgjijnkaaGreatDoorNxWalk
import Derived.Test.YtlllnjhgjijnkaaGreatDoorNxC1
set_option linter.unusedSimpArgs false
set_option linter.unusedVariables false
set_option linter.unnecessarySimpa false
open List renaming getElem?_eq_some_iff → zA, getElem?_eq_getElem → zB, getD_eq_getElem?_getD → zC, getElem?_append_left → zF, getElem?_append_right → zG, getElem?_map → zK, append_assoc → zS, length_cons → za, length_append → zb, not_mem_nil → zc, drop_eq_getElem_cons → zd, length_map → zg, take_length → zh, getElem_mem → zi, mem_cons → zp
open Nat renaming zero_le → zI, le_refl → zL
open Bool renaming eq_iff_iff → ze
open Nat renaming reduceEqDiff → qE, reduceAdd → qA, reduceLT → qL, reduceLeDiff → qD
namespace Go.Proofs.YtlllnjhgjijnkaaGreatDoor.Nx
open Go Go.Lib
variable {P:Program} {N:Nat} {Γ:Ctx}
abbrev eBy:Elt:=⟨1,1⟩
def kRow (b:Nat):List A:=[.sc (.int .u8 (b:Int))]
def kRows (l:List Nat):List (List A):=l.map kRow
theorem kRows_nil:kRows []=[]:=rfl
theorem kRows_cons {b:Nat} {l:List Nat}:kRows (b::l)=[.sc (.int .u8 (b:Int))]::kRows l:=rfl
theorem kRows_len {l:List Nat}:(kRows l).length=l.length:=by simp [kRows]
theorem kRows_get {l:List Nat} {i:Nat} (hi:i<l.length):(kRows l)[i]? = some [.sc (.int .u8 (l[i]:Int))]:=by
 rw [kRows,zK,zB hi];rfl
abbrev kB (l:List Nat):HB:=.cells eBy (kRows l)
def limA (l:List Nat):A:=.tup [.sc (.int .u8 (lowN l)),.sc (.int .u8 (highN l)),.int (sizeN (l.headD 0))]
theorem RetD.tup3 {a b c:Nat} {x y z:A} {h:Heap} {sl:Nat→A} (h1:sl a=x) (h2:sl b=y) (h3:sl c=z):RetD [.t a,.t b,.t c] (.tup [x,y,z]) h .ret ⟨sl,h⟩:=⟨.inr rfl,by
 simp only [readRs,readR,single,h1,h2,h3,and_self]⟩
theorem RetD.one {a:Nat} {x:A} {h:Heap} {sl:Nat→A} (h1:sl a=x):RetD [.t a] x h .ret ⟨sl,h⟩:=⟨.inr rfl,by
 simp only [readRs,readR,single,h1,and_self]⟩
theorem limits_fn {f:FuncId} (H:FnIs P f N [.t 2,.t 3,.t 4] x_ref01_limits) (hN:1≤N) {h:Heap} (hb:Γ.b≤h.length) {id p:Nat} {t:List Nat} (hh:h[id]? = some (kB (p::t))) :
  FnD Γ P f [.ref id (t.length+1) 0 (t.length+1) true] h (limA (p::t)) h:=by
 refine .of_W H (by simpa using hN) hb ?_
 have z0:(0:Int)<(t.length:Int)+1:=by omega
 have z1:decide ((t.length:Int)+1=0)=false:=decide_eq_false (by omega)
 have z2:decide ((t.length:Int)+1=1)=decide (t=[]):=by
  rw [ze]
  cases t<;>simp
  omega
 have n0:(((t.length+1:Nat)):Int)=(t.length:Int)+1:=by omega
 have c1:decide ((194:Int)≤(p:Int))=decide (194≤p):=by rw [ze];simp;omega
 have c2:decide ((p:Int)≤(223:Int))=decide (p≤223):=by rw [ze];simp;omega
 have c3:decide ((224:Int)≤(p:Int))=decide (224≤p):=by rw [ze];simp;omega
 have c4:decide ((p:Int)≤(239:Int))=decide (p≤239):=by rw [ze];simp;omega
 have c5:decide ((240:Int)≤(p:Int))=decide (240≤p):=by rw [ze];simp;omega
 have c6:decide ((p:Int)≤(244:Int))=decide (p≤244):=by rw [ze];simp;omega
 have d1:decide ((p:Int)=224)=decide (p=224):=by rw [ze];simp;omega
 have d2:decide ((p:Int)=237)=decide (p=237):=by rw [ze];simp;omega
 have d3:decide ((p:Int)=240)=decide (p=240):=by rw [ze];simp;omega
 have d4:decide ((p:Int)=244)=decide (p=244):=by rw [ze];simp;omega
 let S:List (Nat × A)→St:=fun l=>⟨look ((0,.ref id (t.length+1) 0 (t.length+1) true)::l),h⟩
 unfold x_ref01_limits
 refine wR ?_
 simp only [xq,reduceIte,qE,qA,qL,qD]
 refine W_seq (wR ?_)
 simp only [xq,reduceIte,qE,qA,qL,qD,hh,kRows_cons,kRows_len,n0,z1]
 refine W_cond rfl (fun hc=>by cases hc) (fun _=>W_skip ?_)
 simp only [xq,reduceIte,qE,qA,qL,qD]
 refine wR ?_
 simp only [xq,reduceIte,qE,qA,qL,qD]
 refine W_cut (· = S [(5,.int (sizeN p))]) ?_ ?_
 ·refine W_block ?_
  refine W_cutX (· = S [(5,.int 0),(11,.bool (decide (194≤p)&&decide (p≤223)))]) rfl (fun K hK=>?_) ?_
  ·cases e:decide (194≤p)<;>simp only [xq,reduceIte,qE,qA,qL,qD,hh,kRows_cons,kRows_len,n0,z0,Int.le_refl,c1,c2,e]
   all_goals (refine hK _ _ (Co.keep _ ?_) rfl;simp at e;simp [x_upd,x_look];try (intros;omega))
  rintro _ rfl
  refine W_cond rfl (fun hc=>W_reg ?_) (fun hc=>?_)
  ·have hz:sizeN p=2:=by
    rw [sizeN,if_pos (by simpa using hc)]
   simp only [S,xq,reduceIte,qE,qA,qL,qD]
   refine ⟨S [(5,.int (sizeN p))],Co.keep _ ?_,rfl⟩
   simp [x_upd,x_look,hz]
  refine W_cutX (· = S [(5,.int 0),(22,.bool (decide (224≤p)&&decide (p≤239)))]) rfl (fun K hK=>?_) ?_
  ·cases e:decide (224≤p)<;>simp only [S,xq,reduceIte,qE,qA,qL,qD,hh,kRows_cons,kRows_len,n0,z0,Int.le_refl,c3,c4,e]
   all_goals (refine hK _ _ (Co.keep _ ?_) rfl;simp at e;simp [x_upd,x_look];try (intros;omega))
  rintro _ rfl
  refine W_cond rfl (fun hc2=>W_reg ?_) (fun hc2=>?_)
  ·have hz:sizeN p=3:=by
    simp at hc hc2
    rw [sizeN,if_neg (by omega),if_pos hc2]
   simp only [S,xq,reduceIte,qE,qA,qL,qD]
   refine ⟨S [(5,.int (sizeN p))],Co.keep _ ?_,rfl⟩
   simp [x_upd,x_look,hz]
  refine W_cutX (· = S [(5,.int 0),(33,.bool (decide (240≤p)&&decide (p≤244)))]) rfl (fun K hK=>?_) ?_
  ·cases e:decide (240≤p)<;>simp only [S,xq,reduceIte,qE,qA,qL,qD,hh,kRows_cons,kRows_len,n0,z0,Int.le_refl,c5,c6,e]
   all_goals (refine hK _ _ (Co.keep _ ?_) rfl;simp at e;simp [x_upd,x_look];try (intros;omega))
  rintro _ rfl
  refine W_cond rfl (fun hc3=>W_reg ?_) (fun hc3=>W_skip ?_)
  ·have hz:sizeN p=4:=by
    simp at hc hc2 hc3
    rw [sizeN,if_neg (by omega),if_neg (by omega),if_pos hc3]
   simp only [S,xq,reduceIte,qE,qA,qL,qD]
   refine ⟨S [(5,.int (sizeN p))],Co.keep _ ?_,rfl⟩
   simp [x_upd,x_look,hz]
  ·have hz:sizeN p=0:=by
    simp at hc hc2 hc3
    rw [sizeN,if_neg (by omega),if_neg (by omega),if_neg (by omega)]
   simp only [S,xq,reduceIte,qE,qA,qL,qD]
   refine ⟨S [(5,.int (sizeN p))],Co.keep _ ?_,rfl⟩
   simp [x_upd,x_look,hz]
 ·rintro _ rfl
  refine wR ?_
  simp only [S,xq,reduceIte,qE,qA,qL,qD]
  refine W_cut (· = S [(5,.int (sizeN p)),(6,.sc (.int .u8 (lowN (p::t)))),(7,.sc (.int .u8 (highN (p::t))))]) ?_ ?_
  ·refine wR ?_
   simp only [xq,reduceIte,qE,qA,qL,qD,hh,kRows_cons,kRows_len,n0,z2]
   refine W_cond rfl (fun ht=>?_) (fun ht=>W_skip ?_)
   ·have ht:t=[]:=by simpa using ht
    subst ht
    refine wR ?_
    simp only [xq,reduceIte,qE,qA,qL,qD,hh,kRows_cons,kRows_nil,n0]
    refine ⟨by decide,by decide,?_⟩
    refine W_block (wR ?_)
    simp only [xq,reduceIte,qE,qA,qL,qD,d1]
    refine W_cond rfl (fun h1=>W_reg ?_) (fun h1=>wR ?_)
    ·have h1:p=224:=by simpa using h1
     simp only [xq,reduceIte,qE,qA,qL,qD]
     refine ⟨S [(5,.int (sizeN p)),(6,.sc (.int .u8 (lowN [p]))),(7,.sc (.int .u8 (highN [p])))],Co.keep _ ?_,rfl⟩
     simp [x_upd,x_look,lowN,highN,h1]
    simp only [xq,reduceIte,qE,qA,qL,qD,d2]
    refine W_cond rfl (fun h2=>W_reg ?_) (fun h2=>wR ?_)
    ·have h2:p=237:=by simpa using h2
     simp only [xq,reduceIte,qE,qA,qL,qD]
     refine ⟨S [(5,.int (sizeN p)),(6,.sc (.int .u8 (lowN [p]))),(7,.sc (.int .u8 (highN [p])))],Co.keep _ ?_,rfl⟩
     simp [x_upd,x_look,lowN,highN,h2]
    simp only [xq,reduceIte,qE,qA,qL,qD,d3]
    refine W_cond rfl (fun h3=>W_reg ?_) (fun h3=>wR ?_)
    ·have h3:p=240:=by simpa using h3
     simp only [xq,reduceIte,qE,qA,qL,qD]
     refine ⟨S [(5,.int (sizeN p)),(6,.sc (.int .u8 (lowN [p]))),(7,.sc (.int .u8 (highN [p])))],Co.keep _ ?_,rfl⟩
     simp [x_upd,x_look,lowN,highN,h3]
    simp only [xq,reduceIte,qE,qA,qL,qD,d4]
    refine W_cond rfl (fun h4=>W_reg ?_) (fun h4=>W_skip ?_)
    ·have h4:p=244:=by simpa using h4
     simp only [xq,reduceIte,qE,qA,qL,qD]
     refine ⟨S [(5,.int (sizeN p)),(6,.sc (.int .u8 (lowN [p]))),(7,.sc (.int .u8 (highN [p])))],Co.keep _ ?_,rfl⟩
     simp [x_upd,x_look,lowN,highN,h4]
    ·simp only [xq,reduceIte,qE,qA,qL,qD]
     refine ⟨S [(5,.int (sizeN p)),(6,.sc (.int .u8 (lowN [p]))),(7,.sc (.int .u8 (highN [p])))],Co.keep _ ?_,rfl⟩
     simp at h1 h2 h3 h4
     simp [x_upd,x_look,lowN,highN,h1,h2,h3,h4]
   ·have ht:t≠[]:=by simpa using ht
    simp only [xq,reduceIte,qE,qA,qL,qD]
    refine ⟨S [(5,.int (sizeN p)),(6,.sc (.int .u8 (lowN (p::t)))),(7,.sc (.int .u8 (highN (p::t))))],Co.keep _ ?_,rfl⟩
    cases t with
    | nil=>exact absurd rfl ht
    | cons a t=>simp [x_upd,x_look,lowN,highN]
  ·rintro _ rfl
   refine wR ?_
   simp only [S,xq,reduceIte,qE,qA,qL,qD]
   exact W_ret (RetD.tup3 rfl rfl rfl)
theorem val_aux {l:List Nat} {i:Nat} {n:Int} (hi:i<l.length):(l.drop i).foldl (fun (n:Int) (b:Nat)=>n * 64+b-128) n=(l.drop (i+1)).foldl (fun (n:Int) (b:Nat)=>n * 64+b-128) (n * 64+(l[i]:Int)-128):=by
 rw [zd hi,List.foldl_cons]
theorem i32_of {x:Int} (h : -2000000000≤x∧x≤2000000000):IntKind.i32.wrap x=x:=IntWalk.i32_in _ (by omega)
def bndV (i:Nat):Int:=if i=1 then 300 else if i=2 then 20000 else if i=3 then 1300000 else 84000000
theorem bndV_succ {i:Nat} {n b:Int} (h1:1≤i) (h3:i≤3) (hn : -bndV i≤n∧n≤bndV i) (hb:0≤b∧b<256):(-bndV (i+1)≤n * 64+b-128∧n * 64+b-128≤bndV (i+1))∧(-1500000≤n∧n≤1500000):=by
 rcases (show i=1∨i=2∨i=3 by omega) with rfl | rfl | rfl<;>simp [bndV] at hn ⊢ <;> omega
theorem value_fn {f:FuncId} (H:FnIs P f N [.t 2] x_ref01_value) (hN:1≤N) {h:Heap} (hb:Γ.b≤h.length) {id:Nat} {l:List Nat} (hh:h[id]? = some (kB l)) (hl:l.length≤4) (hlt:∀ b∈l,b<256) :
  FnD Γ P f [.ref id l.length 0 l.length true] h (.sc (.int .i32 (valN l))) h:=by
 refine .of_W H (by simpa using hN) hb ?_
 let S:Nat→List (Nat × A)→St:=fun n t=>⟨look ((0,.ref id n 0 n true)::t),h⟩
 unfold x_ref01_value
 refine wR ?_
 simp only [xq,reduceIte,qE,qA,qL,qD]
 refine wR ?_
 simp only [xq,reduceIte,qE,qA,qL,qD]
 refine W_cut (· = S l.length [(3,.sc (.int .i32 (baseN l)))]) ?_ ?_
 ·refine wR ?_
  simp only [xq,reduceIte,qE,qA,qL,qD,hh,kRows_len]
  refine W_block (wR ?_)
  simp only [xq,reduceIte,qE,qA,qL,qD]
  refine W_cond rfl (fun h1=>?_) (fun h1=>wR ?_)
  ·have h1:l.length=2:=by simp at h1;omega
   match l,h1 with
   | [a,b],_ =>
    have ha:=hlt a (by simp)
    refine W_reg ?_
    simp only [xq,reduceIte,qE,qA,qL,qD,hh,kRows_cons,kRows_nil,i32_of (show -2000000000≤(a:Int)∧(a:Int)≤2000000000 by omega),i32_of (show -2000000000≤(a:Int)-192∧(a:Int)-192≤2000000000 by omega)]
    refine ⟨by decide,by decide,S 2 [(3,.sc (.int .i32 (baseN [a,b])))],Co.keep _ ?_,rfl⟩
    simp [x_upd,x_look,baseN]
  simp only [xq,reduceIte,qE,qA,qL,qD]
  refine W_cond rfl (fun h2=>?_) (fun h2=>wR ?_)
  ·have h2:l.length=3:=by simp at h2;omega
   match l,h2 with
   | [a,b,c],_ =>
    have ha:=hlt a (by simp)
    refine W_reg ?_
    simp only [xq,reduceIte,qE,qA,qL,qD,hh,kRows_cons,kRows_nil,i32_of (show -2000000000≤(a:Int)∧(a:Int)≤2000000000 by omega),i32_of (show -2000000000≤(a:Int)-224∧(a:Int)-224≤2000000000 by omega)]
    refine ⟨by decide,by decide,S 3 [(3,.sc (.int .i32 (baseN [a,b,c])))],Co.keep _ ?_,rfl⟩
    simp [x_upd,x_look,baseN]
  simp only [xq,reduceIte,qE,qA,qL,qD]
  refine W_cond rfl (fun h3=>?_) (fun h3=>W_skip ?_)
  ·have h3:l.length=4:=by simp at h3;omega
   match l,h3 with
   | [a,b,c,d],_ =>
    have ha:=hlt a (by simp)
    refine W_reg ?_
    simp only [xq,reduceIte,qE,qA,qL,qD,hh,kRows_cons,kRows_nil,i32_of (show -2000000000≤(a:Int)∧(a:Int)≤2000000000 by omega),i32_of (show -2000000000≤(a:Int)-240∧(a:Int)-240≤2000000000 by omega)]
    refine ⟨by decide,by decide,S 4 [(3,.sc (.int .i32 (baseN [a,b,c,d])))],Co.keep _ ?_,rfl⟩
    simp [x_upd,x_look,baseN]
  ·simp at h1 h2 h3
   have hbz:baseN l=0:=by
    match l with
    | []=>rfl
    | [_]=>rfl
    | [_,_]=>simp at h1
    | [_,_,_]=>simp at h2
    | [_,_,_,_]=>simp at h3
    | _::_::_::_::_::_=>rfl
   simp only [xq,reduceIte,qE,qA,qL,qD]
   refine ⟨S l.length [(3,.sc (.int .i32 (baseN l)))],Co.keep _ ?_,rfl⟩
   simp [x_upd,x_look,hbz]
 ·rintro _ rfl
  refine W_seq (wR ?_)
  simp only [S,xq,reduceIte,qE,qA,qL,qD]
  refine W_block ?_
  let T:Nat→Int→St:=fun i n=>⟨look [(0,.ref id l.length 0 l.length true),(3,.sc (.int .i32 n)),(4,.int i)],h⟩
  have hbase : -bndV 1≤baseN l∧baseN l≤bndV 1:=by
   match l with
   | []=>decide
   | [_]=>simp [baseN,bndV]
   | [a,_]=>have:=hlt a (by simp);simp only [baseN,bndV,if_pos];omega
   | [a,_,_]=>have:=hlt a (by simp);simp only [baseN,bndV,if_pos];omega
   | [a,_,_,_]=>have:=hlt a (by simp);simp only [baseN,bndV,if_pos];omega
   | _::_::_::_::_::_=>simp [baseN,bndV]
  refine W_co (s':=T 1 (baseN l)) (Co.keep _ (by simp [x_upd,x_look])) ?_
  refine W_loop (fun m s=>∃ i n,1≤i∧m=l.length-i∧s=T i n∧(l.drop i).foldl (fun (n:Int) (b:Nat)=>n * 64+b-128) n=valN l ∧ -bndV i≤n∧n≤bndV i) ⟨1,baseN l,zL _,rfl,rfl,rfl,hbase⟩ ?_
  rintro m s ⟨i,n,hi,rfl,rfl,hval,hbn⟩
  refine W_seq (wR ?_)
  simp only [T,xq,reduceIte,qE,qA,qL,qD,hh,kRows_len]
  refine W_cond rfl (fun hc=>W_skip ?_) (fun hc=>W_exit ?_)
  ·have hlt2:i<l.length:=by simpa using hc
   have hb1:=hlt l[i] (zi hlt2)
   obtain ⟨hb2,hb3⟩:=bndV_succ (b:=(l[i]:Int)) hi (by omega) hbn (by omega)
   rw [val_aux hlt2] at hval
   simp only [xq,reduceIte,qE,qA,qL,qD]
   refine W_seq (W_block (W_reg ?_))
   have e1:IntKind.i32.wrap (n * 64)=n * 64:=i32_of (by omega)
   have e2:IntKind.i32.wrap (l[i]:Int)=(l[i]:Int):=i32_of (by omega)
   have e3:IntKind.i32.wrap (n * 64+(l[i]:Int))=n * 64+(l[i]:Int):=i32_of (by omega)
   have e4:IntKind.i32.wrap (n * 64+(l[i]:Int)-128)=n * 64+(l[i]:Int)-128:=i32_of (by omega)
   simp only [xq,reduceIte,qE,qA,qL,qD,hh,kRows_len,kRows_get hlt2,e1,e2,e3,e4]
   refine ⟨by omega,by omega,?_⟩
   refine W_reg ?_
   simp only [xq,reduceIte,qE,qA,qL,qD]
   refine ⟨l.length-(i+1),T (i+1) (n * 64+(l[i]:Int)-128),by omega,Co.keep _ ?_,i+1,_,by omega,rfl,rfl,hval,hb2⟩
   simp [x_upd,x_look,i64_succ hlt2 (show l.length≤room by simp only [room];omega)]
  ·have hge:l.length≤i:=by simpa using hc
   rw [List.drop_eq_nil_of_le hge] at hval
   simp only [xq,reduceIte,qE,qA,qL,qD]
   refine wR ?_
   simp only [xq,reduceIte,qE,qA,qL,qD]
   refine W_ret (RetD.one ?_)
   simp only [x_upd,reduceIte,← hval,List.foldl_nil]
end Go.Proofs.YtlllnjhgjijnkaaGreatDoor.Nx
namespace Go.Proofs.YtlllnjhgjijnkaaGreatDoor.Nx
open Go Go.Lib
variable {P:Program} {N:Nat} {Γ:Tabs}
abbrev eRu:Elt:=⟨1,4⟩
def iRow (n:Int):List D:=[.sc (.int .i32 n)]
def irRows (l:List Int):List (List D):=l.map iRow
theorem irRows_len {l:List Int}:(irRows l).length=l.length:=by simp [irRows]
def oRows (l:List Int):List (List A):=l.map fun n=>[.sc (.int .i32 n)]
theorem oRows_len {l:List Int}:(oRows l).length=l.length:=by simp [oRows]
theorem oRows_snoc {l:List Int} {n:Int}:oRows l++[[.sc (.int .i32 n)]]=oRows (l++[n]):=by simp [oRows]
theorem kRows_snoc {l:List Nat} {b:Nat}:kRows l++[[.sc (.int .u8 (b:Int))]]=kRows (l++[b]):=by simp [kRows,kRow]
abbrev oBc (l:List Int):HB:=.cells eRu (oRows l)
theorem oRows_ir (l:List Int):(irRows l).map (fun r=>r.map A.d)=oRows l:=by simp [irRows,oRows,iRow]
def numS (l:List Nat):ByteArray:=strOfNums (l.map fun (b:Nat)=>(b:Int))
def decA (l:List Nat):A:=.tup [.d (.sl eRu (irRows (drun l).1)),.str (numS (drun l).2)]
theorem kRows_bytes:∀ (l:List Nat),(kRows l).mapM byteOf=some (l.map fun (b:Nat)=>(b:Int))
 | []=>rfl
 | b::l=>by
  rw [kRows_cons,List.mapM_cons,kRows_bytes l];rfl
theorem sliceRows_ref {e:Elt} {h:Heap} {id n off len:Nat} {full:Bool}:sliceRows e h (.ref id n off len full)=srcRows e h (.ref id n off len full):=rfl
theorem empty_app (s:ByteArray):(⟨#[]⟩:ByteArray)++s=s:=by
 rcases s with ⟨⟨l⟩⟩
 simp [← ByteArray.append_eq,ByteArray.append]
theorem toN_drop {s:ByteArray} {i:Nat} (hi:i<s.size):(toN s.data.toList).drop i=nb s.data.toList i::(toN s.data.toList).drop (i+1):=by
 have hl:=bytes_size s
 have h1:i<(toN s.data.toList).length:=by simp only [toN,zg];omega
 rw [zd h1]
 congr 1
 simp only [toN,List.getElem_map,nb]
 rw [zC,zB (by omega)];rfl
theorem at0 {h t:Heap} {B:HB} (h0:h[0]? = some B):(h++t)[0]? = some B:=by
 rw [zF (zA.1 h0).1];exact h0
theorem atj {h t:Heap} {B:HB} {j:Nat} (h0:h[j]? = some B):(h++t)[j]? = some B:=by
 rw [zF (zA.1 h0).1];exact h0
theorem set0 {h t:Heap} {B X:HB} {j:Nat} (h0:h[j]? = some B):(h++t).set j X=h.set j X++t:=List.set_append_left _ _ (zA.1 h0).1
theorem put_at {h t:Heap} {B X:HB} {j:Nat} (h0:h[j]? = some B):(h.set j X++t)[j]? = some X:=by
 have:=(zA.1 h0).1
 rw [zF (by simpa using this),List.getElem?_set_self this]
theorem put_ne {h t:Heap} {B X:HB} {i j:Nat} (hij:i≠j) (h0:h[j]? = some B):(h.set i X++t)[j]? = some B:=by
 have:=(zA.1 h0).1
 rw [zF (by simpa using this),List.getElem?_set_ne hij];exact h0
theorem sizeN_cases (b:Nat):sizeN b=0∨sizeN b=2∨sizeN b=3∨sizeN b=4:=by
 unfold sizeN
 repeat' split
 all_goals simp
theorem decode_fn {f fl fv:FuncId} {Nl Nv:Nat} (H:FnIs P f N [.t 4,.t 5] (x_ref01_Decode fl fv)) (hN:2≤N) (Hl:FnIs P fl Nl [.t 2,.t 3,.t 4] x_ref01_limits) (hNl:1≤Nl) (Hv:FnIs P fv Nv [.t 2] x_ref01_value) (hNv:1≤Nv)
  (s:ByteArray) (hs:s.size≤1000):FnP Γ P f [.str ⟨#[]⟩,.str s] (decA (toN s.data.toList)):=by
 refine .of_W H (by simpa using hN) ?_
 unfold x_ref01_Decode
 refine wR ?_
 simp only [xq,reduceIte,qE,qA,qL,qD]
 refine wR ?_
 have hsum:(⟨#[]⟩:ByteArray).size+s.size≤maxLen:=by
  have:(⟨#[]⟩:ByteArray).size=0:=rfl
  simp only [maxLen];omega
 simp only [xq,reduceIte,qE,qA,qL,qD,b_sadd hsum,empty_app]
 refine wR ?_
 simp only [xq,reduceIte,qE,qA,qL,qD]
 refine wR ?_
 simp only [xq,reduceIte,qE,qA,qL,qD]
 let S:Nat→List Int→List Nat→Nat→Heap→St:=fun i out kept j h=>⟨look [(6,.str s),(7,.ref 0 out.length 0 out.length true),(8,.ref j kept.length 0 kept.length true),(9,.int i)],h⟩
 refine W_seq (wR ?_)
 simp only [xq,reduceIte,qE,qA,qL,qD]
 refine W_block ?_
 refine W_co (s':=S 0 [] [] 1 [oBc [],kB []]) (Co.keep _ (by simp [x_upd,x_look])) ?_
 have hn:=bytes_size s
 let I:Nat→St→Prop:=fun m s0=>∃ i out kept j h,i≤s.size∧m=2 * (s.size-i)+(if kept=[] then 0 else 1)∧s0=S i out kept j h∧((toN s.data.toList).drop i).foldl dstep (out,kept)=drun (toN s.data.toList)∧out.length+(if kept=[] then 0 else 1)≤i ∧
   (kept=[]∨kept.length<sizeN (kept.headD 0))∧(∀ b∈kept,b<256)∧j≠0∧h[0]? = some (oBc out)∧h[j]? = some (kB kept)
 refine W_loop I ⟨0,[],[],1,_,zI _,rfl,rfl,rfl,by simp,.inl rfl,by simp,by decide,rfl,rfl⟩ ?_
 rintro m s0 ⟨i,out,kept,j,h,hi,rfl,rfl,hrun,hlen,hksz,hk256,hj,h0,hkj⟩
 have hout:out.length≤1000:=by omega
 have hpos:0<h.length:=(zA.1 h0).1
 have hjl:j<h.length:=(zA.1 hkj).1
 have fin:∀ (i':Nat) (out':List Int) (kept':List Nat) (j':Nat) (h':Heap) (sl:Nat→A),i'≤s.size→2 * (s.size-i')+(if kept'=[] then 0 else 1)<2 * (s.size-i)+(if kept=[] then 0 else 1)→sl 6 = .str s→sl 7 = .ref 0 out'.length 0 out'.length true→sl 8 = .ref j' kept'.length 0 kept'.length true →
   sl 9 = .int i'→((toN s.data.toList).drop i').foldl dstep (out',kept')=drun (toN s.data.toList)→out'.length+(if kept'=[] then 0 else 1)≤i'→(kept'=[]∨kept'.length<sizeN (kept'.headD 0))→(∀ b∈kept',b<256)→j'≠0→h'[0]? = some (oBc out')→h'[j']? = some (kB kept') →
   ∃ m' s',m'<2 * (s.size-i)+(if kept=[] then 0 else 1)∧Co 0 ⟨sl,h'⟩ s'∧I m' s':=fun i' out' kept' j' h' sl a1 a2 a3 a4 a5 a6 a7 a8 a9 a10 a11 a12 a13 =>
  ⟨_,S i' out' kept' j' h',a2,Co.keep _ (by simp [a3,a4,a5,a6]),i',out',kept',j',h',a1,rfl,rfl,a7,a8,a9,a10,a11,a12,a13⟩
 have e0:∀ t,(h++t)[0]? = some (oBc out):=fun t=>at0 h0
 have e1:∀ t X,(h++t).set 0 X=h.set 0 X++t:=fun t X=>set0 h0
 have e2:∀ t,(h++t)[j]? = some (kB kept):=fun t=>atj hkj
 have e3:∀ t X,(h++t).set j X=h.set j X++t:=fun t X=>set0 hkj
 have f1:IntKind.i64.wrap ((i:Int)+1)=((i+1:Nat):Int):=i64_of (by omega)
 refine W_seq (wR ?_)
 simp only [S,xq,reduceIte,qE,qA,qL,qD]
 refine W_cond rfl (fun hc=>W_skip ?_) (fun hc=>W_exit ?_)
 ·have hlt:i<s.size:=by simpa using hc
  simp only [xq,reduceIte,qE,qA,qL,qD]
  have hdrop:=toN_drop hlt
  have hb256:=nb_lt s.data.toList i
  refine W_block (wR ?_)
  simp only [xq,reduceIte,qE,qA,qL,qD]
  refine ⟨by omega,by omega,?_⟩
  change W _ _ _ _ _ _ _ ⟨upd _ 10 (.sc (.int .u8 (nb s.data.toList i))),h⟩
  generalize nb s.data.toList i=b at hdrop hb256
  have g32:IntKind.i32.wrap (b:Int)=(b:Int):=i32_of (by omega)
  have g128:decide ((b:Int)<128)=decide (b<128):=by rw [ze];simp;omega
  rw [hdrop,List.foldl_cons] at hrun
  refine W_seq (wR ?_)
  simp only [xq,reduceIte,qE,qA,qL,qD,hkj,kRows_len]
  refine W_cond rfl (fun hc2=>?_) (fun hc2=>W_skip ?_)
  ·have hk:kept=[]:=by simpa using hc2
   subst hk
   simp only [dstep,dstart] at hrun
   refine wR ?_
   simp only [xq,reduceIte,qE,qA,qL,qD,f1]
   refine wR ?_
   simp only [xq,reduceIte,qE,qA,qL,qD]
   refine ce_fn (limits_fn Hl hNl (zI _) (h:=h++[kB [b]]) (id:=h.length) (p:=b) (t:=[]) (by simp)) ?_
   simp only [xq,reduceIte,qE,qA,qL,qD,limA,List.headD_cons]
   refine W_seq (W_block (wR ?_))
   simp only [xq,reduceIte,qE,qA,qL,qD,g128]
   refine W_cond rfl (fun hb=>W_reg ?_) (fun hb=>wR ?_)
   ·have hb:b<128:=by simpa using hb
    rw [if_pos hb] at hrun
    simp only [xq,reduceIte,qE,qA,qL,qD,g32,zS,hp_g1,e0,e1,oRows_len,oRows_snoc]
    refine ⟨by simp only [room];omega,by simp only [maxLen];omega,?_⟩
    refine W_exit ?_
    simp only [xq,reduceIte,qE,qA,qL,qD]
    refine fin (i+1) (out++[(b:Int)]) [] j _ _ hlt ?_ rfl ?_ rfl rfl hrun ?_ (.inl rfl) (by simp) hj (put_at h0) (put_ne (Ne.symm hj) hkj)
    ·simp;omega
    ·simp [x_upd]
    ·simp at hlen ⊢; omega
   ·have hb:¬ b<128:=by simpa using hb
    rw [if_neg hb] at hrun
    have gsz:decide ((0:Int)<(sizeN b:Int))=decide (0<sizeN b):=by rw [ze];simp
    simp only [xq,reduceIte,qE,qA,qL,qD,gsz]
    refine W_cond rfl (fun hz=>W_reg ?_) (fun hz=>W_reg ?_)
    ·have hz:0<sizeN b:=by simpa using hz
     have hz2:2≤sizeN b:=by
      have:=sizeN_cases b
      omega
     rw [if_pos hz] at hrun
     simp only [xq,reduceIte,qE,qA,qL,qD,zS,hp_g1,e2,e3,kRows_len,kRows_snoc]
     refine ⟨by simp only [room];omega,by simp only [maxLen];omega,?_⟩
     refine W_exit ?_
     simp only [xq,reduceIte,qE,qA,qL,qD]
     refine fin (i+1) out [b] j _ _ hlt ?_ rfl rfl ?_ rfl hrun ?_ (.inr ?_) (by simpa using hb256) hj (put_ne hj h0) (put_at hkj)
     ·simp;omega
     ·simp [x_upd]
     ·simp at hlen ⊢; omega
     ·simp;omega
    ·have hz:¬ 0<sizeN b:=by simpa using hz
     rw [if_neg hz] at hrun
     simp only [xq,reduceIte,qE,qA,qL,qD,zS,hp_g1,e0,e1,oRows_len,oRows_snoc]
     refine ⟨by simp only [room];omega,by simp only [maxLen];omega,?_⟩
     refine W_exit ?_
     simp only [xq,reduceIte,qE,qA,qL,qD]
     refine fin (i+1) (out++[65533]) [] j _ _ hlt ?_ rfl ?_ rfl rfl hrun ?_ (.inl rfl) (by simp) hj (put_at h0) (put_ne (Ne.symm hj) hkj)
     ·simp;omega
     ·simp [x_upd]
     ·simp at hlen ⊢; omega
  ·cases kept with
   | nil=>simp at hc2
   | cons p t =>
    have hsz:t.length+1<sizeN p:=by
     rcases hksz with h | h
     ·cases h
     ·simpa using h
    have hsz4:sizeN p≤4:=by
     have:=sizeN_cases p
     omega
    simp only [if_neg (List.cons_ne_nil p t)] at hlen fin
    simp only [xq,reduceIte,qE,qA,qL,qD]
    refine wR ?_
    simp only [xq,reduceIte,qE,qA,qL,qD]
    refine ce_fn (limits_fn Hl hNl (zI _) (h:=h) (id:=j) (p:=p) (t:=t) hkj) ?_
    simp only [xq,reduceIte,qE,qA,qL,qD,limA,List.headD_cons]
    have glo:decide ((b:Int)<(lowN (p::t):Int))=decide (b<lowN (p::t)):=by rw [ze];simp
    have ghi:decide ((highN (p::t):Int)<(b:Int))=decide (highN (p::t)<b):=by rw [ze];simp
    let U:Bool→St:=fun c=>⟨look [(6,.str s),(7,.ref 0 out.length 0 out.length true),(8,.ref j (t.length+1) 0 (t.length+1) true),(9,.int i),(10,.sc (.int .u8 (b:Int))),(16,.int (sizeN p)),(72,.bool c)],h⟩
    refine W_seq (W_cutX (· = U (decide (b<lowN (p::t))||decide (highN (p::t)<b))) rfl (fun K hK=>?_) ?_)
    ·cases e:decide (b<lowN (p::t))<;>simp only [xq,reduceIte,qE,qA,qL,qD,glo,ghi,e]
     all_goals (refine hK _ _ (Co.keep _ ?_) rfl;simp [x_upd,x_look,e])
    rintro _ rfl
    refine W_cond rfl (fun hd=>?_) (fun hd=>W_skip ?_)
    ·have hd:b<lowN (p::t)∨highN (p::t)<b:=by simpa using hd
     simp only [dstep,if_pos hd] at hrun
     refine wR ?_
     simp only [U,xq,reduceIte,qE,qA,qL,qD,hp_g0,e0,e1,oRows_len,oRows_snoc]
     refine ⟨by simp only [room];omega,by simp only [maxLen];omega,?_⟩
     refine wR ?_
     simp only [xq,reduceIte,qE,qA,qL,qD]
     refine W_exit ?_
     simp only [xq,reduceIte,qE,qA,qL,qD,zS]
     refine fin i (out++[65533]) [] _ _ _ hi ?_ rfl ?_ rfl rfl ?_ ?_ (.inl rfl) (by simp) ?_ (put_at h0) ?_
     ·simp
     ·simp [x_upd]
     ·rw [hdrop,List.foldl_cons];exact hrun
     ·simp;omega
     ·simp
     ·rw [zG (by simp)];simp;rfl
    ·have hd:¬ (b<lowN (p::t)∨highN (p::t)<b):=by
      intro h
      rw [Bool.eq_false_iff] at hd
      exact hd (by simpa using h)
     simp only [dstep,if_neg hd] at hrun
     simp only [U,xq,reduceIte,qE,qA,qL,qD]
     refine wR ?_
     simp only [xq,reduceIte,qE,qA,qL,qD,f1]
     refine wR ?_
     simp only [xq,reduceIte,qE,qA,qL,qD,hp_g0,e2,e3,kRows_len,kRows_snoc]
     refine ⟨by simp only [room];omega,by simp only [maxLen];omega,?_⟩
     have hj2:∀ t',(h.set j (kB (p::(t++[b])))++t')[j]? = some (kB (p::(t++[b]))):=fun t'=>put_at hkj
     have h02:∀ t',(h.set j (kB (p::(t++[b])))++t')[0]? = some (oBc out):=fun t'=>put_ne hj h0
     have h0s:(h.set j (kB (p::(t++[b]))))[0]? = some (oBc out):=by
      have:=put_ne (t:=[]) (X:=kB (p::(t++[b]))) hj h0
      simpa using this
     have s02:∀ t' X,(h.set j (kB (p::(t++[b])))++t').set 0 X=(h.set j (kB (p::(t++[b])))).set 0 X++t':=fun t' X=>set0 h0s
     have hl2:(p::(t++[b])).length=t.length+1+1:=by simp
     have geq:decide (((t.length+1+1:Nat):Int)=(sizeN p:Int))=decide (t.length+1+1=sizeN p):=by rw [ze];simp;omega
     have hk2:∀ c∈p::(t++[b]),c<256:=by
      intro c hc
      simp only [zp,List.mem_append,zc,or_false] at hc
      rcases hc with rfl | hc | rfl
      ·exact hk256 _ (by simp)
      ·exact hk256 _ (by simp [hc])
      ·exact hb256
     rw [List.cons_append,hl2] at hrun
     refine wR ?_
     simp only [xq,reduceIte,qE,qA,qL,qD,hj2,kRows_len,hl2,geq]
     refine W_cond rfl (fun hq=>?_) (fun hq=>W_skip ?_)
     ·have hq:t.length+1+1=sizeN p:=by simpa using hq
      rw [if_pos hq] at hrun
      refine wR ?_
      simp only [xq,reduceIte,qE,qA,qL,qD]
      have hv:=value_fn (Γ:=Γ.ctx) Hv hNv (zI _) (id:=j) (l:=p::(t++[b])) (hj2 [kB [b]]) (by rw [hl2];omega) hk2
      rw [hl2] at hv
      refine ce_fn hv ?_
      have g2:∀ Y,(h.set j (kB (p::(t++[b])))++[kB [b],Y])[h.length+1]? = some Y:=fun Y=>by
       rw [zG (by simp)];simp
      simp only [xq,reduceIte,qE,qA,qL,qD,zS,List.length_set,g2,h02,s02,oRows_len,oRows_snoc]
      refine ⟨by simp only [room];omega,by simp only [maxLen];omega,?_⟩
      refine W_reg ?_
      simp only [xq,reduceIte,qE,qA,qL,qD,zS,List.length_set]
      refine fin (i+1) (out++[valN (p::(t++[b]))]) [] _ _ _ hlt ?_ rfl ?_ rfl rfl hrun ?_ (.inl rfl) (by simp) ?_ (put_at h0s) ?_
      ·simp;omega
      ·simp [x_upd]
      ·simp;omega
      ·simp
      ·rw [zG (by simp)];simp;rfl
     ·have hq:¬ t.length+1+1=sizeN p:=by simpa using hq
      rw [if_neg hq] at hrun
      simp only [xq,reduceIte,qE,qA,qL,qD]
      refine fin (i+1) out (p::(t++[b])) j _ _ hlt ?_ rfl rfl ?_ rfl hrun ?_ (.inr ?_) hk2 hj (h02 _) (hj2 _)
      ·simp;omega
      ·simp [x_upd,hl2]
      ·simp;omega
      ·rw [hl2];simp only [List.headD_cons];omega
 ·have hii:i=s.size:=by simp at hc;omega
  subst hii
  have hd0:(toN s.data.toList).drop s.size=[]:=List.drop_eq_nil_of_le (by simp only [toN,zg];omega)
  rw [hd0,List.foldl_nil] at hrun
  simp only [xq,reduceIte,qE,qA,qL,qD]
  have hkl:kept.length≤4:=by
   rcases hksz with h | h
   ·simp [h]
   ·have:=sizeN_cases (kept.headD 0);omega
  refine W_seq (W_drw (by simp) ?_)
  have ht:(kRows kept).take kept.length=kRows kept:=List.take_of_length_le (by rw [kRows_len];exact zL _)
  simp only [xq,reduceIte,qE,qA,qL,qD,x_b2s,sliceRows_ref,hkj,kRows_len,ht,bs_r,kRows_bytes,bs_n]
  refine ⟨by simp only [zg,maxLen];omega,?_⟩
  refine W_ret ⟨.inr rfl,?_⟩
  simp only [readRs,readR,single,x_upd,reduceIte,qE]
  unfold decA
  rw [← hrun]
  refine .tup rfl fun k y hk=>?_
  cases k with
  | zero =>
   cases hk
   have:=frz_all (full:=true) (rows:=irRows out) (e:=eRu) (by rw [oRows_ir];exact h0)
   rw [irRows_len] at this
   exact this
  | succ k =>
   cases k with
   | zero=>cases hk;exact .same rfl
   | succ k=>simp at hk
end Go.Proofs.YtlllnjhgjijnkaaGreatDoor.Nx
namespace Go.Proofs.YtlllnjhgjijnkaaGreatDoor.Nx
open Go Go.Lib
variable {P:Program} {N:Nat} {Γ:Tabs}
theorem irRows_get {l:List Int} {i:Nat} (hi:i<l.length):(irRows l).getD i []=[.sc (.int .i32 l[i])]:=by
 rw [zC,irRows,zK,zB hi];rfl
def encL (l:List Int):List Nat:=(l.map san).flatMap encN
theorem encL_snoc {l:List Int} {n:Int}:encL (l++[n])=encL l++encN (san n):=by simp [encL]
theorem encN_len (r:Nat):(encN r).length≤4:=by
 unfold encN
 split
 ·simp
 ·split
  ·simp
  ·split<;>simp
theorem encL_len:∀ l:List Int,(encL l).length≤4 * l.length
 | []=>by simp [encL]
 | n::l=>by
  have h1:=encL_len l
  have h2:=encN_len (san n)
  simp only [encL,List.map_cons,List.flatMap_cons,zb,za] at *
  omega
theorem numS_data (l:List Nat):(numS l).data.toList=l.map UInt8.ofNat:=by
 unfold numS
 rw [strOfNums_data,List.map_map];rfl
theorem numS_encL (l:List Int):(numS (encL l)).data.toList=sans l:=by
 rw [numS_data,encL,sans,encs]
 induction l.map san with
 | nil=>rfl
 | cons r l ih=>rw [List.flatMap_cons,List.flatMap_cons,List.map_append,ih];rfl
theorem bytes_ext {a b:ByteArray}:a=b↔a.data.toList=b.data.toList:=by
 constructor
 ·rintro rfl;rfl
 ·intro h
  rcases a with ⟨⟨a⟩⟩;rcases b with ⟨⟨b⟩⟩
  simp at h;rw [h]
theorem u8_of {x:Int} (h:0≤x∧x≤255):IntKind.u8.wrap x=x:=IntWalk.u8_in _ h
theorem kRows_app {l m:List Nat}:kRows l++kRows m=kRows (l++m):=by simp [kRows]
theorem encode_fn {f:FuncId} (H:FnIs P f N [.t 2] x_ref01_Encode) (hN:1≤N) (l:List Int) (hl:l.length≤1000):FnP Γ P f [.d (.sl eRu (irRows l))] (.str (numS (encL l))):=by
 refine .of_W H (by simpa using hN) ?_
 unfold x_ref01_Encode
 refine wR ?_
 simp only [xq,reduceIte,qE,qA,qL,qD]
 refine wR ?_
 simp only [xq,reduceIte,qE,qA,qL,qD]
 refine W_seq (wR ?_)
 simp only [xq,reduceIte,qE,qA,qL,qD]
 refine W_block ?_
 let S:Nat→St:=fun i=>⟨look [(0,.d (.sl eRu (irRows l))),(3,.ref 0 (encL (l.take i)).length 0 (encL (l.take i)).length true),(4,.int i)],[kB (encL (l.take i))]⟩
 refine W_co (s':=S 0) (Co.keep _ (by simp [x_upd,x_look,encL])) ?_
 refine W_loop (fun m s=>∃ i,i≤l.length∧m=l.length-i∧s=S i) ⟨0,zI _,rfl,rfl⟩ ?_
 rintro m s ⟨i,hi,rfl,rfl⟩
 have hel:=encL_len (l.take i)
 rw [List.length_take] at hel
 refine W_seq (wR ?_)
 simp only [S,xq,reduceIte,qE,qA,qL,qD,irRows_len]
 refine W_cond rfl (fun hc=>W_skip ?_) (fun hc=>W_exit ?_)
 ·have hlt:i<l.length:=by simpa using hc
  have htk:encL (l.take (i+1))=encL (l.take i)++encN (san l[i]):=by
   rw [List.take_add_one,zB hlt,Option.toList_some,encL_snoc]
  simp only [xq,reduceIte,qE,qA,qL,qD]
  refine W_seq (W_block (wR ?_))
  simp only [xq,reduceIte,qE,qA,qL,qD,irRows_get hlt,irRows_len]
  refine ⟨by omega,by omega,?_⟩
  have hsc:=scalar_le (san_scalar l[i])
  generalize hn:l[i]=n at htk hsc
  generalize hr:san n=r at htk hsc
  generalize hE:encL (l.take i)=E at htk hel
  let T:List (Nat × A)→St:=fun t=>⟨look ((0,.d (.sl eRu (irRows l)))::(3,.ref 0 E.length 0 E.length true)::(4,.int i)::t),[kB E]⟩
  refine W_cut (· = T [(5,.sc (.int .i32 (r:Int)))]) ?_ ?_
  ·refine W_cutX (· = T [(5,.sc (.int .i32 n)),(30,.bool ((decide (n<0)||decide (1114111<n))||(decide (55296≤n)&&decide (n≤57343))))]) rfl (fun K hK=>?_) ?_
   ·cases e1:decide (n<0)<;>cases e2:decide (1114111<n)<;>cases e3:decide (55296≤n)<;>simp only [xq,reduceIte,qE,qA,qL,qD,e1,e2,e3]
    all_goals (refine hK _ _ (Co.keep _ ?_) rfl;simp [x_upd,x_look,e1,e2,e3])
   rintro _ rfl
   refine W_cond rfl (fun hd=>W_reg ?_) (fun hd=>W_skip ?_)
   ·have hd:n<0∨1114111<n∨(55296≤n∧n≤57343):=by
     simp only [Bool.or_eq_true,Bool.and_eq_true,decide_eq_true_eq] at hd
     omega
    have:r=65533:=by rw [← hr,san,if_pos hd]
    simp only [T,xq,reduceIte,qE,qA,qL,qD]
    refine ⟨T [(5,.sc (.int .i32 (r:Int)))],Co.keep _ ?_,rfl⟩
    simp [x_upd,x_look,this]
   ·have hd:¬ (n<0∨1114111<n∨(55296≤n∧n≤57343)):=by
     simp only [Bool.or_eq_false_iff,Bool.and_eq_false_iff,decide_eq_false_iff_not] at hd
     omega
    have:(r:Int)=n:=by
     rw [← hr,san,if_neg hd];omega
    simp only [T,xq,reduceIte,qE,qA,qL,qD]
    refine ⟨T [(5,.sc (.int .i32 (r:Int)))],Co.keep _ ?_,rfl⟩
    simp [x_upd,x_look,this]
  rintro _ rfl
  have g1:decide ((r:Int)<128)=decide (r<128):=by rw [ze];simp;omega
  have g2:decide ((r:Int)<2048)=decide (r<2048):=by rw [ze];simp;omega
  have g3:decide ((r:Int)<65536)=decide (r<65536):=by rw [ze];simp;omega
  have td:∀ (a k:Nat),((a:Int)).tdiv (k:Int)=((a / k:Nat):Int):=fun a k=>by rw [Int.tdiv_eq_ediv_of_nonneg (by omega)];rfl
  have tm:∀ (a k:Nat),((a:Int)).tmod (k:Int)=((a % k:Nat):Int):=fun a k=>by rw [Int.tmod_eq_emod_of_nonneg (by omega)];rfl
  have fin:∀ (sl:Nat→A) (h:Heap),sl 0 = .d (.sl eRu (irRows l))→sl 3 = .ref 0 (E++encN r).length 0 (E++encN r).length true→sl 4 = .int ((i+1:Nat):Int) →
    ∃ m' s',m'<l.length-i∧Co 0 ⟨sl,kB (E++encN r)::h⟩ s'∧∃ i,i≤l.length∧m'=l.length-i∧s'=S i:=fun sl h a0 a3 a4=>by
   refine ⟨l.length-(i+1),S (i+1),by omega,?_,i+1,hlt,rfl,rfl⟩
   simp only [S]
   rw [htk]
   refine Co.to _ 1 ?_ (zI _) (by simp) ?_
   ·simp [a0,a3,a4,A.under]
   ·intro B hB
    simp only [List.take_succ_cons,List.take_zero,zp,zc,or_false] at hB
    subst hB
    intro r0 hr0 x hx
    obtain ⟨b,_,rfl⟩:=List.mem_map.1 hr0
    simp only [kRow,zp,zc,or_false] at hx
    subst hx;rfl
  have f1:IntKind.i64.wrap ((i:Int)+1)=((i+1:Nat):Int):=i64_of (by omega)
  have hE4:E.length≤4000:=by omega
  refine W_block (wR ?_)
  simp only [T,xq,reduceIte,qE,qA,qL,qD,g1]
  refine W_cond rfl (fun h1=>W_reg ?_) (fun h1=>wR ?_)
  ·have h1:r<128:=by simpa using h1
   have he:encN r=[r]:=by rw [encN,if_pos h1]
   simp only [xq,reduceIte,qE,qA,qL,qD,u8_of (show 0≤(r:Int)∧(r:Int)≤255 by omega),kRows_len]
   refine ⟨by simp only [room];omega,by simp only [maxLen];omega,?_⟩
   refine W_reg ?_
   simp only [xq,reduceIte,qE,qA,qL,qD,f1]
   have:kRows E++[[A.sc (.int .u8 (r:Int))]]=kRows (E++encN r):=by rw [he,← kRows_app];rfl
   rw [this]
   refine fin _ _ rfl ?_ rfl
   simp [x_upd,he]
  have h1:¬ r<128:=by simpa using h1
  simp only [xq,reduceIte,qE,qA,qL,qD,g2]
  refine W_cond rfl (fun h2=>W_reg ?_) (fun h2=>wR ?_)
  ·have h2:r<2048:=by simpa using h2
   have he:encN r=[192+r / 64,128+r % 64]:=by rw [encN,if_neg h1,if_pos h2]
   have k1:IntKind.i32.wrap ((r:Int).tdiv 64)=((r / 64:Nat):Int):=by rw [show ((64:Int))=((64:Nat):Int) from rfl,td,i32_of (by omega)]
   have k2:IntKind.i32.wrap (192+((r / 64:Nat):Int))=((192+r / 64:Nat):Int):=by rw [i32_of (by omega)];omega
   have k3:(r:Int).tmod 64=((r % 64:Nat):Int):=tm r 64
   have k4:IntKind.i32.wrap (128+((r % 64:Nat):Int))=((128+r % 64:Nat):Int):=by rw [i32_of (by omega)];omega
   simp only [xq,reduceIte,qE,qA,qL,qD,b_quo (k:=.i32) (show (64:Int)≠0 by decide),b_rem (k:=.i32) (show (64:Int)≠0 by decide),k1,k2,k3,k4,u8_of (show 0≤((192+r / 64:Nat):Int)∧((192+r / 64:Nat):Int)≤255 by omega),u8_of (show 0≤((128+r % 64:Nat):Int)∧((128+r % 64:Nat):Int)≤255 by omega),kRows_len]
   refine ⟨by simp only [room];omega,by simp only [maxLen];omega,?_⟩
   refine W_reg ?_
   simp only [xq,reduceIte,qE,qA,qL,qD,f1]
   have:kRows E++[[A.sc (.int .u8 ((192+r / 64:Nat):Int))],[A.sc (.int .u8 ((128+r % 64:Nat):Int))]]=kRows (E++encN r):=by rw [he,← kRows_app];rfl
   rw [this]
   refine fin _ _ rfl ?_ rfl
   simp [x_upd,he]
  have h2:¬ r<2048:=by simpa using h2
  simp only [xq,reduceIte,qE,qA,qL,qD,g3]
  refine W_cond rfl (fun h3=>W_reg ?_) (fun h3=>W_reg ?_)
  ·have h3:r<65536:=by simpa using h3
   have he:encN r=[224+r / 4096,128+r / 64 % 64,128+r % 64]:=by rw [encN,if_neg h1,if_neg h2,if_pos h3]
   have k0:IntKind.i32.wrap ((r:Int).tdiv 4096)=((r / 4096:Nat):Int):=by rw [show ((4096:Int))=((4096:Nat):Int) from rfl,td,i32_of (by omega)]
   have k1:IntKind.i32.wrap ((r:Int).tdiv 64)=((r / 64:Nat):Int):=by rw [show ((64:Int))=((64:Nat):Int) from rfl,td,i32_of (by omega)]
   have k2:IntKind.i32.wrap (224+((r / 4096:Nat):Int))=((224+r / 4096:Nat):Int):=by rw [i32_of (by omega)];omega
   have k3:(r:Int).tmod 64=((r % 64:Nat):Int):=tm r 64
   have k4:IntKind.i32.wrap (128+((r % 64:Nat):Int))=((128+r % 64:Nat):Int):=by rw [i32_of (by omega)];omega
   have k5:((r / 64:Nat):Int).tmod 64=((r / 64 % 64:Nat):Int):=tm (r / 64) 64
   have k6:IntKind.i32.wrap (128+((r / 64 % 64:Nat):Int))=((128+r / 64 % 64:Nat):Int):=by rw [i32_of (by omega)];omega
   simp only [xq,reduceIte,qE,qA,qL,qD,b_quo (k:=.i32) (show (64:Int)≠0 by decide),b_quo (k:=.i32) (show (4096:Int)≠0 by decide),b_rem (k:=.i32) (show (64:Int)≠0 by decide),k0,k1,k2,k3,k4,k5,k6,u8_of (show 0≤((224+r / 4096:Nat):Int)∧((224+r / 4096:Nat):Int)≤255 by omega),u8_of (show 0≤((128+r / 64 % 64:Nat):Int)∧((128+r / 64 % 64:Nat):Int)≤255 by omega),u8_of (show 0≤((128+r % 64:Nat):Int)∧((128+r % 64:Nat):Int)≤255 by omega),kRows_len]
   refine ⟨by simp only [room];omega,by simp only [maxLen];omega,?_⟩
   refine W_reg ?_
   simp only [xq,reduceIte,qE,qA,qL,qD,f1]
   have:kRows E++[[A.sc (.int .u8 ((224+r / 4096:Nat):Int))],[A.sc (.int .u8 ((128+r / 64 % 64:Nat):Int))],[A.sc (.int .u8 ((128+r % 64:Nat):Int))]]=kRows (E++encN r):=by rw [he,← kRows_app];rfl
   rw [this]
   refine fin _ _ rfl ?_ rfl
   simp [x_upd,he]
  ·have h3:¬ r<65536:=by simpa using h3
   have he:encN r=[240+r / 262144,128+r / 4096 % 64,128+r / 64 % 64,128+r % 64]:=by rw [encN,if_neg h1,if_neg h2,if_neg h3]
   have k0:IntKind.i32.wrap ((r:Int).tdiv 4096)=((r / 4096:Nat):Int):=by rw [show ((4096:Int))=((4096:Nat):Int) from rfl,td,i32_of (by omega)]
   have k1:IntKind.i32.wrap ((r:Int).tdiv 64)=((r / 64:Nat):Int):=by rw [show ((64:Int))=((64:Nat):Int) from rfl,td,i32_of (by omega)]
   have k9:IntKind.i32.wrap ((r:Int).tdiv 262144)=((r / 262144:Nat):Int):=by rw [show ((262144:Int))=((262144:Nat):Int) from rfl,td,i32_of (by omega)]
   have k2:IntKind.i32.wrap (240+((r / 262144:Nat):Int))=((240+r / 262144:Nat):Int):=by rw [i32_of (by omega)];omega
   have k3:(r:Int).tmod 64=((r % 64:Nat):Int):=tm r 64
   have k4:IntKind.i32.wrap (128+((r % 64:Nat):Int))=((128+r % 64:Nat):Int):=by rw [i32_of (by omega)];omega
   have k5:((r / 64:Nat):Int).tmod 64=((r / 64 % 64:Nat):Int):=tm (r / 64) 64
   have k6:IntKind.i32.wrap (128+((r / 64 % 64:Nat):Int))=((128+r / 64 % 64:Nat):Int):=by rw [i32_of (by omega)];omega
   have k7:((r / 4096:Nat):Int).tmod 64=((r / 4096 % 64:Nat):Int):=tm (r / 4096) 64
   have k8:IntKind.i32.wrap (128+((r / 4096 % 64:Nat):Int))=((128+r / 4096 % 64:Nat):Int):=by rw [i32_of (by omega)];omega
   simp only [xq,reduceIte,qE,qA,qL,qD,b_quo (k:=.i32) (show (64:Int)≠0 by decide),b_quo (k:=.i32) (show (4096:Int)≠0 by decide),b_quo (k:=.i32) (show (262144:Int)≠0 by decide),b_rem (k:=.i32) (show (64:Int)≠0 by decide),k0,k1,k2,k3,k4,k5,k6,k7,k8,k9,u8_of (show 0≤((240+r / 262144:Nat):Int)∧((240+r / 262144:Nat):Int)≤255 by omega),u8_of (show 0≤((128+r / 4096 % 64:Nat):Int)∧((128+r / 4096 % 64:Nat):Int)≤255 by omega),u8_of (show 0≤((128+r / 64 % 64:Nat):Int)∧((128+r / 64 % 64:Nat):Int)≤255 by omega),u8_of (show 0≤((128+r % 64:Nat):Int)∧((128+r % 64:Nat):Int)≤255 by omega),kRows_len]
   refine ⟨by simp only [room];omega,by simp only [maxLen];omega,?_⟩
   refine W_reg ?_
   simp only [xq,reduceIte,qE,qA,qL,qD,f1]
   have:kRows E++[[A.sc (.int .u8 ((240+r / 262144:Nat):Int))],[A.sc (.int .u8 ((128+r / 4096 % 64:Nat):Int))],[A.sc (.int .u8 ((128+r / 64 % 64:Nat):Int))],[A.sc (.int .u8 ((128+r % 64:Nat):Int))]]=kRows (E++encN r):=by rw [he,← kRows_app];rfl
   rw [this]
   refine fin _ _ rfl ?_ rfl
   simp [x_upd,he]
 ·have hii:i=l.length:=by simp at hc;omega
  subst hii
  rw [zh] at hel ⊢
  simp only [xq,reduceIte,qE,qA,qL,qD]
  refine wR ?_
  have ht:(kRows (encL l)).take (encL l).length=kRows (encL l):=List.take_of_length_le (by rw [kRows_len];exact zL _)
  simp only [xq,reduceIte,qE,qA,qL,qD,zh,x_b2s,sliceRows_ref,kRows_len,ht,bs_r,kRows_bytes,bs_n]
  refine ⟨by simp only [zg,maxLen];omega,?_⟩
  refine W_ret (.tmp ?_ rfl)
  simp only [x_upd,reduceIte];rfl
end Go.Proofs.YtlllnjhgjijnkaaGreatDoor.Nx
namespace Go.Proofs.YtlllnjhgjijnkaaGreatDoor.Nx
open Go Go.Lib
variable {P:Program} {N:Nat} {Γ:Tabs}
theorem dstart_len (o:List Int) (b:Nat):(dstart o b).1.length+min (dstart o b).2.length 1≤o.length+1:=by
 unfold dstart
 split
 ·simp
 ·split<;>simp
theorem dstep_len (o:List Int) (k:List Nat) (b:Nat):(dstep (o,k) b).1.length+min (dstep (o,k) b).2.length 1≤o.length+min k.length 1+1:=by
 cases k with
 | nil=>exact dstart_len o b
 | cons p t =>
  simp only [dstep]
  split
  ·have:=dstart_len (o++[65533]) b
   simp only [zb,za,List.length_nil] at this ⊢
   omega
  ·split
   ·simp
   ·simp only [za];omega
theorem dsteps_len:∀ (l:List Nat) (p:List Int × List Nat),(l.foldl dstep p).1.length+min (l.foldl dstep p).2.length 1≤p.1.length+min p.2.length 1+l.length
 | [],p=>by simp
 | b::l,p=>by
  have h1:(dstep p b).1.length+min (dstep p b).2.length 1≤p.1.length+min p.2.length 1+1:=dstep_len p.1 p.2 b
  have h2:=dsteps_len l (dstep p b)
  simp only [List.foldl_cons,za] at *
  omega
theorem drun_len (s:ByteArray):(drun (toN s.data.toList)).1.length≤s.size:=by
 have h1:=dsteps_len (toN s.data.toList) ([],[])
 have h2:=bytes_size s
 have h3:(toN s.data.toList).length=s.data.toList.length:=by simp [toN]
 simp only [List.length_nil] at h1
 unfold drun
 omega
theorem numS_empty (l:List Nat):decide (numS l=⟨#[]⟩)=decide (l=[]):=by
 rw [ze]
 simp only [decide_eq_true_eq,bytes_ext,numS_data]
 simp
theorem refValid_fn {f fd fe:FuncId} (H:FnIs P f N [.t 2] (x_ref01_Valid fd fe)) (hN:1≤N) (Hd:∀ s:ByteArray,s.size≤1000→FnP Γ P fd [.str ⟨#[]⟩,.str s] (decA (toN s.data.toList))) (He:∀ l:List Int,l.length≤1000→FnP Γ P fe [.d (.sl eRu (irRows l))] (.str (numS (encL l))))
  (s:ByteArray) (hs:s.size≤1000):FnP Γ P f [.str s] (.bool (validS s)):=by
 have hv:validS s=(decide ((drun (toN s.data.toList)).2=[])&&decide (numS (encL (drun (toN s.data.toList)).1)=s)):=by
  rw [validS,← refValid_eq,refValid]
  congr 1
  rw [ze]
  simp only [decide_eq_true_eq,bytes_ext,numS_encL]
 have hl:=drun_len s
 rw [hv]
 refine .of_W H (by simpa using hN) ?_
 unfold x_ref01_Valid
 refine wR ?_
 simp only [xq,reduceIte,qE,qA,qL,qD]
 refine wR ?_
 simp only [xq,reduceIte,qE,qA,qL,qD]
 refine c_fn (Hd s hs) rfl ?_
 simp only [xq,reduceIte,qE,qA,qL,qD,decA]
 refine wR ?_
 generalize (drun (toN s.data.toList)).1=l at hl
 generalize (drun (toN s.data.toList)).2=k
 cases hk:decide (k=[]) with
 | true =>
  simp only [xq,reduceIte,qE,qA,qL,qD,numS_empty,hk]
  refine c_fn (He l (by omega)) rfl ?_
  simp only [xq,reduceIte,qE,qA,qL,qD]
  refine W_ret (.tmp ?_ rfl)
  simp only [x_upd,reduceIte,Bool.true_and]
 | false =>
  simp only [xq,reduceIte,qE,qA,qL,qD,numS_empty,hk]
  refine W_ret (.tmp ?_ rfl)
  simp only [x_upd,reduceIte,Bool.false_and]
theorem refChars_fn {f fd:FuncId} (H:FnIs P f N [.t 2] (x_ref03_Characters fd)) (hN:1≤N) (Hd:∀ s:ByteArray,s.size≤1000→FnP Γ P fd [.str ⟨#[]⟩,.str s] (decA (toN s.data.toList))) (s:ByteArray) (hs:s.size≤1000) (hv:validS s=true) :
  FnP Γ P f [.str s] (.d (.sl eRn (rnRows (runesOf s)))):=by
 have hr:irRows (drun (toN s.data.toList)).1=rnRows (runesOf s):=by
  rw [refRunes hv]
  simp only [irRows,rnRows,List.map_map];rfl
 refine .of_W H (by simpa using hN) ?_
 unfold x_ref03_Characters
 refine wR ?_
 simp only [xq,reduceIte,qE,qA,qL,qD]
 refine wR ?_
 simp only [xq,reduceIte,qE,qA,qL,qD]
 refine c_fn (Hd s hs) rfl ?_
 simp only [xq,reduceIte,qE,qA,qL,qD,decA,hr]
 refine wR ?_
 simp only [xq,reduceIte,qE,qA,qL,qD]
 refine W_ret (.tmp ?_ rfl)
 simp only [x_upd,reduceIte]
theorem marks2_fn {f:FuncId} (H:FnIs P f N [.t 0] x_ref02_Marks):FnP Γ P f [] (.d (.sl eRg (rgRows marksT))):=by
 refine .of_W H (by simp) ?_
 unfold x_ref02_Marks
 refine wR ?_
 simp only [xq,reduceIte,qE,qA,qL,qD]
 refine wR ?_
 simp only [xq,reduceIte,qE,qA,qL,qD]
 refine W_ret (.frz ?_)
 simp only [xq,reduceIte,qE,qA,qL,qD]
 exact frz_all (id:=0) (full:=true) (e:=eRg) (rows:=rgRows marksT) rfl
theorem wides2_fn {f:FuncId} (H:FnIs P f N [.t 0] x_ref02_Wide):FnP Γ P f [] (.d (.sl eRg (rgRows wideT))):=by
 refine .of_W H (by simp) ?_
 unfold x_ref02_Wide
 refine wR ?_
 simp only [xq,reduceIte,qE,qA,qL,qD]
 refine wR ?_
 simp only [xq,reduceIte,qE,qA,qL,qD]
 refine W_ret (.frz ?_)
 simp only [xq,reduceIte,qE,qA,qL,qD]
 exact frz_all (id:=0) (full:=true) (e:=eRg) (rows:=rgRows wideT) rfl
theorem in_fn {f:FuncId} (H:FnIs P f N [.t 4] x_ref02_in) (hN:2≤N) (l:List (Int × Int)) (hl:l.length≤1000) (r:Int):FnP Γ P f [.d (.sl eRg (rgRows l)),.sc (.int .i32 r)] (.bool (inR l r)):=by
 refine .of_W H (by simpa using hN) ?_
 unfold x_ref02_in
 refine wR ?_
 simp only [xq,reduceIte,qE,qA,qL,qD]
 refine W_seq (wR ?_)
 simp only [xq,reduceIte,qE,qA,qL,qD]
 refine W_block ?_
 let S:Nat→St:=fun i=>⟨look [(0,.d (.sl eRg (rgRows l))),(1,.sc (.int .i32 r)),(5,.int i)],[]⟩
 refine W_co (s':=S 0) (Co.keep _ (by simp [x_upd,x_look])) ?_
 refine W_loop (fun m s=>∃ i,i≤l.length∧m=l.length-i∧s=S i∧(l.take i).any (fun p=>decide (p.1≤r)&&decide (r≤p.2))=false) ⟨0,zI _,rfl,rfl,by simp⟩ ?_
 rintro m s ⟨i,hi,rfl,rfl,hpre⟩
 refine W_seq (wR ?_)
 simp only [xq,reduceIte,qE,qA,qL,qD,S,rgRows_len]
 refine W_cond rfl (fun hc=>W_skip ?_) (fun hc=>W_exit ?_)
 ·have hlt:i<l.length:=by simpa using hc
  have k1:(0:Int)≤(i:Int):=by omega
  have k2:((i:Int)<(l.length:Int)):=by omega
  simp only [xq,reduceIte,qE,qA,qL,qD]
  let T:Bool→St:=fun b=>⟨look [(0,.d (.sl eRg (rgRows l))),(1,.sc (.int .i32 r)),(5,.int i),(27,.bool b)],[]⟩
  refine W_seq (W_block (W_cutX (· = T (decide (l[i].1≤r)&&decide (r≤l[i].2))) rfl (fun K hK=>?_) ?_))
  ·cases e:decide (l[i].1≤r)<;>simp only [xq,reduceIte,qE,qA,qL,qD,rgRows_get hlt,rgRows_len,show Int.toNat 1=1 from rfl,Nat.mul_one,Nat.zero_mul,k1,k2,Int.le_refl,show (0:Int)<((2:Nat):Int) from by decide,show (1:Int)<((2:Nat):Int) from by decide,show (0:Int)≤1 from by decide,e]
   all_goals (refine hK _ _ (Co.keep _ ?_) rfl;simp at e;simp [x_upd,x_look];try (intros;omega))
  rintro _ rfl
  refine W_cond rfl (fun hd=>?_) (fun hd=>W_skip ?_)
  ·refine wR ?_
   simp only [T,xq,reduceIte,qE,qA,qL,qD]
   refine W_ret ?_
   simp only [xq,reduceIte,qE,qA,qL,qD]
   refine .tmp ?_ rfl
   have:inR l r=true:=List.any_eq_true.2 ⟨l[i],zi hlt,hd⟩
   simp only [x_upd,reduceIte,this]
  ·simp only [T,xq,reduceIte,qE,qA,qL,qD]
   refine W_reg ?_
   simp only [xq,reduceIte,qE,qA,qL,qD]
   refine ⟨l.length-(i+1),S (i+1),by omega,Co.keep _ ?_,i+1,hlt,rfl,rfl,any_take_succ hlt hpre hd⟩
   simp [x_upd,x_look,i64_succ hlt (show l.length≤room by simp only [room];omega)]
 ·have hle:i=l.length:=by simp at hc;omega
  subst hle
  rw [zh] at hpre
  simp only [xq,reduceIte,qE,qA,qL,qD]
  refine wR ?_
  simp only [xq,reduceIte,qE,qA,qL,qD]
  refine W_ret (.tmp ?_ rfl)
  simp only [x_upd,reduceIte,inR,hpre]
theorem mark2_fn {f fm fi:FuncId} {Nm Ni:Nat} (H:FnIs P f N [.t 2] (x_ref02_Mark fm fi)) (hN:1≤N) (Hm:FnIs P fm Nm [.t 0] x_ref02_Marks) (Hi:FnIs P fi Ni [.t 4] x_ref02_in) (hNi:2≤Ni) (r:Int) :
  FnP Γ P f [.sc (.int .i32 r)] (.bool (markC r)):=by
 refine .of_W H (by simpa using hN) ?_
 unfold x_ref02_Mark
 refine wR ?_
 simp only [xq,reduceIte,qE,qA,qL,qD]
 refine wR ?_
 simp only [xq,reduceIte,qE,qA,qL,qD]
 refine c_fn (marks2_fn Hm) rfl ?_
 simp only [xq,reduceIte,qE,qA,qL,qD]
 refine c_fn (in_fn Hi hNi marksT (by decide) r) rfl ?_
 simp only [xq,reduceIte,qE,qA,qL,qD]
 refine W_ret (.tmp ?_ rfl)
 simp only [x_upd,reduceIte,markC]
theorem width2_fn {f fk fm fw fi:FuncId} {Nk Nm Nw Ni:Nat} (H:FnIs P f N [.t 2] (x_ref02_Width fk fw fi)) (hN:1≤N) (Hk:FnIs P fk Nk [.t 2] (x_ref02_Mark fm fi)) (hNk:1≤Nk) (Hm:FnIs P fm Nm [.t 0] x_ref02_Marks)
  (Hw:FnIs P fw Nw [.t 0] x_ref02_Wide) (Hi:FnIs P fi Ni [.t 4] x_ref02_in) (hNi:2≤Ni) (r:Int):FnP Γ P f [.sc (.int .i32 r)] (.int (widthC r)):=by
 refine .of_W H (by simpa using hN) ?_
 unfold x_ref02_Width
 refine wR ?_
 simp only [xq,reduceIte,qE,qA,qL,qD]
 let S:Bool→St:=fun b=>⟨look [(0,.sc (.int .i32 r)),(3,.bool b)],[]⟩
 refine W_seq (W_block (W_cutX (· = S (decide (r<32)||(decide (127≤r)&&decide (r≤159)))) rfl (fun K hK=>?_) ?_))
 ·cases h1:decide (r<32) with
  | true =>
   simp only [xq,reduceIte,qE,qA,qL,qD,h1]
   exact hK _ (S true) (Co.keep _ (by simp [x_upd,x_look])) (by rw [h1,Bool.true_or])
  | false =>
   cases h2:decide (127≤r) with
   | true =>
    simp only [xq,reduceIte,qE,qA,qL,qD,h1,h2]
    exact hK _ (S (decide (r≤159))) (Co.keep _ (by simp [x_upd,x_look])) (by rw [h1,h2,Bool.false_or,Bool.true_and])
   | false =>
    simp only [xq,reduceIte,qE,qA,qL,qD,h1,h2]
    exact hK _ (S false) (Co.keep _ (by simp [x_upd,x_look])) (by rw [h1,h2,Bool.false_or,Bool.false_and])
 ·rintro _ rfl
  refine W_cond rfl (fun hc=>?_) (fun hc=>?_)
  ·have hc':r<32∨(127≤r∧r≤159):=by simpa using hc
   refine wR ?_
   simp only [S,xq,reduceIte,qE,qA,qL,qD]
   refine W_ret ?_
   simp only [xq,reduceIte,qE,qA,qL,qD]
   refine .tmp ?_ rfl
   simp only [x_upd,reduceIte,widthC,hc']
  ·have hc':¬ (r<32∨(127≤r∧r≤159)):=by
    intro h
    rw [Bool.eq_false_iff] at hc
    exact hc (by simpa using h)
   refine wR ?_
   simp only [S,xq,reduceIte,qE,qA,qL,qD]
   refine c_fn (mark2_fn Hk hNk Hm Hi hNi r) rfl ?_
   simp only [xq,reduceIte,qE,qA,qL,qD]
   refine W_cond rfl (fun hm=>?_) (fun hm=>?_)
   ·refine wR ?_
    simp only [xq,reduceIte,qE,qA,qL,qD]
    refine W_ret ?_
    simp only [xq,reduceIte,qE,qA,qL,qD]
    refine .tmp ?_ rfl
    simp only [x_upd,reduceIte,widthC,hc',hm]
   ·refine wR ?_
    simp only [xq,reduceIte,qE,qA,qL,qD]
    refine c_fn (wides2_fn Hw) rfl ?_
    simp only [xq,reduceIte,qE,qA,qL,qD]
    refine c_fn (in_fn Hi hNi wideT (by decide) r) rfl ?_
    simp only [xq,reduceIte,qE,qA,qL,qD]
    refine W_cond rfl (fun hw=>?_) (fun hw=>W_skip ?_)
    ·refine wR ?_
     simp only [xq,reduceIte,qE,qA,qL,qD]
     refine W_ret ?_
     simp only [xq,reduceIte,qE,qA,qL,qD]
     refine .tmp ?_ rfl
     simp only [x_upd,reduceIte,widthC,hc',hm,hw,Bool.false_eq_true]
    ·simp only [xq,reduceIte,qE,qA,qL,qD]
     refine wR ?_
     simp only [xq,reduceIte,qE,qA,qL,qD]
     refine W_ret (.tmp ?_ rfl)
     simp only [x_upd,reduceIte,widthC,hc',hm,hw,Bool.false_eq_true]
theorem widthC_mark {r:Int} (h:markC r=true):widthC r<1:=by
 unfold widthC
 rw [if_pos h]
 split<;>decide
theorem check3_fn {f fv fc fk fw:FuncId} (H:FnIs P f N [.t 2] (x_ref03_Check fv fc fk fw)) (hN:1≤N) (Hv:∀ s:ByteArray,s.size≤1000→FnP Γ P fv [.str s] (.bool (validS s)))
  (Hc:∀ s:ByteArray,s.size≤1000→validS s=true→FnP Γ P fc [.str s] (.d (.sl eRn (rnRows (runesOf s))))) (Hk:∀ r,FnP Γ P fk [.sc (.int .i32 r)] (.bool (markC r))) (Hw:∀ r,FnP Γ P fw [.sc (.int .i32 r)] (.int (widthC r)))
  (s:ByteArray) (hs:s.size≤1000):FnP Γ P f [.str s] (.int (chkC s)):=by
 refine .of_W H (by simpa using hN) ?_
 unfold x_ref03_Check
 refine wR ?_
 simp only [xq,reduceIte,qE,qA,qL,qD]
 let S:Bool→St:=fun b=>⟨look [(0,.str s),(11,.bool b)],[]⟩
 have e0:decide (s=⟨#[]⟩)=decide (s.size=0):=by rw [ze];simp only [decide_eq_true_eq];exact bytes_empty
 refine W_seq (W_cutX (· = S (decide (s.size=0) || !validS s)) rfl (fun K hK=>?_) ?_)
 ·cases h0:decide (s.size=0) with
  | true =>
   simp only [xq,reduceIte,qE,qA,qL,qD,e0,h0]
   exact hK _ (S true) (Co.keep _ (by simp [x_upd,x_look])) (by rw [h0,Bool.true_or])
  | false =>
   simp only [xq,reduceIte,qE,qA,qL,qD,e0,h0]
   refine c_fn (Hv s hs) rfl ?_
   simp only [xq,reduceIte,qE,qA,qL,qD]
   exact hK _ (S (!validS s)) (Co.keep _ (by simp [x_upd,x_look])) (by rw [h0,Bool.false_or])
 ·rintro _ rfl
  refine W_cond rfl (fun hc=>?_) (fun hc=>W_skip ?_)
  ·refine wR ?_
   simp only [S,xq,reduceIte,qE,qA,qL,qD]
   refine W_ret (.tmp ?_ rfl)
   have:s.size=0∨validS s=false:=by simpa using hc
   simp only [x_upd,reduceIte,chkC,this]
  ·have hno:¬ (s.size=0∨validS s=false):=by
    intro h
    rw [Bool.eq_false_iff] at hc
    exact hc (by simpa using h)
   have hv:validS s=true:=by
    cases h:validS s with
    | true=>rfl
    | false=>exact absurd (.inr h) hno
   have hne:=runes_ne hv (by omega)
   have hlen:=runesOf_len s
   have hchk:chkC s=chkR (runesOf s):=by rw [chkC,if_neg hno]
   rw [hchk]
   have hC:=Hc s hs hv
   simp only [S,xq,reduceIte,qE,qA,qL,qD]
   refine wR ?_
   simp only [xq,reduceIte,qE,qA,qL,qD]
   refine c_fn hC rfl ?_
   generalize runesOf s=l at hne hlen
   cases l with
   | nil=>exact absurd rfl hne
   | cons r l =>
    have hr0:(rnRows (r::l)).getD 0 []=[.sc (.int .i32 r)]:=rfl
    have k2:(0:Int)<((l.length+1:Nat):Int):=by omega
    simp only [xq,reduceIte,qE,qA,qL,qD]
    let T:Bool→St:=fun b=>⟨look [(3,.d (.sl eRn (rnRows (r::l)))),(24,.bool b)],[]⟩
    refine W_seq (W_cutX (· = T (decide (widthC r<1))) rfl (fun K hK=>?_) ?_)
    ·simp only [xq,reduceIte,qE,qA,qL,qD,rnRows_len,hr0,Int.le_refl,k2]
     refine c_fn (Hk _) rfl ?_
     cases h1:markC r with
     | true =>
      simp only [xq,reduceIte,qE,qA,qL,qD]
      exact hK _ (T true) (Co.keep _ (by simp [x_upd,x_look])) (by rw [decide_eq_true (widthC_mark h1)])
     | false =>
      simp only [xq,reduceIte,qE,qA,qL,qD,rnRows_len,hr0,Int.le_refl,k2]
      refine c_fn (Hw _) rfl ?_
      simp only [xq,reduceIte,qE,qA,qL,qD]
      exact hK _ (T (decide (widthC r<1))) (Co.keep _ (by simp [x_upd,x_look])) rfl
    ·rintro _ rfl
     refine W_cond rfl (fun hd=>?_) (fun hd=>W_skip ?_)
     ·refine wR ?_
      simp only [T,xq,reduceIte,qE,qA,qL,qD]
      refine W_ret (.tmp ?_ rfl)
      have:widthC r<1:=by simpa using hd
      simp only [x_upd,reduceIte,chkR,this,true_or]
     ·have hw1:¬ widthC r<1:=by simpa using hd
      simp only [T,xq,reduceIte,qE,qA,qL,qD]
      refine W_seq (wR ?_)
      simp only [xq,reduceIte,qE,qA,qL,qD]
      refine W_block ?_
      let U:Nat→St:=fun i=>⟨look [(3,.d (.sl eRn (rnRows (r::l)))),(4,.int ((i+1:Nat):Int))],[]⟩
      refine W_co (s':=U 0) (Co.keep _ (by simp [x_upd,x_look])) ?_
      refine W_loop (fun m s=>∃ i,i≤l.length∧m=l.length-i∧s=U i∧(l.take i).any (fun n => !markC n)=false) ⟨0,zI _,rfl,rfl,by simp⟩ ?_
      rintro m s0 ⟨i,hi,rfl,rfl,hpre⟩
      have gi:decide (((i+1:Nat):Int)<(((r::l).length:Nat):Int))=decide (i<l.length):=by rw [ze];simp
      simp only [za] at gi
      refine W_seq (wR ?_)
      simp only [U,xq,reduceIte,qE,qA,qL,qD,rnRows_len,gi]
      refine W_cond rfl (fun hc=>W_skip ?_) (fun hc=>W_exit ?_)
      ·have hlt:i<l.length:=by simpa using hc
       have hri:(rnRows (r::l)).getD (i+1) []=[.sc (.int .i32 l[i])]:=by
        rw [rnRows_get (by simp;omega)];rfl
       simp only [xq,reduceIte,qE,qA,qL,qD]
       refine W_seq (W_block (wR ?_))
       simp only [xq,reduceIte,qE,qA,qL,qD,hri,rnRows_len]
       refine ⟨by omega,by omega,?_⟩
       refine c_fn (Hk _) rfl ?_
       simp only [xq,reduceIte,qE,qA,qL,qD]
       refine W_cond rfl (fun hd=>?_) (fun hd=>W_skip ?_)
       ·refine wR ?_
        simp only [xq,reduceIte,qE,qA,qL,qD]
        refine W_ret ?_
        simp only [xq,reduceIte,qE,qA,qL,qD]
        refine .tmp ?_ rfl
        have:(l.all fun n=>markC n)=false:=by
         rw [List.all_eq_false]
         exact ⟨l[i],zi hlt,by simpa using hd⟩
        simp only [x_upd,reduceIte,chkR,this,or_true]
       ·simp only [xq,reduceIte,qE,qA,qL,qD]
        refine W_reg ?_
        simp only [xq,reduceIte,qE,qA,qL,qD]
        refine ⟨l.length-(i+1),U (i+1),by omega,Co.keep _ ?_,i+1,hlt,rfl,rfl,any_take_succ hlt hpre hd⟩
        have:IntKind.i64.wrap ((i:Int)+1+1)=(i:Int)+1+1:=i64_of (by simp at hlen;omega)
        simp [x_upd,x_look,this]
      ·have hle:i=l.length:=by simp at hc;omega
       subst hle
       rw [zh] at hpre
       have hall:(l.all fun n=>markC n)=true:=by
        rw [List.all_eq_true]
        intro n hn
        have h2:=List.any_eq_false.1 hpre n hn
        simpa using h2
       have hno2:¬ (widthC r<1∨(l.all fun n=>markC n)=false):=by
        rw [hall];simp;omega
       simp only [xq,reduceIte,qE,qA,qL,qD]
       refine W_seq (wR ?_)
       simp only [xq,reduceIte,qE,qA,qL,qD,rnRows_len]
       refine W_cond rfl (fun h3=>?_) (fun h3=>W_skip ?_)
       ·refine wR ?_
        simp only [xq,reduceIte,qE,qA,qL,qD]
        refine W_ret ?_
        simp only [xq,reduceIte,qE,qA,qL,qD]
        refine .tmp ?_ rfl
        have:3<l.length:=by simp at h3;omega
        simp only [x_upd,reduceIte,chkR,hno2,this]
       ·simp only [xq,reduceIte,qE,qA,qL,qD]
        refine wR ?_
        simp only [xq,reduceIte,qE,qA,qL,qD]
        refine W_ret (.tmp ?_ rfl)
        have:¬ 3<l.length:=by simp at h3;omega
        simp only [x_upd,reduceIte,chkR,hno2,this]
theorem cwidth3_fn {f fc fr fw:FuncId} (H:FnIs P f N [.t 2] (x_ref03_Width fc fr fw)) (hN:1≤N) (Hc:∀ s:ByteArray,s.size≤1000→FnP Γ P fc [.str s] (.int (chkC s)))
  (Hr:∀ s:ByteArray,s.size≤1000→validS s=true→FnP Γ P fr [.str s] (.d (.sl eRn (rnRows (runesOf s))))) (Hw:∀ r,FnP Γ P fw [.sc (.int .i32 r)] (.int (widthC r))) (s:ByteArray) (hs:s.size≤1000) :
  FnP Γ P f [.str s] (.int (widC s)):=by
 refine .of_W H (by simpa using hN) ?_
 unfold x_ref03_Width
 refine wR ?_
 simp only [xq,reduceIte,qE,qA,qL,qD]
 refine W_seq (wR ?_)
 simp only [xq,reduceIte,qE,qA,qL,qD]
 refine c_fn (Hc s hs) rfl ?_
 simp only [xq,reduceIte,qE,qA,qL,qD]
 refine W_cond rfl (fun hc=>?_) (fun hc=>W_skip ?_)
 ·have hc:¬ chkC s=0:=by simpa using hc
  refine wR ?_
  simp only [xq,reduceIte,qE,qA,qL,qD]
  refine W_ret (.tmp ?_ rfl)
  simp only [x_upd,reduceIte,widC,runesC,if_neg hc]
 ·have hc:chkC s=0:=by simpa using hc
  have hno:¬ (s.size=0∨validS s=false):=by
   intro h
   rw [chkC,if_pos h] at hc
   cases hc
  have hv:validS s=true:=by
   cases h:validS s with
   | true=>rfl
   | false=>exact absurd (.inr h) hno
  have hne:=runes_ne hv (by omega)
  have hR:=Hr s hs hv
  have hrc:runesC s=runesOf s:=by rw [runesC,if_pos hc]
  unfold widC
  rw [hrc]
  simp only [xq,reduceIte,qE,qA,qL,qD]
  refine wR ?_
  simp only [xq,reduceIte,qE,qA,qL,qD]
  refine c_fn hR rfl ?_
  generalize runesOf s=l at hne
  cases l with
  | nil=>exact absurd rfl hne
  | cons r l =>
   have hr0:(rnRows (r::l)).getD 0 []=[.sc (.int .i32 r)]:=rfl
   simp only [xq,reduceIte,qE,qA,qL,qD,rnRows_len,hr0]
   refine ⟨by decide,by simp,?_⟩
   refine c_fn (Hw _) rfl ?_
   simp only [xq,reduceIte,qE,qA,qL,qD]
   refine W_ret (.tmp ?_ rfl)
   simp only [x_upd,reduceIte]
end Go.Proofs.YtlllnjhgjijnkaaGreatDoor.Nx

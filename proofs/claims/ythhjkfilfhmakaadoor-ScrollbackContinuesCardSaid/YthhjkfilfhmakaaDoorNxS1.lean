import Derived.Test.YthhjkfilfhmakaaDoorNxB4
import Derived.Test.YthhjkfilfhmakaaDoorNxWalk
import Derived.Shelf.Spec.SlicesGrow
import Derived.Test.YthhjkfilfhmakaaDoorNxG0
set_option linter.unusedSimpArgs false
set_option linter.unusedVariables false
set_option linter.unnecessarySimpa false
open Nat renaming reduceEqDiff → qE, reduceAdd → qA, reduceLT → qL, reduceLeDiff → qD
namespace Go.Proofs.YthhjkfilfhmakaaDoor.Nx
open Go
variable {P:Program} {N:Nat} {Γ:Tabs}
def great12 (l:List (List Ce)):Bool:=decide (12<l.length)||l.any greatC
theorem great12_fn {f fg:FuncId} (H:FnIs P f N [.t 2] (x_ref12_Great fg)) (hN:1≤N) (Hg:∀ l,FnP Γ P fg [.d (.sl eCe (ceRows l))] (.bool (greatC l))) (l:List (List Ce)):FnP Γ P f [.d (.sl eRw (crRows l))] (.int (if great12 l then 1 else 0)):=by
  refine .of_W H (by simpa using hN) (W_sl 0 rfl fun ⟨_,hroom,_⟩=>?_)
  have hlr:l.length≤room:=le_of_mul (by rw [crRows_len] at hroom;exact hroom)
  have c1:decide ((12:Int)<(l.length:Int))=decide (12<l.length):=by rw [Bool.eq_iff_iff];simp only [decide_eq_true_eq];omega
  unfold x_ref12_Great
  refine W_seq (W_reg ?_)
  simp only [xq,reduceIte,qE,qA,qL,qD]
  refine W_seq (W_seq (W_reg ?_))
  simp only [xq,reduceIte,qE,qA,qL,qD,crRows_len,c1]
  refine W_cond rfl (fun hc=>?_) (fun hc=>W_skip ?_)
  · refine W_seq (W_reg ?_)
    simp only [xq,reduceIte,qE,qA,qL,qD]
    refine W_ret (.tmp ?_ rfl)
    simp only [x_upd,reduceIte,great12,hc,Bool.true_or]
  · rename_i hg0
    simp only [xq,reduceIte,qE,qA,qL,qD]
    refine W_seq (W_seq (W_reg ?_))
    simp only [xq,reduceIte,qE,qA,qL,qD]
    refine W_block ?_
    let S:Nat→St:=fun i=>⟨look [(0,.d (.sl eRw (crRows l))),(3,.int i)],[]⟩
    refine W_co (s':=S 0) (Co.keep _ (by simp [x_upd,x_look])) ?_
    refine W_loop (fun m s=>∃ i,i≤l.length∧m=l.length-i∧s=S i∧(l.take i).any greatC=false) ⟨0,Nat.zero_le _,rfl,rfl,by simp⟩ ?_
    rintro m s ⟨i,hi,rfl,rfl,hpre⟩
    refine W_seq (W_seq (W_reg ?_))
    simp only [S,xq,reduceIte,qE,qA,qL,qD,crRows_len]
    refine W_cond rfl (fun hc=>W_skip ?_) (fun hc=>W_exit ?_)
    · have hlt:i<l.length:=by simpa using hc
      simp only [xq,reduceIte,qE,qA,qL,qD]
      refine W_seq (W_block (W_seq (W_reg ?_)))
      simp only [xq,reduceIte,qE,qA,qL,qD,crRows_get hlt,crRows_len]
      refine ⟨by omega,by omega,?_⟩
      refine c_fn (Hg _) rfl ?_
      simp only [xq,reduceIte,qE,qA,qL,qD]
      refine W_cond rfl (fun hd=>?_) (fun hd=>W_skip ?_)
      · refine W_seq (W_reg ?_)
        simp only [xq,reduceIte,qE,qA,qL,qD]
        refine W_ret ?_
        simp only [xq,reduceIte,qE,qA,qL,qD]
        refine .tmp ?_ rfl
        have:l.any greatC=true:=List.any_eq_true.2 ⟨l[i],List.getElem_mem hlt,hd⟩
        simp only [x_upd,reduceIte,great12,this,Bool.or_true]
      · simp only [xq,reduceIte,qE,qA,qL,qD]
        refine W_reg ?_
        simp only [xq,reduceIte,qE,qA,qL,qD]
        refine ⟨l.length-(i+1),S (i+1),by omega,Co.keep _ ?_,i+1,hlt,rfl,rfl,any_take_succ hlt hpre hd⟩
        simp [x_upd,x_look,i64_succ hlt hlr]
    · have hle:i=l.length:=by simp at hc;omega
      subst hle
      rw [List.take_length] at hpre
      have hgf:great12 l=false:=by rw [great12,hpre,Bool.or_false];assumption
      simp only [xq,reduceIte,qE,qA,qL,qD]
      refine W_seq (W_reg ?_)
      simp only [xq,reduceIte,qE,qA,qL,qD]
      refine W_ret (.tmp ?_ rfl)
      simp only [x_upd,reduceIte,hgf,Bool.false_eq_true]
theorem copies_fn {f fc:FuncId} (H:FnIs P f N [.t 2] (x_scrollback_copies fc)) (hN:1≤N) (Hc:∀ rows,FnP Γ P fc [.d (.sl eCe rows)] (.d (.sl eCe rows))) (l:List (List Ce)) (hl:l.length≤100000):FnP Γ P f [.d (.sl eRw (crRows l))] (.d (.sl eRw (crRows l))):=by
  refine .of_W H (by simpa using hN) ?_
  unfold x_scrollback_copies
  refine W_seq (W_reg ?_)
  simp only [xq,reduceIte,qE,qA,qL,qD]
  refine W_seq (W_reg ?_)
  simp only [xq,reduceIte,qE,qA,qL,qD,crRows_len]
  refine ⟨by omega,by omega,by omega,by simp only [room];omega,?_⟩
  refine W_seq (W_seq (W_reg ?_))
  simp only [xq,reduceIte,qE,qA,qL,qD,crRows_len]
  refine W_block ?_
  let R:Nat→List (List A):=fun i=>((crRows (l.take i)).map fun r=>r.map A.d)++List.replicate (l.length-i) [A.nil]
  have hRl:∀ i,i≤l.length→(R i).length=l.length:=fun i hi=>by simp [R,crRows];omega
  have hRs:∀ i (hi:i<l.length),(R i).set i [.d (.sl eCe (ceRows l[i]))]=R (i+1):=fun i hi=>by
    simp only [R]
    have h1:((crRows (l.take i)).map fun r=>r.map A.d).length=i:=by simp [crRows];omega
    rw [List.set_append_right _ _ (by omega),h1,Nat.sub_self,show l.length-i=(l.length-(i+1))+1 by omega,List.replicate_succ,List.set_cons_zero,List.take_add_one,List.getElem?_eq_getElem hi]
    simp only [crRows,List.map_append,List.map_cons,List.map_nil,List.append_assoc,List.cons_append,List.nil_append,Option.toList_some]
  have hRg:∀ i (hi:i<l.length),(R i)[i]? = some [A.nil]:=fun i hi=>by
    simp only [R]
    have h1:((crRows (l.take i)).map fun r=>r.map A.d).length=i:=by simp [crRows];omega
    rw [List.getElem?_append_right (by omega),h1,Nat.sub_self,List.getElem?_replicate,if_pos (by omega)]
  let S:Nat→St:=fun i=>⟨look [(3,.ref 0 l.length 0 l.length true),(9,.d (.sl eRw (crRows l))),(10,.int l.length),(11,.int i)],[.cells eRw (R i)]⟩
  have hR0:List.replicate l.length [A.nil]=R 0:=by simp [R,crRows]
  rw [hR0]
  refine W_co (s':=S 0) (Co.keep _ (by simp [x_upd,x_look])) ?_
  refine W_loop (fun m s=>∃ i,i≤l.length∧m=l.length-i∧s=S i) ⟨0,Nat.zero_le _,rfl,rfl⟩ ?_
  rintro m s ⟨i,hi,rfl,rfl⟩
  refine W_seq (W_reg ?_)
  simp only [S,xq,reduceIte,qE,qA,qL,qD]
  refine W_seq (W_cond rfl (fun hc=>W_skip ?_) (fun hc=>W_exit ?_))
  · have hlt:i<l.length:=by simpa using hc
    have h1:=hRl i hi
    simp only [xq,reduceIte,qE,qA,qL,qD]
    refine W_seq (W_block (W_seq (W_reg ?_)))
    simp only [xq,reduceIte,qE,qA,qL,qD,crRows_get hlt,crRows_len]
    refine ⟨by omega,by omega,?_⟩
    refine W_reg ?_
    simp only [xq,reduceIte,qE,qA,qL,qD]
    refine c_fn (Hc _) rfl ?_
    simp only [xq,reduceIte,qE,qA,qL,qD,h1,hRg i hlt]
    refine ⟨by omega,by omega,?_⟩
    rw [hRs i hlt]
    refine W_reg ?_
    simp only [xq,reduceIte,qE,qA,qL,qD]
    refine ⟨l.length-(i+1),S (i+1),by omega,Co.keep _ ?_,i+1,hlt,rfl,rfl⟩
    simp [x_upd,x_look,i64_succ hlt (show l.length≤room by simp only [room];omega)]
  · have hle:i=l.length:=by simp at hc;omega
    subst hle
    simp only [xq,reduceIte,qE,qA,qL,qD]
    refine W_seq (W_reg ?_)
    simp only [xq,reduceIte,qE,qA,qL,qD]
    refine W_ret (.frz ?_)
    simp only [xq,reduceIte,qE,qA,qL,qD]
    have hRe:R l.length=(crRows l).map fun r=>r.map A.d:=by simp [R]
    have:=frz_all (id:=0) (full:=true) (e:=eRw) (rows:=crRows l) (h:=[.cells eRw (R l.length)]) (by rw [hRe];rfl)
    rw [crRows_len] at this
    exact this
def lastN (l:List (List Ce)) (n:Int):List (List Ce):=l.drop (l.length-n.toNat)
theorem last_fn {f:FuncId} (H:FnIs P f N [.t 4] x_scrollback_last) (hN:2≤N) (l:List (List Ce)) (hl:l.length≤100000) (n:Int) (hn : -9223372036854775808≤n∧n≤9223372036854775807):FnP Γ P f [.d (.sl eRw (crRows l)),.int n] (.d (.sl eRw (crRows (lastN l n)))):=by
  refine .of_W H (by simpa using hN) ?_
  unfold x_scrollback_last
  refine W_seq (W_reg ?_)
  simp only [xq,reduceIte,qE,qA,qL,qD]
  let S:St:=⟨look [(0,.d (.sl eRw (crRows l))),(1,.int (max n 0))],[]⟩
  refine W_cut (· = S) ?_ ?_
  · refine W_seq (W_reg ?_)
    simp only [xq,reduceIte,qE,qA,qL,qD]
    refine W_cond rfl (fun hc=>W_reg ?_) (fun hc=>W_skip ?_)
    · have hc:n<0:=by simpa using hc
      simp only [xq,reduceIte,qE,qA,qL,qD]
      refine ⟨S,Co.keep _ ?_,rfl⟩
      simp [x_upd,x_look];omega
    · have hc:¬ n<0:=by simpa using hc
      simp only [xq,reduceIte,qE,qA,qL,qD]
      refine ⟨S,Co.keep _ ?_,rfl⟩
      simp [x_upd,x_look];omega
  · rintro _ rfl
    have e1:IntKind.i64.wrap ((l.length:Int)-max n 0)=(l.length:Int)-max n 0:=i64_ofB (by omega)
    have e2:minmaxInt true 0 ((l.length:Int)-max n 0)=((l.length-n.toNat:Nat):Int):=by
      simp only [minmaxInt,reduceIte]
      split<;>omega
    have e3:((l.length:Int)-((l.length-n.toNat:Nat):Int)).toNat=l.length-(l.length-n.toNat):=by omega
    refine W_seq (W_reg ?_)
    simp only [S,xq,reduceIte,qE,qA,qL,qD,crRows_len,e1,e2,e3]
    refine ⟨by omega,by omega,by omega,by omega,?_⟩
    refine W_ret (.tmp ?_ rfl)
    simp only [x_upd,reduceIte,crRows_drop,lastN]
    rw [List.take_of_length_le (by rw [crRows_len,List.length_drop];exact Nat.le_refl _)]
end Go.Proofs.YthhjkfilfhmakaaDoor.Nx
namespace Go.Proofs.YthhjkfilfhmakaaDoor.Nx
open Go Go.Lib Go.Proofs Go.Shelf
variable {P:Program} {N:Nat} {Γ:Tabs}
def entersB (P:Program) (f:FuncId):Bool:=match P.funcs[f]? with
  | some fn => !(fn.name == "runtime.NumGoroutine") && fn.body.isSome
  | none=>false
theorem enters_of {f:FuncId} (h:entersB P f=true):Enters P f:=by
  unfold entersB at h
  split at h
  · rename_i fn hf
    simp only [Bool.and_eq_true,Bool.not_eq_true'] at h
    exact ⟨fn,hf,h.1,h.2⟩
  · cases h
theorem grow_args {w:World} {M:Nat→Prop} {ρ:Phys} {h:Heap} {vs:Array Value} {n:Nat} (hargs:RepAs w M ρ h [.nil,.int n] vs):vs = #[.slice none 0 0,.int .i64 n]:=by
  obtain ⟨h1,h2⟩:=hargs
  have k0:vs.getD 0 undef = .slice none 0 0:=by
    have:=h2 0 _ rfl
    generalize vs.getD 0 undef=y at this
    cases this;rfl
  have k1:vs.getD 1 undef = .int .i64 n:=by
    have:=h2 1 _ rfl
    generalize vs.getD 1 undef=y at this
    cases this with
    | d hx=>cases hx;rfl
  rcases vs with ⟨l⟩
  match l,h1 with
  | [a,b],_ =>
    have e0:a = .slice none 0 0:=k0
    have e1:b = .int .i64 n:=k1
    rw [e0,e1]
theorem grow0_fn {rn:Ren} {f:FuncId} (L:Lays8.n4 P rn) (hf:rn.f 4=f) (he:Enters P f):FnP Γ P f [.nil,.int (0:Nat)] .nil:=by
  subst hf
  refine ⟨he,fun M w vs bnd T hargs=>?_⟩
  obtain rfl:=grow_args hargs
  refine (Any8.slices_Grow_room L none 0 0 0 w (Nat.le_refl _) (by omega) (by omega) (Nat.le_refl _)).mono fun e w' ⟨he,hw⟩=>?_
  subst hw
  exact ⟨_,he,.nil,.refl _ _ _ _ (Nat.le_refl _)⟩
theorem grow_fn {rn:Ren} {f:FuncId} {Δ:Ctx} (L:Lays8.n4 P rn) (hf:rn.f 4=f) (he:Enters P f) (i0:TypeInfo) (z:Value) (hi0:P.info? (rn.t 25)=some i0) (hz0:i0.zero=some z) (hs0:i0.size=1) (hb0:i0.bytes=24) (hzc:z.cells.size=1)
    (n:Nat) (hn:0<n) (hl:n≤100000) (h:Heap):FnD Δ P f [.nil,.int n] h (.ref h.length 0 0 0 true) (h++[.cells eRw []]):=by
  subst hf
  refine ⟨he,fun M w ρ vs bnd S T hargs=>?_⟩
  obtain rfl:=grow_args hargs
  refine (Any8.slices_Grow_grow L i0 z hi0 hz0 (by omega) none 0 0 n [] w (Nat.le_refl _) (by omega) (by rw [hb0];omega) (by omega) (by simp) (fun _=>rfl) (fun a ha=>by cases ha)).mono fun e w' ⟨he,hw⟩=>?_
  obtain ⟨cs,hcs⟩:∃ cs,cs=([]:List Value).toArray++Builtin.zeroCells z.cells (0+n-0)++Builtin.zeroCells z.cells (grownCap w (0+n) 0 (rn.t 25)-(0+n)):=⟨_,rfl⟩
  rw [← hcs] at hw
  subst hw
  have hgc:=grownCap_ge w (0+n) 0 (rn.t 25)
  have hgm:=grownCap_le_maxLen w (0+n) 0 (rn.t 25) (by simp only [maxLen];omega)
  have hsz:cs.size=grownCap w (0+n) 0 (rn.t 25):=by
    rw [hcs]
    simp only [Array.size_append,size_zeroCells,hzc,List.size_toArray,List.length_nil]
    omega
  have S1:SimH w.drew M ρ h:=S.drew
  have nw:NewAt h ρ (.cells eRw []) (some (w.drew.heap.size,cs.size)) none h.length (h++[.cells eRw []]) (ρ++[some (w.drew.heap.size,cs.size)]):=.push
  have S2:=S1.newCells (cs:=cs) bnd (rn.t 25) nw (by decide) (by simp [room]) (by simp [maxLen]) (by simp) (by simp) (fun i r j x hi=>by simp at hi)
  have g2:=Evo.newAlloc (o:=.cells cs (rn.t 25)) nw S1.len
  refine ⟨_,_,he,?_,S2,(Evo.drew _ (Nat.le_refl _)).trans g2⟩
  have:=RepA.ref (M:=M) (w:=w.drew.alloc (.cells cs (rn.t 25))) (off:=0) (len:=0) (o:=0) (cap:=grownCap w (0+n) 0 (rn.t 25)) (full:=true) nw.heap (nw.phys S1.len) (Nat.le_refl _) (Nat.zero_le _) hgm (.inr rfl)
    (by rw [hsz];simp [eRw]) (fun _=>Nat.zero_le _)
  exact this
def growInfo (P:Program) (t:TypeId):Bool:=match P.info? t with
  | some i=>i.size == 1&&i.bytes == 24&&(match i.zero with
    | some z=>z.cells.size == 1
    | none=>false)
  | none=>false
theorem growS_fn {rn:Ren} {f:FuncId} {Δ:Ctx} (L:Lays8.n4 P rn) (hf:rn.f 4=f) (he:Enters P f) (hi:growInfo P (rn.t 25)=true) (n:Nat) (hn:0<n) (hl:n≤100000) (h:Heap):FnD Δ P f [.nil,.int n] h (.ref h.length 0 0 0 true) (h++[.cells eRw []]):=by
  unfold growInfo at hi
  split at hi
  · rename_i i0 h0
    split at hi
    · rename_i z hz
      simp only [Bool.and_eq_true,beq_iff_eq] at hi
      exact grow_fn L hf he i0 z h0 hz hi.1.1 hi.1.2 hi.2 n hn hl h
    · simp at hi
  · cases hi
def catN (ls:List (List (List Ce))) (i:Nat):List (List Ce):=(ls.take i).flatten
theorem catN_succ {ls:List (List (List Ce))} {i:Nat} (hi:i<ls.length):catN ls (i+1)=catN ls i++ls[i]:=by
  simp only [catN]
  rw [List.take_add_one,List.getElem?_eq_getElem hi,Option.toList_some,List.flatten_append,List.flatten_cons,List.flatten_nil,List.append_nil]
theorem catN_le {ls:List (List (List Ce))} {i:Nat}:(catN ls i).length≤ls.flatten.length:=by
  have:ls.flatten=catN ls i++(ls.drop i).flatten:=by rw [catN,← List.flatten_append,List.take_append_drop]
  rw [this,List.length_append];omega
def cc3 (ls:List (List (List Ce))):List (List D):=ls.map fun l=>[.sl eRw (crRows l)]
theorem cc3_len {ls:List (List (List Ce))}:(cc3 ls).length=ls.length:=by simp [cc3]
theorem cc3_get {ls:List (List (List Ce))} {i:Nat} (hi:i<ls.length):(cc3 ls).getD i []=[.sl eRw (crRows ls[i])]:=by
  simp [cc3,List.getD_eq_getElem?_getD,hi]
theorem concat_fn {f fg:FuncId} (H:FnIs P f N [.t 2] (x_slices_Concat_128 fg)) (hN:1≤N) (Hg0:FnP Γ P fg [.nil,.int (0:Nat)] .nil) (Hg:∀ n:Nat,0<n→n≤100000→∀ h,FnD Γ.ctx P fg [.nil,.int n] h (.ref h.length 0 0 0 true) (h++[.cells eRw []]))
    (ls:List (List (List Ce))) (hl:ls.length≤1000) (hlf:ls.flatten.length≤100000):FnP Γ P f [.d (.sl eRw (cc3 ls))] (.d (.sl eRw (crRows ls.flatten))):=by
  refine .of_W H (by simpa using hN) ?_
  have hfl:catN ls ls.length=ls.flatten:=by simp [catN]
  unfold x_slices_Concat_128
  refine W_seq (W_reg ?_)
  simp only [xq,reduceIte,qE,qA,qL,qD]
  refine W_seq (W_reg ?_)
  simp only [xq,reduceIte,qE,qA,qL,qD]
  let S1:Nat→St:=fun i=>⟨look [(0,.d (.sl eRw (cc3 ls))),(3,.int (catN ls i).length),(9,.d (.sl eRw (cc3 ls))),(10,.int ls.length),(11,.int i)],[]⟩
  let T1:St:=⟨look [(0,.d (.sl eRw (cc3 ls))),(3,.int ls.flatten.length)],[]⟩
  refine W_cut (· = T1) ?_ ?_
  · refine W_seq (W_reg ?_)
    simp only [xq,reduceIte,qE,qA,qL,qD,cc3_len]
    refine W_block ?_
    refine W_co (s':=S1 0) (Co.keep _ (by simp [x_upd,x_look,catN])) ?_
    refine W_loop (fun m s=>∃ i,i≤ls.length∧m=ls.length-i∧s=S1 i) ⟨0,Nat.zero_le _,rfl,rfl⟩ ?_
    rintro m s ⟨i,hi,rfl,rfl⟩
    refine W_seq (W_reg ?_)
    simp only [S1,xq,reduceIte,qE,qA,qL,qD]
    refine W_seq (W_cond rfl (fun hc=>W_skip ?_) (fun hc=>W_exit ?_))
    · have hlt:i<ls.length:=by simpa using hc
      have hsz:=catN_succ hlt
      have hle:=catN_le (ls:=ls) (i:=i+1)
      have e1:IntKind.i64.wrap (((catN ls i).length:Int)+(ls[i].length:Int))=((catN ls (i+1)).length:Int):=by
        rw [hsz,List.length_append] at *
        rw [i64_of (by omega)];omega
      have e2:decide (((catN ls (i+1)).length:Int)<0)=false:=decide_eq_false (by omega)
      simp only [xq,reduceIte,qE,qA,qL,qD]
      refine W_seq (W_block (W_seq (W_reg ?_)))
      simp only [xq,reduceIte,qE,qA,qL,qD,cc3_get hlt,cc3_len]
      refine ⟨by omega,by omega,?_⟩
      refine W_seq (W_reg ?_)
      simp only [xq,reduceIte,qE,qA,qL,qD,crRows_len,e1]
      refine W_seq (W_reg ?_)
      simp only [xq,reduceIte,qE,qA,qL,qD,e2]
      refine W_cond rfl (fun hd=>by cases hd) (fun _=>W_skip ?_)
      simp only [xq,reduceIte,qE,qA,qL,qD]
      refine W_reg ?_
      simp only [xq,reduceIte,qE,qA,qL,qD]
      refine ⟨ls.length-(i+1),S1 (i+1),by omega,Co.keep _ ?_,i+1,hlt,rfl,rfl⟩
      simp [x_upd,x_look,i64_succ hlt (show ls.length≤room by simp only [room];omega)]
    · have hle:i=ls.length:=by simp at hc;omega
      subst hle
      simp only [xq,reduceIte,qE,qA,qL,qD]
      refine ⟨T1,?_,rfl⟩
      simp only [T1,hfl]
      exact Co.keep _ (by simp [x_upd,x_look])
  rintro _ rfl
  simp only [T1]
  rcases Nat.eq_zero_or_pos ls.flatten.length with h0 | h0
  · -- nothing
    have hnil:ls.flatten=[]:=List.eq_nil_of_length_eq_zero h0
    have hni:∀ i,catN ls i=[]:=fun i=>List.eq_nil_of_length_eq_zero (by have:=catN_le (ls:=ls) (i:=i);omega)
    refine W_seq (W_reg ?_)
    simp only [xq,reduceIte,qE,qA,qL,qD,h0]
    refine ce_fn (Hg0.join rfl) ?_
    simp only [xq,reduceIte,qE,qA,qL,qD]
    let S2:Nat→St:=fun i=>⟨look [(6,.nil),(25,.d (.sl eRw (cc3 ls))),(26,.int ls.length),(27,.int i)],[]⟩
    refine W_seq (W_seq (W_reg ?_))
    simp only [xq,reduceIte,qE,qA,qL,qD,cc3_len]
    refine W_block ?_
    refine W_co (s':=S2 0) (Co.keep _ (by simp [x_upd,x_look])) ?_
    refine W_loop (fun m s=>∃ i,i≤ls.length∧m=ls.length-i∧s=S2 i) ⟨0,Nat.zero_le _,rfl,rfl⟩ ?_
    rintro m s ⟨i,hi,rfl,rfl⟩
    refine W_seq (W_reg ?_)
    simp only [S2,xq,reduceIte,qE,qA,qL,qD]
    refine W_seq (W_cond rfl (fun hc=>W_skip ?_) (fun hc=>W_exit ?_))
    · have hlt:i<ls.length:=by simpa using hc
      have hli:ls[i]=[]:=by
        have:=catN_succ hlt
        rw [hni,hni] at this
        exact (List.append_eq_nil_iff.1 this.symm).2
      simp only [xq,reduceIte,qE,qA,qL,qD]
      refine W_seq (W_block (W_seq (W_reg ?_)))
      simp only [xq,reduceIte,qE,qA,qL,qD,cc3_get hlt,cc3_len]
      refine ⟨by omega,by omega,?_⟩
      refine W_reg ?_
      simp only [xq,reduceIte,qE,qA,qL,qD,crRows_len,hli]
      refine W_reg ?_
      simp only [xq,reduceIte,qE,qA,qL,qD]
      refine ⟨ls.length-(i+1),S2 (i+1),by omega,Co.keep _ ?_,i+1,hlt,rfl,rfl⟩
      simp [x_upd,x_look,i64_succ hlt (show ls.length≤room by simp only [room];omega)]
    · simp only [xq,reduceIte,qE,qA,qL,qD]
      refine W_seq (W_reg ?_)
      simp only [xq,reduceIte,qE,qA,qL,qD]
      refine W_ret (.frz ?_)
      simp only [xq,reduceIte,qE,qA,qL,qD,hnil]
      exact .d (.nil _)
  · refine W_seq (W_reg ?_)
    simp only [xq,reduceIte,qE,qA,qL,qD]
    refine ce_fn (Hg _ h0 hlf _) ?_
    simp only [xq,reduceIte,qE,qA,qL,qD]
    let cB:List (List Ce)→List (List A):=fun o=>(crRows o).map fun r=>r.map A.d
    have hcl:∀ o,(cB o).length=o.length:=fun o=>by simp [cB,crRows]
    let S2:Nat→St:=fun i=>⟨look [(6,.ref 0 (catN ls i).length 0 (catN ls i).length true),(25,.d (.sl eRw (cc3 ls))),(26,.int ls.length),(27,.int i)],[.cells eRw (cB (catN ls i))]⟩
    have hc0:catN ls 0=[]:=by simp [catN]
    refine W_seq (W_seq (W_reg ?_))
    simp only [xq,reduceIte,qE,qA,qL,qD,cc3_len]
    refine W_block ?_
    refine W_co (s':=S2 0) (by simp only [S2,hc0];exact Co.keep _ (by simp [x_upd,x_look])) ?_
    refine W_loop (fun m s=>∃ i,i≤ls.length∧m=ls.length-i∧s=S2 i) ⟨0,Nat.zero_le _,rfl,rfl⟩ ?_
    rintro m s ⟨i,hi,rfl,rfl⟩
    refine W_seq (W_reg ?_)
    simp only [S2,xq,reduceIte,qE,qA,qL,qD]
    refine W_seq (W_cond rfl (fun hc=>W_skip ?_) (fun hc=>W_exit ?_))
    · have hlt:i<ls.length:=by simpa using hc
      have hsz:=catN_succ hlt
      have hle:=catN_le (ls:=ls) (i:=i+1)
      have hcs:cB (catN ls i)++((crRows ls[i]).map fun r=>r.map A.d)=cB (catN ls (i+1)):=by rw [hsz];simp [cB,crRows]
      have hll:(catN ls i).length+ls[i].length=(catN ls (i+1)).length:=by rw [hsz,List.length_append]
      simp only [xq,reduceIte,qE,qA,qL,qD]
      refine W_seq (W_block (W_seq (W_reg ?_)))
      simp only [xq,reduceIte,qE,qA,qL,qD,cc3_get hlt,cc3_len]
      refine ⟨by omega,by omega,?_⟩
      refine W_reg ?_
      simp only [xq,reduceIte,qE,qA,qL,qD,crRows_len,hcl,hcs,hll]
      refine ⟨by simp only [room];omega,by simp only [maxLen];omega,?_⟩
      refine W_reg ?_
      simp only [xq,reduceIte,qE,qA,qL,qD]
      refine ⟨ls.length-(i+1),S2 (i+1),by omega,Co.keep _ ?_,i+1,hlt,rfl,rfl⟩
      simp [x_upd,x_look,i64_succ hlt (show ls.length≤room by simp only [room];omega)]
    · have hle:i=ls.length:=by simp at hc;omega
      subst hle
      simp only [xq,reduceIte,qE,qA,qL,qD,hfl]
      refine W_seq (W_reg ?_)
      simp only [xq,reduceIte,qE,qA,qL,qD]
      refine W_ret (.frz ?_)
      simp only [xq,reduceIte,qE,qA,qL,qD]
      have:=frz_all (id:=0) (full:=true) (e:=eRw) (rows:=crRows ls.flatten) (h:=[.cells eRw (cB ls.flatten)]) rfl
      rw [crRows_len] at this
      exact this
theorem push_fn {f fc fl fy:FuncId} (H:FnIs P f N [.t 4] (x_scrollback_Push fc fl fy)) (hN:2≤N) (Hc:∀ ls:List (List (List Ce)),ls.length≤1000→ls.flatten.length≤100000→FnP Γ P fc [.d (.sl eRw (cc3 ls))] (.d (.sl eRw (crRows ls.flatten))))
    (Hl:∀ l:List (List Ce),l.length≤100000→∀ n:Int,(-9223372036854775808≤n∧n≤9223372036854775807)→FnP Γ P fl [.d (.sl eRw (crRows l)),.int n] (.d (.sl eRw (crRows (lastN l n)))))
    (Hy:∀ l:List (List Ce),l.length≤100000→FnP Γ P fy [.d (.sl eRw (crRows l))] (.d (.sl eRw (crRows l)))) (b l:List (List Ce)) (hb:b.length≤10000) (hl:l.length≤10000) :
    FnP Γ P f [.d (.sl eRw (crRows b)),.d (.sl eRw (crRows l))] (.d (.sl eRw (crRows (lastN (b++l) 500)))):=by
  refine .of_W H (by simpa using hN) ?_
  unfold x_scrollback_Push
  refine W_seq (W_reg ?_)
  simp only [xq,reduceIte,qE,qA,qL,qD]
  have hbl:([b,l]:List (List (List Ce))).flatten=b++l:=by simp
  refine W_sregC fun K hK=>?_
  refine runC_cut 3 (· = ⟨look [(7,.d (.sl eRw (cc3 [b,l])))],[]⟩) rfl (by intro h;cases h) (fun K1 hK1=>?_) ?_
  · simp only [xq,reduceIte,qE,qA,qL,qD,Nat.reduceMul]
    refine hK1 _ _ (Co.frz _ 0 ?_ (Nat.le_refl _) (Nat.zero_le _) (by simp)) rfl
    intro p hp
    simp only [List.mem_cons,List.not_mem_nil,or_false] at hp
    subst hp
    exact frz_all (id:=0) (full:=true) (e:=eRw) (rows:=cc3 [b,l]) (h:=[.cells eRw ((cc3 [b,l]).map fun r=>r.map A.d)]) rfl
  rintro _ rfl
  refine runC_end rfl ?_
  simp only [xq,reduceIte,qE,qA,qL,qD]
  refine c_fn (Hc [b,l] (by simp) (by rw [hbl,List.length_append];omega)) rfl ?_
  rw [hbl]
  simp only [xq,reduceIte,qE,qA,qL,qD]
  refine c_fn (Hl (b++l) (by rw [List.length_append];omega) 500 (by decide)) rfl ?_
  simp only [xq,reduceIte,qE,qA,qL,qD]
  refine c_fn (Hy _ (by simp only [lastN,List.length_drop,List.length_append];omega)) rfl ?_
  simp only [xq,reduceIte,qE,qA,qL,qD]
  refine hK _ ?_
  refine W_ret (.tmp ?_ rfl)
  simp only [x_upd,reduceIte]
end Go.Proofs.YthhjkfilfhmakaaDoor.Nx
namespace Go.Proofs.YthhjkfilfhmakaaDoor.Nx
open Go
variable {P:Program} {N:Nat} {Γ:Tabs}
def winRow (b rows:List (List Ce)) (back k:Nat):List Ce:=if k<back then b.getD (b.length-back+k) [] else rows.getD (k-back) []
def winXs (b rows:List (List Ce)) (back n:Nat):List (List A):=(List.range n).map fun k=>[.d (.sl eCe (ceRows (winRow b rows back k))),.bool (decide (k<back))]
theorem winXs_len {b rows:List (List Ce)} {back n:Nat}:(winXs b rows back n).length=n:=by simp [winXs]
theorem winXs_get {b rows:List (List Ce)} {back n k:Nat} (hk:k<n):(winXs b rows back n)[k]? = some [.d (.sl eCe (ceRows (winRow b rows back k))),.bool (decide (k<back))]:=by
  simp [winXs,hk]
theorem visible1_gen {f:FuncId} (H:FnIs P f N [] x_scrollback_visible_1) (hN:4≤N) (b:List (List Ce)) (w:Int) (rows:List (List Ce)) (back:Nat) (hb:back≤b.length) (hbl:b.length≤100000) (hgl:rows.length≤100000) :
    GenD Γ P f [.iptr [.sl eRw (crRows b)],.iptr [.sc (.int .i64 back)],.iptr (Gd.ds ⟨w,rows.length,rows⟩)] (winXs b rows back rows.length):=by
  refine ⟨H.enters,fun env bb id I E rounds L h hI hL hbb=>?_⟩
  refine .of_WT H (by simpa using hN) hbb (W_noTabs ?_)
  have e1:IntKind.i64.wrap ((b.length:Int)-(back:Int))=((b.length-back:Nat):Int):=by rw [i64_of (by omega)];omega
  have e2:IntKind.i64.wrap (((b.length-back:Nat):Int)+(rows.length:Int))=((b.length-back+rows.length:Nat):Int):=by rw [i64_of (by omega)];omega
  unfold x_scrollback_visible_1
  refine W_seq (W_reg ?_)
  simp only [xq,reduceIte,qE,qA,qL,qD,Gd.ds,crRows_len,e1]
  refine W_block ?_
  let S:Nat→Heap→St:=fun k h=>⟨look [(0,.yld id),(1,.iptr [.sl eRw (crRows b)]),(2,.iptr [.sc (.int .i64 back)]),(3,.iptr [.sc (.int .i64 w),.sc (.int .i64 rows.length),.sl eRw (crRows rows)]),(5,.int ((b.length-back+k:Nat):Int))],h⟩
  refine W_co (s':=S 0 h) (Co.keep _ (by simp [x_upd,x_look])) ?_
  refine W_loop (fun m s=>∃ k L' h',k≤rows.length∧m=rows.length-k∧s=S k h'∧Turn L L' h h'∧I k L') ⟨0,L,h,Nat.zero_le _,rfl,rfl,.refl hL,hI⟩ ?_
  rintro m s ⟨k,L',h',hk,rfl,rfl,T,hI'⟩
  refine W_seq (W_seq (W_reg ?_))
  simp only [xq,reduceIte,qE,qA,qL,qD,S,crRows_len,e1,e2]
  refine W_cond rfl (fun hc=>W_skip ?_) (fun hc=>W_exit ?_)
  · have hlt:k<rows.length:=by simp only [decide_eq_true_eq] at hc;omega
    simp only [xq,reduceIte,qE,qA,qL,qD]
    let T1:St:=⟨look [(0,.yld id),(1,.iptr [.sl eRw (crRows b)]),(2,.iptr [.sc (.int .i64 back)]),(3,.iptr [.sc (.int .i64 w),.sc (.int .i64 rows.length),.sl eRw (crRows rows)]),(5,.int ((b.length-back+k:Nat):Int)),
      (6,.d (.sl eCe (ceRows (winRow b rows back k)))),(7,.bool (decide (k<back)))],h'⟩
    have e3:decide (((b.length-back+k:Nat):Int)<(b.length:Int))=decide (k<back):=by rw [decide_eq_decide];omega
    refine W_seq (W_block (W_seq (W_drw (by simp) ?_)))
    simp only [xq,reduceIte,qE,qA,qL,qD,crRows_len,e3]
    refine W_cut (· = T1) ?_ ?_
    · refine W_seq (W_reg ?_)
      simp only [xq,reduceIte,qE,qA,qL,qD]
      refine W_cond rfl (fun hd=>W_reg ?_) (fun hd=>W_reg ?_)
      · have hlb:k<back:=by simpa using hd
        have hg1:(crRows b).getD (b.length-back+k) []=[.sl eCe (ceRows (winRow b rows back k))]:=by
          rw [crRows_get (show b.length-back+k<b.length by omega),winRow,if_pos hlb,List.getD_eq_getElem?_getD,List.getElem?_eq_getElem (show b.length-back+k<b.length by omega)];rfl
        simp only [xq,reduceIte,qE,qA,qL,qD,crRows_len,hg1]
        refine ⟨by omega,by omega,T1,?_,rfl⟩
        exact Co.keep _ (by simp [x_upd,x_look])
      · have hlb:¬ k<back:=by simpa using hd
        have e4:IntKind.i64.wrap (((b.length-back+k:Nat):Int)-(b.length:Int))=((k-back:Nat):Int):=by rw [i64_of (by omega)];omega
        have hg1:(crRows rows).getD (k-back) []=[.sl eCe (ceRows (winRow b rows back k))]:=by
          rw [crRows_get (show k-back<rows.length by omega),winRow,if_neg hlb,List.getD_eq_getElem?_getD,List.getElem?_eq_getElem (show k-back<rows.length by omega)];rfl
        simp only [xq,reduceIte,qE,qA,qL,qD,crRows_len,e4,hg1]
        refine ⟨by omega,by omega,T1,?_,rfl⟩
        exact Co.keep _ (by simp [x_upd,x_look])
    rintro _ rfl
    refine W_seq (W_reg ?_)
    simp only [T1,xq,reduceIte,qE,qA,qL,qD]
    have hlen2:bb≤h'.length:=by have:=T.len;omega
    rcases rounds _ _ L' _ (winXs_get hlt) hI' T.has hlen2 with ⟨L2,h2,hR,T2,hI2⟩ | ⟨L2,h2,hR,T2,hE2⟩
    · refine ce_yld hR ?_
      simp only [xq,reduceIte,qE,qA,qL,qD]
      refine W_cond rfl (fun hd=>by cases hd) (fun _=>W_skip ?_)
      simp only [xq,reduceIte,qE,qA,qL,qD]
      refine W_reg ?_
      simp only [xq,reduceIte,qE,qA,qL,qD]
      refine ⟨rows.length-(k+1),S (k+1) h2,by omega,Co.keep _ ?_,k+1,L2,h2,hlt,rfl,rfl,T.trans T2,hI2⟩
      have e5:IntKind.i64.wrap (((b.length-back:Nat):Int)+(k:Int)+1)=((b.length-back:Nat):Int)+((k:Int)+1):=by rw [i64_of (by omega)];omega
      simp [x_upd,x_look,e5]
    · refine ce_yld hR ?_
      simp only [xq,reduceIte,qE,qA,qL,qD]
      refine W_cond rfl (fun _=>W_ret ?_) (fun hd=>by cases hd)
      simp only [xq,reduceIte,qE,qA,qL,qD]
      refine ⟨.inr trivial,?_⟩
      simp only [readRs]
      exact ⟨L2,T.trans T2,.inr hE2⟩
  · have hle:k=rows.length:=by simp only [decide_eq_false_iff_not] at hc;omega
    subst hle
    simp only [xq,reduceIte,qE,qA,qL,qD]
    refine ⟨.inl trivial,?_⟩
    simp only [readRs]
    exact ⟨L',T,.inl (by rw [winXs_len];exact hI')⟩
theorem visible_fn {f f1:FuncId} (H:FnIs P f N [.t 6] (x_scrollback_visible f1)) (hN:3≤N) (b:List (List Ce)) (g:Gd) (back:Int) :
    FnP Γ P f [.d (.sl eRw (crRows b)),gdA g,.int back] (.fn f1 [.iptr [.sl eRw (crRows b)],.iptr [.sc (.int .i64 back)],.iptr g.ds]):=by
  refine .of_W H (by simpa using hN) ?_
  unfold x_scrollback_visible
  refine W_seq (W_reg ?_)
  simp only [gdA,gdR,xq,reduceIte,qE,qA,qL,qD]
  refine W_seq (W_reg ?_)
  simp only [xq,reduceIte,qE,qA,qL,qD]
  refine W_ret (.frz ?_)
  simp only [xq,reduceIte,qE,qA,qL,qD]
  refine .fn rfl fun j y hj=>?_
  rcases j with _ | _ | _ | j
  · cases hj
    refine FrzA.iptr (rows:=[[.d (.sl eRw (crRows b))]]) (i:=0) (off:=0) (id:=0) (Nat.zero_le 0) rfl rfl fun k d hk=>?_
    cases k with
    | zero=>cases hk;exact ⟨by simp,.d _⟩
    | succ k=>simp at hk
  · cases hj
    refine FrzA.iptr (rows:=[[.int back]]) (i:=0) (off:=0) (id:=2) (Nat.zero_le 2) rfl rfl fun k d hk=>?_
    cases k with
    | zero=>cases hk;exact ⟨by simp,.d _⟩
    | succ k=>simp at hk
  · cases hj
    refine FrzA.iptr (rows:=[gdR g]) (i:=0) (off:=0) (id:=1) (Nat.zero_le 1) rfl rfl fun k d hk=>?_
    rcases k with _ | _ | _ | k
    · cases hk;exact ⟨by simp [gdR],.d _⟩
    · cases hk;exact ⟨by simp [gdR],.d _⟩
    · cases hk;exact ⟨by simp [gdR],.d _⟩
    · simp [Gd.ds] at hk
  · simp at hj
end Go.Proofs.YthhjkfilfhmakaaDoor.Nx
namespace Go.Proofs.YthhjkfilfhmakaaDoor.Nx
open Go
variable {P:Program} {N:Nat} {Γ:Tabs}
def winOk (b rows:List (List Ce)) (back:Nat) (chk:List Ce→Int) (k:Nat):Bool := !(decide (k<back)&&decide (chk (winRow b rows back k)≠0))
def winOut (b rows:List (List Ce)) (back:Nat) (fit:List Ce→List Ce) (k:Nat):List Ce:=if k<back then fit (winRow b rows back k) else winRow b rows back k
def winL (b rows:List (List Ce)) (back:Nat) (fit:List Ce→List Ce) (n:Nat):List (List Ce):=(List.range n).map (winOut b rows back fit)
theorem winL_len {b rows:List (List Ce)} {back:Nat} {fit:List Ce→List Ce} {n:Nat}:(winL b rows back fit n).length=n:=by simp [winL]
theorem winL_succ {b rows:List (List Ce)} {back:Nat} {fit:List Ce→List Ce} {n:Nat}:winL b rows back fit (n+1)=winL b rows back fit n++[winOut b rows back fit n]:=by simp [winL,List.range_succ]
def winR (b:List (List Ce)) (g:Gd) (back gc:Int) (chk:List Ce→Int) (fit:List Ce→List Ce):Gd × Int :=
  if gc≠0 then (zeroGd,1) else if back<0∨(b.length:Int)<back then (zeroGd,2) else
    match (List.range g.rows.length).find? fun k => !winOk b g.rows back.toNat chk k with
    | some k=>(zeroGd,chk (winRow b g.rows back.toNat k))
    | none=>(⟨g.w,g.h,winL b g.rows back.toNat fit g.rows.length⟩,0)
def winI (g:Gd) (b:List (List Ce)) (back:Nat) (chk:List Ce→Int) (fit:List Ce→List Ce) (k:Nat) (L:List (Nat × HB)):Prop :=
  (∀ i,i<k→winOk b g.rows back chk i=true) ∧
  ((k=0∧L=[(0,gB g),(1,zgB),(2,iB 0),(3,oB g.w g.h .nil)])∨(0<k∧∃ j,3<j∧L=[(0,gB g),(1,zgB),(2,iB 0),(3,oB g.w g.h (.ref j k 0 k true)),(j,crBk (winL b g.rows back fit k))]))
def winE (g:Gd) (b:List (List Ce)) (back:Nat) (chk:List Ce→Int) (n:Nat) (e:Exit) (L:List (Nat × HB)):Prop :=
  e = .ret∧∃ k,k<n∧(∀ i,i<k→winOk b g.rows back chk i=true)∧winOk b g.rows back chk k=false∧L=[(1,zgB),(2,iB (chk (winRow b g.rows back k)))]
set_option maxHeartbeats 1000000 in
theorem window_fn {f fgc fv f1 fck fft fcl:FuncId} (H:FnIs P f N [.c 6 3 true,.c 7 1 false] (x_scrollback_Window fgc fv fck fft fcl)) (hN:3≤N) (b:List (List Ce)) (g:Gd) (back gc:Int) (chk:List Ce→Int) (fit:List Ce→List Ce) (hbl:b.length≤100000)
    (hgg:gc=0→g.h=g.rows.length∧g.rows.length≤1000) (Hgc:FnP Γ P fgc [gdA g] (.int gc)) (Hv:FnP Γ P fv [.d (.sl eRw (crRows b)),gdA g,.int back] (.fn f1 [.iptr [.sl eRw (crRows b)],.iptr [.sc (.int .i64 back)],.iptr g.ds]))
    (HG:∀ (w:Int) (rows:List (List Ce)) (bk:Nat),bk≤b.length→rows.length≤100000→GenD Γ P f1 [.iptr [.sl eRw (crRows b)],.iptr [.sc (.int .i64 bk)],.iptr (Gd.ds ⟨w,rows.length,rows⟩)] (winXs b rows bk rows.length))
    (Hck:∀ r∈b,FnP Γ P fck [.d (.sl eCe (ceRows r))] (.int (chk r))) (Hft:∀ r∈b,FnP Γ P fft [.d (.sl eCe (ceRows r)),.int g.w] (.d (.sl eCe (ceRows (fit r))))) (Hcl:∀ rows,FnP Γ P fcl [.d (.sl eCe rows)] (.d (.sl eCe rows))) :
    FnP Γ P f [.d (.sl eRw (crRows b)),gdA g,.int back] (gdE (winR b g back gc chk fit)):=by
  refine .of_W H (by simpa using hN) ?_
  unfold x_scrollback_Window
  refine W_seq (W_reg ?_)
  simp only [gdA,gdR,xq,reduceIte,qE,qA,qL,qD]
  have Hgc':=Hgc
  simp only [gdA,gdR] at Hgc'
  refine W_seq (W_seq (W_reg ?_))
  simp only [xq,reduceIte,qE,qA,qL,qD]
  refine c_fn Hgc' (by simp [A.underL,A.under]) ?_
  simp only [xq,reduceIte,qE,qA,qL,qD]
  refine W_cond rfl (fun hc=>?_) (fun hc=>W_skip ?_)
  · have hg0:gc≠0:=by simpa using hc
    refine W_seq (W_reg ?_)
    simp only [xq,reduceIte,qE,qA,qL,qD]
    refine W_ret ⟨.inr rfl,?_⟩
    simp only [readRs,readR,single,x_upd,reduceIte,qE,x_look,argS,xq,reduceIte,qE,qA,qL,qD,loadsTo,winR,if_pos hg0]
    exact frz_gd (.d (.nil _))
  have hg0:gc=0:=by simpa using hc
  obtain ⟨hgh,hgl⟩:=hgg hg0
  obtain ⟨w,hh,rows⟩:=g
  dsimp only at hgh hgl Hft
  subst hgh
  simp only [xq,reduceIte,qE,qA,qL,qD]
  let Hp0:Heap:=[gB ⟨w,rows.length,rows⟩,zgB,iB 0]
  let U:Bool→St:=fun c=>⟨look [(0,.d (.sl eRw (crRows b))),(2,.int back),(4,.ptr 0 1 0 0),(6,.ptr 1 1 0 0),(7,.ptr 2 1 0 0),(23,.bool c)],Hp0⟩
  let V:St:=⟨look [(0,.d (.sl eRw (crRows b))),(2,.int back),(4,.ptr 0 1 0 0),(6,.ptr 1 1 0 0),(7,.ptr 2 1 0 0)],Hp0⟩
  refine W_seq (W_cutX (· = U (decide (back<0)||decide ((b.length:Int)<back))) rfl (fun K hK=>?_) ?_)
  · cases e:decide (back<0)
    · simp only [xq,reduceIte,qE,qA,qL,qD,e,crRows_len]
      refine hK _ _ (Co.keep _ ?_) rfl
      simp only [e,Bool.false_or];simp [x_upd,x_look]
    · simp only [xq,reduceIte,qE,qA,qL,qD,e]
      refine hK _ _ (Co.keep _ ?_) rfl
      simp only [e,Bool.true_or];simp [x_upd,x_look]
  rintro _ rfl
  refine W_cond rfl (fun hd=>?_) (fun hd=>W_skip ?_)
  · have hd:back<0∨(b.length:Int)<back:=by simpa using hd
    refine W_seq (W_reg ?_)
    simp only [U,Hp0,xq,reduceIte,qE,qA,qL,qD]
    refine W_ret ⟨.inr rfl,?_⟩
    simp only [readRs,readR,single,x_upd,reduceIte,qE,x_look,argS,xq,reduceIte,qE,qA,qL,qD,loadsTo,winR,hg0,ne_eq,not_true_eq_false,if_pos hd]
    exact frz_gd (.d (.nil _))
  have hd:¬ (back<0∨(b.length:Int)<back):=by
    simp only [Bool.or_eq_false_iff,decide_eq_false_iff_not] at hd
    omega
  obtain ⟨bk,rfl⟩:∃ bk:Nat,back=bk:=⟨back.toNat,by omega⟩
  have hbk:bk≤b.length:=by omega
  simp only [U,Hp0,xq,reduceIte,qE,qA,qL,qD]
  refine W_seq (W_reg ?_)
  simp only [gdR,xq,reduceIte,qE,qA,qL,qD]
  have Hv':=Hv
  simp only [gdA,gdR] at Hv'
  refine W_seq (W_seq (W_reg ?_))
  simp only [gdR,xq,reduceIte,qE,qA,qL,qD]
  refine c_fn Hv' (by simp [A.underL,A.under]) ?_
  simp only [xq,reduceIte,qE,qA,qL,qD]
  let gg:Gd:=⟨w,rows.length,rows⟩
  have hwin:∀ k,k<rows.length→winOk b rows bk chk k=false→(∀ i,i<k→winOk b rows bk chk i=true)→winR b gg bk gc chk fit=(zeroGd,chk (winRow b rows bk k)):=by
    intro k hk hk0 hki
    have hf:((List.range rows.length).find? fun k => !winOk b rows bk chk k)=some k:=by
      rw [List.find?_range_eq_some]
      refine ⟨by simp [hk0],List.mem_range.2 hk,fun i hi=>by simp [hki i hi]⟩
    simp only [winR,gg,hg0,ne_eq,not_true_eq_false,if_false,if_neg hd,Int.toNat_natCast,hf]
  have hwin0:(∀ i,i<rows.length→winOk b rows bk chk i=true)→winR b gg bk gc chk fit=(⟨w,rows.length,winL b rows bk fit rows.length⟩,0):=by
    intro hki
    have hf:((List.range rows.length).find? fun k => !winOk b rows bk chk k)=none:=by
      rw [List.find?_eq_none]
      intro i hi
      simp [hki i (List.mem_range.1 hi)]
    simp only [winR,gg,hg0,ne_eq,not_true_eq_false,if_false,if_neg hd,Int.toNat_natCast,hf]
  let fnv:A:=.fn f1 [.iptr [.sl eRw (crRows b)],.iptr [.sc (.int .i64 (bk:Int))],.iptr gg.ds]
  let sl0:Nat→A:=look [(4,.ptr 0 1 0 0),(6,.ptr 1 1 0 0),(7,.ptr 2 1 0 0),(8,.ptr 3 1 0 0),(33,fnv)]
  refine W_co (s':=⟨sl0,[gB gg,zgB,iB 0,oB w rows.length .nil]⟩) (by simp only [sl0];exact Co.keep _ (by simp [x_upd,x_look,fnv,gg])) ?_
  refine W_block (W_range (Γ:=Γ.ctx) (xs:=winXs b rows bk rows.length) (f:=f1) (caps:=[.iptr [.sl eRw (crRows b)],.iptr [.sc (.int .i64 (bk:Int))],.iptr gg.ds]) rfl (HG w rows bk hbk (by omega)) (winI gg b bk chk fit) (winE gg b bk chk rows.length)
    [(0,gB gg),(1,zgB),(2,iB 0),(3,oB w rows.length .nil)] ⟨fun i hi=>absurd hi (Nat.not_lt_zero _),.inl ⟨rfl,rfl⟩⟩ ?_
    (fun k _=>upd (upd (upd (upd sl0 34 (.d (.sl eCe (ceRows (winRow b rows bk k))))) 35 (.bool (decide (k<bk)))) 9 (.d (.sl eCe (ceRows (winRow b rows bk k))))) 10 (.bool (decide (k<bk)))) (fun _=>[]) ?_ ?_ ?_ ?_ ?_)
  · intro p hp
    simp only [List.mem_cons,List.not_mem_nil,or_false] at hp
    rcases hp with rfl | rfl | rfl | rfl<;>rfl
  · intro k xa hk
    have hkl:k<rows.length:=by have:=(List.getElem?_eq_some_iff.1 hk).1;rwa [winXs_len] at this
    rw [winXs_get hkl] at hk
    cases hk;rfl
  · intro k xa h rl hk hlt
    have hkl:k<rows.length:=by have:=(List.getElem?_eq_some_iff.1 hk).1;rwa [winXs_len] at this
    rw [winXs_get hkl] at hk
    cases hk
    refine W_seq (W_reg ?_)
    simp only [xq,reduceIte,qE,qA,qL,qD,setAll]
    refine W_reg ?_
    simp only [xq,reduceIte,qE,qA,qL,qD,setAll]
  · -- a round
    intro k xa L h hk hI hL hlt
    have hkl:k<rows.length:=by have:=(List.getElem?_eq_some_iff.1 hk).1;rwa [winXs_len] at this
    rw [winXs_get hkl] at hk
    cases hk
    obtain ⟨hok,hL'⟩:=hI
    simp only [List.append_nil]
    simp only [List.length_cons,List.length_nil] at hlt
    have h0:h[0]? = some (gB gg):=by rcases hL' with ⟨_,rfl⟩ | ⟨_,j,_,rfl⟩<;>exact hL _ (List.mem_cons_self ..)
    have h1:h[1]? = some zgB:=by rcases hL' with ⟨_,rfl⟩ | ⟨_,j,_,rfl⟩<;>exact hL _ (List.mem_cons_of_mem _ (List.mem_cons_self ..))
    have h2:h[2]? = some (iB 0):=by rcases hL' with ⟨_,rfl⟩ | ⟨_,j,_,rfl⟩<;>exact hL _ (List.mem_cons_of_mem _ (List.mem_cons_of_mem _ (List.mem_cons_self ..)))
    by_cases hbad:winOk b rows bk chk k=false
    · -- a row that is not proper
      have hold:k<bk:=by
        simp only [winOk,Bool.not_eq_false',Bool.and_eq_true,decide_eq_true_eq] at hbad;exact hbad.1
      have hck:chk (winRow b rows bk k)≠0:=by
        simp only [winOk,Bool.not_eq_false',Bool.and_eq_true,decide_eq_true_eq] at hbad;exact hbad.2
      have hmem:winRow b rows bk k∈b:=by
        rw [winRow,if_pos hold,List.getD_eq_getElem?_getD,List.getElem?_eq_getElem (show b.length-bk+k<b.length by omega)]
        exact List.getElem_mem _
      have hC:=Hck _ hmem
      have hs1:(h.set 1 zgB).length=h.length:=by simp
      refine ⟨.ret,[(1,zgB),(2,iB (chk (winRow b rows bk k)))],(h.set 1 zgB).set 2 (iB (chk (winRow b rows bk k))),?_,fun rl=>?_,.inr ⟨.inl rfl,rfl,k,hkl,hok,hbad,rfl⟩⟩
      · refine ⟨fun p hp=>?_,by simp,fun q hq hn=>?_,fun q hq=>?_⟩
        · simp only [List.mem_cons,List.not_mem_nil,or_false] at hp
          rcases hp with rfl | rfl
          · rw [List.getElem?_set_ne (by decide),List.getElem?_set_self (by omega)]
          · rw [List.getElem?_set_self (by simp;omega)]
        · have hn1:q≠1:=by rintro rfl;refine hn ?_;rcases hL' with ⟨_,rfl⟩ | ⟨_,j,_,rfl⟩<;>simp [ids]
          have hn2:q≠2:=by rintro rfl;refine hn ?_;rcases hL' with ⟨_,rfl⟩ | ⟨_,j,_,rfl⟩<;>simp [ids]
          rw [List.getElem?_set_ne (Ne.symm hn2),List.getElem?_set_ne (Ne.symm hn1)]
        · refine .inl ?_
          simp only [ids,List.map_cons,List.map_nil,List.mem_cons,List.not_mem_nil,or_false] at hq
          rcases hq with rfl | rfl<;>rcases hL' with ⟨_,rfl⟩ | ⟨_,j,_,rfl⟩<;>simp [ids]
      · refine W_block (W_seq (W_seq (W_reg ?_)))
        simp only [xq,reduceIte,qE,qA,qL,qD,sl0,decide_eq_true hold]
        refine W_cond rfl (fun _=>?_) (fun hf=>by cases hf)
        refine W_seq (W_seq (W_reg ?_))
        simp only [xq,reduceIte,qE,qA,qL,qD]
        refine c_fn hC rfl ?_
        simp only [xq,reduceIte,qE,qA,qL,qD]
        refine W_seq (W_reg ?_)
        simp only [xq,reduceIte,qE,qA,qL,qD]
        refine W_cond rfl (fun _=>?_) (fun hf=>by simp [hck] at hf)
        refine W_seq (W_reg ?_)
        have h2s:(h.set 1 zgB)[2]? = some (iB 0):=by rw [List.getElem?_set_ne (by decide)];exact h2
        simp only [xq,reduceIte,qE,qA,qL,qD,h1,h2s]
        refine W_ret ?_
        simp only [xq,reduceIte,qE,qA,qL,qD]
    · have hgood:winOk b rows bk chk k=true:=by simpa using hbad
      have hok':∀ i,i<k+1→winOk b rows bk chk i=true:=fun i hi=>by
        rcases Nat.lt_succ_iff_lt_or_eq.1 hi with h | rfl
        · exact hok i h
        · exact hgood
      let sl1:Nat→A:=look [(4,.ptr 0 1 0 0),(6,.ptr 1 1 0 0),(7,.ptr 2 1 0 0),(8,.ptr 3 1 0 0),(9,.d (.sl eCe (ceRows (winOut b rows bk fit k))))]
      have hfirst:∀ rl,W Γ.ctx P N rl h.length (.seq (.reg [
          { dst:=some 36,op:=.mov (.t 10) }])
        (.cond (.t 36)
          (.seq (.seq (.reg [
            { dst:=some 37,op:=.mov (.t 9) },
            { dst:=some 38,op:=.call (.f fck) [(.t 37)] },
            { dst:=some 11,op:=.mov (.t 38) }])
          (.seq (.reg [
            { dst:=some 39,op:=.mov (.t 11) },
            { dst:=some 40,op:=.bin .neq (.t 39) (.k (.int 0)) }])
          (.cond (.t 40)
            (.seq (.reg [
              { dst:=some 41,op:=.build [(.int 0),(.int 0),.nil] [] },
              { dst:=some 42,op:=.mov (.t 11) },
              { dst:=none,op:=.store 3 (.t 6) (.t 41) },
              { dst:=none,op:=.store 1 (.t 7) (.t 42) }])
            .ret)
            .skip)))
          (.reg [
            { dst:=some 43,op:=.mov (.t 9) },
            { dst:=some 44,op:=.faddr 0 (.t 4) },
            { dst:=some 45,op:=.load 1 false (.t 44) },
            { dst:=some 46,op:=.call (.f fft) [(.t 43),(.t 45)] },
            { dst:=some 9,op:=.mov (.t 46) }]))
          .skip)) (fun e s'=>e = .normal∧∃ s1,Co h.length s' s1∧s1=⟨sl1,h⟩)
          ⟨upd (upd (upd (upd sl0 34 (.d (.sl eCe (ceRows (winRow b rows bk k))))) 35 (.bool (decide (k<bk)))) 9 (.d (.sl eCe (ceRows (winRow b rows bk k))))) 10 (.bool (decide (k<bk))),h⟩:=by
        intro rl
        refine W_seq (W_reg ?_)
        simp only [xq,reduceIte,qE,qA,qL,qD,sl0]
        refine W_cond rfl (fun hd=>?_) (fun hd=>W_skip ?_)
        · have hold:k<bk:=by simpa using hd
          have hck:chk (winRow b rows bk k)=0:=by
            simpa [winOk,hold] using hgood
          have hmem:winRow b rows bk k∈b:=by
            rw [winRow,if_pos hold,List.getD_eq_getElem?_getD,List.getElem?_eq_getElem (show b.length-bk+k<b.length by omega)]
            exact List.getElem_mem _
          have hC:=Hck _ hmem
          rw [hck] at hC
          refine W_seq (W_seq (W_reg ?_))
          simp only [xq,reduceIte,qE,qA,qL,qD]
          refine c_fn hC rfl ?_
          simp only [xq,reduceIte,qE,qA,qL,qD]
          refine W_seq (W_reg ?_)
          simp only [xq,reduceIte,qE,qA,qL,qD]
          refine W_cond rfl (fun hf=>by simp at hf) (fun _=>W_skip ?_)
          simp only [xq,reduceIte,qE,qA,qL,qD]
          refine W_reg ?_
          simp only [xq,reduceIte,qE,qA,qL,qD,h0,gg,gdR]
          refine c_fn (Hft _ hmem) rfl ?_
          simp only [xq,reduceIte,qE,qA,qL,qD]
          refine ⟨_,Co.keep _ ?_,rfl⟩
          simp [x_upd,x_look,winOut,hold]
        · have hold:¬ k<bk:=by simpa using hd
          refine ⟨rfl,_,Co.keep _ ?_,rfl⟩
          simp [x_upd,x_look,winOut,hold]
      rcases hL' with ⟨rfl,rfl⟩ | ⟨hk0,j,hj,rfl⟩
      · -- the first
        have h3:h[3]? = some (oB w rows.length .nil):=hL _ (List.mem_cons_of_mem _ (List.mem_cons_of_mem _ (List.mem_cons_of_mem _ (List.mem_cons_self ..))))
        have e3:∀ t:Heap,(h++t)[3]? = some (oB w rows.length .nil):=fun t=>by rw [List.getElem?_append_left (by omega)];exact h3
        have s3:∀ (t:Heap) X,(h++t).set 3 X=h.set 3 X++t:=fun t X=>List.set_append_left _ _ (by omega)
        have hR1:crBk (winL b rows bk fit (0+1)) = .cells eRw [[.d (.sl eCe (ceRows (winOut b rows bk fit 0)))]]:=by simp [winL,crRows,List.range_succ]
        refine ⟨.normal,[(0,gB gg),(1,zgB),(2,iB 0),(3,oB w rows.length (.ref (h.length+1) 1 0 1 true)),(h.length+1,crBk (winL b rows bk fit (0+1)))],
          h.set 3 (oB w rows.length (.ref (h.length+1) 1 0 1 true))++[.cells eRw [[.d (.sl eCe (ceRows (winOut b rows bk fit 0)))]],.cells eRw [[.d (.sl eCe (ceRows (winOut b rows bk fit 0)))]]],?_,fun rl=>?_,
          .inl ⟨rfl,hok',.inr ⟨Nat.succ_pos _,h.length+1,by omega,rfl⟩⟩⟩
        · refine ⟨fun p hp=>?_,by simp,fun q hq hn=>?_,fun q hq=>?_⟩
          · simp only [List.mem_cons,List.not_mem_nil,or_false] at hp
            rcases hp with rfl | rfl | rfl | rfl | rfl
            · rw [List.getElem?_append_left (by simp;omega),List.getElem?_set_ne (by simp)];exact h0
            · rw [List.getElem?_append_left (by simp;omega),List.getElem?_set_ne (by simp)];exact h1
            · rw [List.getElem?_append_left (by simp;omega),List.getElem?_set_ne (by simp)];exact h2
            · rw [List.getElem?_append_left (by simp;omega),List.getElem?_set_self (by omega)]
            · rw [hR1,List.getElem?_append_right (by simp)];simp
          · have hn3:q≠3:=by rintro rfl;exact hn (by simp [ids])
            rw [List.getElem?_append_left (by simpa using hq),List.getElem?_set_ne (Ne.symm hn3)]
          · simp only [ids,List.map_cons,List.map_nil,List.mem_cons,List.not_mem_nil,or_false] at hq ⊢
            rcases hq with rfl | rfl | rfl | rfl | rfl
            · simp
            · simp
            · simp
            · simp
            · right;omega
        · refine W_block (W_cut (· = ⟨sl1,h⟩) (hfirst rl) ?_)
          rintro _ rfl
          refine W_drw (by simp) ?_
          simp only [xq,reduceIte,qE,qA,qL,qD,sl1,e3]
          refine c_fn (Hcl _) rfl ?_
          simp only [xq,reduceIte,qE,qA,qL,qD,e3,s3,List.append_assoc,hp_g0,hp_g1,hp_s0,hp_s1]
          rw [if_neg (by simp)]
          exact ⟨by decide,by decide⟩
      · -- the others
        obtain ⟨k,rfl⟩:∃ k',k=k'+1:=⟨k-1,by omega⟩
        have h3:h[3]? = some (oB w rows.length (.ref j (k+1) 0 (k+1) true)):=hL _ (List.mem_cons_of_mem _ (List.mem_cons_of_mem _ (List.mem_cons_of_mem _ (List.mem_cons_self ..))))
        have hbj:h[j]? = some (crBk (winL b rows bk fit (k+1))):=hL _ (List.mem_cons_of_mem _ (List.mem_cons_of_mem _ (List.mem_cons_of_mem _ (List.mem_cons_of_mem _ (List.mem_cons_self ..)))))
        have hjl:j<h.length:=(List.getElem?_eq_some_iff.1 hbj).1
        have hj3:j≠3:=by omega
        have e3:∀ t:Heap,(h++t)[3]? = some (oB w rows.length (.ref j (k+1) 0 (k+1) true)):=fun t=>by rw [List.getElem?_append_left (by omega)];exact h3
        have ej:∀ t:Heap,(h++t)[j]? = some (crBk (winL b rows bk fit (k+1))):=fun t=>by rw [List.getElem?_append_left hjl];exact hbj
        have sj:∀ (t:Heap) X,(h++t).set j X=h.set j X++t:=fun t X=>List.set_append_left _ _ hjl
        have e3':∀ (t:Heap) X,(h.set j X++t)[3]? = some (oB w rows.length (.ref j (k+1) 0 (k+1) true)):=fun t X=>by
          rw [List.getElem?_append_left (by simp;omega),List.getElem?_set_ne hj3];exact h3
        have s3:∀ (t:Heap) X Y,(h.set j X++t).set 3 Y=(h.set j X).set 3 Y++t:=fun t X Y=>List.set_append_left _ _ (by simp;omega)
        have hll:((crRows (winL b rows bk fit (k+1))).map fun r=>r.map A.d).length=k+1:=by simp [crRows,winL]
        have hR1:((crRows (winL b rows bk fit (k+1))).map fun r=>r.map A.d)++[[.d (.sl eCe (ceRows (winOut b rows bk fit (k+1))))]]=(crRows (winL b rows bk fit (k+1+1))).map fun r=>r.map A.d:=by
          rw [winL_succ (n:=k+1)];simp [crRows]
        refine ⟨.normal,[(0,gB gg),(1,zgB),(2,iB 0),(3,oB w rows.length (.ref j (k+1+1) 0 (k+1+1) true)),(j,crBk (winL b rows bk fit (k+1+1)))],
          (h.set j (crBk (winL b rows bk fit (k+1+1)))).set 3 (oB w rows.length (.ref j (k+1+1) 0 (k+1+1) true))++[.cells eRw [[.d (.sl eCe (ceRows (winOut b rows bk fit (k+1))))]],.res],?_,fun rl=>?_,
          .inl ⟨rfl,hok',.inr ⟨Nat.succ_pos _,j,hj,rfl⟩⟩⟩
        · refine ⟨fun p hp=>?_,by simp,fun q hq hn=>?_,fun q hq=>?_⟩
          · simp only [List.mem_cons,List.not_mem_nil,or_false] at hp
            rcases hp with rfl | rfl | rfl | rfl | rfl
            · rw [List.getElem?_append_left (by simp;omega),List.getElem?_set_ne (by simp),List.getElem?_set_ne (by simp;omega)];exact h0
            · rw [List.getElem?_append_left (by simp;omega),List.getElem?_set_ne (by simp),List.getElem?_set_ne (by simp;omega)];exact h1
            · rw [List.getElem?_append_left (by simp;omega),List.getElem?_set_ne (by simp),List.getElem?_set_ne (by simp;omega)];exact h2
            · rw [List.getElem?_append_left (by simp;omega),List.getElem?_set_self (by simp;omega)]
            · rw [List.getElem?_append_left (by simp;omega),List.getElem?_set_ne (by simp;omega),List.getElem?_set_self hjl]
          · have hn3:q≠3:=by rintro rfl;exact hn (by simp [ids])
            have hnj:q≠j:=by rintro rfl;exact hn (by simp [ids])
            rw [List.getElem?_append_left (by simpa using hq),List.getElem?_set_ne (Ne.symm hn3),List.getElem?_set_ne (Ne.symm hnj)]
          · exact .inl (by simpa [ids] using hq)
        · refine W_block (W_cut (· = ⟨sl1,h⟩) (hfirst rl) ?_)
          rintro _ rfl
          refine W_drw (by simp) ?_
          simp only [xq,reduceIte,qE,qA,qL,qD,sl1,e3]
          refine c_fn (Hcl _) rfl ?_
          simp only [xq,reduceIte,qE,qA,qL,qD,e3,e3',s3,ej,sj,List.append_assoc,hp_g0,hp_g1,hp_s0,hp_s1,hll,hR1]
          exact ⟨by simp only [room];omega,by simp only [maxLen];omega⟩
  · intro L' h' T hI
    rw [winXs_len] at hI
    obtain ⟨hok,hL⟩:=hI
    simp only [xq,reduceIte,qE,qA,qL,qD]
    rw [hwin0 hok]
    rcases hL with ⟨hk,rfl⟩ | ⟨hk,j,hj,rfl⟩
    · have h1:h'[1]? = some zgB:=T.has _ (List.mem_cons_of_mem _ (List.mem_cons_self ..))
      have h2:h'[2]? = some (iB 0):=T.has _ (List.mem_cons_of_mem _ (List.mem_cons_of_mem _ (List.mem_cons_self ..)))
      have h3:h'[3]? = some (oB w rows.length .nil):=T.has _ (List.mem_cons_of_mem _ (List.mem_cons_of_mem _ (List.mem_cons_of_mem _ (List.mem_cons_self ..))))
      have hl3:=(List.getElem?_eq_some_iff.1 h3).1
      have h2s:∀ X,(h'.set 1 X)[2]? = some (iB 0):=fun X=>by rw [List.getElem?_set_ne (by decide)];exact h2
      have h1s:∀ X Y,((h'.set 1 X).set 2 Y)[1]? = some X:=fun X Y=>by rw [List.getElem?_set_ne (by decide),List.getElem?_set_self (by omega)]
      have h2t:∀ X Y,((h'.set 1 X).set 2 Y)[2]? = some Y:=fun X Y=>by rw [List.getElem?_set_self (by simp;omega)]
      refine W_seq (W_reg ?_)
      simp only [xq,reduceIte,qE,qA,qL,qD,sl0,h1,h2,h3,h2s]
      refine W_ret ⟨.inr rfl,?_⟩
      simp only [readRs,readR,single,x_upd,reduceIte,qE,x_look,xq,reduceIte,qE,qA,qL,qD,loadsTo,h1s,h2t]
      have hR0:winL b rows bk fit rows.length=[]:=by rw [hk];rfl
      rw [hR0]
      exact frz_gd (.d (.nil _))
    · have h1:h'[1]? = some zgB:=T.has _ (List.mem_cons_of_mem _ (List.mem_cons_self ..))
      have h2:h'[2]? = some (iB 0):=T.has _ (List.mem_cons_of_mem _ (List.mem_cons_of_mem _ (List.mem_cons_self ..)))
      have h3:h'[3]? = some (oB w rows.length (.ref j rows.length 0 rows.length true)):=T.has _ (List.mem_cons_of_mem _ (List.mem_cons_of_mem _ (List.mem_cons_of_mem _ (List.mem_cons_self ..))))
      have hbj:h'[j]? = some (crBk (winL b rows bk fit rows.length)):=T.has _ (List.mem_cons_of_mem _ (List.mem_cons_of_mem _ (List.mem_cons_of_mem _ (List.mem_cons_of_mem _ (List.mem_cons_self ..)))))
      have hl3:=(List.getElem?_eq_some_iff.1 h3).1
      have h2s:∀ X,(h'.set 1 X)[2]? = some (iB 0):=fun X=>by rw [List.getElem?_set_ne (by decide)];exact h2
      have h1s:∀ X Y,((h'.set 1 X).set 2 Y)[1]? = some X:=fun X Y=>by rw [List.getElem?_set_ne (by decide),List.getElem?_set_self (by omega)]
      have h2t:∀ X Y,((h'.set 1 X).set 2 Y)[2]? = some Y:=fun X Y=>by rw [List.getElem?_set_self (by simp;omega)]
      have hjt:∀ X Y,((h'.set 1 X).set 2 Y)[j]? = some (crBk (winL b rows bk fit rows.length)):=fun X Y=>by rw [List.getElem?_set_ne (by omega),List.getElem?_set_ne (by omega)];exact hbj
      refine W_seq (W_reg ?_)
      simp only [xq,reduceIte,qE,qA,qL,qD,sl0,h1,h2,h3,h2s]
      refine W_ret ⟨.inr rfl,?_⟩
      simp only [readRs,readR,single,x_upd,reduceIte,qE,x_look,xq,reduceIte,qE,qA,qL,qD,loadsTo,h1s,h2t]
      refine frz_gd ?_
      have:=frz_all (full:=true) (hjt (oB w rows.length (.ref j rows.length 0 rows.length true)) (iB 0))
      rw [crRows_len,winL_len] at this
      exact this
  · intro e0 L' h' T hE
    obtain ⟨rfl,k,hk,hki,hkb,rfl⟩:=hE
    have h1:h'[1]? = some zgB:=T.has _ (List.mem_cons_self ..)
    have h2:h'[2]? = some (iB (chk (winRow b rows bk k))):=T.has _ (List.mem_cons_of_mem _ (List.mem_cons_self ..))
    simp only [xq,reduceIte,qE,qA,qL,qD]
    refine ⟨.inr rfl,?_⟩
    rw [hwin k hk hkb hki]
    simp only [readRs,readR,single,x_upd,reduceIte,qE,x_look,xq,reduceIte,qE,qA,qL,qD,loadsTo,sl0,h1,h2]
    exact frz_gd (.d (.nil _))
end Go.Proofs.YthhjkfilfhmakaaDoor.Nx

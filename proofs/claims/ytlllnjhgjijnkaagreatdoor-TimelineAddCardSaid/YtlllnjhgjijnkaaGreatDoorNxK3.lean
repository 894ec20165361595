import Derived.Test.YtlllnjhgjijnkaaGreatDoorNxD15
import Derived.Test.YtlllnjhgjijnkaaGreatDoorNxB0
import Derived.Shelf.Spec.SlicesGrow
set_option linter.all false
open Nat renaming le_refl → zL
open Bool renaming and_eq_true → aA
namespace Go.Proofs.YtlllnjhgjijnkaaGreatDoor.Nx
open Go Go.Lib Go.Proofs Go.Shelf
variable {P:Program}{N:Nat}{Γ:dP}
def aCh(P:Program)(f:FuncId):Bool:=match P.funcs[f]? with
 | some fn => !(fn.name == "runtime.NumGoroutine") && fn.body.isSome
 | none=>false
theorem aDZ{f:FuncId}(h:aCh P f=true):sI P f:=by
 unfold aCh at h;split at h
 ·rename_i fn hf;simp only[aA,Bool.not_eq_true'] at h;exact⟨fn,hf,h.1,h.2⟩
 ·cases h
theorem Sv{w:World}{M:Nat→Prop}{ρ:fJ}{h:cM}{vs:Array Value}{n:Nat}(fR:tB w M ρ h [.nil,.int n] vs):vs = #[.slice none 0 0,.int .i64 n]:=by
 obtain⟨h1,h2⟩:=fR;have k0:vs.getD 0 undef = .slice none 0 0:=by
  have:=h2 0 _ rfl;generalize vs.getD 0 undef=y at this;cases this;rfl
 have k1:vs.getD 1 undef = .int .i64 n:=by
  have:=h2 1 _ rfl;generalize vs.getD 1 undef=y at this;cases this with
  | d hx=>cases hx;rfl
 rcases vs with⟨l⟩
 match l,h1 with
 | [a,b],_ =>
  have e0:a = .slice none 0 0:=k0;have e1:b = .int .i64 n:=k1;rw[e0,e1]
theorem aGC{rn:Ren}{f:FuncId}(L:Lays8.n4 P rn)(hf:rn.f 4=f)(he:sI P f):FnP Γ P f [.nil,.int (0:Nat)] .nil:=by
 subst hf;refine⟨he,fun M w vs bnd T fR=>?_⟩;obtain rfl:=Sv fR;refine(Any8.slices_Grow_room L none 0 0 0 w (zL _) (by omega) (by omega) (zL _)).mono fun ex w' ⟨he,hw⟩=>?_;subst hw;exact⟨_,he,.nil,.refl _ _ _ _ (zL _)⟩
theorem aGD{rn:Ren}{f:FuncId}{Δ:Ctx}{e:Elt}(L:Lays8.n4 P rn)(hf:rn.f 4=f)(he:sI P f)(i0:TypeInfo)(z:Value)(hi0:P.info? (rn.t 25)=some i0)(hz0:i0.zero=some z)(hs0:i0.size=e.sz)(Qc:i0.bytes=e.bytes)(hzc:z.cells.size=e.sz)(he0:0<e.sz)(heb:e.bytes≤1000)
  (n:Nat) (hn:0<n) (hl:n≤100000) (h:cM):FnD Δ P f [.nil,.int n] h (.ref h.length 0 0 0 true) (h++[.cells e []]):=by
 subst hf;refine⟨he,fun M w ρ vs bnd S T fR=>?_⟩;obtain rfl:=Sv fR;refine(Any8.slices_Grow_grow L i0 z hi0 hz0 (by omega) none 0 0 n [] w (zL _) (by omega) (by rw[Qc];exact Nat.le_trans (Nat.mul_le_mul (show 0+n≤100000 by omega) heb) (by omega)) (by omega) (by simp) (fun _=>rfl) (fun a ha=>by cases ha)).mono fun ex w' ⟨he,hw⟩=>?_;obtain⟨cs,Il⟩:∃ cs,cs=([]:List Value).toArray++Builtin.zeroCells z.cells (0+n-0)++Builtin.zeroCells z.cells (grownCap w (0+n) 0 (rn.t 25)-(0+n)):=⟨_,rfl⟩;rw[← Il] at hw;subst hw;have hgc:=grownCap_ge w (0+n) 0 (rn.t 25);have hgm:=grownCap_le_maxLen w (0+n) 0 (rn.t 25) (by simp only[maxLen];omega);have mB:cs.size=grownCap w (0+n) 0 (rn.t 25) * e.sz:=by
  rw[Il];simp only[Array.size_append,size_zeroCells,hzc,List.size_toArray,List.length_nil];rw[Nat.zero_add,← Nat.add_mul];congr 1;omega
 have S1:SimH w.drew M ρ h:=S.drew;have nw:NewAt h ρ (.cells e []) (some (w.drew.heap.size,cs.size)) none h.length (h++[.cells e []]) (ρ++[some (w.drew.heap.size,cs.size)]):=.push;have S2:=S1.newCells (cs:=cs) bnd (rn.t 25) nw he0 (by simp[dL]) (by simp[maxLen]) (by simp) (by simp) (fun i r j x hi=>by simp at hi);have g2:=Evo.newAlloc (o:=.cells cs (rn.t 25)) nw S1.len;refine⟨_,_,he,?_,S2,(Evo.drew _ (zL _)).trans g2⟩;have:=RepA.ref (M:=M) (w:=w.drew.alloc (.cells cs (rn.t 25))) (off:=0) (len:=0) (o:=0) (cap:=grownCap w (0+n) 0 (rn.t 25)) (full:=true) nw.heap (nw.phys S1.len) (zL _) (Nat.zero_le _) hgm (.inr (Nat.zero_mul _).symm)
  (by rw[mB,Nat.zero_add];exact zL _) (fun _=>Nat.zero_le _)
 exact this
def Lq(P:Program)(t:TypeId)(e:Elt):Bool:=match P.info? t with
 | some i=>i.size == e.sz&&i.bytes == e.bytes&&(match i.zero with
  | some z=>z.cells.size == e.sz
  | none=>false)
 | none=>false
theorem aIO{rn:Ren}{f:FuncId}{Δ:Ctx}{e:Elt}(L:Lays8.n4 P rn)(hf:rn.f 4=f)(he:sI P f)(hi:Lq P (rn.t 25) e=true)(he0:0<e.sz)(heb:e.bytes≤1000)(n:Nat)(hn:0<n)(hl:n≤100000)(h:cM):FnD Δ P f [.nil,.int n] h (.ref h.length 0 0 0 true) (h++[.cells e []]):=by
 unfold Lq at hi;split at hi
 ·rename_i i0 h0;split at hi
  ·rename_i z hz;simp only[aA,beq_iff_eq] at hi;exact aGD L hf he i0 z h0 hz hi.1.1 hi.1.2 hi.2 he0 heb n hn hl h
  ·simp at hi
 ·cases hi
end Go.Proofs.YtlllnjhgjijnkaaGreatDoor.Nx

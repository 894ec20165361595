import Derived.Test.YtlllnjhgjijnkaaGreatDoorNxFn
set_option linter.all false
open Option.some renaming injEq → zH
open Option renaming map_eq_some_iff → zT
open Bool renaming and_eq_true → aA
namespace Go.Proofs.YtlllnjhgjijnkaaGreatDoor.Nx
open Go
variable {P:Program}{N:Nat}
def XC.plain:XC→XC
 | .reg xs=>.reg (xs.map XOper.plain)
 | .drw _ xs _=>.drw 0 (xs.map XOper.plain)
 | .seq x y=>.seq x.plain y.plain
 | .cond c x y=>.cond c x.plain y.plain
 | .block i x=>.block i x.plain
 | .loop x=>.loop x.plain
 | .range g ps x y=>.range g ps x.plain y.plain
 | x=>x
def aHZ(N:Nat)(xs:List XOper):Bool:=xs.all fun x=>x.dst.all fun m=>decide (m<N)
def oQ(P:Program)(N:Nat):Code→XC→Option XC
 | _,.never=>some .never
 | .skip,.skip=>some .skip
 | .ret,.ret=>some .ret
 | .exit i,.exit _=>some (.exit i)
 | .region _ ops dr,.reg xs=>if dr then none else if aHZ N xs then(Ld P ops).map .reg else none
 | .region _ ops dr,.drw _ xs rt=>if dr then(if Rf rt ops xs&&aHZ N xs&&P.follows .mixedOrders then(Ld P ops).map (.drw 0 ·) else none) else none
 | .seq a b,.seq x y=>match oQ P N a x,oQ P N b y with
  | some u,some v=>some (.seq u v)
  | _,_=>none
 | .cond c a b,.cond _ x y=>match cO c,oQ P N a x,oQ P N b y with
  | some d,some u,some v=>some (.cond d u v)
  | _,_,_=>none
 | .block i a,.block _ x=>(oQ P N a x).map (.block i)
 | .loop a,.loop x=>(oQ P N a x).map .loop
 | .rangeFunc g ps a b,.range _ _ x y=>match cO g,oQ P N a x,oQ P N b y with
  | some d,some u,some v=>if ps.toList.all fun p=>decide (p<N) then some (.range d ps.toList u v) else none
  | _,_,_=>none
 | _,_=>none
theorem aF1:∀ {c:Code} {x:XC},oQ P N c x=some x.plain→qR P N c x:=by
 intro c x
 induction x generalizing c with
 | never=>intro _;cases c<;>trivial
 | skip=>intro h;cases c<;>simp[oQ] at h<;>trivial
 | ret=>intro h;cases c<;>simp[oQ] at h<;>trivial
 | exit j=>intro h;cases c<;>simp[oQ,XC.plain] at h;exact h
 | reg xs =>
  intro h;cases c<;>simp only[oQ,XC.plain,reduceCtorEq] at h;split at h
  ·cases h
  ·split at h
   ·rename_i h1 h2;simp only[zT,XC.reg.injEq] at h;obtain⟨ys,hy,rfl⟩:=h;exact⟨by simpa using h1,.of hy h2⟩
   ·cases h
 | drw n xs rt =>
  intro h;cases c<;>simp only[oQ,XC.plain,reduceCtorEq] at h;split at h
  ·split at h
   ·rename_i h1 h2;simp only[zT,XC.drw.injEq,true_and,and_true] at h;obtain⟨ys,hy,rfl⟩:=h;simp only[aA] at h2;exact⟨h1,.of hy h2.1.2,h2.1.1,h2.2⟩
   ·cases h
  ·cases h
 | range g ps x y ih1 ih2 =>
  intro h;cases c<;>simp only[oQ,XC.plain,reduceCtorEq] at h;split at h
  ·rename_i h0 h1 h2;split at h
   ·rename_i h3;simp only[zH,XC.range.injEq] at h;obtain⟨rfl,rfl,rfl,rfl⟩:=h;exact⟨h0,rfl,fun p hp=>by simpa using List.all_eq_true.1 h3 p hp,ih1 h1,ih2 h2⟩
   ·cases h
  ·cases h
 | seq x y ih1 ih2 =>
  intro h;cases c<;>simp only[oQ,XC.plain,reduceCtorEq] at h;split at h
  ·rename_i h1 h2;simp only[zH,XC.seq.injEq] at h;obtain⟨rfl,rfl⟩:=h;exact⟨ih1 h1,ih2 h2⟩
  ·cases h
 | cond d x y ih1 ih2 =>
  intro h;cases c<;>simp only[oQ,XC.plain,reduceCtorEq] at h;split at h
  ·rename_i h0 h1 h2;simp only[zH,XC.cond.injEq] at h;obtain⟨rfl,rfl,rfl⟩:=h;exact⟨h0,ih1 h1,ih2 h2⟩
  ·cases h
 | block i x ih =>
  intro h;cases c<;>simp only[oQ,XC.plain,reduceCtorEq] at h;simp only[zT,XC.block.injEq] at h;obtain⟨u,h1,h2,rfl⟩:=h;exact⟨h2,ih h1⟩
 | loop x ih =>
  intro h;cases c<;>simp only[oQ,XC.plain,reduceCtorEq] at h;simp only[zT,XC.loop.injEq] at h;obtain⟨u,h1,rfl⟩:=h;exact ih h1
def fnX(P:Program)(f:FuncId)(N:Nat)(x:XC):Option (List XR × XC) :=
 match P.funcs[f]? with
 | some fn=>match fn.body with
  | some code=>match fn.results.toList.mapM (Ri P),oQ P N code x with
   | some res, some y => if fn.ntmps == N && decide (N ≤ iY) && !(fn.name == "runtime.NumGoroutine") then some (res, y) else none
   | _,_=>none
  | none=>none
 | none=>none
theorem FnIs.of{f:FuncId}{res:List XR}{x:XC}(h:fnX P f N x=some (res,x.plain)):FnIs P f N res x:=by
 unfold fnX at h;split at h
 ·rename_i fn hf;split at h
  ·rename_i code hb;split at h
   ·rename_i r y hr hc;split at h
    ·rename_i hk;simp only[zH,Prod.mk.injEq] at h;obtain⟨rfl,rfl⟩:=h;simp only[aA,beq_iff_eq,Bool.not_eq_true'] at hk;exact⟨fn,code,hf,hk.2,hb,hk.1.1,of_decide_eq_true hk.1.2,hr,aF1 hc⟩
    ·cases h
   ·cases h
  ·cases h
 ·cases h
end Go.Proofs.YtlllnjhgjijnkaaGreatDoor.Nx

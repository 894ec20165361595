import Derived.Test.YtlllnjhgjijnkaaDoorNxFn
set_option linter.unusedSimpArgs false
set_option linter.unusedVariables false
set_option linter.unnecessarySimpa false
open Option.some renaming injEq → zH
open Option renaming map_eq_some_iff → zT
namespace Go.Proofs.YtlllnjhgjijnkaaDoor.Nx
open Go
variable {P:Program} {N:Nat}
def XC.plain:XC→XC
 | .reg xs=>.reg (xs.map XOper.plain)
 | .drw _ xs _=>.drw 0 (xs.map XOper.plain)
 | .seq x y=>.seq x.plain y.plain
 | .cond c x y=>.cond c x.plain y.plain
 | .block i x=>.block i x.plain
 | .loop x=>.loop x.plain
 | .range g ps x y=>.range g ps x.plain y.plain
 | x=>x
def dstsOk (N:Nat) (xs:List XOper):Bool:=xs.all fun x=>x.dst.all fun m=>decide (m<N)
def codeX (P:Program) (N:Nat):Code→XC→Option XC
 | _,.never=>some .never
 | .skip,.skip=>some .skip
 | .ret,.ret=>some .ret
 | .exit i,.exit _=>some (.exit i)
 | .region _ ops dr,.reg xs=>if dr then none else if dstsOk N xs then (compOpers P ops).map .reg else none
 | .region _ ops dr,.drw _ xs rt=>if dr then (if drawOk rt ops xs&&dstsOk N xs&&P.follows .mixedOrders then (compOpers P ops).map (.drw 0 ·) else none) else none
 | .seq a b,.seq x y=>match codeX P N a x,codeX P N b y with
  | some u,some v=>some (.seq u v)
  | _,_=>none
 | .cond c a b,.cond _ x y=>match cO c,codeX P N a x,codeX P N b y with
  | some d,some u,some v=>some (.cond d u v)
  | _,_,_=>none
 | .block i a,.block _ x=>(codeX P N a x).map (.block i)
 | .loop a,.loop x=>(codeX P N a x).map .loop
 | .rangeFunc g ps a b,.range _ _ x y=>match cO g,codeX P N a x,codeX P N b y with
  | some d,some u,some v=>if ps.toList.all fun p=>decide (p<N) then some (.range d ps.toList u v) else none
  | _,_,_=>none
 | _,_=>none
theorem codeIs_of:∀ {c:Code} {x:XC},codeX P N c x=some x.plain→CodeIs P N c x:=by
 intro c x
 induction x generalizing c with
 | never=>intro _;cases c<;>trivial
 | skip=>intro h;cases c<;>simp [codeX] at h<;>trivial
 | ret=>intro h;cases c<;>simp [codeX] at h<;>trivial
 | exit j=>intro h;cases c<;>simp [codeX,XC.plain] at h;exact h
 | reg xs =>
  intro h
  cases c<;>simp only [codeX,XC.plain,reduceCtorEq] at h
  split at h
  ·cases h
  ·split at h
   ·rename_i h1 h2
    simp only [zT,XC.reg.injEq] at h
    obtain ⟨ys,hy,rfl⟩:=h
    exact ⟨by simpa using h1,.of hy h2⟩
   ·cases h
 | drw n xs rt =>
  intro h
  cases c<;>simp only [codeX,XC.plain,reduceCtorEq] at h
  split at h
  ·split at h
   ·rename_i h1 h2
    simp only [zT,XC.drw.injEq,true_and,and_true] at h
    obtain ⟨ys,hy,rfl⟩:=h
    simp only [Bool.and_eq_true] at h2
    exact ⟨h1,.of hy h2.1.2,h2.1.1,h2.2⟩
   ·cases h
  ·cases h
 | range g ps x y ih1 ih2 =>
  intro h
  cases c<;>simp only [codeX,XC.plain,reduceCtorEq] at h
  split at h
  ·rename_i h0 h1 h2
   split at h
   ·rename_i h3
    simp only [zH,XC.range.injEq] at h
    obtain ⟨rfl,rfl,rfl,rfl⟩:=h
    exact ⟨h0,rfl,fun p hp=>by simpa using List.all_eq_true.1 h3 p hp,ih1 h1,ih2 h2⟩
   ·cases h
  ·cases h
 | seq x y ih1 ih2 =>
  intro h
  cases c<;>simp only [codeX,XC.plain,reduceCtorEq] at h
  split at h
  ·rename_i h1 h2
   simp only [zH,XC.seq.injEq] at h
   obtain ⟨rfl,rfl⟩:=h
   exact ⟨ih1 h1,ih2 h2⟩
  ·cases h
 | cond d x y ih1 ih2 =>
  intro h
  cases c<;>simp only [codeX,XC.plain,reduceCtorEq] at h
  split at h
  ·rename_i h0 h1 h2
   simp only [zH,XC.cond.injEq] at h
   obtain ⟨rfl,rfl,rfl⟩:=h
   exact ⟨h0,ih1 h1,ih2 h2⟩
  ·cases h
 | block i x ih =>
  intro h
  cases c<;>simp only [codeX,XC.plain,reduceCtorEq] at h
  simp only [zT,XC.block.injEq] at h
  obtain ⟨u,h1,h2,rfl⟩:=h
  exact ⟨h2,ih h1⟩
 | loop x ih =>
  intro h
  cases c<;>simp only [codeX,XC.plain,reduceCtorEq] at h
  simp only [zT,XC.loop.injEq] at h
  obtain ⟨u,h1,rfl⟩:=h
  exact ih h1
def fnX (P:Program) (f:FuncId) (N:Nat) (x:XC):Option (List XR × XC) :=
 match P.funcs[f]? with
 | some fn=>match fn.body with
  | some code=>match fn.results.toList.mapM (compR P),codeX P N code x with
   | some res, some y => if fn.ntmps == N && decide (N ≤ tabBase) && !(fn.name == "runtime.NumGoroutine") then some (res, y) else none
   | _,_=>none
  | none=>none
 | none=>none
theorem FnIs.of {f:FuncId} {res:List XR} {x:XC} (h:fnX P f N x=some (res,x.plain)):FnIs P f N res x:=by
 unfold fnX at h
 split at h
 ·rename_i fn hf
  split at h
  ·rename_i code hb
   split at h
   ·rename_i r y hr hc
    split at h
    ·rename_i hk
     simp only [zH,Prod.mk.injEq] at h
     obtain ⟨rfl,rfl⟩:=h
     simp only [Bool.and_eq_true,beq_iff_eq,Bool.not_eq_true'] at hk
     exact ⟨fn,code,hf,hk.2,hb,hk.1.1,of_decide_eq_true hk.1.2,hr,codeIs_of hc⟩
    ·cases h
   ·cases h
  ·cases h
 ·cases h
end Go.Proofs.YtlllnjhgjijnkaaDoor.Nx

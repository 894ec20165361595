import Derived.Test.YtigfbnglplbbpaaGreatDoorNxB0
import Derived.Test.YtigfbnglplbbpaaGreatDoorNxEval
import Derived.Test.YtigfbnglplbbpaaGreatDoorNxFn
import Derived.Below
import Derived.Test.YtigfbnglplbbpaaGreatDoorNxE21
import Derived.Test.YtigfbnglplbbpaaGreatDoorNxK3
import Derived.Test.YtigfbnglplbbpaaGreatDoorNxP15a
set_option linter.unusedSimpArgs false
set_option linter.unusedVariables false
set_option linter.unnecessarySimpa false
namespace Go.Proofs.YtigfbnglplbbpaaGreatDoor.Nx
open Go Go.RowKit
def txt (l:List ByteArray):List UInt8:=l.flatMap fun s=>s.data.toList
end Go.Proofs.YtigfbnglplbbpaaGreatDoor.Nx
namespace Go.Proofs.YtigfbnglplbbpaaGreatDoor.Nx
open Go Go.Lib Go.Proofs Go.Shelf
variable {P:Program} {Γ:Tabs}
def glOf:List D→Option Gl
 | [.sc (.string s),.sc (.bool w),.sc (.int .i64 n)]=>some ⟨s,w,n⟩
 | _=>none
theorem glOf_ok {r:List D} {g:Gl} (h:glOf r=some g):r=g.row:=by
 unfold glOf at h
 split at h
 ·cases h;rfl
 ·cases h
def mapO {α β:Type} (f:α→Option β):List α→Option (List β)
 | []=>some []
 | x::l=>match f x,mapO f l with
  | some y,some m=>some (y::m)
  | _,_=>none
theorem mapO_ok {α β:Type} {f:α→Option β} {g:β→α} (hf:∀ x y,f x=some y→x=g y):∀ {l:List α} {m:List β},mapO f l=some m→l=m.map g
 | [],m,h=>by cases h;rfl
 | x::l,m,h=>by
  rw [mapO] at h
  split at h
  ·rename_i y m' hy hm
   cases h
   rw [List.map_cons,← hf _ _ hy,← mapO_ok hf hm]
  ·cases h
def glsOf:D→Option (List Gl)
 | .sl ⟨3,32⟩ rows=>mapO glOf rows
 | _=>none
theorem glsOf_ok {x:D} {l:List Gl} (h:glsOf x=some l):x = .sl eGl (glRows l):=by
 unfold glsOf at h
 split at h
 ·rw [mapO_ok (g:=Gl.row) (fun _ _ h=>glOf_ok h) h];rfl
 ·cases h
def rwOf:D→Option (List (List Gl))
 | .sl ⟨1,24⟩ rows=>mapO (fun | [x]=>glsOf x | _=>none) rows
 | _=>none
theorem rwOf_ok {x:D} {l:List (List Gl)} (h:rwOf x=some l):x = .sl eRw (rwRows l):=by
 unfold rwOf at h
 split at h
 ·rw [mapO_ok (g:=fun r=>[.sl eGl (glRows r)]) (fun x y h=>?_) h]
  ·rfl
  ·split at h
   ·rw [glsOf_ok h]
   ·cases h
 ·cases h
def vwOf:A→Option Vw
 | .agg [.d (.sc (.int .i64 w)),.d (.sc (.int .i64 h)),.d x,.d (.sc (.int .i64 r)),.d (.sc (.int .i64 c)),.d (.sc (.bool b))]=>(rwOf x).map fun l=>⟨w,h,l,r,c,b⟩
 | _=>none
theorem vwOf_ok {x:A} {v:Vw} (h:vwOf x=some v):x=vwA v:=by
 unfold vwOf at h
 split at h
 ·rw [Option.map_eq_some_iff] at h
  obtain ⟨l,hl,rfl⟩:=h
  rw [rwOf_ok hl];rfl
 ·cases h
theorem growGl_fn {rn:Ren} {f:FuncId} {Δ:Ctx} (L:Lays8.n4 P rn) (hf:rn.f 4=f) (he:Enters P f) (hi:growInfoE P (rn.t 25) eGl=true) (n:Nat) (hl:n≤100000) (h:Heap):FnD Δ P f [.nil,.int n] h (.ref h.length 0 0 0 true) (h++[.cells eGl []]):=by
 rcases Nat.eq_zero_or_pos n with rfl | hn
 ·exact ((growE0_fn (Γ:=Δ.t) L hf he).lend flat_nil (.cons (.same rfl) (.cons (.same rfl) .nil))).nil0 (by decide)
 ·exact growE_fn L hf he hi (by decide) (by decide) n hn hl h
end Go.Proofs.YtigfbnglplbbpaaGreatDoor.Nx

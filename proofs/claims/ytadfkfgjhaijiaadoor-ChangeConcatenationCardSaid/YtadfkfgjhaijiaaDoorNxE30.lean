import Derived.Test.YtadfkfgjhaijiaaDoorNxE21
import Derived.Test.YtadfkfgjhaijiaaDoorNxK3
import Derived.Test.YtadfkfgjhaijiaaDoorNxT3
set_option linter.unusedSimpArgs false
set_option linter.unusedVariables false
set_option linter.unnecessarySimpa false
open Option renaming map_eq_some_iff → zT
namespace Go.Proofs.YtadfkfgjhaijiaaDoor.Nx
open Go Go.Lib Go.Proofs Go.Shelf
variable {P:Program} {Γ:Tabs}
def glOf:List D→Option Gl
  | [.sc (.string s),.sc (.bool w),.sc (.int .i64 n)]=>some ⟨s,w,n⟩
  | _=>none
theorem glOf_ok {r:List D} {g:Gl} (h:glOf r=some g):r=g.row:=by
  unfold glOf at h
  split at h
  · cases h;rfl
  · cases h
def mapO {α β:Type} (f:α→Option β):List α→Option (List β)
  | []=>some []
  | x::l=>match f x,mapO f l with
    | some y,some m=>some (y::m)
    | _,_=>none
theorem mapO_ok {α β:Type} {f:α→Option β} {g:β→α} (hf:∀ x y,f x=some y→x=g y):∀ {l:List α} {m:List β},mapO f l=some m→l=m.map g
  | [],m,h=>by cases h;rfl
  | x::l,m,h=>by
    rw [mapO] at h
    split at h
    · rename_i y m' hy hm
      cases h
      rw [List.map_cons,← hf _ _ hy,← mapO_ok hf hm]
    · cases h
def glsOf:D→Option (List Gl)
  | .sl ⟨3,32⟩ rows=>mapO glOf rows
  | _=>none
theorem glsOf_ok {x:D} {l:List Gl} (h:glsOf x=some l):x = .sl eGl (glRows l):=by
  unfold glsOf at h
  split at h
  · rw [mapO_ok (g:=Gl.row) (fun _ _ h=>glOf_ok h) h];rfl
  · cases h
def rwOf:D→Option (List (List Gl))
  | .sl ⟨1,24⟩ rows=>mapO (fun | [x]=>glsOf x | _=>none) rows
  | _=>none
theorem rwOf_ok {x:D} {l:List (List Gl)} (h:rwOf x=some l):x = .sl eRw (rwRows l):=by
  unfold rwOf at h
  split at h
  · rw [mapO_ok (g:=fun r=>[.sl eGl (glRows r)]) (fun x y h=>?_) h]
    · rfl
    · split at h
      · rw [glsOf_ok h]
      · cases h
  · cases h
def vwOf:A→Option Vw
  | .agg [.d (.sc (.int .i64 w)),.d (.sc (.int .i64 h)),.d x,.d (.sc (.int .i64 r)),.d (.sc (.int .i64 c)),.d (.sc (.bool b))]=>(rwOf x).map fun l=>⟨w,h,l,r,c,b⟩
  | _=>none
theorem vwOf_ok {x:A} {v:Vw} (h:vwOf x=some v):x=vwA v:=by
  unfold vwOf at h
  split at h
  · rw [zT] at h
    obtain ⟨l,hl,rfl⟩:=h
    rw [rwOf_ok hl];rfl
  · cases h
def cgOf:List D→Option Cg
  | [.sc (.int .i64 a),.sc (.int .i64 b),.sc (.int .i64 c),.sc (.int .i64 d),.sc (.int .i64 e),x]=>(glsOf x).map fun l=>⟨a,b,c,d,e,l⟩
  | _=>none
theorem cgOf_ok {r:List D} {c:Cg} (h:cgOf r=some c):r=c.ds:=by
  unfold cgOf at h
  split at h
  · rw [zT] at h
    obtain ⟨l,hl,rfl⟩:=h
    rw [glsOf_ok hl];rfl
  · cases h
def cgsOf:A→Option (List Cg)
  | .d (.sl ⟨6,64⟩ rows)=>mapO cgOf rows
  | _=>none
theorem cgsOf_ok {x:A} {l:List Cg} (h:cgsOf x=some l):x=cgsA l:=by
  unfold cgsOf at h
  split at h
  · rw [mapO_ok (g:=Cg.ds) (fun _ _ h=>cgOf_ok h) h];rfl
  · cases h
def extVL (fA:FuncId) (R:Vw→List Cg→A) (f:FuncId) (args:List A):Option A :=
  if f=fA then match args with
    | [x,y]=>match vwOf x,cgsOf y with
      | some v,some l=>if (greatV v||greatL l)=false then some (R v l) else none
      | _,_=>none
    | _=>none
  else none
theorem extVL_ok {fA:FuncId} {R:Vw→List Cg→A} (H:∀ v l,(greatV v||greatL l)=false→FnP Γ P fA [vwA v,cgsA l] (R v l)):∀ f args r,extVL fA R f args=some r→FnP Γ P f args r:=by
  intro f args r h
  unfold extVL at h
  split at h
  · rename_i hf;subst hf
    split at h
    · split at h
      · rename_i v l hv hl
        split at h
        · rename_i hg
          cases h
          rw [vwOf_ok hv,cgsOf_ok hl]
          exact H v l hg
        · cases h
      · cases h
    · cases h
  · cases h
def extTextG (fT:FuncId) (f:FuncId) (args:List A):Option A :=
  if f=fT then match args with
    | [.d x]=>match glsOf x with
      | some l=>if l.length≤1000∧(∀ c∈l,c.text.size≤1000) then some (.str (textG l)) else none
      | none=>none
    | _=>none
  else none
theorem extTextG_ok {fT:FuncId} (H:TextGOk Γ P fT):∀ f args r,extTextG fT f args=some r→FnP Γ P f args r:=by
  intro f args r h
  unfold extTextG at h
  split at h
  · rename_i hf;subst hf
    split at h
    · split at h
      · rename_i l hl
        split at h
        · rename_i hs
          cases h
          rw [glsOf_ok hl]
          exact H _ hs.1 hs.2
        · cases h
      · cases h
    · cases h
  · cases h
def ext19 (fA fI fT:FuncId) (f:FuncId) (args:List A):Option A:=match extVL fA (fun v l=>apA (applyV v l)) f args with
  | some r=>some r
  | none=>match extVL fI (fun v l=>iv2 (invV v l)) f args with
    | some r=>some r
    | none=>extTextG fT f args
theorem ext19_ok {fA fI fT:FuncId} (HA:ApOk Γ P fA) (HI:InvOk Γ P fI) (HT:TextGOk Γ P fT):∀ f args r,ext19 fA fI fT f args=some r→FnP Γ P f args r:=by
  intro f args r h
  unfold ext19 at h
  split at h
  · rename_i r' hr;cases h
    refine extVL_ok (fun v l hg=>?_) _ _ _ hr
    obtain ⟨h1,h2,h3,h4,h5,h6⟩:=small_of hg
    exact HA v l h5 fun c hc=>(h4 c hc).ok
  · split at h
    · rename_i r' hr;cases h
      refine extVL_ok (R:=fun v l=>iv2 (invV v l)) (fun v l hg=>?_) _ _ _ hr
      obtain ⟨h1,h2,h3,h4,h5,h6⟩:=small_of hg
      exact HI v l h5 (fun c hc=>(h4 c hc).ok) fun h=>(h6 h).mono (by omega)
    · exact extTextG_ok HT _ _ _ h
theorem growGl_fn {rn:Ren} {f:FuncId} {Δ:Ctx} (L:Lays8.n4 P rn) (hf:rn.f 4=f) (he:Enters P f) (hi:growInfoE P (rn.t 25) eGl=true) (n:Nat) (hl:n≤100000) (h:Heap):FnD Δ P f [.nil,.int n] h (.ref h.length 0 0 0 true) (h++[.cells eGl []]):=by
  rcases Nat.eq_zero_or_pos n with rfl | hn
  · exact ((growE0_fn (Γ:=Δ.t) L hf he).lend flat_nil (.cons (.same rfl) (.cons (.same rfl) .nil))).nil0 (by decide)
  · exact growE_fn L hf he hi (by decide) (by decide) n hn hl h
end Go.Proofs.YtadfkfgjhaijiaaDoor.Nx

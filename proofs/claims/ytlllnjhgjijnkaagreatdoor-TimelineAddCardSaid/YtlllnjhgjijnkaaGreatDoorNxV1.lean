import Derived.Test.YtlllnjhgjijnkaaGreatDoorNxC1
import Derived.Test.YtlllnjhgjijnkaaGreatDoorNxFn
import Derived.Shelf.Unicode.ValidAny
set_option linter.all false
open List renaming getElem?_map → zK, getElem?_range → zj
namespace Go.Proofs.YtlllnjhgjijnkaaGreatDoor.Nx
open Go Go.Lib Go.Proofs Go.Shelf
def Rw:List D:=(List.range 256).map fun c=>.sc (.int .u8 (firstT c))
def aIv(k:Nat):Nat:=if k % 2=0 then accLo (k / 2) else accHi (k / 2)
def Ee:List D:=(List.range 32).map fun k=>.sc (.int .u8 (aIv k))
theorem Rx{Γ:dP}{w:World}{M:Nat→Prop}{g:Nat}{cs:List D}(T:aBh Γ w M [] [])(hg:(g,cs)∈Γ){j:Nat}{v:Value}(hj:cs[j]? = some (.sc v)):w.cell? ⟨g,j,none⟩=some v:=by
 have h:=T g cs hg;cases h with
 | iptr u hc hr =>
  have h1:=(hc j _ hj).1;have h2:=hr j _ hj;generalize u j=x at h1 h2;cases h2 with
  | sc _ =>
   rw[← h1];simp only[Addr.add]
   by_cases hj0:j=0
   ·subst hj0;simp
   ·simp[hj0]
theorem Ry{P:Program}{ρ:Ren}{f:FuncId}{Γ:dP}{N:Nat}{res:List XR}{x:XC}(L:Lays.n196 P ρ)(hf:ρ.f 196=f)(H:FnIs P f N res x)(h3:(ρ.g 3,Rw)∈Γ)(h4:(ρ.g 4,Ee)∈Γ)(s:ByteArray)(hs:s.size≤1000) :
  FnP Γ P f [.str s] (.bool (validS s)):=by
 subst hf;refine⟨H.enters,fun M w vs bnd T fR=>?_⟩;have hvs:vs = #[.string s]:=by
  obtain⟨h1,h2⟩:=fR;have:=h2 0 _ rfl;have hv:vs.getD 0 undef = .string s:=by
   generalize vs.getD 0 undef=y at this;cases this with
   | d hx=>cases hx;rfl
  rcases vs with⟨l⟩
  match l,h1 with
  | [a],_ =>
   have:a = .string s:=hv;rw[this]
 subst hvs;have hT:Lib.Utf8Tabs (ρ.g 3) (ρ.g 4) w:=by
  refine⟨fun c hc=>Rx T h3 ?_,fun i hi=>⟨Rx T h4 ?_,Rx T h4 ?_⟩⟩
  ·simp[Rw,zK,zj hc]
  ·have h1:aIv (2 * i)=accLo i:=by simp[aIv]
   simp[Ee,zK,zj (show 2 * i<32 by omega),h1]
  ·have h1:aIv (2 * i+1)=accHi i:=by
    rw[aIv,if_neg (by omega)];congr 1;omega
   simp[Ee,zK,zj (show 2 * i+1<32 by omega),h1]
 refine(Any.utf8_ValidString L s w (by omega) hT).mono fun e w' ⟨he,hb⟩=>?_;refine⟨_,he,.d (.sc trivial),hb.os,hb.tape,hb.output,hb.size,fun b cY _=>hb.block b cY,fun id b p h=>by simp at h,Nat.le_refl _,fun id B h=>by omega⟩
end Go.Proofs.YtlllnjhgjijnkaaGreatDoor.Nx

import Derived.Test.YtlllnjhgjijnkaaGreatDoorNxCheck
import Derived.IntWalk
import Derived.Test.YtlllnjhgjijnkaaGreatDoorNxFn
set_option linter.all false
open List renaming getElem?_eq_some_iff → zA, getElem?_eq_getElem → zB, getD_eq_getElem?_getD → zC, getElem?_append_left → zF, getElem?_append_right → zG, getElem?_map → zK, append_nil → zP, mem_of_getElem? → zY, getElem?_drop → zl, getElem?_take → zm
open Nat renaming zero_le → zI, le_refl → zL
open And renaming intro → aA
open Eq renaming trans → aB
open List renaming replicate → aC, getElem?_replicate → aD, take_add_one → aF
open Nat renaming lt_or_ge → aE, le_trans → aG
namespace Go.Proofs.YtlllnjhgjijnkaaGreatDoor.Nx
open Go
section
variable {P:Program}{F:Fns}
def aOm(F:Fns)(b:Nat)(os:List XOper)(K:St→Prop)(s:St):Prop:=kH F b os s K
def Lay(d:Option Nat)(sl:Nat→A)(k:St→Prop)(r:A)(h:cM):Prop:=k ⟨put d r sl,h⟩
def Grd(F:Fns)(pl:Option Nat)(d:Option Nat)(t:Bool)(op:XOp)(sl:Nat→A)(h:cM)(k:St→Prop):A→Prop
 | .d (.sc (.bool c))=>if c=t then dC F pl op (ev sl) h (Lay d sl k) else k ⟨put d cV sl,h⟩
 | .tup []=>k ⟨put d cV sl,h⟩
 | _=>False
theorem aOn{b:Nat}{K:St→Prop}{s:St}:kH F b [] s K=K s:=aB rfl rfl
theorem aMw{b:Nat}{o:XOper}{os:List XOper}{K:St→Prop}{s:St}:kH F b (o::os) s K=jA F b o s (aOm F b os K):=aB rfl rfl
theorem aMx{b:Nat}{os:List XOper}{K:St→Prop}{sl:Nat→A}{h:cM}:aOm F b os K ⟨sl,h⟩=kH F b os ⟨sl,h⟩ K:=aB rfl rfl
theorem aMy{b:Nat}{d:Option Nat}{op:XOp}{sl:Nat→A}{h:cM}{k:St→Prop}:jA F b ⟨d,op,none,none⟩ ⟨sl,h⟩ k=dC F none op (ev sl) h (Lay d sl k):=aB rfl rfl
theorem aKn{b:Nat}{d:Option Nat}{op:XOp}{n:Nat}{sl:Nat→A}{h:cM}{k:St→Prop}:jA F b ⟨d,op,none,some n⟩ ⟨sl,h⟩ k=dC F (some (b+n)) op (ev sl) h (Lay d sl k):=aB rfl rfl
theorem aKo{b:Nat}{d:Option Nat}{op:XOp}{g:Nat}{t:Bool}{pl:Option Nat}{sl:Nat→A}{h:cM}{k:St→Prop} :
  jA F b ⟨d,op,some (g,t),pl⟩ ⟨sl,h⟩ k=Grd F (pl.map (b + ·)) d t op sl h k (sl g):=by
 unfold jA XOper.live Grd;dsimp only;generalize sl g=x;cases x with
 | d y=>cases y with
  | sc v=>cases v with
   | bool c =>
    dsimp only
    by_cases hc:c=t
    ·rw[if_pos hc,if_pos hc];rfl
    ·rw[if_neg hc,if_neg hc];rfl
   | _=>rfl
  | sl _ _=>rfl
 | tup l=>cases l<;>rfl
 | _=>rfl
theorem aOo{d:Nat}{sl:Nat→A}{k:St→Prop}{r:A}{h:cM}:Lay (some d) sl k r h=k ⟨upd sl d r,h⟩:=aB rfl rfl
theorem aMz{sl:Nat→A}{k:St→Prop}{r:A}{h:cM}:Lay none sl k r h=k ⟨sl,h⟩:=aB rfl rfl
theorem aOp{pl d:Option Nat}{t c:Bool}{op:XOp}{sl:Nat→A}{h:cM}{k:St→Prop}:Grd F pl d t op sl h k (.bool c)=if c=t then dC F pl op (ev sl) h (Lay d sl k) else k ⟨put d cV sl,h⟩:=aB rfl rfl
theorem aMA{pl d:Option Nat}{t:Bool}{op:XOp}{sl:Nat→A}{h:cM}{k:St→Prop}:Grd F pl d t op sl h k (.tup [])=k ⟨put d cV sl,h⟩:=aB rfl rfl
theorem aOq{d:Nat}{r:A}{sl:Nat→A}:put (some d) r sl=upd sl d r:=aB rfl rfl
theorem aMB{r:A}{sl:Nat→A}:put none r sl=sl:=aB rfl rfl
theorem cJ{sl:Nat→A}{d n:Nat}{r:A}:upd sl d r n=if n=d then r else sl n:=aB rfl rfl
theorem aOr{sl:Nat→A}{n:Nat}:ev sl (.t n)=sl n:=aB rfl rfl
theorem aOs{sl:Nat→A}{a:A}:ev sl (.k a)=a:=aB rfl rfl
theorem aOt{sl:Nat→A}{f:FuncId}:ev sl (.f f) = .fn f []:=aB rfl rfl
theorem aMC{K:St→Prop}{Q:Exit→St→Prop}{s:St}:My K Q .normal s=K s:=aB rfl rfl
theorem aKp{K:St→Prop}{Q:Exit→St→Prop}{s:St}:My K Q .ret s=Q .ret s:=aB rfl rfl
theorem aKq{K:St→Prop}{Q:Exit→St→Prop}{s:St}{i:Nat}:My K Q (.exit i) s=Q (.exit i) s:=aB rfl rfl
theorem aKr{Q:Exit→St→Prop}{s:St}{i:Nat}:yX i Q .normal s=Q .normal s:=aB rfl rfl
theorem aH0{Q:Exit→St→Prop}{s:St}{i:Nat}:yX i Q .ret s=Q .ret s:=aB rfl rfl
theorem aH1{Q:Exit→St→Prop}{s:St}{i j:Nat}:yX i Q (.exit j) s=if j=i then Q .normal s else Q (.exit j) s:=aB rfl rfl
theorem aOu{pl:Option Nat}{x:XO}{ev:XO→A}{h:cM}{K:A→cM→Prop}:dC F pl (.mov x) ev h K=K (ev x) h:=aB rfl rfl
theorem cK{k n:Nat}{x:A}{l:List (Nat × A)}:dB ((k,x)::l) n=if n=k then x else dB l n:=aB rfl rfl
theorem Aa{n:Nat}:dB [] n = .any:=aB rfl rfl
section ops
variable {pl:Option Nat}{ev:XO→A}{h:cM}{K:A→cM→Prop}
def Ab(h:cM)(K:A→cM→Prop):Option Value→Prop
 | some v=>K (.sc v) h
 | none=>False
def Fj(op:BinOp)(h:cM)(K:A→cM→Prop):A→A→Prop
 | .d (.sc a),.d (.sc b)=>Ab h K (jM op a b)
 | _,_=>False
theorem aOv{op:BinOp}{x y:XO}:dC F pl (.bin op x y) ev h K=Fj op h K (ev x) (ev y):=by
 simp only[dC,Fj];generalize ev x=a;generalize ev y=b;rcases a with _ | _ | (v | _) | _ | _ | _ | _ | _ | _ | _ | _ | _<;>rfl
variable {k:IntKind}{a b:Int}
theorem aOw:Fj .add h K (.d (.sc (.int k a))) (.d (.sc (.int k b)))=K (.sc (.int k (k.wrap (a+b)))) h:=by simp[Fj,jM,nM,Ab]
theorem aOx:Fj .sub h K (.d (.sc (.int k a))) (.d (.sc (.int k b)))=K (.sc (.int k (k.wrap (a-b)))) h:=by simp[Fj,jM,nM,Ab]
theorem aOy:Fj .mul h K (.d (.sc (.int k a))) (.d (.sc (.int k b)))=K (.sc (.int k (k.wrap (a * b)))) h:=by simp[Fj,jM,nM,Ab]
theorem aOz:Fj .eql h K (.d (.sc (.int k a))) (.d (.sc (.int k b)))=K (.bool (decide (a=b))) h:=by simp[Fj,jM,nM,Ab];rfl
theorem aOA:Fj .neq h K (.d (.sc (.int k a))) (.d (.sc (.int k b)))=K (.bool (!decide (a=b))) h:=by simp[Fj,jM,nM,Ab];rfl
theorem aOB:Fj .lss h K (.d (.sc (.int k a))) (.d (.sc (.int k b)))=K (.bool (decide (a<b))) h:=by simp[Fj,jM,nM,Ab]
theorem aOC:Fj .leq h K (.d (.sc (.int k a))) (.d (.sc (.int k b)))=K (.bool (decide (a≤b))) h:=by simp[Fj,jM,nM,Ab]
theorem aOD:Fj .gtr h K (.d (.sc (.int k a))) (.d (.sc (.int k b)))=K (.bool (decide (b<a))) h:=by simp[Fj,jM,nM,Ab]
theorem aOE:Fj .geq h K (.d (.sc (.int k a))) (.d (.sc (.int k b)))=K (.bool (decide (b≤a))) h:=by simp[Fj,jM,nM,Ab]
variable {s t:ByteArray}
theorem aMD:Fj .eql h K (.d (.sc (.string s))) (.d (.sc (.string t)))=K (.bool (decide (s=t))) h:=by simp[Fj,jM,Lb,Ab]
theorem aME:Fj .neq h K (.d (.sc (.string s))) (.d (.sc (.string t)))=K (.bool (!decide (s=t))) h:=by simp[Fj,jM,Lb,Ab]
def aMF(h:cM)(K:A→cM→Prop)(a b:A):A→Prop
 | .d (.sc (.bool t))=>if t=true then K a h else K b h
 | _=>False
theorem aMG{c x y:XO}:dC F pl (.pick c x y) ev h K=aMF h K (ev x) (ev y) (ev c):=by
 simp only[dC,aMF];generalize ev c=a;rcases a with _ | _ | (v | _) | _ | _ | _ | _ | _ | _ | _ | _ | _<;>rfl
theorem aH2{a b:A}{t:Bool}:aMF h K a b (.bool t)=if t=true then K a h else K b h:=aB rfl rfl
def Bn(n:Nat)(h:cM)(K:A→cM→Prop):Bool→List A→Prop
 | true,l=>n≤l.length∧K (.agg (l.take n)) h
 | false,c::_=>K c h
 | false,[]=>False
def aH3(n:Nat)(g:Bool)(h:cM)(K:A→cM→Prop)(off:Nat):Option (List A)→Prop
 | some r=>Bn n h K g (r.drop off)
 | none=>False
def aEU(n:Nat)(g:Bool)(h:cM)(K:A→cM→Prop)(N i off:Nat):Option HB→Prop
 | some (.cells _ rows)=>N=rows.length∧aH3 n g h K off rows[i]?
 | _=>False
def aH4(n:Nat)(g:Bool)(h:cM)(K:A→cM→Prop):A→Prop
 | .ptr id N i off=>aEU n g h K N i off h[id]?
 | .iptr cs=>Bn n h K g (cs.map .d)
 | _=>False
theorem Je{n:Nat}{g:Bool}{l:List A}:dI n g l (fun a=>K a h)=Bn n h K g l:=by
 cases g<;>cases l<;>simp[dI,Bn]
theorem t_d{x:D}:(A.d x).touch=none:=rfl
theorem aOF:A.nil.touch=none:=rfl
theorem aOG{l:List A}:(A.agg l).touch=none:=rfl
theorem aH5{n:Nat}{g:Bool}{x:XO}:dC F pl (.load n g x) ev h K=aH4 n g h K (ev x):=by
 simp only[dC,aH4];generalize ev x=a;cases a with
 | ptr id N i off =>
  dsimp only;generalize h[id]? = o;rcases o with _ | (⟨e,rows⟩ | _ | _)
  ·rfl
  ·dsimp only[aEU];generalize rows[i]? = r;cases r with
   | none=>rfl
   | some r=>simp only[Je];rfl
  ·rfl
  ·rfl
 | iptr cs=>exact Je
 | _=>rfl
theorem aKs{n:Nat}{g:Bool}{x:XO}:dC F pl (.loadp n g x) ev h K=aH4 n g h (fun a h'=>a.touch=none∧K a h') (ev x):=by
 rw[← aH5 (F:=F) (pl:=pl)];simp only[dC]
theorem aOH{n id N i off:Nat}{g:Bool}:aH4 n g h K (.ptr id N i off)=aEU n g h K N i off h[id]? := aB rfl rfl
theorem aMH{n:Nat}{g:Bool}{cs:List D}:aH4 n g h K (.iptr cs)=Bn n h K g (cs.map .d):=aB rfl rfl
theorem l_b{n N i off:Nat}{g:Bool}{e:Elt}{rows:List (List A)}:aEU n g h K N i off (some (.cells e rows))=(N=rows.length∧aH3 n g h K off rows[i]?):=aB rfl rfl
theorem l_r{n off:Nat}{g:Bool}{r:List A}:aH3 n g h K off (some r)=Bn n h K g (r.drop off):=aB rfl rfl
theorem l_t{n:Nat}{l:List A}:Bn n h K true l=(n≤l.length∧K (.agg (l.take n)) h):=aB rfl rfl
theorem l_f{n:Nat}{c:A}{l:List A}:Bn n h K false (c::l)=K c h:=aB rfl rfl
end ops
end
section
variable {Γ:Ctx}{P:Program}{F:Fns}{pl:Option Nat}{ev:XO→A}{h:cM}{K:A→cM→Prop}
def xQ(pl:Option Nat)(h:cM)(B:HB)(mk:Nat→A)(K:A→cM→Prop):Prop :=
 match pl with
 | none=>K (mk h.length) (h++[B])
 | some a=>h[a]? = some .res∧K (mk a) (h.set a B)
theorem Cm{B:HB}{mk:Nat→A}:gP pl h B (fun id h1=>K (mk id) h1)=xQ pl h B mk K:=by cases pl<;>rfl
theorem aKt{B:HB}{mk:Nat→A}:xQ none h B mk K=K (mk h.length) (h++[B]):=aB rfl rfl
theorem aH6{a:Nat}{B:HB}{mk:Nat→A}:xQ (some a) h B mk K=(h[a]? = some .res∧K (mk a) (h.set a B)):=aB rfl rfl
theorem aKu{e:Elt}{z:List A}:dC F pl (.alloc e z) ev h K=xQ pl h (.cells e [z]) (fun id=>.ptr id 1 0 0) K:=by
 simp only[dC];exact Cm (mk:=fun id=>.ptr id 1 0 0)
theorem aOI{e:Elt}{x:XO}:dC F pl (.box e x) ev h K=((ev x).okCells=true∧(ev x).cells.length=e.sz∧xQ pl h (.cells e [(ev x).cells]) (fun id=>.ptr id 1 0 0) K):=by
 simp only[dC,Cm (mk:=fun id=>.ptr id 1 0 0)]
def aDr(n:Nat)(h:cM)(K:A→cM→Prop)(y:A)(e:Elt)(rows:List (List A))(id i off:Nat):Option (List A)→Prop
 | some r=>off+n≤r.length∧K .any (h.set id (.cells e (rows.set i (splice r off y.cells))))
 | none=>False
def Zx(n:Nat)(h:cM)(K:A→cM→Prop)(y:A)(id N i off:Nat):Option HB→Prop
 | some (.cells e rows)=>N=rows.length∧y.okCells=true∧y.cells.length=n∧aDr n h K y e rows id i off rows[i]?
 | _=>False
def aH7(n:Nat)(h:cM)(K:A→cM→Prop)(y:A):A→Prop
 | .ptr id N i off=>Zx n h K y id N i off h[id]?
 | _=>False
theorem aKv{n:Nat}{x y:XO}:dC F pl (.store n x y) ev h K=aH7 n h K (ev y) (ev x):=by
 simp only[dC,aH7];generalize ev x=a;cases a with
 | ptr id N i off =>
  dsimp only;generalize h[id]? = o;rcases o with _ | (⟨e,rows⟩ | _ | _)
  ·rfl
  ·dsimp only[Zx];generalize rows[i]? = r;cases r<;>rfl
  ·rfl
  ·rfl
 | _=>rfl
theorem aOJ{n id N i off:Nat}{y:A}:aH7 n h K y (.ptr id N i off)=Zx n h K y id N i off h[id]? := aB rfl rfl
theorem s_b{n id N i off:Nat}{y:A}{e:Elt}{rows:List (List A)}:Zx n h K y id N i off (some (.cells e rows))=(N=rows.length∧y.okCells=true∧y.cells.length=n∧aDr n h K y e rows id i off rows[i]?):=aB rfl rfl
theorem s_r{n id i off:Nat}{y:A}{e:Elt}{rows:List (List A)}{r:List A}:aDr n h K y e rows id i off (some r)=(off+n≤r.length∧K .any (h.set id (.cells e (rows.set i (splice r off y.cells))))):=aB rfl rfl
def aDs(off:Nat)(h:cM)(K:A→cM→Prop)(id N i o:Nat):Option HB→Prop
 | some (.cells _ rows)=>N=rows.length∧K (.ptr id N i (o+off)) h
 | _=>False
def aEV(off:Nat)(h:cM)(K:A→cM→Prop):A→Prop
 | .ptr id N i o=>aDs off h K id N i o h[id]?
 | .iptr cs=>K (.iptr (cs.drop off)) h
 | _=>False
theorem aKw{off:Nat}{x:XO}:dC F pl (.faddr off x) ev h K=aEV off h K (ev x):=by
 simp only[dC,aEV];generalize ev x=a;cases a with
 | ptr id N i o =>
  dsimp only;generalize h[id]? = o;rcases o with _ | (⟨e,rows⟩ | _ | _)<;>rfl
 | _=>rfl
theorem aOK{off id N i o:Nat}:aEV off h K (.ptr id N i o)=aDs off h K id N i o h[id]? := aB rfl rfl
theorem aMI{off:Nat}{cs:List D}:aEV off h K (.iptr cs)=K (.iptr (cs.drop off)) h:=aB rfl rfl
theorem f_b{off id N i o:Nat}{e:Elt}{rows:List (List A)}:aDs off h K id N i o (some (.cells e rows))=(N=rows.length∧K (.ptr id N i (o+off)) h):=aB rfl rfl
def Field(off n:Nat)(g:Bool)(h:cM)(K:A→cM→Prop):A→Prop
 | .agg cs=>Bn n h K g (cs.drop off)
 | _=>False
theorem aKx{off n:Nat}{g:Bool}{x:XO}:dC F pl (.field off n g x) ev h K=Field off n g h K (ev x):=by
 simp only[dC,Field];generalize ev x=a;cases a<;>first | rfl | exact Je
theorem aMJ{off n:Nat}{g:Bool}{cs:List A}:Field off n g h K (.agg cs)=Bn n h K g (cs.drop off):=aB rfl rfl
def aDt(e:Elt)(h:cM)(K:A→cM→Prop)(id N off len:Nat)(n:Int):Option HB→Prop
 | some (.cells e' rows)=>e'=e∧N=rows.length∧0≤n∧n<len∧K (.ptr id N (off+n.toNat) 0) h
 | _=>False
def Xx(e:Elt)(h:cM)(K:A→cM→Prop):A→A→Prop
 | .d (.sl e' rows),.d (.sc (.int _ n))=>e'=e∧0≤n∧n<rows.length∧K (.iptr (rows.getD n.toNat [])) h
 | .nn e' rows,.d (.sc (.int _ n))=>e'=e∧0≤n∧n<rows.length∧K (.iptr (rows.getD n.toNat [])) h
 | .fd e' rows,.d (.sc (.int _ n))=>e'=e∧0≤n∧n<rows.length∧K (.iptr (rows.getD n.toNat [])) h
 | .ref id N off len _,.d (.sc (.int _ n))=>aDt e h K id N off len n h[id]?
 | _,_=>False
theorem aKy{e:Elt}{x i:XO}:dC F pl (.iaddr e x i) ev h K=Xx e h K (ev x) (ev i):=by
 simp only[dC,Xx];generalize ev x=a;generalize ev i=b;rcases a with _ | _ | (v | _) | _ | _ | _ | _ | _ | _ | _ | _ | _<;>try rfl
theorem aP3{e e':Elt}{rows:List (List D)}{k:IntKind}{n:Int}:Xx e h K (.d (.sl e' rows)) (.d (.sc (.int k n)))=(e'=e∧0≤n∧n<rows.length∧K (.iptr (rows.getD n.toNat [])) h):=aB rfl rfl
theorem aP4{e e':Elt}{rows:List (List D)}{k:IntKind}{n:Int}:Xx e h K (.nn e' rows) (.d (.sc (.int k n)))=(e'=e∧0≤n∧n<rows.length∧K (.iptr (rows.getD n.toNat [])) h):=aB rfl rfl
theorem aP5{e e':Elt}{rows:List (List D)}{k:IntKind}{n:Int}:Xx e h K (.fd e' rows) (.d (.sc (.int k n)))=(e'=e∧0≤n∧n<rows.length∧K (.iptr (rows.getD n.toNat [])) h):=aB rfl rfl
theorem aOL{e:Elt}{id N off len:Nat}{full:Bool}{k:IntKind}{n:Int}:Xx e h K (.ref id N off len full) (.d (.sc (.int k n)))=aDt e h K id N off len n h[id]? := aB rfl rfl
theorem i_b{e e':Elt}{rows:List (List A)}{id N off len:Nat}{n:Int}:aDt e h K id N off len n (some (.cells e' rows))=(e'=e∧N=rows.length∧0≤n∧n<len∧K (.ptr id N (off+n.toNat) 0) h):=aB rfl rfl
def aMK(str:Bool)(h:cM)(K:A→cM→Prop)(N len:Nat):Option HB→Prop
 | some (.cells _ rows)=>str=false∧N=rows.length∧K (.int len) h
 | _=>False
def Len(str:Bool)(h:cM)(K:A→cM→Prop):A→Prop
 | .nil=>str=false∧K (.int 0) h
 | .d (.sl _ rows)=>str=false∧K (.int rows.length) h
 | .nn _ rows=>str=false∧K (.int rows.length) h
 | .fd _ rows=>str=false∧K (.int rows.length) h
 | .ref id N _ len _=>aMK str h K N len h[id]?
 | .d (.sc (.string s))=>str=true∧K (.int s.size) h
 | _=>False
theorem aOM{str:Bool}{x:XO}:dC F pl (.len str x) ev h K=Len str h K (ev x):=by
 simp only[dC,Len];generalize ev x=a;rcases a with _ | _ | (v | _) | _ | _ | _ | _ | _ | _ | _ | _ | _<;>try rfl
theorem aON{str:Bool}:Len str h K .nil=(str=false∧K (.int 0) h):=aB rfl rfl
theorem aP6{str:Bool}{e:Elt}{rows:List (List D)}:Len str h K (.d (.sl e rows))=(str=false∧K (.int rows.length) h):=aB rfl rfl
theorem aP7{str:Bool}{e:Elt}{rows:List (List D)}:Len str h K (.nn e rows)=(str=false∧K (.int rows.length) h):=aB rfl rfl
theorem aP8{str:Bool}{e:Elt}{rows:List (List D)}:Len str h K (.fd e rows)=(str=false∧K (.int rows.length) h):=aB rfl rfl
theorem aOO{str:Bool}{s:ByteArray}:Len str h K (.d (.sc (.string s)))=(str=true∧K (.int s.size) h):=aB rfl rfl
theorem aOP{str full:Bool}{id N off len:Nat}:Len str h K (.ref id N off len full)=aMK str h K N len h[id]? := aB rfl rfl
theorem n_b{str:Bool}{N len:Nat}{e:Elt}{rows:List (List A)}:aMK str h K N len (some (.cells e rows))=(str=false∧N=rows.length∧K (.int len) h):=aB rfl rfl
def Un(op:UnOp)(h:cM)(K:A→cM→Prop):A→Prop
 | .d (.sc a)=>Ab h K (Xp op a)
 | _=>False
theorem aP9{op:UnOp}{x:XO}:dC F pl (.un op x) ev h K=Un op h K (ev x):=by
 simp only[dC,Un];generalize ev x=a;rcases a with _ | _ | (v | _) | _ | _ | _ | _ | _ | _ | _ | _ | _<;>try rfl
theorem aOQ{b:Bool}:Un .not h K (.bool b)=K (.bool (!b)) h:=by simp[Un,Xp,Ab]
theorem aOR{k:IntKind}{n:Int}:Un .neg h K (.d (.sc (.int k n)))=K (.sc (.int k (k.wrap (0-n)))) h:=by simp[Un,Xp,Ab]
def aH8(F:Fns)(h:cM)(K:A→cM→Prop)(args:List A):A→Prop
 | .fn g caps=>A.underL 0 (args++caps)=true∧∃ r,F.pure g (args++caps) r∧K r h
 | _=>False
theorem aML{f:XO}{args:List XO}:dC F pl (.call f args) ev h K=aH8 F h K (args.map ev) (ev f):=by
 simp only[dC,aH8];generalize ev f=a;cases a<;>rfl
theorem dF{g:FuncId}{args:List A}{r:A}(hf:FnP Γ.t P g args r)(h0:A.underL 0 args=true)(hK:K r h):aH8 (.all Γ P) h K args (.fn g []):=by
 simp only[aH8,zP];exact⟨h0,r,hf,hK⟩
end
section
variable {Γ:Ctx}{P:Program}{N:Nat}{rl:Option Nat}{n0:Nat}
theorem Zy{c:XC}{Q:Exit→St→Prop}{s:St}{p:Prop}(hp:∀ (z:Still) (M:Nat→Prop) (ρ:fJ) (a:Act) (w:World),Sim z w M ρ s a→p)(h:p→W Γ P N rl n0 c Q s):W Γ P N rl n0 c Q s :=
 fun code hc z M ρ a w hz hn S=>h (hp z M ρ a w S) code hc z M ρ a w hz hn S
theorem RepD.slFact{w:World}{X:Nat→Prop}{e:Elt}{rows:List (List D)}{v:Value}(h:RepD w X (.sl e rows) v):rows.length≤maxLen∧rows.length * e.bytes≤dL∧∀ r∈rows,r.length=e.sz:=by
 cases h with
 | nil _ _=>exact⟨zI _,by simp,by simp⟩
 | sl u hl hm hb mB _ _=>exact⟨by omega,hb,mB⟩
theorem xR{c:XC}{Q:Exit→St→Prop}{s:St}(n:Nat){e:Elt}{rows:List (List D)}(hs:s.slots n = .d (.sl e rows))(h:rows.length≤maxLen∧rows.length * e.bytes≤dL∧(∀ r∈rows,r.length=e.sz)→W Γ P N rl n0 c Q s):W Γ P N rl n0 c Q s :=
 Zy (fun z M ρ a w S=>by
  have:=S.slots n;rw[hs] at this;cases this with
  | d hx=>exact hx.slFact) h
theorem Xy{c:XC}{Q:Exit→St→Prop}{s:St}(n:Nat){e:Elt}{rows:List (List D)}(hs:s.slots n = .d (.sl e rows))(h0:rows=[]→W Γ P N rl n0 c Q ⟨upd s.slots n .nil,s.heap⟩)
  (h1:W Γ P N rl n0 c Q ⟨upd s.slots n (.nn e rows),s.heap⟩):W Γ P N rl n0 c Q s:=fun code hc z M ρ a w hz hn S=>by
 have hx:=S.slots n;rw[hs] at hx;have Qf:=Xr hx;obtain⟨b,cap,hv,_⟩:=yR Qf;have other:∀ y,RepA w M ρ s.heap y (nY a.tmps n)→Sim z w M ρ ⟨upd s.slots n y,s.heap⟩ a:=fun y hy =>
  ⟨S.bnd,S.sim,fun m=>by
   dsimp only[upd]
   by_cases hm:m=n
   ·rw[if_pos hm,hm];exact hy
   ·rw[if_neg hm];exact S.slots m,S.size,S.nlt,S.tabs,S.defers⟩
 cases b with
 | none =>
  rw[hv] at Qf;obtain⟨r0,r1,r2⟩:=aEN Qf;rw[r1,r2] at hv;exact wpIn_mono (h0 r0 code hc z M ρ a w hz hn (other _ (by rw[hv];exact .nil))) fun _ _ _ hp=>hp
 | some b =>
  exact wpIn_mono (h1 code hc z M ρ a w hz hn (other _ (by rw[hv];rw[hv] at Qf;exact .nn Qf))) fun _ _ _ hp=>hp
end
section
variable {Γ:Ctx}{P:Program}{F:Fns}{pl:Option Nat}{ev:XO→A}{h:cM}{K:A→cM→Prop}
def aEW(h:cM)(K:A→cM→Prop)(cs:List A)(l:List (Nat × Nat × A)):Prop:=yQ cs l fun c=>K (.agg c) h
theorem aKz{z:List A}{ps:List (Nat × Nat × XO)}:dC F pl (.build z ps) ev h K=aEW h K z (ps.map fun p=>(p.1,p.2.1,ev p.2.2)):=aB rfl rfl
theorem aMM{cs:List A}:aEW h K cs []=K (.agg cs) h:=aB rfl rfl
theorem aKA{cs:List A}{off n:Nat}{x:A}{r:List (Nat × Nat × A)}:aEW h K cs ((off,n,x)::r)=(x.okCells=true∧x.cells.length=n∧off+n≤cs.length∧aEW h K (splice cs off x.cells) r):=aB rfl rfl
def aBx(e:Elt)(n:Nat)(pl:Option Nat)(h:cM)(K:A→cM→Prop)(rows:List (List A))(l:List (Nat × A)):Prop:=wA e.sz rows l fun rows=>xQ pl h (.cells e rows) (fun id=>.ref id n 0 n true) K
theorem aH9{e:Elt}{z:List A}{n:Nat}{ps:List (Nat × XO)}:dC F pl (.bslice e z n ps) ev h K=aBx e n pl h K (aC n z) (ps.map fun p=>(p.1,ev p.2)):=by
 simp only[dC,aBx,Cm (mk:=fun id=>.ref id n 0 n true)]
theorem aMN{e:Elt}{n:Nat}{rows:List (List A)}:aBx e n pl h K rows []=xQ pl h (.cells e rows) (fun id=>.ref id n 0 n true) K:=aB rfl rfl
theorem aKB{e:Elt}{n i:Nat}{x:A}{rows:List (List A)}{r:List (Nat × A)}:aBx e n pl h K rows ((i,x)::r)=(x.okCells=true∧x.cells.length=e.sz∧i<rows.length∧aBx e n pl h K (rows.set i x.cells) r):=aB rfl rfl
def aMO(e:Elt)(N off len:Nat):Option HB→Option (List (List A))
 | some (.cells e' rows)=>if e'.sz=e.sz∧N=rows.length then some ((rows.drop off).take len) else none
 | _=>none
theorem aMP{e:Elt}:eX e h .nil=some []:=aB rfl rfl
theorem aOS{e e':Elt}{rows:List (List D)}:eX e h (.d (.sl e' rows))=if e'.sz=e.sz then some (rows.map fun r=>r.map .d) else none:=aB rfl rfl
theorem aOT{e e':Elt}{rows:List (List D)}:eX e h (.nn e' rows)=if e'.sz=e.sz then some (rows.map fun r=>r.map .d) else none:=aB rfl rfl
theorem aOU{e e':Elt}{rows:List (List D)}:eX e h (.fd e' rows)=if e'.sz=e.sz then some (rows.map fun r=>r.map .d) else none:=aB rfl rfl
theorem aMQ{e:Elt}{id N off len:Nat}{full:Bool}:eX e h (.ref id N off len full)=aMO e N off len h[id]? := by
 simp only[eX,aMO];generalize h[id]? = o;rcases o with _ | (⟨e,rows⟩ | _ | _)<;>rfl
theorem aMR{e:Elt}{s:ByteArray}:eX e h (.d (.sc (.string s)))=if e.sz=1 then some (s.data.toList.map fun b=>[.sc (.int .u8 b.toNat)]) else none:=aB rfl rfl
theorem aQa{e e':Elt}{N off len:Nat}{rows:List (List A)}:aMO e N off len (some (.cells e' rows))=if e'.sz=e.sz∧N=rows.length then some ((rows.drop off).take len) else none:=aB rfl rfl
def aMS(e:Elt)(h:cM)(K:A→cM→Prop)(new:List (List A))(id N off len:Nat)(full:Bool):Option HB→Prop
 | some (.cells e' rows)=>e'=e∧N=rows.length∧off=0∧(len+new.length) * e.bytes≤dL∧len+new.length≤maxLen ∧
   if len=N then K (.ref id (N+new.length) 0 (N+new.length) true) (h.set id (.cells e (rows++new)))
   else full=true∧len+new.length≤N∧K (.ref id N 0 (len+new.length) true) (h.set id (.cells e (rows.take len++new++rows.drop (len+new.length))))
 | _=>False
def App(e:Elt)(pl:Option Nat)(h:cM)(K:A→cM→Prop):Option (List (List A))→A→Prop
 | some new,.nil=>if new=[] then K .nil h else new.length * e.bytes≤dL∧new.length≤maxLen∧xQ pl h (.cells e new) (fun id=>.ref id new.length 0 new.length true) K
 | some new,.ref id N off len full=>aMS e h K new id N off len full h[id]?
 | some new,.fd e' rows=>e'.sz=e.sz∧new≠[]∧(rows.length+new.length) * e.bytes≤dL∧rows.length+new.length≤maxLen∧xQ pl h (.cells e ((rows.map fun r=>r.map .d)++new)) (fun id=>.ref id (rows.length+new.length) 0 (rows.length+new.length) true) K
 | _,_=>False
theorem aIa{e:Elt}{x y:XO}:dC F pl (.append e x y) ev h K=App e pl h K (eX e h (ev y)) (ev x):=by
 simp only[dC];generalize eX e h (ev y)=o;generalize ev x=a;cases o with
 | none=>cases a<;>rfl
 | some new =>
  cases a with
  | nil=>simp only[App,Cm (mk:=fun id=>.ref id new.length 0 new.length true)]
  | fd e' rows=>simp only[App,Cm (mk:=fun id=>.ref id (rows.length+new.length) 0 (rows.length+new.length) true)]
  | ref id N off len full =>
   dsimp only[App];generalize h[id]? = o;rcases o with _ | (⟨e,rows⟩ | _ | _)<;>rfl
  | _=>rfl
theorem aMT{e:Elt}{new:List (List A)}:App e pl h K (some new) .nil=if new=[] then K .nil h else new.length * e.bytes≤dL∧new.length≤maxLen∧xQ pl h (.cells e new) (fun id=>.ref id new.length 0 new.length true) K:=aB rfl rfl
theorem aMU{e:Elt}{new:List (List A)}{id N off len:Nat}{full:Bool}:App e pl h K (some new) (.ref id N off len full)=aMS e h K new id N off len full h[id]? := aB rfl rfl
theorem aOV{e e':Elt}{new:List (List A)}{rows:List (List D)}:App e pl h K (some new) (.fd e' rows)=(e'.sz=e.sz∧new≠[]∧(rows.length+new.length) * e.bytes≤dL∧rows.length+new.length≤maxLen∧xQ pl h (.cells e ((rows.map fun r=>r.map .d)++new)) (fun id=>.ref id (rows.length+new.length) 0 (rows.length+new.length) true) K):=aB rfl rfl
theorem aQb{e e':Elt}{new rows:List (List A)}{id N off len:Nat}{full:Bool}:aMS e h K new id N off len full (some (.cells e' rows))=(e'=e∧N=rows.length∧off=0∧(len+new.length) * e.bytes≤dL∧len+new.length≤maxLen ∧
   if len=N then K (.ref id (N+new.length) 0 (N+new.length) true) (h.set id (.cells e (rows++new)))
   else full=true∧len+new.length≤N∧K (.ref id N 0 (len+new.length) true) (h.set id (.cells e (rows.take len++new++rows.drop (len+new.length))))):=aB rfl rfl
def aIb(e:Elt)(h:cM)(K:A→cM→Prop)(new:List (List A))(id N off len:Nat):Option HB→Prop
 | some (.cells e' rows)=>e'=e∧N=rows.length∧K (.int (min new.length len:Nat)) (h.set id (.cells e (rows.take off++new.take (min new.length len)++rows.drop (off+min new.length len))))
 | _=>False
def aMV(e:Elt)(h:cM)(K:A→cM→Prop):Option (List (List A))→A→Prop
 | some new,.ref id N off len _=>aIb e h K new id N off len h[id]?
 | _,_=>False
theorem aMW{e:Elt}{x y:XO}:dC F pl (.copy e x y) ev h K=aMV e h K (eX e h (ev y)) (ev x):=by
 simp only[dC];generalize eX e h (ev y)=o;generalize ev x=a;cases o with
 | none=>cases a<;>rfl
 | some new =>
  cases a with
  | ref id N off len full =>
   dsimp only[aMV];generalize h[id]? = o;rcases o with _ | (⟨e,rows⟩ | _ | _)<;>rfl
  | _=>rfl
theorem aMX{e:Elt}{new:List (List A)}{id N off len:Nat}{full:Bool}:aMV e h K (some new) (.ref id N off len full)=aIb e h K new id N off len h[id]? := aB rfl rfl
theorem aQc{e e':Elt}{new rows:List (List A)}{id N off len:Nat}:aIb e h K new id N off len (some (.cells e' rows))=(e'=e∧N=rows.length∧K (.int (min new.length len:Nat)) (h.set id (.cells e (rows.take off++new.take (min new.length len)++rows.drop (off+min new.length len))))):=aB rfl rfl
def aOW:A→Option Int
 | .d (.sc (.int _ n))=>some n
 | _=>none
theorem aMY{d:Nat}:dS ev none d=some (d:Int):=aB rfl rfl
theorem aMZ{y:XO}{d:Nat}:dS ev (some y) d=aOW (ev y):=by
 simp only[dS];generalize ev y=a;rcases a with _ | _ | (v | _) | _ | _ | _ | _ | _ | _ | _ | _ | _<;>try rfl
theorem o_v{k:IntKind}{n:Int}:aOW (.d (.sc (.int k n)))=some n:=aB rfl rfl
def Lh(e e':Elt)(rows:List (List D))(h:cM)(K:A→cM→Prop)(mx:Option XO):Option Int→Option Int→Option Int→Prop
 | some l,some u,some m=>e'.sz=e.sz∧0≤l∧l≤u∧u≤m∧m≤rows.length∧K (aA6 mx.isSome l u m e' rows) h
 | _,_,_=>False
def aDu(e e':Elt)(rows:List (List A))(id N off len:Nat)(full:Bool)(h:cM)(K:A→cM→Prop):Option Int→Option Int→Option Int→Prop
 | some l,some u,some m=>e'.sz=e.sz∧N=rows.length∧0≤l∧l≤u∧u≤m∧m≤len∧K (.ref id N (off+l.toNat) (u-l).toNat full) h
 | _,_,_=>False
def aDv(e:Elt)(h:cM)(K:A→cM→Prop)(ev:XO→A)(lo hi mx:Option XO)(id N off len:Nat)(full:Bool):Option HB→Prop
 | some (.cells e' rows)=>aDu e e' rows id N off len (full&&mx.isNone) h K (dS ev lo 0) (dS ev hi len) (dS ev mx len)
 | _=>False
def Cn(e:Elt)(h:cM)(K:A→cM→Prop)(ev:XO→A)(lo hi mx:Option XO):A→Prop
 | .nil=>dS ev lo 0=some 0∧dS ev hi 0=some 0∧dS ev mx 0=some 0∧K .nil h
 | .d (.sl e' rows)=>Lh e e' rows h K mx (dS ev lo 0) (dS ev hi rows.length) (dS ev mx rows.length)
 | .nn e' rows=>Lh e e' rows h K mx (dS ev lo 0) (dS ev hi rows.length) (dS ev mx rows.length)
 | .ref id N off len full=>aDv e h K ev lo hi mx id N off len full h[id]?
 | _=>False
theorem aKC{e:Elt}{x:XO}{lo hi mx:Option XO}:dC F pl (.slice e x lo hi mx) ev h K=Cn e h K ev lo hi mx (ev x):=by
 simp only[dC];generalize ev x=a;cases a with
 | d y=>cases y with
  | sl e' rows =>
   dsimp only[Cn];generalize dS ev lo 0=l;generalize dS ev hi rows.length=u;generalize dS ev mx rows.length=m;cases l<;>cases u<;>cases m<;>rfl
  | sc _=>rfl
 | nn e' rows =>
  dsimp only[Cn];generalize dS ev lo 0=l;generalize dS ev hi rows.length=u;generalize dS ev mx rows.length=m;cases l<;>cases u<;>cases m<;>rfl
 | ref id N off len full =>
  dsimp only[Cn];generalize h[id]? = o;rcases o with _ | (⟨e',rows⟩ | _ | _)<;>try rfl
 | _=>rfl
theorem aM0{e:Elt}{lo hi mx:Option XO}:Cn e h K ev lo hi mx .nil=(dS ev lo 0=some 0∧dS ev hi 0=some 0∧dS ev mx 0=some 0∧K .nil h):=aB rfl rfl
theorem aOX{e e':Elt}{rows:List (List D)}{lo hi mx:Option XO}:Cn e h K ev lo hi mx (.d (.sl e' rows))=Lh e e' rows h K mx (dS ev lo 0) (dS ev hi rows.length) (dS ev mx rows.length):=aB rfl rfl
theorem aOY{e e':Elt}{rows:List (List D)}{lo hi mx:Option XO}:Cn e h K ev lo hi mx (.nn e' rows)=Lh e e' rows h K mx (dS ev lo 0) (dS ev hi rows.length) (dS ev mx rows.length):=aB rfl rfl
theorem aM1{e:Elt}{id N off len:Nat}{full:Bool}{lo hi mx:Option XO}:Cn e h K ev lo hi mx (.ref id N off len full)=aDv e h K ev lo hi mx id N off len full h[id]? := aB rfl rfl
theorem aQd{e e':Elt}{rows:List (List A)}{id N off len:Nat}{full:Bool}{lo hi mx:Option XO}:aDv e h K ev lo hi mx id N off len full (some (.cells e' rows))=aDu e e' rows id N off len (full&&mx.isNone) h K (dS ev lo 0) (dS ev hi len) (dS ev mx len):=aB rfl rfl
theorem aQe{e e':Elt}{rows:List (List D)}{l u m:Int}:Lh e e' rows h K none (some l) (some u) (some m)=(e'.sz=e.sz∧0≤l∧l≤u∧u≤m∧m≤rows.length∧K (.d (.sl e' ((rows.drop l.toNat).take (u-l).toNat))) h):=aB rfl rfl
theorem aQf{e e':Elt}{rows:List (List D)}{l u m:Int}{x:XO}:Lh e e' rows h K (some x) (some l) (some u) (some m)=(e'.sz=e.sz∧0≤l∧l≤u∧u≤m∧m≤rows.length∧K (aA6 true l u m e' rows) h):=aB rfl rfl
theorem aQg{e e':Elt}{rows:List (List A)}{id N off len:Nat}{full:Bool}{l u m:Int}:aDu e e' rows id N off len full h K (some l) (some u) (some m)=(e'.sz=e.sz∧N=rows.length∧0≤l∧l≤u∧u≤m∧m≤len∧K (.ref id N (off+l.toNat) (u-l).toNat full) h):=aB rfl rfl
def aIc(s:ByteArray)(h:cM)(K:A→cM→Prop):Option Int→Option Int→Prop
 | some l,some u=>0≤l∧l≤u∧u≤s.size∧K (.str (s.extract l.toNat u.toNat)) h
 | _,_=>False
def aOZ(h:cM)(K:A→cM→Prop)(ev:XO→A)(lo hi:Option XO):A→Prop
 | .d (.sc (.string s))=>aIc s h K (dS ev lo 0) (dS ev hi s.size)
 | _=>False
theorem aId{x:XO}{lo hi:Option XO}:dC F pl (.sslice x lo hi) ev h K=aOZ h K ev lo hi (ev x):=by
 simp only[dC];generalize ev x=a;rcases a with _ | _ | (v | _) | _ | _ | _ | _ | _ | _ | _ | _ | _<;>try rfl
theorem aM2{s:ByteArray}{lo hi:Option XO}:aOZ h K ev lo hi (.d (.sc (.string s)))=aIc s h K (dS ev lo 0) (dS ev hi s.size):=aB rfl rfl
theorem aQh{s:ByteArray}{l u:Int}:aIc s h K (some l) (some u)=(0≤l∧l≤u∧u≤s.size∧K (.str (s.extract l.toNat u.toNat)) h):=aB rfl rfl
def EqC:Option Bool→Option Bool→Option Bool
 | some b,some c=>some (b&&c)
 | _,_=>none
theorem aM3{xs ys:List A}:mJ [] xs ys=some true:=aB rfl rfl
theorem aKD{j:Nat}{k:EqK}{ks:List (Nat × EqK)}{xs ys:List A}:mJ ((j,k)::ks) xs ys=EqC (Oo k (xs.getD j .any) (ys.getD j .any)) (mJ ks xs ys):=by
 simp only[mJ];generalize Oo k (xs.getD j .any) (ys.getD j .any)=a;generalize mJ ks xs ys=b;cases a<;>cases b<;>rfl
theorem aQi{b c:Bool}:EqC (some b) (some c)=some (b&&c):=aB rfl rfl
theorem aQj{k:IntKind}{a b:Int}:Oo .i (.d (.sc (.int k a))) (.d (.sc (.int k b)))=some (a == b):=by simp[Oo]
theorem aQk{a b:ByteArray}:Oo .s (.d (.sc (.string a))) (.d (.sc (.string b)))=some (decide (a=b)):=aB rfl rfl
theorem aQl{a b:Bool}:Oo .b (.d (.sc (.bool a))) (.d (.sc (.bool b)))=some (a == b):=aB rfl rfl
def EqR(neg:Bool)(h:cM)(K:A→cM→Prop):Option Bool→Prop
 | some b=>K (.bool (if neg then !b else b)) h
 | none=>False
def EqS(neg:Bool)(n:Nat)(ks:List (Nat × EqK))(h:cM)(K:A→cM→Prop):A→A→Prop
 | .agg xs,.agg ys=>xs.length=n∧ys.length=n∧EqR neg h K (mJ ks xs ys)
 | _,_=>False
theorem aO0{neg:Bool}{n:Nat}{ks:List (Nat × EqK)}{x y:XO}:dC F pl (.eqs neg n ks x y) ev h K=EqS neg n ks h K (ev x) (ev y):=by
 simp only[dC];generalize ev x=a;generalize ev y=b;cases a with
 | agg xs=>cases b with
  | agg ys =>
   dsimp only[EqS];generalize mJ ks xs ys=o;cases o<;>rfl
  | _=>rfl
 | _=>cases b<;>rfl
theorem aM4{neg:Bool}{n:Nat}{ks:List (Nat × EqK)}{xs ys:List A}:EqS neg n ks h K (.agg xs) (.agg ys)=(xs.length=n∧ys.length=n∧EqR neg h K (mJ ks xs ys)):=aB rfl rfl
theorem aQm{b:Bool}:EqR false h K (some b)=K (.bool b) h:=aB rfl rfl
theorem aQn{b:Bool}:EqR true h K (some b)=K (.bool (!b)) h:=aB rfl rfl
def EqB(neg:Bool)(h:cM)(K:A→cM→Prop):A→A→Prop
 | .d (.sc (.bool a)),.d (.sc (.bool b))=>K (.bool (if neg then a != b else a == b)) h
 | _,_=>False
theorem aO1{neg:Bool}{x y:XO}:dC F pl (.eqb neg x y) ev h K=EqB neg h K (ev x) (ev y):=by
 simp only[dC];generalize ev x=a;generalize ev y=b;rcases a with _ | _ | (v | _) | _ | _ | _ | _ | _ | _ | _ | _ | _<;>try rfl
theorem aQo{a b:Bool}:EqB false h K (.d (.sc (.bool a))) (.d (.sc (.bool b)))=K (.bool (a == b)) h:=aB rfl rfl
theorem aQp{a b:Bool}:EqB true h K (.d (.sc (.bool a))) (.d (.sc (.bool b)))=K (.bool (a != b)) h:=aB rfl rfl
def Conv(k:IntKind)(h:cM)(K:A→cM→Prop):A→Prop
 | .d (.sc (.int _ n))=>K (.sc (.int k (k.wrap n))) h
 | _=>False
theorem aM5{k:IntKind}{x:XO}:dC F pl (.conv k x) ev h K=Conv k h K (ev x):=by
 simp only[dC];generalize ev x=a;rcases a with _ | _ | (v | _) | _ | _ | _ | _ | _ | _ | _ | _ | _<;>try rfl
theorem aQq{k k':IntKind}{n:Int}:Conv k h K (.d (.sc (.int k' n)))=K (.sc (.int k (k.wrap n))) h:=aB rfl rfl
def aM6(h:cM)(K:A→cM→Prop):Option A→Prop
 | some a=>K a h
 | none=>False
def Ext(i:Nat)(h:cM)(K:A→cM→Prop):A→Prop
 | .tup l=>aM6 h K l[i]?
 | _=>False
theorem aF2{i:Nat}{x:XO}:dC F pl (.extract i x) ev h K=Ext i h K (ev x):=by
 simp only[dC];generalize ev x=a;cases a with
 | tup l =>
  dsimp only[Ext];generalize l[i]? = o;cases o<;>rfl
 | _=>rfl
theorem aM7{i:Nat}{l:List A}:Ext i h K (.tup l)=aM6 h K l[i]? := aB rfl rfl
theorem aQr{a:A}:aM6 h K (some a)=K a h:=aB rfl rfl
theorem aM8{f:FuncId}{caps:List XO}:dC F pl (.mkfn f caps) ev h K=K (.fn f (caps.map ev)) h:=aB rfl rfl
def aBy(F:Fns)(h:cM)(K:A→cM→Prop)(args:List A):A→Prop
 | .fn g caps=>∃ r h',F.call g (args++caps) h r h'∧K r h'
 | .yld id=>∃ r h',F.round id args h r h'∧K r h'
 | _=>False
theorem aKE{f:XO}{args:List XO}:dC F pl (.calle f args) ev h K=aBy F h K (args.map ev) (ev f):=by
 simp only[dC];generalize ev f=a;cases a<;>rfl
theorem qJ{g:FuncId}{args:List A}{r:A}{h':cM}(hf:FnD Γ P g args h r h')(hK:K r h'):aBy (.all Γ P) h K args (.fn g []):=by
 simp only[aBy,zP];exact⟨r,h',hf,hK⟩
theorem wL{id:Nat}{args:List A}{r:A}{h':cM}(hf:Cj Γ P id args h r h')(hK:K r h'):aBy (.all Γ P) h K args (.yld id):=⟨r,h',hf,hK⟩
def aIe(F:Fns)(h:cM)(K:A→cM→Prop)(args:List A):A→Prop
 | .fn g caps=>∃ r t,F.call g (args++caps) h r (h++t)∧K r (h++t)
 | _=>False
theorem aKF{f:XO}{args:List XO}:dC F pl (.callr f args) ev h K=aIe F h K (args.map ev) (ev f):=by
 simp only[dC];generalize ev f=a;cases a<;>rfl
theorem Cp{g:FuncId}{args:List A}{r:A}{t:cM}(hf:FnD Γ P g args h r (h++t))(hK:K r (h++t)):aIe (.all Γ P) h K args (.fn g []):=by
 simp only[aIe,zP];exact⟨r,t,hf,hK⟩
def aL0(F:Fns)(h:cM)(K:A→cM→Prop)(args:List A):A→Prop
 | .fn g caps=>(∀ x∈args,∀ id,x.touch=some id→∃ e rows,h[id]? = some (.cells e rows)) ∧
   ∃ r,(∀ h':cM,(∀ x∈args,∀ id,x.touch=some id→h'[id]? = h[id]?)→F.call g (args++caps) h' r h')∧K r h
 | _=>False
theorem aKG{f:XO}{args:List XO}:dC F pl (.calln f args) ev h K=aL0 F h K (args.map ev) (ev f):=by
 simp only[dC];generalize ev f=a;cases a<;>simp only[aL0,List.forall_mem_map]
theorem aIf{g:FuncId}{args caps:List A}{r:A}(hf:FnP Γ.t P g (args++caps) r)(h0:A.underL 0 (args++caps)=true)(hK:K r h):aH8 (.all Γ P) h K args (.fn g caps):=⟨h0,r,hf,hK⟩
def aO2(h:cM)(K:A→cM→Prop):A→A→Prop
 | .d (.sc (.string s)),.d (.sc (.int _ n))=>0≤n∧n<s.size∧K (.sc (.int .u8 (s.data.toList.getD n.toNat 0).toNat)) h
 | _,_=>False
theorem aM9{x i:XO}:dC F pl (.sidx x i) ev h K=aO2 h K (ev x) (ev i):=by
 simp only[dC];generalize ev x=a;generalize ev i=b;rcases a with _ | _ | (v | _) | _ | _ | _ | _ | _ | _ | _ | _ | _<;>try rfl
theorem aQs{s:ByteArray}{k:IntKind}{n:Int}:aO2 h K (.d (.sc (.string s))) (.d (.sc (.int k n)))=(0≤n∧n<s.size∧K (.sc (.int .u8 (s.data.toList.getD n.toNat 0).toNat)) h):=aB rfl rfl
def aDw(isMax:Bool)(h:cM)(K:A→cM→Prop):List A→Prop
 | [.d (.sc (.int k a)),.d (.sc (.int k' b))]=>k=k'∧K (.sc (.int k (eB isMax a b))) h
 | [.d (.sc (.int k a)),.d (.sc (.int k' b)),.d (.sc (.int k'' c))]=>k=k'∧k=k''∧K (.sc (.int k (eB isMax (eB isMax a b) c))) h
 | _=>False
theorem aF3{isMax:Bool}{x y:XO}:dC F pl (.minmax isMax [x,y]) ev h K=aDw isMax h K [ev x,ev y]:=by
 simp only[dC];generalize ev x=a;generalize ev y=b;rcases a with _ | _ | (v | _) | _ | _ | _ | _ | _ | _ | _ | _ | _<;>try rfl
 cases v<;>try rfl
 rcases b with _ | _ | (v | _) | _ | _ | _ | _ | _ | _ | _ | _ | _<;>try rfl
 cases v<;>rfl
theorem aQt{isMax:Bool}{k:IntKind}{a b:Int}:aDw isMax h K [.d (.sc (.int k a)),.d (.sc (.int k b))]=K (.sc (.int k (eB isMax a b))) h:=by simp[aDw]
def aO3(e:Elt)(z:List A)(pl:Option Nat)(h:cM)(K:A→cM→Prop):A→A→Prop
 | .d (.sc (.int .i64 n)),.d (.sc (.int .i64 c))=>0≤n∧n≤c∧c≤9223372036854775807∧c * e.bytes≤dL∧xQ pl h (.cells e (aC n.toNat z)) (fun id=>.ref id n.toNat 0 n.toNat true) K
 | _,_=>False
theorem aNa{e:Elt}{z:List A}{n c:XO}:dC F pl (.make e z n c) ev h K=aO3 e z pl h K (ev n) (ev c):=by
 simp only[dC];generalize ev n=a;generalize ev c=b;rcases a with _ | _ | (v | _) | _ | _ | _ | _ | _ | _ | _ | _ | _<;>try rfl
theorem aQu{e:Elt}{z:List A}{n c:Int}:aO3 e z pl h K (.d (.sc (.int .i64 n))) (.d (.sc (.int .i64 c)))=(0≤n∧n≤c∧c≤9223372036854775807∧c * e.bytes≤dL∧xQ pl h (.cells e (aC n.toNat z)) (fun id=>.ref id n.toNat 0 n.toNat true) K):=aB rfl rfl
def aNb(neg:Bool)(h:cM)(K:A→cM→Prop)(N:Nat):Option HB→Prop
 | some (.cells _ rows)=>N=rows.length∧0<N∧K (.bool neg) h
 | _=>False
def xS(neg:Bool)(h:cM)(K:A→cM→Prop):A→Prop
 | .nil=>K (.bool (!neg)) h
 | .nn _ _=>K (.bool neg) h
 | .d (.sl _ rows)=>rows≠[]∧K (.bool neg) h
 | .ref id N _ _ _=>aNb neg h K N h[id]?
 | _=>False
theorem nG{neg:Bool}{x:XO}:dC F pl (.eqnil neg x) ev h K=xS neg h K (ev x):=by
 simp only[dC];generalize ev x=a;rcases a with _ | _ | (v | _) | _ | _ | _ | _ | _ | ⟨id,N,off,len,full⟩ | _ | _ | _<;>try rfl
def aO4(k:IntKind)(a b:Int):Int:=k.wrap (BitVec.ofInt k.bits a &&& BitVec.ofInt k.bits b).toNat
theorem aO5{k:IntKind}{a b:Int}:Fj .and h K (.d (.sc (.int k a))) (.d (.sc (.int k b)))=K (.sc (.int k (aO4 k a b))) h:=by simp[Fj,jM,nM,Ab,aO4]
theorem aIg{k:IntKind}{a b:Int}(hb:b≠0):Fj .rem h K (.d (.sc (.int k a))) (.d (.sc (.int k b)))=K (.sc (.int k (a.tmod b))) h:=by simp[Fj,jM,nM,Ab,hb]
end
section
variable {P:Program}{N:Nat}{Γ:dP}
theorem Co.frz{n0:Nat}{s:St}(l:List (Nat × A))(k:Nat)(hl:∀ p∈l,FrzA k s.heap (s.slots p.1) p.2)(hn:n0≤k)(hk:k≤s.heap.length)(hu:∀ B∈s.heap.take k,HB.under k B):Co n0 s ⟨dB l,s.heap.take k⟩ :=
 fun z M ρ a w hz S=>⟨ρ.take k,⟨S.bnd,S.sim.take hk hu,fun n=>by
  rcases xO (l:=l) (n:=n) with h | h
  ·show RepA w M _ _ (dB l n) _;rw[h];exact .any
  ·exact(hl _ h).rep S.sim hk (S.slots n),S.size,S.nlt,S.tabs.take (aG hz.1 hn) hk,S.defers.evo (Evo.take (n0:=k) (h:=s.heap) (w:=w) (zL _) hk)⟩,.take hn hk⟩
theorem Zz{Γ:Ctx}{rl:Option Nat}{n0:Nat}{xs:List XOper}{y:XC}{Q:Exit→St→Prop}{s:St}(h:∀ K:St→Prop,(∀ s',W Γ P N rl n0 y Q s'→K s')→kH (.all Γ P) s.heap.length xs s K):W Γ P N rl n0 (.seq (.reg xs) y) Q s :=
 cN (cU (h _ fun _ h=>h))
theorem uE{Γ:Ctx}{rl:Option Nat}{n0:Nat}{m:Nat}{rt:List (Nat × Option Nat)}{xs:List XOper}{y:XC}{Q:Exit→St→Prop}{s:St}(hr:∀ p∈rt,(s.slots p.1).touch=none)
  (h:∀ K:St→Prop,(∀ s',W Γ P N rl n0 y Q s'→K s')→kH (.all Γ P) s.heap.length xs { s with heap:=s.heap++aC m .res } K):W Γ P N rl n0 (.seq (.drw m xs rt) y) Q s :=
 cN (eD hr (h _ fun _ h=>h))
theorem aIh{Γ:Ctx}{rl:Option Nat}{n0:Nat}{xs:List XOper}{Q:Exit→St→Prop}{s:St}(h:∀ K:St→Prop,(∀ s',Q .normal s'→K s')→kH (.all Γ P) s.heap.length xs s K):W Γ P N rl n0 (.reg xs) Q s :=
 cU (h _ fun _ h=>h)
theorem fS{F:Fns}{b:Nat}{K:St→Prop}:∀ (n:Nat) {l:List XOper} {s:St},(∀ K':St→Prop,(∀ s',kH F b (l.drop n) s' K→K' s')→kH F b (l.take n) s K')→kH F b l s K:=by
 intro n l s h;have:∀ (n:Nat) (l:List XOper) (s:St),kH F b (l.take n) s (fun s'=>kH F b (l.drop n) s' K)→kH F b l s K:=by
  intro n
  induction n with
  | zero=>intro l s h;exact h
  | succ n ih =>
   intro l s h;cases l with
   | nil=>exact h
   | cons x l=>exact yV (fun s' hs=>ih l s' hs) h
 exact this n l s (h _ fun _ h=>h)
theorem pK{α:Type}{a b:List α}{i:Nat}(hi:i<a.length)(hj:i<b.length)(h:a.take i=b.take i)(he:a[i]=b[i]):a.take (i+1)=b.take (i+1):=by
 rw[aF,aF,h,zB hi,zB hj,he]
theorem lF{α:Type}{p:α→Bool}{l:List α}{i:Nat}(hi:i<l.length)(h:(l.take i).any p=false)(hp:p l[i]=false):(l.take (i+1)).any p=false:=by
 rw[aF,zB hi];simp only[Option.toList_some,List.any_append,h,List.any_cons,hp,List.any_nil,Bool.or_false]
theorem fI{a b c:Nat}(h:a * (b+1)≤c):a≤c:=aG (Nat.le_mul_of_pos_right a (Nat.succ_pos b)) h
theorem cX{x:Int}(h : -9000000000000000000≤x∧x≤9000000000000000000):IntKind.i64.wrap x=x:=IntWalk.i64_in _ (by omega)
theorem gB{i n:Nat}(hi:i<n)(hn:n≤dL):IntKind.i64.wrap ((i:Int)+1)=((i+1:Nat):Int):=by
 rw[IntWalk.i64_in _ (by unfold dL at hn;omega)];rfl
theorem xT{n:Nat}(hn:n≤dL):IntKind.i64.wrap (((n+1:Nat):Int)-1)=(n:Int):=by
 rw[IntWalk.i64_in _ (by unfold dL at hn;omega)];omega
theorem aAa{n:Nat}(hn:n≤dL):IntKind.i64.wrap (n:Int)=(n:Int):=IntWalk.i64_in _ (by unfold dL at hn;omega)
theorem Turn.app{L:List (Nat × HB)}{h:cM}(hL:Ky L h)(t:cM):Turn L L h (h++t) :=
 ⟨hL.app t,by simp,fun q hq _=>zF hq,fun q hq=>.inl hq⟩
theorem dA{h t:cM}{B:HB}:(h++B::t)[h.length]? = some B:=by simp
theorem eT{h t:cM}{B C:HB}:(h++B::C::t)[h.length+1]? = some C:=by
 rw[zG (by omega)];simp
theorem eE{h t:cM}{B X:HB}:(h++B::t).set h.length X=h++X::t:=by simp
theorem rW{h t:cM}{B C X:HB}:(h++B::C::t).set (h.length+1) X=h++B::X::t:=by
 rw[List.set_append_right _ _ (by omega)];simp
theorem Bw.tmp{n:Nat}{r:A}{s:St}(h:s.slots n=r)(hu:r.under 0=true):Bw [.t n] r .ret s:=⟨.inr rfl,by
 simp only[dK,eH,dM,h];exact .same hu⟩
theorem Bw.frz{n:Nat}{r:A}{s:St}(h:FrzA 0 s.heap (s.slots n) r):Bw [.t n] r .ret s:=⟨.inr rfl,by
 simp only[dK,eH,dM];exact h⟩
theorem Rk{k id off len:Nat}{full:Bool}{e:Elt}{h:cM}{rows:List (List D)}(hk:k≤id)(hh:h[id]? = some (.cells e (rows.map fun r=>r.map .d)))(hl:off+len≤rows.length) :
  FrzA k h (.ref id rows.length off len full) (.d (.sl e ((rows.drop off).take len))):=by
 have eG:(rows.map fun r=>r.map A.d).length=rows.length:=by simp
 rw[← eG];have get:∀ i r,((rows.drop off).take len)[i]? = some r→(rows.map fun r=>r.map A.d).getD (off+i) []=r.map .d:=by
  intro i r hi;rw[zm] at hi;split at hi
  ·rw[zl] at hi;rw[zC,zK,hi];rfl
  ·cases hi
 refine .d (.ref hk hh ?_ (fun i r hi=>?_) (fun i r j d hi hj=>?_))
 ·simp;omega
 ·rw[get i r hi];simp
 ·rw[get i r hi,zC,zK,hj];exact .d d
theorem iJ{id:Nat}{full:Bool}{e:Elt}{h:cM}{rows:List (List D)}(hh:h[id]? = some (.cells e (rows.map fun r=>r.map .d))) :
  FrzA 0 h (.ref id rows.length 0 rows.length full) (.d (.sl e rows)):=by
 have:=Rk (full:=full) (zI id) hh (show 0+rows.length≤rows.length by omega);simpa using this
def XC.r:XC→XC
 | .seq _ y=>y
 | x=>x
theorem aNc{Γ:Ctx}{rl:Option Nat}{n0:Nat}{c:XC}{Q:Exit→St→Prop}{s:St}(n i:Nat){xs:List A}{d:D}(hs:s.slots n = .agg xs)(hi:xs[i]? = some (.d d)){p:Prop}
  (hp:∀ (w:World) (X:Nat→Prop) (v:Value),RepD w X d v→p) (h:p→W Γ P N rl n0 c Q s):W Γ P N rl n0 c Q s :=
 Zy (fun z M ρ a w S=>by
  have:=S.slots n;rw[hs] at this;generalize nY a.tmps n=v at this;cases this with
  | agg _ _ hr =>
   have:=hr i _ hi;revert this;generalize Array.getD _ i undef=v';intro this;cases this with
   | d hx=>exact hp _ _ _ hx) h
theorem tK{Γ:Ctx}{rl:Option Nat}{n0:Nat}{c:XC}{Q:Exit→St→Prop}{s:St}(n i:Nat){xs:List A}{e:Elt}{rows:List (List D)}(hs:s.slots n = .agg xs)(hi:xs[i]? = some (.d (.sl e rows)))
  (h:rows.length≤maxLen∧rows.length * e.bytes≤dL∧(∀ r∈rows,r.length=e.sz)→W Γ P N rl n0 c Q s):W Γ P N rl n0 c Q s :=
 aNc n i hs hi (fun w X v hx=>hx.slFact) h
end
section
variable {Γ:Ctx}{P:Program}{F:Fns}{pl:Option Nat}{ev:XO→A}{h:cM}{K:A→cM→Prop}
def aDx(e:Elt)(len:Nat)(h:cM)(K:A→cM→Prop)(id N i off:Nat)(n:Int):Option HB→Prop
 | some (.cells _ rows)=>N=rows.length∧0≤n∧n<len∧K (.ptr id N i (off+n.toNat * e.sz)) h
 | _=>False
def aEX(e:Elt)(len:Nat)(h:cM)(K:A→cM→Prop):A→A→Prop
 | .ptr id N i off,.d (.sc (.int _ n))=>aDx e len h K id N i off n h[id]?
 | .iptr cs,.d (.sc (.int _ n))=>0≤n∧n<len∧K (.iptr (cs.drop (n.toNat * e.sz))) h
 | _,_=>False
theorem aKH{e:Elt}{len:Nat}{x i:XO}:dC F pl (.aaddr e len x i) ev h K=aEX e len h K (ev x) (ev i):=by
 simp only[dC,aEX];generalize ev x=a;generalize ev i=b;rcases a with _ | _ | (v | _) | _ | _ | _ | _ | _ | _ | _ | _<;>try rfl
theorem aNd{e:Elt}{len id N i off:Nat}{k:IntKind}{n:Int}:aEX e len h K (.ptr id N i off) (.d (.sc (.int k n)))=aDx e len h K id N i off n h[id]? := aB rfl rfl
theorem aKI{e:Elt}{len:Nat}{cs:List D}{k:IntKind}{n:Int}:aEX e len h K (.iptr cs) (.d (.sc (.int k n)))=(0≤n∧n<len∧K (.iptr (cs.drop (n.toNat * e.sz))) h):=aB rfl rfl
theorem aQv{e e':Elt}{rows:List (List A)}{len id N i off:Nat}{n:Int}:aDx e len h K id N i off n (some (.cells e' rows))=(N=rows.length∧0≤n∧n<len∧K (.ptr id N i (off+n.toNat * e.sz)) h):=aB rfl rfl
def aNe(len n:Nat)(g:Bool)(h:cM)(K:A→cM→Prop):A→A→Prop
 | .agg cs,.d (.sc (.int _ m))=>0≤m∧m<len∧Bn n h K g (cs.drop (m.toNat * n))
 | _,_=>False
theorem aNf{len n:Nat}{g:Bool}{x i:XO}:dC F pl (.aidx len n g x i) ev h K=aNe len n g h K (ev x) (ev i):=by
 simp only[dC,aNe,Je];generalize ev x=a;generalize ev i=b;cases a<;>rfl
theorem aNg{len n:Nat}{g:Bool}{cs:List A}{k:IntKind}{m:Int}:aNe len n g h K (.agg cs) (.d (.sc (.int k m)))=(0≤m∧m<len∧Bn n h K g (cs.drop (m.toNat * n))):=aB rfl rfl
def aDy(h:cM)(K:A→cM→Prop)(id N i off:Nat):Option HB→Prop
 | some (.cells _ rows)=>N=rows.length∧K (.ptr id N i off) h
 | _=>False
def aBz(h:cM)(K:A→cM→Prop):A→Prop
 | .ptr id N i off=>aDy h K id N i off h[id]?
 | .iptr cs=>K (.iptr cs) h
 | .fn f caps=>K (.fn f caps) h
 | _=>False
theorem aKJ{x:XO}:dC F pl (.nilck x) ev h K=aBz h K (ev x):=by
 simp only[dC,aBz];generalize ev x=a;cases a with
 | ptr id N i off =>
  dsimp only;generalize h[id]? = o;rcases o with _ | (⟨e,rows⟩ | _ | _)<;>rfl
 | _=>rfl
theorem aNh{id N i off:Nat}:aBz h K (.ptr id N i off)=aDy h K id N i off h[id]? := aB rfl rfl
theorem aKK{cs:List D}:aBz h K (.iptr cs)=K (.iptr cs) h:=aB rfl rfl
theorem aO6{f:FuncId}{caps:List A}:aBz h K (.fn f caps)=K (.fn f caps) h:=aB rfl rfl
theorem aQw{id N i off:Nat}{e:Elt}{rows:List (List A)}:aDy h K id N i off (some (.cells e rows))=(N=rows.length∧K (.ptr id N i off) h):=aB rfl rfl
def S2r(e:Elt)(h:cM)(K:A→cM→Prop):A→Prop
 | .d (.sc (.string s))=>(eI s).length * e.bytes≤dL∧K (.d (.sl e ((eI s).map nE))) h
 | _=>False
theorem aL1{e:Elt}{x:XO}:dC F pl (.s2r e x) ev h K=S2r e h K (ev x):=by
 simp only[dC,S2r];generalize ev x=a;rcases a with _ | _ | (v | _) | _ | _ | _ | _ | _ | _ | _ | _<;>try rfl
theorem aO7{e:Elt}{s:ByteArray}:S2r e h K (.d (.sc (.string s)))=((eI s).length * e.bytes≤dL∧K (.d (.sl e ((eI s).map nE))) h):=aB rfl rfl
def I2s(h:cM)(K:A→cM→Prop):A→Prop
 | .d (.sc (.int _ n))=>K (.str (Utf8.encode n)) h
 | _=>False
theorem aO8{x:XO}:dC F pl (.i2s x) ev h K=I2s h K (ev x):=by
 simp only[dC,I2s];generalize ev x=a;rcases a with _ | _ | (v | _) | _ | _ | _ | _ | _ | _ | _ | _<;>try rfl
theorem aQx{k:IntKind}{n:Int}:I2s h K (.d (.sc (.int k n)))=K (.str (Utf8.encode n)) h:=aB rfl rfl
def aNi(h:cM)(K:A→cM→Prop):Option (List Int)→Prop
 | some ns=>ns.length≤maxLen∧K (.str (strOfNums ns)) h
 | none=>False
def aNj(h:cM)(K:A→cM→Prop):Option (List (List A))→Prop
 | some rows=>aNi h K (rows.mapM Ge)
 | none=>False
theorem aL2{x:XO}:dC F pl (.b2s x) ev h K=aNj h K (gV ⟨1,1⟩ h (ev x)):=by
 simp only[dC];generalize gV ⟨1,1⟩ h (ev x)=o;cases o with
 | none=>rfl
 | some rows =>
  dsimp only[aNj];generalize rows.mapM Ge=q;cases q<;>rfl
theorem aO9{rows:List (List A)}:aNj h K (some rows)=aNi h K (rows.mapM Ge):=aB rfl rfl
theorem aPa{ns:List Int}:aNi h K (some ns)=(ns.length≤maxLen∧K (.str (strOfNums ns)) h):=aB rfl rfl
variable {k k':IntKind}{a b:Int}
theorem Rl(hb:b≠0):Fj .quo h K (.d (.sc (.int k a))) (.d (.sc (.int k b)))=K (.sc (.int k (k.wrap (a.tdiv b)))) h:=by simp[Fj,jM,nM,Ab,hb]
theorem aNk{s t:ByteArray}(hl:s.size+t.size≤maxLen):Fj .add h K (.d (.sc (.string s))) (.d (.sc (.string t)))=K (.str (s++t)) h:=by simp[Fj,jM,Lb,Ab,hl]
theorem aAb{F:Fns}{n0 b:Nat}:∀ {l:List XOper} {s:St} {K:St→Prop},(l.all fun o=>o.pl.isNone)=true→kH F b l s K→Bv F n0 l s K
 | [],s,K,_,h=>h
 | o::os,s,K,hp,h=>by
  simp only[List.all_cons,Bool.and_eq_true] at hp;obtain⟨d,op,g,pl⟩:=o;obtain⟨hp1,hp2⟩:=hp;cases pl with
  | some _=>cases hp1
  | none =>
   have h1:jA F b ⟨d,op,g,none⟩ s (fun s'=>kH F b os s' K):=h;refine⟨s,.refl _,?_⟩;have h2:jA F s.heap.length ⟨d,op,g,none⟩ s (fun s'=>kH F b os s' K):=h1;exact yV (fun s' hs=>aAb hp2 hs) h2
theorem aBA{F:Fns}{n0:Nat}{l2:List XOper}{K:St→Prop}:∀ {l1:List XOper} {s:St},Bv F n0 l1 s (fun s'=>Bv F n0 l2 s' K)→Bv F n0 (l1++l2) s K
 | [],s,h=>h
 | o::os,s,⟨s1,hco,h⟩=>⟨s1,hco,yV (fun s' hs=>aBA hs) h⟩
theorem aKL{F:Fns}{n0:Nat}{l:List XOper}{s s1:St}{K:St→Prop}(hco:Co n0 s s1)(hl:l≠[])(h:Bv F n0 l s1 K):Bv F n0 l s K:=by
 cases l with
 | nil=>exact absurd rfl hl
 | cons o os =>
  obtain⟨s2,h2,h⟩:=h;exact⟨s2,hco.trans h2,h⟩
theorem aF4{F:Fns}{n0:Nat}{K:St→Prop}(n:Nat){l:List XOper}{s:St}(hp:((l.take n).all fun o=>o.pl.isNone)=true)
  (h:∀ K':St→Prop,(∀ s',Bv F n0 (l.drop n) s' K→K' s')→kH F s.heap.length (l.take n) s K'):Bv F n0 l s K:=by
 have:=aBA (l1:=l.take n) (l2:=l.drop n) (aAb (n0:=n0) hp (h _ fun _ h=>h))
 rwa [List.take_append_drop] at this
theorem rX{F:Fns}{n0:Nat}{K:St→Prop}{l:List XOper}{s:St}(hp:(l.all fun o=>o.pl.isNone)=true)(h:kH F s.heap.length l s K):Bv F n0 l s K:=aAb hp h
theorem Pr{N:Nat}{rl:Option Nat}{n0:Nat}{xs:List XOper}{Q:Exit→St→Prop}{s:St}(h:∀ K:St→Prop,(∀ s',Q .normal s'→K s')→Bv (.all Γ P) n0 xs s K):W Γ P N rl n0 (.reg xs) Q s :=
 aDn (h _ fun _ h=>h)
theorem aEY{N:Nat}{rl:Option Nat}{n0:Nat}{xs:List XOper}{y:XC}{Q:Exit→St→Prop}{s:St}(h:∀ K:St→Prop,(∀ s',W Γ P N rl n0 y Q s'→K s')→Bv (.all Γ P) n0 xs s K):W Γ P N rl n0 (.seq (.reg xs) y) Q s :=
 cN (aDn (h _ fun _ h=>h))
theorem eU{F:Fns}{n0:Nat}{K:St→Prop}(n:Nat)(R:St→Prop){l:List XOper}{s:St}(hp:((l.take n).all fun o=>o.pl.isNone)=true)(hl:l.drop n≠[])
  (h1:∀ K':St→Prop,(∀ s' s1,Co n0 s' s1→R s1→K' s')→kH F s.heap.length (l.take n) s K') (h2:∀ s1,R s1→Bv F n0 (l.drop n) s1 K):Bv F n0 l s K :=
 aF4 n hp fun K' hK'=>h1 K' fun s' s1 hc hr=>hK' s' (aKL hc hl (h2 s1 hr))
theorem eJ{N:Nat}{rl:Option Nat}{n0:Nat}{x y:XC}{Q:Exit→St→Prop}{s:St}(R:St→Prop)(h1:W Γ P N rl n0 x (fun e s'=>e = .normal∧∃ s1,Co n0 s' s1∧R s1) s)(h2:∀ s1,R s1→W Γ P N rl n0 y Q s1):W Γ P N rl n0 (.seq x y) Q s :=
 cN (yY (fun e s' ⟨he,s1,hc,hr⟩=>by subst he;exact dX hc (h2 s1 hr)) h1)
theorem aDz{N:Nat}{rl:Option Nat}{n0:Nat}{xs:List XOper}{y:XC}{Q:Exit→St→Prop}{s:St}(R:St→Prop)(h1:∀ K:St→Prop,(∀ s' s1,Co n0 s' s1→R s1→K s')→Bv (.all Γ P) n0 xs s K)
  (h2:∀ s1,R s1→W Γ P N rl n0 y Q s1):W Γ P N rl n0 (.seq (.reg xs) y) Q s :=
 eJ R (aDn (h1 _ fun s' s1 hc hr=>⟨rfl,s1,hc,hr⟩)) h2
theorem lT{N:Nat}{rl:Option Nat}{n0:Nat}{xs:List XOper}{y:XC}{Q:Exit→St→Prop}{s:St}(R:St→Prop)(hp:(xs.all fun o=>o.pl.isNone)=true)(h1:∀ K:St→Prop,(∀ s' s1,Co n0 s' s1→R s1→K s')→kH (.all Γ P) s.heap.length xs s K)
  (h2:∀ s1,R s1→W Γ P N rl n0 y Q s1):W Γ P N rl n0 (.seq (.reg xs) y) Q s :=
 aDz R (fun K hK=>aAb hp (h1 K hK)) h2
end
section
def xs:=(aA (aA (aA (aA (aA (aA (aA @aOn @aMw) (aA @aMx @aMy)) (aA (aA @aKn @aKo) (aA @aOp (aA @aMA @aOo)))) (aA (aA (aA @aMz @aOq) (aA @aMB (aA @cJ @aOr))) (aA (aA @aOs @aOt) (aA @aMC (aA @aKp @aKq))))) (aA (aA (aA (aA @aKr @aH0) (aA @aH1 (aA @aOu @aOv))) (aA (aA @aOw @aOx) (aA @aOy (aA @aO5 @aOz)))) (aA (aA (aA @aOA @aOB) (aA @aOC (aA @aOD @aOE))) (aA (aA @aMD @aME) (aA @aMG (aA @aH2 @aH5)))))) (aA (aA (aA (aA (aA @aKs @t_d) (aA @aOF (aA @aOG @aOH))) (aA (aA @aMH @l_b) (aA @l_r (aA @l_t @l_f)))) (aA (aA (aA @aKu @aOI) (aA @aKt (aA @aH6 @aKv))) (aA (aA @aOJ @s_b) (aA @s_r (aA @aKw @aOK))))) (aA (aA (aA (aA @aMI @f_b) (aA @aKx (aA @aMJ @aKy))) (aA (aA @aP3 @aP4) (aA @aP5 (aA @aOL @i_b)))) (aA (aA (aA @aOM @aON) (aA @aP6 (aA @aP7 @aP8))) (aA (aA @aOO @aOP) (aA @n_b (aA @aP9 @aOQ))))))) (aA (aA (aA (aA (aA (aA @aOR @aML) (aA @aKz @aMM)) (aA (aA @aKA @aH9) (aA @aMN (aA @aKB @aIa)))) (aA (aA (aA @aMP @aOS) (aA @aOT (aA @aOU @aMQ))) (aA (aA @aMR @aQa) (aA @aMT (aA @aMU @aOV))))) (aA (aA (aA (aA @aQb @aMW) (aA @aMX (aA @aQc @aKC))) (aA (aA @aMY @aMZ) (aA @o_v (aA @aM0 @aOX)))) (aA (aA (aA @aOY @aM1) (aA @aQd (aA @aQe @aQf))) (aA (aA @aQg @aId) (aA @aM2 (aA @aQh @aO0)))))) (aA (aA (aA (aA (aA @aM4 @aQm) (aA @aQn (aA @aM3 @aKD))) (aA (aA @aQi @aQj) (aA @aQk (aA @aQl @aO1)))) (aA (aA (aA @aQo @aQp) (aA @aM5 (aA @aQq @aF2))) (aA (aA @aM7 @aQr) (aA @aM8 (aA @aKE @aKF))))) (aA (aA (aA (aA @aKG @aM9) (aA @aQs (aA @aF3 @aQt))) (aA (aA @aNa @aQu) (aA @aKH (aA @aNd @aKI)))) (aA (aA (aA @aQv @aNf) (aA @aNg (aA @aKJ @aNh))) (aA (aA @aKK @aO6) (aA @aQw (aA @aO8 @aQx))))))))
def xl:=(aA (aA (aA (aA (aA @cK @Aa) (aA @zL (aA @true_and @and_true))) (aA (aA @List.nil_append.{0} @List.cons_append.{0}) (aA @zP.{0} (aA @List.length_nil.{0} @List.length_cons.{0})))) (aA (aA (aA @List.length_append.{0} @List.length_replicate.{0}) (aA @List.length_set.{0} (aA @List.length_map.{0,0} @List.getElem?_cons_zero.{0}))) (aA (aA @List.getElem?_cons_succ.{0} (aA @List.getD_cons_zero.{0} @List.getD_cons_succ.{0})) (aA @List.set_cons_zero.{0} (aA @List.set_cons_succ.{0} @List.map_cons.{0,0}))))) (aA (aA (aA (aA @List.map_nil.{0,0} @List.replicate_succ.{0}) (aA @List.replicate_zero.{0} (aA @List.take_succ_cons.{0} @List.take_zero.{0}))) (aA (aA @List.take_nil.{0} (aA @List.drop_succ_cons.{0} @List.drop_zero.{0})) (aA @List.drop_nil.{0} (aA @Int.toNat_natCast @Int.toNat_zero)))) (aA (aA (aA @Nat.zero_add @Nat.add_zero) (aA @Option.map_some.{0,0} (aA @Option.map_none.{0,0} @Option.isNone_none.{0}))) (aA (aA @Option.isNone_some.{0} (aA @Bool.and_true @Bool.true_and)) (aA @Bool.not_true (aA @Bool.not_false @Bool.false_eq_true))))))
theorem xe:(∀ i,gQ i []=[])∧(∀ i x l,gQ i (x::l)=(i,x)::gQ (i+1) l)∧(∀ l off new,splice l off new=l.take off++new++l.drop (off+new.length)) ∧
 (A.cells .any=[.any])∧(A.one .any=false)∧(A.okCells .any=false)∧(A.cells .nil=[.nil])∧(A.one .nil=true)∧(A.okCells .nil=true)∧(∀ x,A.cells (.d x)=[(.d x)])∧(∀ x,A.one (.d x)=true)∧(∀ x,A.okCells (.d x)=true)∧(∀ e r,A.cells (.nn e r)=[(.nn e r)])∧(∀ e r,A.one (.nn e r)=true)∧(∀ e r,A.okCells (.nn e r)=true)∧(∀ l,A.cells (.agg l)=l)∧(∀ l,A.one (.agg l)=false)∧(∀ l,A.okCells (.agg l)=true)∧(∀ l,A.cells (.tup l)=[(.tup l)])∧(∀ l,A.one (.tup l)=false)∧(∀ l,A.okCells (.tup l)=false)∧(∀ c,A.cells (.iptr c)=[(.iptr c)])∧(∀ c,A.one (.iptr c)=true)∧(∀ c,A.okCells (.iptr c)=true)∧(∀ a b c d,A.cells (.ptr a b c d)=[(.ptr a b c d)])∧(∀ a b c d,A.one (.ptr a b c d)=true)∧(∀ a b c d,A.okCells (.ptr a b c d)=true)∧(∀ a b c d f,A.cells (.ref a b c d f)=[(.ref a b c d f)])∧(∀ a b c d f,A.one (.ref a b c d f)=true)∧(∀ a b c d f,A.okCells (.ref a b c d f)=true)∧(∀ g l,A.cells (.fn g l)=[(.fn g l)])∧(∀ g l,A.one (.fn g l)=true)∧(∀ g l,A.okCells (.fn g l)=true)∧(∀ i,A.cells (.yld i)=[(.yld i)])∧(∀ i,A.one (.yld i)=true)∧(∀ i,A.okCells (.yld i)=true):=by
 repeat refine aA (by intros;rfl) ?_
 intros;rfl
theorem xq:type_of% (aA xe (aA xs xl)):=aA xe (aA xs xl)
end
section
def aPb(k:Nat)(h:cM)(h2:cM)(id:Nat):Prop :=
 ∃ e rows rows2,h[id]? = some (.cells e rows)∧h2[id]? = some (.cells e rows2)∧rows2.length=rows.length ∧
  ∀ (i:Nat) (r r2:List A),rows[i]? = some r→rows2[i]? = some r2→r2.length=r.length∧∀ (j:Nat) (y:A),r2[j]? = some y→FrzA k h (r.getD j .any) y∧y.under k=true
theorem Evo.shape{h h2:cM}{ρ:fJ}{w:World}{k:Nat}(hl:h.length=k)(hl2:h2.length=k)(hb:∀ id,id<k→∃ e rows rows2,h[id]? = some (.cells e rows)∧h2[id]? = some (.cells e rows2)∧rows2.length=rows.length):Evo k h ρ w h2 ρ w where
 os:=rfl
 tape:=rfl
 output:=rfl
 size:=zL _
 old _ _ _:=rfl
 fresh id b p hp:=.inr ⟨id,p,hp⟩
 len:=by omega
 keep id B hid hB:=by
  obtain⟨e,rows,rows2,h1,Xe,h3⟩:=hb id hid;rw[h1] at hB;cases hB;exact⟨rows2,Xe,by omega,fun _=>rfl⟩
theorem Co.frzH{n0:Nat}{s:St}(l:List (Nat × A))(k:Nat)(h2:cM)(hl:∀ p∈l,FrzA k s.heap (s.slots p.1) p.2∧p.2.under k=true)(hn:n0≤k)(hk:k≤s.heap.length)(h2l:h2.length=k)(hb:∀ id,id<k→aPb k s.heap h2 id):Co n0 s ⟨dB l,h2⟩ :=
 fun z M ρ a w hz S=>by
  have g1:Evo n0 s.heap ρ w (s.heap.take k) (ρ.take k) w:=.take hn hk;have g1':Evo k s.heap ρ w (s.heap.take k) (ρ.take k) w:=.take (zL _) hk;have vY:(s.heap.take k).length=k:=by simp;omega
  have g2:Evo k (s.heap.take k) (ρ.take k) w h2 (ρ.take k) w:=.shape vY h2l fun id hid=>by
   obtain⟨e,rows,rows2,q1,q2,q3,_⟩:=hb id hid;exact⟨e,rows,rows2,by rw[zm,if_pos hid];exact q1,q2,q3⟩
  have rp:∀ {x y:A} {v:Value},FrzA k s.heap x y→y.under k=true→RepA w M ρ s.heap x v→RepA w M (ρ.take k) h2 y v:=fun hf hu hr=>g2.rep (hf.rep S.sim hk hr) hu;have hρ:∀ id,id<k→(ρ.take k)[id]? = ρ[id]? := fun id hid=>by rw[zm,if_pos hid]
  have lt2:∀ {id:Nat} {B:HB},h2[id]? = some B→id<k:=fun hB=>by
   have:=(zA.1 hB).1;omega
  refine⟨ρ.take k,⟨S.bnd,⟨by show(ρ.take k).length=h2.length;rw[h2l,List.length_take,S.sim.len];omega,fun id e rows2 hB=>?_,fun id o hB=>?_,fun id hB=>?_,fun i j b p q hi hj=>?_⟩,fun n=>?_,S.size,S.nlt,?_,?_⟩,g1.trans (g2.mono hn)⟩
  ·have hid:=lt2 hB;obtain⟨e',rows,rows2',q1,q2,q3,q4⟩:=hb id hid;rw[q2] at hB;cases hB;obtain⟨c1,c2,c3,c4,c5⟩:=S.sim.cells id e rows q1;refine⟨c1,by rw[q3];exact c2,by rw[q3];exact c3,fun r2 hr2=>?_,?_⟩
   ·obtain⟨i,hi,rfl⟩:=List.mem_iff_getElem.1 hr2;have nX:i<rows.length:=by omega
    rw[(q4 i _ _ (zB nX) (zB hi)).1];exact c4 _ (List.getElem_mem nX)
   ·rcases c5 with⟨h5,h6⟩ | ⟨b,q,cs,t,h5,h6,h7,h8,h9,Ve⟩
    ·refine .inl ⟨(hρ id hid).trans h5,?_⟩;subst h6;exact List.eq_nil_of_length_eq_zero q3
    ·refine .inr ⟨b,q,cs,t,(hρ id hid).trans h5,h6,h7,h8,by rw[q3];exact h9,fun i r2 j y hi hj=>?_⟩;have hi2:i<rows.length:=by have:=(zA.1 hi).1;omega
     obtain⟨d1,d2⟩:=q4 i _ _ (zB hi2) hi;obtain⟨e1,e2⟩:=d2 j y hj;have hj2:j<rows[i].length:=by have:=(zA.1 hj).1;omega
     rw[zC,zB hj2] at e1;obtain⟨v,v1,v2,v3⟩:=Ve i _ j _ (zB hi2) (zB hj2);exact⟨v,v1,v2,rp e1 e2 v3⟩
  ·obtain⟨e',rows,rows2',q1,q2,q3,q4⟩:=hb id (lt2 hB);rw[q2] at hB;cases hB
  ·obtain⟨e',rows,rows2',q1,q2,q3,q4⟩:=hb id (lt2 hB);rw[q2] at hB;cases hB
  ·rw[zm] at hi hj;split at hi
   ·split at hj
    ·exact S.sim.inj i j b p q hi hj
    ·cases hj
   ·cases hi
  ·rcases xO (l:=l) (n:=n) with h | h
   ·show RepA w M _ _ (dB l n) _;rw[h];exact .any
   ·obtain⟨h1,h3⟩:=hl _ h;exact rp h1 h3 (S.slots n)
  ·have T:=S.tabs.take (aG hz.1 hn) hk;exact T.evo (by rw[vY];exact g2)
  ·have D1:=S.defers.evo g1';exact D1.evo (by first | exact g2 | (rw[vY];exact g2))
end
section
theorem Co.nil{n0:Nat}{s:St}(n:Nat)(e:Elt)(he:0<e.sz)(hs:s.slots n = .nil):Co n0 s ⟨upd s.slots n (.ref s.heap.length 0 0 0 true),s.heap++[.cells e []]⟩ :=
 fun z M ρ a w hz S=>by
  have nw:NewAt s.heap ρ (.cells e []) none none s.heap.length (s.heap++[.cells e []]) (ρ++[none]):=.push;have g:Evo s.heap.length s.heap ρ w (s.heap++[.cells e []]) (ρ++[none]) w:=.atNew nw S.sim.len rfl rfl rfl (zL _) (fun _ _=>rfl) (fun b p h=>by cases h);have S2:SimH w M (ρ++[none]) (s.heap++[.cells e []]):=S.sim.newAny nw g (fun _ _=>rfl) (fun b p h=>by cases h)
   (fun e' rows' h=>by
    cases h;exact⟨he,by simp,by simp,by simp,.inl ⟨nw.phys S.sim.len,rfl⟩⟩)
   (fun o' h=>by cases h) (by simp)
  refine⟨ρ++[none],⟨S.bnd,S2,fun m=>?_,S.size,S.nlt,S.tabs.evo g,S.defers.evo g⟩,g.mono hz.2⟩;show RepA w M _ _ (upd s.slots n _ m) _;unfold upd
  by_cases hm:m=n
  ·rw[if_pos hm,hm];have:=S.slots n;rw[hs] at this;generalize nY a.tmps n=v at this;cases this;exact .ref0 nw.heap (nw.phys S.sim.len)
  ·rw[if_neg hm];exact g.rep' (S.slots m)
end
section
variable {P:Program}{w w':World}{M:Nat→Prop}{ρ ρ':fJ}{h h':cM}{Γ:Ctx}
def Xz(x:A):Prop:=∀ {w w':World} {M M':Nat→Prop} {ρ ρ':fJ} {h h':cM} {v:Value},RepA w M ρ h x v→RepA w' M' ρ' h' x v
theorem aIi:Xz .nil:=fun h=>by cases h;exact .nil
theorem Ps{v:Value}:Xz (.sc v):=fun h=>by
 cases h with
 | d hx=>cases hx with
  | sc hk=>exact .d (.sc hk)
def Vx(h:cM)(args args':List A):Prop:=args'.length=args.length∧∀ (j:Nat) (y:A),args'[j]? = some y→FrzA 0 h (args.getD j .any) y
theorem Vx.rep{args args':List A}{vs:Array Value}(S:SimH w M ρ h)(hl:Vx h args args')(fR:tB w M ρ h args vs):tB w M [] [] args' vs:=by
 obtain⟨h1,h2⟩:=hl;refine⟨by rw[fR.1,h1],fun j y hj=>?_⟩;have cY:j<args.length:=by rw[← h1];exact(zA.1 hj).1
 have hx:args[j]? = some (args.getD j .any):=kP _ cY;have:=(h2 j y hj).rep S (zI _) (fR.2 j _ hx);simpa using this
theorem Vx.nil:Vx h [] []:=⟨rfl,fun j y hj=>by simp at hj⟩
theorem Vx.cons{x y:A}{l l':List A}(hx:FrzA 0 h x y)(hl:Vx h l l'):Vx h (x::l) (y::l'):=by
 refine⟨by simp[hl.1],fun j z hj=>?_⟩;cases j with
 | zero=>simp at hj;subst hj;exact hx
 | succ j=>rw[List.getD_cons_succ];exact hl.2 j z (by simpa using hj)
theorem aBh.lone{t:dP}(T:aBh t w M ρ h):aBh t w M [] []:=fun g cs hg=>by
 have:=(Evo.take (n0:=0) (h:=h) (ρ:=ρ) (w:=w) (zL _) (zI _)).rep (T g cs hg) rfl;simpa using this
theorem FnP.lend{f:FuncId}{args args':List A}{r:A}(hf:FnP Γ.t P f args' r)(hr:Xz r)(hl:Vx h args args'):FnD Γ P f args h r h:=by
 refine⟨hf.ent,fun M w ρ vs bnd S T fR=>?_⟩;refine(hf.run M w vs bnd T.t.lone (hl.rep S fR)).mono fun e w' he=>?_;obtain⟨v,rfl,q1,q2⟩:=he;have g:=q2.of_lone (h:=h) (ρ:=ρ);exact⟨v,ρ,rfl,hr q1,S.same g (fun id b p hp=>q2.old b (S.lt hp) (fun _ _ he=>by simp at he)),g⟩
def aDA(n:Nat)(x:A):Prop:=Xz x∨∃ id N off len full,x = .ref id N off len full∧n≤id
def aKM(n:Nat)(x:A):Prop:=aDA n x∨∃ l,x = .tup l∧∀ y∈l,aDA n y
def aNl(n:Nat):HB→Prop
 | .cells _ rows=>∀ r∈rows,∀ x∈r,aDA n x
 | _=>False
theorem aDA.move{n:Nat}{x:A}{v:Value}(hn:aDA n x){h1 h2:cM}{ρ1 ρ2:fJ}(hh:∀ id,n≤id→h2[id]? = h1[id]?)(hρ:∀ id,n≤id→ρ2[id]? = ρ1[id]?)(hr:RepA w M ρ1 h1 x v):RepA w M ρ2 h2 x v:=by
 rcases hn with hn | ⟨id,N,off,len,full,rfl,hid⟩
 ·exact hn hr
 ·have e1:=hh id hid;have e2:=hρ id hid;generalize hx:A.ref id N off len full=x at hr;cases hr with
  | stale k1 k2 k3=>cases hx;exact .stale (e1.trans k1) k2 k3
  | ref0 k1 k2=>cases hx;exact .ref0 (e1.trans k1) (e2.trans k2)
  | ref k1 k2 k3 k4 k5 k6 k7 k8=>cases hx;exact .ref (e1.trans k1) (e2.trans k2) k3 k4 k5 k6 k7 k8
  | _=>cases hx
theorem aKM.move{n:Nat}{x:A}{v:Value}(hn:aKM n x){h1 h2:cM}{ρ1 ρ2:fJ}(hh:∀ id,n≤id→h2[id]? = h1[id]?)(hρ:∀ id,n≤id→ρ2[id]? = ρ1[id]?)(hr:RepA w M ρ1 h1 x v):RepA w M ρ2 h2 x v:=by
 rcases hn with hn | ⟨l,rfl,hl⟩
 ·exact hn.move hh hρ hr
 ·cases hr with
  | tup h1 h2=>exact .tup h1 fun j y hj=>(hl y (zY hj)).move hh hρ (h2 j y hj)
theorem FnD.lend{f:FuncId}{args args':List A}{r:A}{t:cM}(hf:FnD Γ.t.ctx P f args' (aC h.length .res) r (aC h.length .res++t))(hr:aKM h.length r)(ht:∀ B∈t,aNl h.length B)(hl:Vx h args args')(hd:A.underL 0 args'=true):FnD Γ P f args h r (h++t):=by
 refine⟨hf.ent,fun M w ρ vs bnd S T fR=>?_⟩;have hSl:=S.len;have S0:SimH w M (aC h.length none) (aC h.length .res):=by
  refine⟨by simp,fun id e rows hh=>?_,fun id o hh=>?_,fun id hh=>?_,fun i j b p q hi=>?_⟩
  ·rw[aD] at hh;split at hh<;>simp at hh
  ·rw[aD] at hh;split at hh<;>simp at hh
  ·have:id<h.length:=by have:=(zA.1 hh).1;simpa using this
   rw[aD,if_pos this]
  ·rw[aD] at hi;split at hi<;>simp at hi
 have own0:∀ b,¬ vH M [] b→¬ vH M (aC h.length none) b:=by
  rintro b hb (hm | ⟨id,p,hp⟩)
  ·exact hb (.inl hm)
  ·rw[aD] at hp;split at hp<;>simp at hp
 have up:∀ {y:A} {v:Value},y.under 0=true→RepA w M [] [] y v→RepA w M (aC h.length none) (aC h.length .res) y v:=fun hu hy =>
  hy.move (n0:=0) (fun a u hn hc=>⟨hc,own0 _ hn⟩) (fun id B hi=>absurd hi (Nat.not_lt_zero _)) hu
 have hA:=hl.rep S fR;refine(hf.run M w (aC h.length none) vs bnd S0 ⟨fun g cs hg=>up rfl (T.t.lone g cs hg),fun a v h=>h.elim⟩ ⟨hA.1,fun j y hj=>up (A.underL_get hd hj) (hA.2 j y hj)⟩).mono fun e w' he=>?_;obtain⟨v,ρ1,rfl,q1,q2,q3⟩:=he;have hρl:ρ1.length=h.length+t.length:=by have:=q2.len;simpa using this
 have pF:∀ b,b<w.heap.size→w'.heap[b]? = w.heap[b]? := fun b hb=>q3.old b hb fun id p hp=>by
  rw[aD] at hp;split at hp<;>simp at hp
 have aED:∀ id b p:Nat,ρ1[id]? = some (some (b,p))→w.heap.size≤b:=fun id b p hp=>by
  rcases q3.fresh id b p hp with hf | ⟨i,q,hq⟩
  ·exact hf
  ·rw[aD] at hq;split at hq<;>simp at hq
 have g0:Evo h.length h ρ w h ρ w':=⟨q3.os,q3.tape,q3.output,q3.size,fun b hb _=>pF b hb,fun id b p hp=>.inr ⟨id,p,hp⟩,zL _,fun _ _ _ hb=>.refl hb⟩;have S1:SimH w' M ρ h:=S.same g0 fun id b p hp=>pF b (S.lt hp);let ρ2:fJ:=ρ++ρ1.drop h.length;have r_lo:∀ id,id<h.length→ρ2[id]? = ρ[id]? := fun id hid=>zF (by omega);have r_hi:∀ id,h.length≤id→ρ2[id]? = ρ1[id]? := fun id hid=>by
  show(ρ++ρ1.drop h.length)[id]? = _;rw[zG (by omega),zl];congr 1;omega
 have h_lo:∀ id,id<h.length→(h++t)[id]? = h[id]? := fun id hid=>zF hid;have h_hi:∀ id,h.length≤id→(h++t)[id]? = (aC h.length .res++t)[id]? := fun id hid=>by
  rw[zG hid,zG (by simpa using hid)];simp
 have g:Evo h.length h ρ w (h++t) ρ2 w':=by
  refine⟨q3.os,q3.tape,q3.output,q3.size,fun b hb _=>pF b hb,fun id b p hp=>?_,by simp,fun id B hid hB=>?_⟩
  ·rcases aE id h.length with cY | vX
   ·rw[r_lo id cY] at hp;exact .inr ⟨id,p,hp⟩
   ·rw[r_hi id vX] at hp;exact .inl (aED id b p hp)
  ·cases B with
   | cells e rows=>exact⟨rows,(h_lo id hid).trans hB,zL _,fun _=>r_lo id hid⟩
   | obj o=>exact⟨⟨o,(h_lo id hid).trans hB⟩,r_lo id hid⟩
   | res=>trivial
 have mv:∀ {x:A} {v:Value},aKM h.length x→RepA w' M ρ1 (aC h.length .res++t) x v→RepA w' M ρ2 (h++t) x v:=fun hn hr =>
  hn.move (fun id hid=>h_hi id hid) (fun id hid=>r_hi id hid) hr
 refine⟨v,ρ2,rfl,mv hr q1,⟨by simp[ρ2,hSl,hρl],fun id e rows hB=>?_,fun id o hB=>?_,fun id hB=>?_,fun i j b p q hi hj=>?_⟩,g⟩
 ·rcases aE id h.length with cY | vX
  ·rw[h_lo id cY] at hB;obtain⟨k1,k2,k3,k4,k5⟩:=S.cells id e rows hB;refine⟨k1,k2,k3,k4,?_⟩;rcases k5 with⟨k5,k6⟩ | ⟨b,p,cs,ty,k5,k6,k7,k8,k9,k10⟩
   ·exact .inl ⟨(r_lo id cY).trans k5,k6⟩
   ·refine .inr ⟨b,p,cs,ty,(r_lo id cY).trans k5,k6,(pF b (S.lt k5)).trans k7,k8,k9,fun i r j x hi hj=>?_⟩;obtain⟨u,a1,a2,a3⟩:=k10 i r j x hi hj;exact⟨u,a1,a2,g.rep' a3⟩
  ·have hB0:=hB;rw[h_hi id vX] at hB;obtain⟨k1,k2,k3,k4,k5⟩:=q2.cells id e rows hB;have aJ6:HB.cells e rows∈t:=by
    rw[zG vX] at hB0;exact zY hB0
   have vG:=ht _ aJ6;refine⟨k1,k2,k3,k4,?_⟩;rcases k5 with⟨k5,k6⟩ | ⟨b,p,cs,ty,k5,k6,k7,k8,k9,k10⟩
   ·exact .inl ⟨(r_hi id vX).trans k5,k6⟩
   ·refine .inr ⟨b,p,cs,ty,(r_hi id vX).trans k5,k6,k7,k8,k9,fun i r j x hi hj=>?_⟩;obtain⟨u,a1,a2,a3⟩:=k10 i r j x hi hj;exact⟨u,a1,a2,mv (.inl (vG r (zY hi) x (zY hj))) a3⟩
 ·rcases aE id h.length with cY | vX
  ·rw[h_lo id cY] at hB;obtain⟨b,p,k1,k2,k3,k4⟩:=S.obj id o hB;exact⟨b,p,(r_lo id cY).trans k1,k2,(pF b (S.lt k1)).trans k3,k4⟩
  ·rw[zG vX] at hB;exact(ht _ (zY hB)).elim
 ·rcases aE id h.length with cY | vX
  ·rw[h_lo id cY] at hB;exact(r_lo id cY).trans (S.res id hB)
  ·rw[zG vX] at hB;exact(ht _ (zY hB)).elim
 ·rcases aE i h.length with nX | nX
  ·rw[r_lo i nX] at hi;rcases aE j h.length with Zj | Zj
   ·rw[r_lo j Zj] at hj;exact S.inj i j b p q hi hj
   ·rw[r_hi j Zj] at hj;have a:=S.lt hi;have b:=aED j _ _ hj;omega
  ·rw[r_hi i nX] at hi;rcases aE j h.length with Zj | Zj
   ·rw[r_lo j Zj] at hj;have a:=S.lt hj;have b:=aED i _ _ hi;omega
   ·rw[r_hi j Zj] at hj;exact q2.inj i j b p q hi hj
end
end Go.Proofs.YtlllnjhgjijnkaaGreatDoor.Nx

import Derived.Test.YtlllnjhgjijnkaaDoorNxCheck
import Derived.IntWalk
import Derived.Test.YtlllnjhgjijnkaaDoorNxFn
set_option linter.unusedSimpArgs false
set_option linter.unusedVariables false
set_option linter.unnecessarySimpa false
set_option linter.all false
open List renaming getElem?_eq_some_iff → zA, getElem?_eq_getElem → zB, getD_eq_getElem?_getD → zC, getElem?_append_left → zF, getElem?_append_right → zG, getElem?_map → zK, append_nil → zP, mem_of_getElem? → zY, getElem?_drop → zl, getElem?_take → zm
open Nat renaming zero_le → zI, le_refl → zL
namespace Go.Proofs.YtlllnjhgjijnkaaDoor.Nx
open Go
variable {P:Program} {F:Fns}
def Cont (F:Fns) (b:Nat) (os:List XOper) (K:St→Prop) (s:St):Prop:=runX F b os s K
def Lay (d:Option Nat) (sl:Nat→A) (k:St→Prop) (r:A) (h:Heap):Prop:=k ⟨put d r sl,h⟩
def Grd (F:Fns) (pl:Option Nat) (d:Option Nat) (t:Bool) (op:XOp) (sl:Nat→A) (h:Heap) (k:St→Prop):A→Prop
 | .d (.sc (.bool c))=>if c=t then exec F pl op (ev sl) h (Lay d sl k) else k ⟨put d undefA sl,h⟩
 | .tup []=>k ⟨put d undefA sl,h⟩
 | _=>False
theorem x_nil {b:Nat} {K:St→Prop} {s:St}:runX F b [] s K=K s:=Eq.trans rfl rfl
theorem x_cons {b:Nat} {o:XOper} {os:List XOper} {K:St→Prop} {s:St}:runX F b (o::os) s K=stepX F b o s (Cont F b os K):=Eq.trans rfl rfl
theorem x_cont {b:Nat} {os:List XOper} {K:St→Prop} {sl:Nat→A} {h:Heap}:Cont F b os K ⟨sl,h⟩=runX F b os ⟨sl,h⟩ K:=Eq.trans rfl rfl
theorem x_step {b:Nat} {d:Option Nat} {op:XOp} {sl:Nat→A} {h:Heap} {k:St→Prop}:stepX F b ⟨d,op,none,none⟩ ⟨sl,h⟩ k=exec F none op (ev sl) h (Lay d sl k):=Eq.trans rfl rfl
theorem x_stepP {b:Nat} {d:Option Nat} {op:XOp} {n:Nat} {sl:Nat→A} {h:Heap} {k:St→Prop}:stepX F b ⟨d,op,none,some n⟩ ⟨sl,h⟩ k=exec F (some (b+n)) op (ev sl) h (Lay d sl k):=Eq.trans rfl rfl
theorem x_stepG {b:Nat} {d:Option Nat} {op:XOp} {g:Nat} {t:Bool} {pl:Option Nat} {sl:Nat→A} {h:Heap} {k:St→Prop} :
  stepX F b ⟨d,op,some (g,t),pl⟩ ⟨sl,h⟩ k=Grd F (pl.map (b + ·)) d t op sl h k (sl g):=by
 unfold stepX XOper.live Grd
 dsimp only
 generalize sl g=x
 cases x with
 | d y=>cases y with
  | sc v=>cases v with
   | bool c =>
    dsimp only
    by_cases hc:c=t
    ·rw [if_pos hc,if_pos hc];rfl
    ·rw [if_neg hc,if_neg hc];rfl
   | _=>rfl
  | sl _ _=>rfl
 | tup l=>cases l<;>rfl
 | _=>rfl
theorem x_lay {d:Nat} {sl:Nat→A} {k:St→Prop} {r:A} {h:Heap}:Lay (some d) sl k r h=k ⟨upd sl d r,h⟩:=Eq.trans rfl rfl
theorem x_lay0 {sl:Nat→A} {k:St→Prop} {r:A} {h:Heap}:Lay none sl k r h=k ⟨sl,h⟩:=Eq.trans rfl rfl
theorem x_grd {pl d:Option Nat} {t c:Bool} {op:XOp} {sl:Nat→A} {h:Heap} {k:St→Prop}:Grd F pl d t op sl h k (.bool c)=if c=t then exec F pl op (ev sl) h (Lay d sl k) else k ⟨put d undefA sl,h⟩:=Eq.trans rfl rfl
theorem x_grd0 {pl d:Option Nat} {t:Bool} {op:XOp} {sl:Nat→A} {h:Heap} {k:St→Prop}:Grd F pl d t op sl h k (.tup [])=k ⟨put d undefA sl,h⟩:=Eq.trans rfl rfl
theorem x_put {d:Nat} {r:A} {sl:Nat→A}:put (some d) r sl=upd sl d r:=Eq.trans rfl rfl
theorem x_put0 {r:A} {sl:Nat→A}:put none r sl=sl:=Eq.trans rfl rfl
theorem x_upd {sl:Nat→A} {d n:Nat} {r:A}:upd sl d r n=if n=d then r else sl n:=Eq.trans rfl rfl
theorem x_evt {sl:Nat→A} {n:Nat}:ev sl (.t n)=sl n:=Eq.trans rfl rfl
theorem x_evk {sl:Nat→A} {a:A}:ev sl (.k a)=a:=Eq.trans rfl rfl
theorem x_evf {sl:Nat→A} {f:FuncId}:ev sl (.f f) = .fn f []:=Eq.trans rfl rfl
theorem x_then {K:St→Prop} {Q:Exit→St→Prop} {s:St}:thenQ K Q .normal s=K s:=Eq.trans rfl rfl
theorem x_thenR {K:St→Prop} {Q:Exit→St→Prop} {s:St}:thenQ K Q .ret s=Q .ret s:=Eq.trans rfl rfl
theorem x_thenE {K:St→Prop} {Q:Exit→St→Prop} {s:St} {i:Nat}:thenQ K Q (.exit i) s=Q (.exit i) s:=Eq.trans rfl rfl
theorem x_block {Q:Exit→St→Prop} {s:St} {i:Nat}:blockQ i Q .normal s=Q .normal s:=Eq.trans rfl rfl
theorem x_blockR {Q:Exit→St→Prop} {s:St} {i:Nat}:blockQ i Q .ret s=Q .ret s:=Eq.trans rfl rfl
theorem x_blockE {Q:Exit→St→Prop} {s:St} {i j:Nat}:blockQ i Q (.exit j) s=if j=i then Q .normal s else Q (.exit j) s:=Eq.trans rfl rfl
theorem x_mov {pl:Option Nat} {x:XO} {ev:XO→A} {h:Heap} {K:A→Heap→Prop}:exec F pl (.mov x) ev h K=K (ev x) h:=Eq.trans rfl rfl
theorem x_look {k n:Nat} {x:A} {l:List (Nat × A)}:look ((k,x)::l) n=if n=k then x else look l n:=Eq.trans rfl rfl
theorem x_look0 {n:Nat}:look [] n = .any:=Eq.trans rfl rfl
section ops
variable {pl:Option Nat} {ev:XO→A} {h:Heap} {K:A→Heap→Prop}
def BinK (h:Heap) (K:A→Heap→Prop):Option Value→Prop
 | some v=>K (.sc v) h
 | none=>False
def Bin (op:BinOp) (h:Heap) (K:A→Heap→Prop):A→A→Prop
 | .d (.sc a),.d (.sc b)=>BinK h K (binRes op a b)
 | _,_=>False
theorem x_bin {op:BinOp} {x y:XO}:exec F pl (.bin op x y) ev h K=Bin op h K (ev x) (ev y):=by
 simp only [exec,Bin]
 generalize ev x=a
 generalize ev y=b
 rcases a with _ | _ | (v | _) | _ | _ | _ | _ | _ | _ | _ | _ | _<;>rfl
variable {k:IntKind} {a b:Int}
theorem b_add:Bin .add h K (.d (.sc (.int k a))) (.d (.sc (.int k b)))=K (.sc (.int k (k.wrap (a+b)))) h:=by simp [Bin,binRes,intRes,BinK]
theorem b_sub:Bin .sub h K (.d (.sc (.int k a))) (.d (.sc (.int k b)))=K (.sc (.int k (k.wrap (a-b)))) h:=by simp [Bin,binRes,intRes,BinK]
theorem b_mul:Bin .mul h K (.d (.sc (.int k a))) (.d (.sc (.int k b)))=K (.sc (.int k (k.wrap (a * b)))) h:=by simp [Bin,binRes,intRes,BinK]
theorem b_eql:Bin .eql h K (.d (.sc (.int k a))) (.d (.sc (.int k b)))=K (.bool (decide (a=b))) h:=by simp [Bin,binRes,intRes,BinK];rfl
theorem b_neq:Bin .neq h K (.d (.sc (.int k a))) (.d (.sc (.int k b)))=K (.bool (!decide (a=b))) h:=by simp [Bin,binRes,intRes,BinK];rfl
theorem b_lss:Bin .lss h K (.d (.sc (.int k a))) (.d (.sc (.int k b)))=K (.bool (decide (a<b))) h:=by simp [Bin,binRes,intRes,BinK]
theorem b_leq:Bin .leq h K (.d (.sc (.int k a))) (.d (.sc (.int k b)))=K (.bool (decide (a≤b))) h:=by simp [Bin,binRes,intRes,BinK]
theorem b_gtr:Bin .gtr h K (.d (.sc (.int k a))) (.d (.sc (.int k b)))=K (.bool (decide (b<a))) h:=by simp [Bin,binRes,intRes,BinK]
theorem b_geq:Bin .geq h K (.d (.sc (.int k a))) (.d (.sc (.int k b)))=K (.bool (decide (b≤a))) h:=by simp [Bin,binRes,intRes,BinK]
variable {s t:ByteArray}
theorem b_seql:Bin .eql h K (.d (.sc (.string s))) (.d (.sc (.string t)))=K (.bool (decide (s=t))) h:=by simp [Bin,binRes,strRes,BinK]
theorem b_sneq:Bin .neq h K (.d (.sc (.string s))) (.d (.sc (.string t)))=K (.bool (!decide (s=t))) h:=by simp [Bin,binRes,strRes,BinK]
def Pick (h:Heap) (K:A→Heap→Prop) (a b:A):A→Prop
 | .d (.sc (.bool t))=>if t=true then K a h else K b h
 | _=>False
theorem x_pick {c x y:XO}:exec F pl (.pick c x y) ev h K=Pick h K (ev x) (ev y) (ev c):=by
 simp only [exec,Pick]
 generalize ev c=a
 rcases a with _ | _ | (v | _) | _ | _ | _ | _ | _ | _ | _ | _ | _<;>rfl
theorem x_pick_t {a b:A} {t:Bool}:Pick h K a b (.bool t)=if t=true then K a h else K b h:=Eq.trans rfl rfl
def LoadC (n:Nat) (h:Heap) (K:A→Heap→Prop):Bool→List A→Prop
 | true,l=>n≤l.length∧K (.agg (l.take n)) h
 | false,c::_=>K c h
 | false,[]=>False
def LoadR (n:Nat) (g:Bool) (h:Heap) (K:A→Heap→Prop) (off:Nat):Option (List A)→Prop
 | some r=>LoadC n h K g (r.drop off)
 | none=>False
def LoadB (n:Nat) (g:Bool) (h:Heap) (K:A→Heap→Prop) (N i off:Nat):Option HB→Prop
 | some (.cells _ rows)=>N=rows.length∧LoadR n g h K off rows[i]?
 | _=>False
def Load (n:Nat) (g:Bool) (h:Heap) (K:A→Heap→Prop):A→Prop
 | .ptr id N i off=>LoadB n g h K N i off h[id]?
 | .iptr cs=>LoadC n h K g (cs.map .d)
 | _=>False
theorem loadC_eq {n:Nat} {g:Bool} {l:List A}:loadsTo n g l (fun a=>K a h)=LoadC n h K g l:=by
 cases g<;>cases l<;>simp [loadsTo,LoadC]
theorem t_d {x:D}:(A.d x).touch=none:=rfl
theorem t_nil:A.nil.touch=none:=rfl
theorem t_agg {l:List A}:(A.agg l).touch=none:=rfl
theorem x_load {n:Nat} {g:Bool} {x:XO}:exec F pl (.load n g x) ev h K=Load n g h K (ev x):=by
 simp only [exec,Load]
 generalize ev x=a
 cases a with
 | ptr id N i off =>
  dsimp only
  generalize h[id]? = o
  rcases o with _ | (⟨e,rows⟩ | _ | _)
  ·rfl
  ·dsimp only [LoadB]
   generalize rows[i]? = r
   cases r with
   | none=>rfl
   | some r=>simp only [loadC_eq];rfl
  ·rfl
  ·rfl
 | iptr cs=>exact loadC_eq
 | _=>rfl
theorem x_loadp {n:Nat} {g:Bool} {x:XO}:exec F pl (.loadp n g x) ev h K=Load n g h (fun a h'=>a.touch=none∧K a h') (ev x):=by
 rw [← x_load (F:=F) (pl:=pl)]
 simp only [exec]
theorem l_ptr {n id N i off:Nat} {g:Bool}:Load n g h K (.ptr id N i off)=LoadB n g h K N i off h[id]? := Eq.trans rfl rfl
theorem l_iptr {n:Nat} {g:Bool} {cs:List D}:Load n g h K (.iptr cs)=LoadC n h K g (cs.map .d):=Eq.trans rfl rfl
theorem l_b {n N i off:Nat} {g:Bool} {e:Elt} {rows:List (List A)}:LoadB n g h K N i off (some (.cells e rows))=(N=rows.length∧LoadR n g h K off rows[i]?):=Eq.trans rfl rfl
theorem l_r {n off:Nat} {g:Bool} {r:List A}:LoadR n g h K off (some r)=LoadC n h K g (r.drop off):=Eq.trans rfl rfl
theorem l_t {n:Nat} {l:List A}:LoadC n h K true l=(n≤l.length∧K (.agg (l.take n)) h):=Eq.trans rfl rfl
theorem l_f {n:Nat} {c:A} {l:List A}:LoadC n h K false (c::l)=K c h:=Eq.trans rfl rfl
end ops
end Go.Proofs.YtlllnjhgjijnkaaDoor.Nx
namespace Go.Proofs.YtlllnjhgjijnkaaDoor.Nx
open Go
variable {Γ:Ctx} {P:Program} {F:Fns} {pl:Option Nat} {ev:XO→A} {h:Heap} {K:A→Heap→Prop}
def Place (pl:Option Nat) (h:Heap) (B:HB) (mk:Nat→A) (K:A→Heap→Prop):Prop :=
 match pl with
 | none=>K (mk h.length) (h++[B])
 | some a=>h[a]? = some .res∧K (mk a) (h.set a B)
theorem place_eq {B:HB} {mk:Nat→A}:place pl h B (fun id h1=>K (mk id) h1)=Place pl h B mk K:=by cases pl<;>rfl
theorem x_place {B:HB} {mk:Nat→A}:Place none h B mk K=K (mk h.length) (h++[B]):=Eq.trans rfl rfl
theorem x_placeP {a:Nat} {B:HB} {mk:Nat→A}:Place (some a) h B mk K=(h[a]? = some .res∧K (mk a) (h.set a B)):=Eq.trans rfl rfl
theorem x_alloc {e:Elt} {z:List A}:exec F pl (.alloc e z) ev h K=Place pl h (.cells e [z]) (fun id=>.ptr id 1 0 0) K:=by
 simp only [exec]
 exact place_eq (mk:=fun id=>.ptr id 1 0 0)
theorem x_box {e:Elt} {x:XO}:exec F pl (.box e x) ev h K=((ev x).okCells=true∧(ev x).cells.length=e.sz∧Place pl h (.cells e [(ev x).cells]) (fun id=>.ptr id 1 0 0) K):=by
 simp only [exec,place_eq (mk:=fun id=>.ptr id 1 0 0)]
def StoreR (n:Nat) (h:Heap) (K:A→Heap→Prop) (y:A) (e:Elt) (rows:List (List A)) (id i off:Nat):Option (List A)→Prop
 | some r=>off+n≤r.length∧K .any (h.set id (.cells e (rows.set i (splice r off y.cells))))
 | none=>False
def StoreB (n:Nat) (h:Heap) (K:A→Heap→Prop) (y:A) (id N i off:Nat):Option HB→Prop
 | some (.cells e rows)=>N=rows.length∧y.okCells=true∧y.cells.length=n∧StoreR n h K y e rows id i off rows[i]?
 | _=>False
def Store (n:Nat) (h:Heap) (K:A→Heap→Prop) (y:A):A→Prop
 | .ptr id N i off=>StoreB n h K y id N i off h[id]?
 | _=>False
theorem x_store {n:Nat} {x y:XO}:exec F pl (.store n x y) ev h K=Store n h K (ev y) (ev x):=by
 simp only [exec,Store]
 generalize ev x=a
 cases a with
 | ptr id N i off =>
  dsimp only
  generalize h[id]? = o
  rcases o with _ | (⟨e,rows⟩ | _ | _)
  ·rfl
  ·dsimp only [StoreB]
   generalize rows[i]? = r
   cases r<;>rfl
  ·rfl
  ·rfl
 | _=>rfl
theorem s_ptr {n id N i off:Nat} {y:A}:Store n h K y (.ptr id N i off)=StoreB n h K y id N i off h[id]? := Eq.trans rfl rfl
theorem s_b {n id N i off:Nat} {y:A} {e:Elt} {rows:List (List A)}:StoreB n h K y id N i off (some (.cells e rows))=(N=rows.length∧y.okCells=true∧y.cells.length=n∧StoreR n h K y e rows id i off rows[i]?):=Eq.trans rfl rfl
theorem s_r {n id i off:Nat} {y:A} {e:Elt} {rows:List (List A)} {r:List A}:StoreR n h K y e rows id i off (some r)=(off+n≤r.length∧K .any (h.set id (.cells e (rows.set i (splice r off y.cells))))):=Eq.trans rfl rfl
def FaddrB (off:Nat) (h:Heap) (K:A→Heap→Prop) (id N i o:Nat):Option HB→Prop
 | some (.cells _ rows)=>N=rows.length∧K (.ptr id N i (o+off)) h
 | _=>False
def Faddr (off:Nat) (h:Heap) (K:A→Heap→Prop):A→Prop
 | .ptr id N i o=>FaddrB off h K id N i o h[id]?
 | .iptr cs=>K (.iptr (cs.drop off)) h
 | _=>False
theorem x_faddr {off:Nat} {x:XO}:exec F pl (.faddr off x) ev h K=Faddr off h K (ev x):=by
 simp only [exec,Faddr]
 generalize ev x=a
 cases a with
 | ptr id N i o =>
  dsimp only
  generalize h[id]? = o
  rcases o with _ | (⟨e,rows⟩ | _ | _)<;>rfl
 | _=>rfl
theorem f_ptr {off id N i o:Nat}:Faddr off h K (.ptr id N i o)=FaddrB off h K id N i o h[id]? := Eq.trans rfl rfl
theorem f_iptr {off:Nat} {cs:List D}:Faddr off h K (.iptr cs)=K (.iptr (cs.drop off)) h:=Eq.trans rfl rfl
theorem f_b {off id N i o:Nat} {e:Elt} {rows:List (List A)}:FaddrB off h K id N i o (some (.cells e rows))=(N=rows.length∧K (.ptr id N i (o+off)) h):=Eq.trans rfl rfl
def Field (off n:Nat) (g:Bool) (h:Heap) (K:A→Heap→Prop):A→Prop
 | .agg cs=>LoadC n h K g (cs.drop off)
 | _=>False
theorem x_field {off n:Nat} {g:Bool} {x:XO}:exec F pl (.field off n g x) ev h K=Field off n g h K (ev x):=by
 simp only [exec,Field]
 generalize ev x=a
 cases a<;>first | rfl | exact loadC_eq
theorem fd_agg {off n:Nat} {g:Bool} {cs:List A}:Field off n g h K (.agg cs)=LoadC n h K g (cs.drop off):=Eq.trans rfl rfl
def IaddrB (e:Elt) (h:Heap) (K:A→Heap→Prop) (id N off len:Nat) (n:Int):Option HB→Prop
 | some (.cells e' rows)=>e'=e∧N=rows.length∧0≤n∧n<len∧K (.ptr id N (off+n.toNat) 0) h
 | _=>False
def Iaddr (e:Elt) (h:Heap) (K:A→Heap→Prop):A→A→Prop
 | .d (.sl e' rows),.d (.sc (.int _ n))=>e'=e∧0≤n∧n<rows.length∧K (.iptr (rows.getD n.toNat [])) h
 | .nn e' rows,.d (.sc (.int _ n))=>e'=e∧0≤n∧n<rows.length∧K (.iptr (rows.getD n.toNat [])) h
 | .fd e' rows,.d (.sc (.int _ n))=>e'=e∧0≤n∧n<rows.length∧K (.iptr (rows.getD n.toNat [])) h
 | .ref id N off len _,.d (.sc (.int _ n))=>IaddrB e h K id N off len n h[id]?
 | _,_=>False
theorem x_iaddr {e:Elt} {x i:XO}:exec F pl (.iaddr e x i) ev h K=Iaddr e h K (ev x) (ev i):=by
 simp only [exec,Iaddr]
 generalize ev x=a
 generalize ev i=b
 rcases a with _ | _ | (v | _) | _ | _ | _ | _ | _ | _ | _ | _ | _<;>try rfl
theorem i_sl {e e':Elt} {rows:List (List D)} {k:IntKind} {n:Int}:Iaddr e h K (.d (.sl e' rows)) (.d (.sc (.int k n)))=(e'=e∧0≤n∧n<rows.length∧K (.iptr (rows.getD n.toNat [])) h):=Eq.trans rfl rfl
theorem i_nn {e e':Elt} {rows:List (List D)} {k:IntKind} {n:Int}:Iaddr e h K (.nn e' rows) (.d (.sc (.int k n)))=(e'=e∧0≤n∧n<rows.length∧K (.iptr (rows.getD n.toNat [])) h):=Eq.trans rfl rfl
theorem i_fd {e e':Elt} {rows:List (List D)} {k:IntKind} {n:Int}:Iaddr e h K (.fd e' rows) (.d (.sc (.int k n)))=(e'=e∧0≤n∧n<rows.length∧K (.iptr (rows.getD n.toNat [])) h):=Eq.trans rfl rfl
theorem i_ref {e:Elt} {id N off len:Nat} {full:Bool} {k:IntKind} {n:Int}:Iaddr e h K (.ref id N off len full) (.d (.sc (.int k n)))=IaddrB e h K id N off len n h[id]? := Eq.trans rfl rfl
theorem i_b {e e':Elt} {rows:List (List A)} {id N off len:Nat} {n:Int}:IaddrB e h K id N off len n (some (.cells e' rows))=(e'=e∧N=rows.length∧0≤n∧n<len∧K (.ptr id N (off+n.toNat) 0) h):=Eq.trans rfl rfl
def LenB (str:Bool) (h:Heap) (K:A→Heap→Prop) (N len:Nat):Option HB→Prop
 | some (.cells _ rows)=>str=false∧N=rows.length∧K (.int len) h
 | _=>False
def Len (str:Bool) (h:Heap) (K:A→Heap→Prop):A→Prop
 | .nil=>str=false∧K (.int 0) h
 | .d (.sl _ rows)=>str=false∧K (.int rows.length) h
 | .nn _ rows=>str=false∧K (.int rows.length) h
 | .fd _ rows=>str=false∧K (.int rows.length) h
 | .ref id N _ len _=>LenB str h K N len h[id]?
 | .d (.sc (.string s))=>str=true∧K (.int s.size) h
 | _=>False
theorem x_len {str:Bool} {x:XO}:exec F pl (.len str x) ev h K=Len str h K (ev x):=by
 simp only [exec,Len]
 generalize ev x=a
 rcases a with _ | _ | (v | _) | _ | _ | _ | _ | _ | _ | _ | _ | _<;>try rfl
theorem n_nil {str:Bool}:Len str h K .nil=(str=false∧K (.int 0) h):=Eq.trans rfl rfl
theorem n_sl {str:Bool} {e:Elt} {rows:List (List D)}:Len str h K (.d (.sl e rows))=(str=false∧K (.int rows.length) h):=Eq.trans rfl rfl
theorem n_nn {str:Bool} {e:Elt} {rows:List (List D)}:Len str h K (.nn e rows)=(str=false∧K (.int rows.length) h):=Eq.trans rfl rfl
theorem n_fd {str:Bool} {e:Elt} {rows:List (List D)}:Len str h K (.fd e rows)=(str=false∧K (.int rows.length) h):=Eq.trans rfl rfl
theorem n_str {str:Bool} {s:ByteArray}:Len str h K (.d (.sc (.string s)))=(str=true∧K (.int s.size) h):=Eq.trans rfl rfl
theorem n_ref {str full:Bool} {id N off len:Nat}:Len str h K (.ref id N off len full)=LenB str h K N len h[id]? := Eq.trans rfl rfl
theorem n_b {str:Bool} {N len:Nat} {e:Elt} {rows:List (List A)}:LenB str h K N len (some (.cells e rows))=(str=false∧N=rows.length∧K (.int len) h):=Eq.trans rfl rfl
def Un (op:UnOp) (h:Heap) (K:A→Heap→Prop):A→Prop
 | .d (.sc a)=>BinK h K (unRes op a)
 | _=>False
theorem x_un {op:UnOp} {x:XO}:exec F pl (.un op x) ev h K=Un op h K (ev x):=by
 simp only [exec,Un]
 generalize ev x=a
 rcases a with _ | _ | (v | _) | _ | _ | _ | _ | _ | _ | _ | _ | _<;>try rfl
theorem u_not {b:Bool}:Un .not h K (.bool b)=K (.bool (!b)) h:=by simp [Un,unRes,BinK]
theorem u_neg {k:IntKind} {n:Int}:Un .neg h K (.d (.sc (.int k n)))=K (.sc (.int k (k.wrap (0-n)))) h:=by simp [Un,unRes,BinK]
def Call (F:Fns) (h:Heap) (K:A→Heap→Prop) (args:List A):A→Prop
 | .fn g caps=>A.underL 0 (args++caps)=true∧∃ r,F.pure g (args++caps) r∧K r h
 | _=>False
theorem x_call {f:XO} {args:List XO}:exec F pl (.call f args) ev h K=Call F h K (args.map ev) (ev f):=by
 simp only [exec,Call]
 generalize ev f=a
 cases a<;>rfl
theorem c_fn {g:FuncId} {args:List A} {r:A} (hf:FnP Γ.t P g args r) (h0:A.underL 0 args=true) (hK:K r h):Call (.all Γ P) h K args (.fn g []):=by
 simp only [Call,zP]
 exact ⟨h0,r,hf,hK⟩
end Go.Proofs.YtlllnjhgjijnkaaDoor.Nx
namespace Go.Proofs.YtlllnjhgjijnkaaDoor.Nx
open Go
variable {Γ:Ctx} {P:Program} {N:Nat} {rl:Option Nat} {n0:Nat}
theorem W_fact {c:XC} {Q:Exit→St→Prop} {s:St} {p:Prop} (hp:∀ (z:Still) (M:Nat→Prop) (ρ:Phys) (a:Act) (w:World),Sim z w M ρ s a→p) (h:p→W Γ P N rl n0 c Q s):W Γ P N rl n0 c Q s :=
 fun code hc z M ρ a w hz hn S=>h (hp z M ρ a w S) code hc z M ρ a w hz hn S
theorem RepD.slFact {w:World} {X:Nat→Prop} {e:Elt} {rows:List (List D)} {v:Value} (h:RepD w X (.sl e rows) v):rows.length≤maxLen∧rows.length * e.bytes≤room∧∀ r∈rows,r.length=e.sz:=by
 cases h with
 | nil _ _=>exact ⟨zI _,by simp,by simp⟩
 | sl u hl hm hb hsz _ _=>exact ⟨by omega,hb,hsz⟩
theorem W_sl {c:XC} {Q:Exit→St→Prop} {s:St} (n:Nat) {e:Elt} {rows:List (List D)} (hs:s.slots n = .d (.sl e rows)) (h:rows.length≤maxLen∧rows.length * e.bytes≤room∧(∀ r∈rows,r.length=e.sz)→W Γ P N rl n0 c Q s):W Γ P N rl n0 c Q s :=
 W_fact (fun z M ρ a w S=>by
  have:=S.slots n
  rw [hs] at this
  cases this with
  | d hx=>exact hx.slFact) h
theorem W_nil {c:XC} {Q:Exit→St→Prop} {s:St} (n:Nat) {e:Elt} {rows:List (List D)} (hs:s.slots n = .d (.sl e rows)) (h0:rows=[]→W Γ P N rl n0 c Q ⟨upd s.slots n .nil,s.heap⟩)
  (h1:W Γ P N rl n0 c Q ⟨upd s.slots n (.nn e rows),s.heap⟩):W Γ P N rl n0 c Q s:=fun code hc z M ρ a w hz hn S=>by
 have hx:=S.slots n
 rw [hs] at hx
 have hx':=d_inv hx
 obtain ⟨b,cap,hv,_⟩:=sl_inv hx'
 have other:∀ y,RepA w M ρ s.heap y (valAt a.tmps n)→Sim z w M ρ ⟨upd s.slots n y,s.heap⟩ a:=fun y hy =>
  ⟨S.bnd,S.sim,fun m=>by
   dsimp only [upd]
   by_cases hm:m=n
   ·rw [if_pos hm,hm];exact hy
   ·rw [if_neg hm];exact S.slots m,S.size,S.nlt,S.tabs,S.defers⟩
 cases b with
 | none =>
  rw [hv] at hx'
  obtain ⟨r0,r1,r2⟩:=nil_cap hx'
  rw [r1,r2] at hv
  exact wpIn_mono (h0 r0 code hc z M ρ a w hz hn (other _ (by rw [hv];exact .nil))) fun _ _ _ hp=>hp
 | some b =>
  exact wpIn_mono (h1 code hc z M ρ a w hz hn (other _ (by rw [hv];rw [hv] at hx';exact .nn hx'))) fun _ _ _ hp=>hp
end Go.Proofs.YtlllnjhgjijnkaaDoor.Nx
namespace Go.Proofs.YtlllnjhgjijnkaaDoor.Nx
open Go
variable {Γ:Ctx} {P:Program} {F:Fns} {pl:Option Nat} {ev:XO→A} {h:Heap} {K:A→Heap→Prop}
def FillB (h:Heap) (K:A→Heap→Prop) (cs:List A) (l:List (Nat × Nat × A)):Prop:=fillTo cs l fun c=>K (.agg c) h
theorem x_build {z:List A} {ps:List (Nat × Nat × XO)}:exec F pl (.build z ps) ev h K=FillB h K z (ps.map fun p=>(p.1,p.2.1,ev p.2.2)):=Eq.trans rfl rfl
theorem fl_nil {cs:List A}:FillB h K cs []=K (.agg cs) h:=Eq.trans rfl rfl
theorem fl_cons {cs:List A} {off n:Nat} {x:A} {r:List (Nat × Nat × A)}:FillB h K cs ((off,n,x)::r)=(x.okCells=true∧x.cells.length=n∧off+n≤cs.length∧FillB h K (splice cs off x.cells) r):=Eq.trans rfl rfl
def RowsB (e:Elt) (n:Nat) (pl:Option Nat) (h:Heap) (K:A→Heap→Prop) (rows:List (List A)) (l:List (Nat × A)):Prop:=rowsTo e.sz rows l fun rows=>Place pl h (.cells e rows) (fun id=>.ref id n 0 n true) K
theorem x_bslice {e:Elt} {z:List A} {n:Nat} {ps:List (Nat × XO)}:exec F pl (.bslice e z n ps) ev h K=RowsB e n pl h K (List.replicate n z) (ps.map fun p=>(p.1,ev p.2)):=by
 simp only [exec,RowsB,place_eq (mk:=fun id=>.ref id n 0 n true)]
theorem rw_nil {e:Elt} {n:Nat} {rows:List (List A)}:RowsB e n pl h K rows []=Place pl h (.cells e rows) (fun id=>.ref id n 0 n true) K:=Eq.trans rfl rfl
theorem rw_cons {e:Elt} {n i:Nat} {x:A} {rows:List (List A)} {r:List (Nat × A)}:RowsB e n pl h K rows ((i,x)::r)=(x.okCells=true∧x.cells.length=e.sz∧i<rows.length∧RowsB e n pl h K (rows.set i x.cells) r):=Eq.trans rfl rfl
def SrcB (e:Elt) (N off len:Nat):Option HB→Option (List (List A))
 | some (.cells e' rows)=>if e'.sz=e.sz∧N=rows.length then some ((rows.drop off).take len) else none
 | _=>none
theorem sr_nil {e:Elt}:srcRows e h .nil=some []:=Eq.trans rfl rfl
theorem sr_sl {e e':Elt} {rows:List (List D)}:srcRows e h (.d (.sl e' rows))=if e'.sz=e.sz then some (rows.map fun r=>r.map .d) else none:=Eq.trans rfl rfl
theorem sr_nn {e e':Elt} {rows:List (List D)}:srcRows e h (.nn e' rows)=if e'.sz=e.sz then some (rows.map fun r=>r.map .d) else none:=Eq.trans rfl rfl
theorem sr_fd {e e':Elt} {rows:List (List D)}:srcRows e h (.fd e' rows)=if e'.sz=e.sz then some (rows.map fun r=>r.map .d) else none:=Eq.trans rfl rfl
theorem sr_ref {e:Elt} {id N off len:Nat} {full:Bool}:srcRows e h (.ref id N off len full)=SrcB e N off len h[id]? := by
 simp only [srcRows,SrcB]
 generalize h[id]? = o
 rcases o with _ | (⟨e,rows⟩ | _ | _)<;>rfl
theorem sr_str {e:Elt} {s:ByteArray}:srcRows e h (.d (.sc (.string s)))=if e.sz=1 then some (s.data.toList.map fun b=>[.sc (.int .u8 b.toNat)]) else none:=Eq.trans rfl rfl
theorem sr_b {e e':Elt} {N off len:Nat} {rows:List (List A)}:SrcB e N off len (some (.cells e' rows))=if e'.sz=e.sz∧N=rows.length then some ((rows.drop off).take len) else none:=Eq.trans rfl rfl
def AppB (e:Elt) (h:Heap) (K:A→Heap→Prop) (new:List (List A)) (id N off len:Nat) (full:Bool):Option HB→Prop
 | some (.cells e' rows)=>e'=e∧N=rows.length∧off=0∧(len+new.length) * e.bytes≤room∧len+new.length≤maxLen ∧
   if len=N then K (.ref id (N+new.length) 0 (N+new.length) true) (h.set id (.cells e (rows++new)))
   else full=true∧len+new.length≤N∧K (.ref id N 0 (len+new.length) true) (h.set id (.cells e (rows.take len++new++rows.drop (len+new.length))))
 | _=>False
def App (e:Elt) (pl:Option Nat) (h:Heap) (K:A→Heap→Prop):Option (List (List A))→A→Prop
 | some new,.nil=>if new=[] then K .nil h else new.length * e.bytes≤room∧new.length≤maxLen∧Place pl h (.cells e new) (fun id=>.ref id new.length 0 new.length true) K
 | some new,.ref id N off len full=>AppB e h K new id N off len full h[id]?
 | some new,.fd e' rows=>e'.sz=e.sz∧new≠[]∧(rows.length+new.length) * e.bytes≤room∧rows.length+new.length≤maxLen∧Place pl h (.cells e ((rows.map fun r=>r.map .d)++new)) (fun id=>.ref id (rows.length+new.length) 0 (rows.length+new.length) true) K
 | _,_=>False
theorem x_append {e:Elt} {x y:XO}:exec F pl (.append e x y) ev h K=App e pl h K (srcRows e h (ev y)) (ev x):=by
 simp only [exec]
 generalize srcRows e h (ev y)=o
 generalize ev x=a
 cases o with
 | none=>cases a<;>rfl
 | some new =>
  cases a with
  | nil=>simp only [App,place_eq (mk:=fun id=>.ref id new.length 0 new.length true)]
  | fd e' rows=>simp only [App,place_eq (mk:=fun id=>.ref id (rows.length+new.length) 0 (rows.length+new.length) true)]
  | ref id N off len full =>
   dsimp only [App]
   generalize h[id]? = o
   rcases o with _ | (⟨e,rows⟩ | _ | _)<;>rfl
  | _=>rfl
theorem ap_nil {e:Elt} {new:List (List A)}:App e pl h K (some new) .nil=if new=[] then K .nil h else new.length * e.bytes≤room∧new.length≤maxLen∧Place pl h (.cells e new) (fun id=>.ref id new.length 0 new.length true) K:=Eq.trans rfl rfl
theorem ap_ref {e:Elt} {new:List (List A)} {id N off len:Nat} {full:Bool}:App e pl h K (some new) (.ref id N off len full)=AppB e h K new id N off len full h[id]? := Eq.trans rfl rfl
theorem ap_fd {e e':Elt} {new:List (List A)} {rows:List (List D)}:App e pl h K (some new) (.fd e' rows)=(e'.sz=e.sz∧new≠[]∧(rows.length+new.length) * e.bytes≤room∧rows.length+new.length≤maxLen∧Place pl h (.cells e ((rows.map fun r=>r.map .d)++new)) (fun id=>.ref id (rows.length+new.length) 0 (rows.length+new.length) true) K):=Eq.trans rfl rfl
theorem ap_b {e e':Elt} {new rows:List (List A)} {id N off len:Nat} {full:Bool}:AppB e h K new id N off len full (some (.cells e' rows))=(e'=e∧N=rows.length∧off=0∧(len+new.length) * e.bytes≤room∧len+new.length≤maxLen ∧
   if len=N then K (.ref id (N+new.length) 0 (N+new.length) true) (h.set id (.cells e (rows++new)))
   else full=true∧len+new.length≤N∧K (.ref id N 0 (len+new.length) true) (h.set id (.cells e (rows.take len++new++rows.drop (len+new.length))))):=Eq.trans rfl rfl
def CopyB (e:Elt) (h:Heap) (K:A→Heap→Prop) (new:List (List A)) (id N off len:Nat):Option HB→Prop
 | some (.cells e' rows)=>e'=e∧N=rows.length∧K (.int (min new.length len:Nat)) (h.set id (.cells e (rows.take off++new.take (min new.length len)++rows.drop (off+min new.length len))))
 | _=>False
def Copy (e:Elt) (h:Heap) (K:A→Heap→Prop):Option (List (List A))→A→Prop
 | some new,.ref id N off len _=>CopyB e h K new id N off len h[id]?
 | _,_=>False
theorem x_copy {e:Elt} {x y:XO}:exec F pl (.copy e x y) ev h K=Copy e h K (srcRows e h (ev y)) (ev x):=by
 simp only [exec]
 generalize srcRows e h (ev y)=o
 generalize ev x=a
 cases o with
 | none=>cases a<;>rfl
 | some new =>
  cases a with
  | ref id N off len full =>
   dsimp only [Copy]
   generalize h[id]? = o
   rcases o with _ | (⟨e,rows⟩ | _ | _)<;>rfl
  | _=>rfl
theorem cp_ref {e:Elt} {new:List (List A)} {id N off len:Nat} {full:Bool}:Copy e h K (some new) (.ref id N off len full)=CopyB e h K new id N off len h[id]? := Eq.trans rfl rfl
theorem cp_b {e e':Elt} {new rows:List (List A)} {id N off len:Nat}:CopyB e h K new id N off len (some (.cells e' rows))=(e'=e∧N=rows.length∧K (.int (min new.length len:Nat)) (h.set id (.cells e (rows.take off++new.take (min new.length len)++rows.drop (off+min new.length len))))):=Eq.trans rfl rfl
def OptV:A→Option Int
 | .d (.sc (.int _ n))=>some n
 | _=>none
theorem o_none {d:Nat}:optInt ev none d=some (d:Int):=Eq.trans rfl rfl
theorem o_some {y:XO} {d:Nat}:optInt ev (some y) d=OptV (ev y):=by
 simp only [optInt]
 generalize ev y=a
 rcases a with _ | _ | (v | _) | _ | _ | _ | _ | _ | _ | _ | _ | _<;>try rfl
theorem o_v {k:IntKind} {n:Int}:OptV (.d (.sc (.int k n)))=some n:=Eq.trans rfl rfl
def SliceS (e e':Elt) (rows:List (List D)) (h:Heap) (K:A→Heap→Prop) (mx:Option XO):Option Int→Option Int→Option Int→Prop
 | some l,some u,some m=>e'.sz=e.sz∧0≤l∧l≤u∧u≤m∧m≤rows.length∧K (cutA mx.isSome l u m e' rows) h
 | _,_,_=>False
def SliceR (e e':Elt) (rows:List (List A)) (id N off len:Nat) (full:Bool) (h:Heap) (K:A→Heap→Prop):Option Int→Option Int→Option Int→Prop
 | some l,some u,some m=>e'.sz=e.sz∧N=rows.length∧0≤l∧l≤u∧u≤m∧m≤len∧K (.ref id N (off+l.toNat) (u-l).toNat full) h
 | _,_,_=>False
def SliceB (e:Elt) (h:Heap) (K:A→Heap→Prop) (ev:XO→A) (lo hi mx:Option XO) (id N off len:Nat) (full:Bool):Option HB→Prop
 | some (.cells e' rows)=>SliceR e e' rows id N off len (full&&mx.isNone) h K (optInt ev lo 0) (optInt ev hi len) (optInt ev mx len)
 | _=>False
def SliceA (e:Elt) (h:Heap) (K:A→Heap→Prop) (ev:XO→A) (lo hi mx:Option XO):A→Prop
 | .nil=>optInt ev lo 0=some 0∧optInt ev hi 0=some 0∧optInt ev mx 0=some 0∧K .nil h
 | .d (.sl e' rows)=>SliceS e e' rows h K mx (optInt ev lo 0) (optInt ev hi rows.length) (optInt ev mx rows.length)
 | .nn e' rows=>SliceS e e' rows h K mx (optInt ev lo 0) (optInt ev hi rows.length) (optInt ev mx rows.length)
 | .ref id N off len full=>SliceB e h K ev lo hi mx id N off len full h[id]?
 | _=>False
theorem x_slice {e:Elt} {x:XO} {lo hi mx:Option XO}:exec F pl (.slice e x lo hi mx) ev h K=SliceA e h K ev lo hi mx (ev x):=by
 simp only [exec]
 generalize ev x=a
 cases a with
 | d y=>cases y with
  | sl e' rows =>
   dsimp only [SliceA]
   generalize optInt ev lo 0=l
   generalize optInt ev hi rows.length=u
   generalize optInt ev mx rows.length=m
   cases l<;>cases u<;>cases m<;>rfl
  | sc _=>rfl
 | nn e' rows =>
  dsimp only [SliceA]
  generalize optInt ev lo 0=l
  generalize optInt ev hi rows.length=u
  generalize optInt ev mx rows.length=m
  cases l<;>cases u<;>cases m<;>rfl
 | ref id N off len full =>
  dsimp only [SliceA]
  generalize h[id]? = o
  rcases o with _ | (⟨e',rows⟩ | _ | _)<;>try rfl
 | _=>rfl
theorem sc_nil {e:Elt} {lo hi mx:Option XO}:SliceA e h K ev lo hi mx .nil=(optInt ev lo 0=some 0∧optInt ev hi 0=some 0∧optInt ev mx 0=some 0∧K .nil h):=Eq.trans rfl rfl
theorem sc_sl {e e':Elt} {rows:List (List D)} {lo hi mx:Option XO}:SliceA e h K ev lo hi mx (.d (.sl e' rows))=SliceS e e' rows h K mx (optInt ev lo 0) (optInt ev hi rows.length) (optInt ev mx rows.length):=Eq.trans rfl rfl
theorem sc_nn {e e':Elt} {rows:List (List D)} {lo hi mx:Option XO}:SliceA e h K ev lo hi mx (.nn e' rows)=SliceS e e' rows h K mx (optInt ev lo 0) (optInt ev hi rows.length) (optInt ev mx rows.length):=Eq.trans rfl rfl
theorem sc_ref {e:Elt} {id N off len:Nat} {full:Bool} {lo hi mx:Option XO}:SliceA e h K ev lo hi mx (.ref id N off len full)=SliceB e h K ev lo hi mx id N off len full h[id]? := Eq.trans rfl rfl
theorem sc_b {e e':Elt} {rows:List (List A)} {id N off len:Nat} {full:Bool} {lo hi mx:Option XO}:SliceB e h K ev lo hi mx id N off len full (some (.cells e' rows))=SliceR e e' rows id N off len (full&&mx.isNone) h K (optInt ev lo 0) (optInt ev hi len) (optInt ev mx len):=Eq.trans rfl rfl
theorem sc_s {e e':Elt} {rows:List (List D)} {l u m:Int}:SliceS e e' rows h K none (some l) (some u) (some m)=(e'.sz=e.sz∧0≤l∧l≤u∧u≤m∧m≤rows.length∧K (.d (.sl e' ((rows.drop l.toNat).take (u-l).toNat))) h):=Eq.trans rfl rfl
theorem sc_m {e e':Elt} {rows:List (List D)} {l u m:Int} {x:XO}:SliceS e e' rows h K (some x) (some l) (some u) (some m)=(e'.sz=e.sz∧0≤l∧l≤u∧u≤m∧m≤rows.length∧K (cutA true l u m e' rows) h):=Eq.trans rfl rfl
theorem sc_r {e e':Elt} {rows:List (List A)} {id N off len:Nat} {full:Bool} {l u m:Int}:SliceR e e' rows id N off len full h K (some l) (some u) (some m)=(e'.sz=e.sz∧N=rows.length∧0≤l∧l≤u∧u≤m∧m≤len∧K (.ref id N (off+l.toNat) (u-l).toNat full) h):=Eq.trans rfl rfl
def SslcS (s:ByteArray) (h:Heap) (K:A→Heap→Prop):Option Int→Option Int→Prop
 | some l,some u=>0≤l∧l≤u∧u≤s.size∧K (.str (s.extract l.toNat u.toNat)) h
 | _,_=>False
def Sslc (h:Heap) (K:A→Heap→Prop) (ev:XO→A) (lo hi:Option XO):A→Prop
 | .d (.sc (.string s))=>SslcS s h K (optInt ev lo 0) (optInt ev hi s.size)
 | _=>False
theorem x_sslice {x:XO} {lo hi:Option XO}:exec F pl (.sslice x lo hi) ev h K=Sslc h K ev lo hi (ev x):=by
 simp only [exec]
 generalize ev x=a
 rcases a with _ | _ | (v | _) | _ | _ | _ | _ | _ | _ | _ | _ | _<;>try rfl
theorem sl_str {s:ByteArray} {lo hi:Option XO}:Sslc h K ev lo hi (.d (.sc (.string s)))=SslcS s h K (optInt ev lo 0) (optInt ev hi s.size):=Eq.trans rfl rfl
theorem sl_s {s:ByteArray} {l u:Int}:SslcS s h K (some l) (some u)=(0≤l∧l≤u∧u≤s.size∧K (.str (s.extract l.toNat u.toNat)) h):=Eq.trans rfl rfl
def EqC:Option Bool→Option Bool→Option Bool
 | some b,some c=>some (b&&c)
 | _,_=>none
theorem ea_nil {xs ys:List A}:eqAll [] xs ys=some true:=Eq.trans rfl rfl
theorem ea_cons {j:Nat} {k:EqK} {ks:List (Nat × EqK)} {xs ys:List A}:eqAll ((j,k)::ks) xs ys=EqC (scEq k (xs.getD j .any) (ys.getD j .any)) (eqAll ks xs ys):=by
 simp only [eqAll]
 generalize scEq k (xs.getD j .any) (ys.getD j .any)=a
 generalize eqAll ks xs ys=b
 cases a<;>cases b<;>rfl
theorem ea_c {b c:Bool}:EqC (some b) (some c)=some (b&&c):=Eq.trans rfl rfl
theorem se_i {k:IntKind} {a b:Int}:scEq .i (.d (.sc (.int k a))) (.d (.sc (.int k b)))=some (a == b):=by simp [scEq]
theorem se_s {a b:ByteArray}:scEq .s (.d (.sc (.string a))) (.d (.sc (.string b)))=some (decide (a=b)):=Eq.trans rfl rfl
theorem se_b {a b:Bool}:scEq .b (.d (.sc (.bool a))) (.d (.sc (.bool b)))=some (a == b):=Eq.trans rfl rfl
def EqR (neg:Bool) (h:Heap) (K:A→Heap→Prop):Option Bool→Prop
 | some b=>K (.bool (if neg then !b else b)) h
 | none=>False
def EqS (neg:Bool) (n:Nat) (ks:List (Nat × EqK)) (h:Heap) (K:A→Heap→Prop):A→A→Prop
 | .agg xs,.agg ys=>xs.length=n∧ys.length=n∧EqR neg h K (eqAll ks xs ys)
 | _,_=>False
theorem x_eqs {neg:Bool} {n:Nat} {ks:List (Nat × EqK)} {x y:XO}:exec F pl (.eqs neg n ks x y) ev h K=EqS neg n ks h K (ev x) (ev y):=by
 simp only [exec]
 generalize ev x=a
 generalize ev y=b
 cases a with
 | agg xs=>cases b with
  | agg ys =>
   dsimp only [EqS]
   generalize eqAll ks xs ys=o
   cases o<;>rfl
  | _=>rfl
 | _=>cases b<;>rfl
theorem eq_agg {neg:Bool} {n:Nat} {ks:List (Nat × EqK)} {xs ys:List A}:EqS neg n ks h K (.agg xs) (.agg ys)=(xs.length=n∧ys.length=n∧EqR neg h K (eqAll ks xs ys)):=Eq.trans rfl rfl
theorem eq_f {b:Bool}:EqR false h K (some b)=K (.bool b) h:=Eq.trans rfl rfl
theorem eq_t {b:Bool}:EqR true h K (some b)=K (.bool (!b)) h:=Eq.trans rfl rfl
def EqB (neg:Bool) (h:Heap) (K:A→Heap→Prop):A→A→Prop
 | .d (.sc (.bool a)),.d (.sc (.bool b))=>K (.bool (if neg then a != b else a == b)) h
 | _,_=>False
theorem x_eqb {neg:Bool} {x y:XO}:exec F pl (.eqb neg x y) ev h K=EqB neg h K (ev x) (ev y):=by
 simp only [exec]
 generalize ev x=a
 generalize ev y=b
 rcases a with _ | _ | (v | _) | _ | _ | _ | _ | _ | _ | _ | _ | _<;>try rfl
theorem eb_f {a b:Bool}:EqB false h K (.d (.sc (.bool a))) (.d (.sc (.bool b)))=K (.bool (a == b)) h:=Eq.trans rfl rfl
theorem eb_t {a b:Bool}:EqB true h K (.d (.sc (.bool a))) (.d (.sc (.bool b)))=K (.bool (a != b)) h:=Eq.trans rfl rfl
def Conv (k:IntKind) (h:Heap) (K:A→Heap→Prop):A→Prop
 | .d (.sc (.int _ n))=>K (.sc (.int k (k.wrap n))) h
 | _=>False
theorem x_conv {k:IntKind} {x:XO}:exec F pl (.conv k x) ev h K=Conv k h K (ev x):=by
 simp only [exec]
 generalize ev x=a
 rcases a with _ | _ | (v | _) | _ | _ | _ | _ | _ | _ | _ | _ | _<;>try rfl
theorem cv_i {k k':IntKind} {n:Int}:Conv k h K (.d (.sc (.int k' n)))=K (.sc (.int k (k.wrap n))) h:=Eq.trans rfl rfl
def ExtI (h:Heap) (K:A→Heap→Prop):Option A→Prop
 | some a=>K a h
 | none=>False
def Ext (i:Nat) (h:Heap) (K:A→Heap→Prop):A→Prop
 | .tup l=>ExtI h K l[i]?
 | _=>False
theorem x_extract {i:Nat} {x:XO}:exec F pl (.extract i x) ev h K=Ext i h K (ev x):=by
 simp only [exec]
 generalize ev x=a
 cases a with
 | tup l =>
  dsimp only [Ext]
  generalize l[i]? = o
  cases o<;>rfl
 | _=>rfl
theorem ex_tup {i:Nat} {l:List A}:Ext i h K (.tup l)=ExtI h K l[i]? := Eq.trans rfl rfl
theorem ex_i {a:A}:ExtI h K (some a)=K a h:=Eq.trans rfl rfl
theorem x_mkfn {f:FuncId} {caps:List XO}:exec F pl (.mkfn f caps) ev h K=K (.fn f (caps.map ev)) h:=Eq.trans rfl rfl
def Calle (F:Fns) (h:Heap) (K:A→Heap→Prop) (args:List A):A→Prop
 | .fn g caps=>∃ r h',F.call g (args++caps) h r h'∧K r h'
 | .yld id=>∃ r h',F.round id args h r h'∧K r h'
 | _=>False
theorem x_calle {f:XO} {args:List XO}:exec F pl (.calle f args) ev h K=Calle F h K (args.map ev) (ev f):=by
 simp only [exec]
 generalize ev f=a
 cases a<;>rfl
theorem ce_fn {g:FuncId} {args:List A} {r:A} {h':Heap} (hf:FnD Γ P g args h r h') (hK:K r h'):Calle (.all Γ P) h K args (.fn g []):=by
 simp only [Calle,zP]
 exact ⟨r,h',hf,hK⟩
theorem ce_yld {id:Nat} {args:List A} {r:A} {h':Heap} (hf:RoundD Γ P id args h r h') (hK:K r h'):Calle (.all Γ P) h K args (.yld id):=⟨r,h',hf,hK⟩
def Callr (F:Fns) (h:Heap) (K:A→Heap→Prop) (args:List A):A→Prop
 | .fn g caps=>∃ r t,F.call g (args++caps) h r (h++t)∧K r (h++t)
 | _=>False
theorem x_callr {f:XO} {args:List XO}:exec F pl (.callr f args) ev h K=Callr F h K (args.map ev) (ev f):=by
 simp only [exec]
 generalize ev f=a
 cases a<;>rfl
theorem cr_fn {g:FuncId} {args:List A} {r:A} {t:Heap} (hf:FnD Γ P g args h r (h++t)) (hK:K r (h++t)):Callr (.all Γ P) h K args (.fn g []):=by
 simp only [Callr,zP]
 exact ⟨r,t,hf,hK⟩
def Calln (F:Fns) (h:Heap) (K:A→Heap→Prop) (args:List A):A→Prop
 | .fn g caps=>(∀ x∈args,∀ id,x.touch=some id→∃ e rows,h[id]? = some (.cells e rows)) ∧
   ∃ r,(∀ h':Heap,(∀ x∈args,∀ id,x.touch=some id→h'[id]? = h[id]?)→F.call g (args++caps) h' r h')∧K r h
 | _=>False
theorem x_calln {f:XO} {args:List XO}:exec F pl (.calln f args) ev h K=Calln F h K (args.map ev) (ev f):=by
 simp only [exec]
 generalize ev f=a
 cases a<;>simp only [Calln,List.forall_mem_map]
theorem c_clo {g:FuncId} {args caps:List A} {r:A} (hf:FnP Γ.t P g (args++caps) r) (h0:A.underL 0 (args++caps)=true) (hK:K r h):Call (.all Γ P) h K args (.fn g caps):=⟨h0,r,hf,hK⟩
def Sidx (h:Heap) (K:A→Heap→Prop):A→A→Prop
 | .d (.sc (.string s)),.d (.sc (.int _ n))=>0≤n∧n<s.size∧K (.sc (.int .u8 (s.data.toList.getD n.toNat 0).toNat)) h
 | _,_=>False
theorem x_sidx {x i:XO}:exec F pl (.sidx x i) ev h K=Sidx h K (ev x) (ev i):=by
 simp only [exec]
 generalize ev x=a
 generalize ev i=b
 rcases a with _ | _ | (v | _) | _ | _ | _ | _ | _ | _ | _ | _ | _<;>try rfl
theorem si_s {s:ByteArray} {k:IntKind} {n:Int}:Sidx h K (.d (.sc (.string s))) (.d (.sc (.int k n)))=(0≤n∧n<s.size∧K (.sc (.int .u8 (s.data.toList.getD n.toNat 0).toNat)) h):=Eq.trans rfl rfl
def MinMax (isMax:Bool) (h:Heap) (K:A→Heap→Prop):List A→Prop
 | [.d (.sc (.int k a)),.d (.sc (.int k' b))]=>k=k'∧K (.sc (.int k (minmaxInt isMax a b))) h
 | [.d (.sc (.int k a)),.d (.sc (.int k' b)),.d (.sc (.int k'' c))]=>k=k'∧k=k''∧K (.sc (.int k (minmaxInt isMax (minmaxInt isMax a b) c))) h
 | _=>False
theorem x_minmax2 {isMax:Bool} {x y:XO}:exec F pl (.minmax isMax [x,y]) ev h K=MinMax isMax h K [ev x,ev y]:=by
 simp only [exec]
 generalize ev x=a
 generalize ev y=b
 rcases a with _ | _ | (v | _) | _ | _ | _ | _ | _ | _ | _ | _ | _<;>try rfl
 cases v<;>try rfl
 rcases b with _ | _ | (v | _) | _ | _ | _ | _ | _ | _ | _ | _ | _<;>try rfl
 cases v<;>rfl
theorem mm_2 {isMax:Bool} {k:IntKind} {a b:Int}:MinMax isMax h K [.d (.sc (.int k a)),.d (.sc (.int k b))]=K (.sc (.int k (minmaxInt isMax a b))) h:=by simp [MinMax]
def Make (e:Elt) (z:List A) (pl:Option Nat) (h:Heap) (K:A→Heap→Prop):A→A→Prop
 | .d (.sc (.int .i64 n)),.d (.sc (.int .i64 c))=>0≤n∧n≤c∧c≤9223372036854775807∧c * e.bytes≤room∧Place pl h (.cells e (List.replicate n.toNat z)) (fun id=>.ref id n.toNat 0 n.toNat true) K
 | _,_=>False
theorem x_make {e:Elt} {z:List A} {n c:XO}:exec F pl (.make e z n c) ev h K=Make e z pl h K (ev n) (ev c):=by
 simp only [exec]
 generalize ev n=a
 generalize ev c=b
 rcases a with _ | _ | (v | _) | _ | _ | _ | _ | _ | _ | _ | _ | _<;>try rfl
theorem mk_i {e:Elt} {z:List A} {n c:Int}:Make e z pl h K (.d (.sc (.int .i64 n))) (.d (.sc (.int .i64 c)))=(0≤n∧n≤c∧c≤9223372036854775807∧c * e.bytes≤room∧Place pl h (.cells e (List.replicate n.toNat z)) (fun id=>.ref id n.toNat 0 n.toNat true) K):=Eq.trans rfl rfl
def EqNilB (neg:Bool) (h:Heap) (K:A→Heap→Prop) (N:Nat):Option HB→Prop
 | some (.cells _ rows)=>N=rows.length∧0<N∧K (.bool neg) h
 | _=>False
def EqNil (neg:Bool) (h:Heap) (K:A→Heap→Prop):A→Prop
 | .nil=>K (.bool (!neg)) h
 | .nn _ _=>K (.bool neg) h
 | .d (.sl _ rows)=>rows≠[]∧K (.bool neg) h
 | .ref id N _ _ _=>EqNilB neg h K N h[id]?
 | _=>False
theorem x_eqnil {neg:Bool} {x:XO}:exec F pl (.eqnil neg x) ev h K=EqNil neg h K (ev x):=by
 simp only [exec]
 generalize ev x=a
 rcases a with _ | _ | (v | _) | _ | _ | _ | _ | _ | ⟨id,N,off,len,full⟩ | _ | _ | _<;>try rfl
def andI (k:IntKind) (a b:Int):Int:=k.wrap (BitVec.ofInt k.bits a &&& BitVec.ofInt k.bits b).toNat
theorem b_and {k:IntKind} {a b:Int}:Bin .and h K (.d (.sc (.int k a))) (.d (.sc (.int k b)))=K (.sc (.int k (andI k a b))) h:=by simp [Bin,binRes,intRes,BinK,andI]
theorem b_rem {k:IntKind} {a b:Int} (hb:b≠0):Bin .rem h K (.d (.sc (.int k a))) (.d (.sc (.int k b)))=K (.sc (.int k (a.tmod b))) h:=by simp [Bin,binRes,intRes,BinK,hb]
end Go.Proofs.YtlllnjhgjijnkaaDoor.Nx
namespace Go.Proofs.YtlllnjhgjijnkaaDoor.Nx
open Go
variable {P:Program} {N:Nat} {Γ:Tabs}
theorem Co.frz {n0:Nat} {s:St} (l:List (Nat × A)) (k:Nat) (hl:∀ p∈l,FrzA k s.heap (s.slots p.1) p.2) (hn:n0≤k) (hk:k≤s.heap.length) (hu:∀ B∈s.heap.take k,HB.under k B):Co n0 s ⟨look l,s.heap.take k⟩ :=
 fun z M ρ a w hz S=>⟨ρ.take k,⟨S.bnd,S.sim.take hk hu,fun n=>by
  rcases look_mem (l:=l) (n:=n) with h | h
  ·show RepA w M _ _ (look l n) _
   rw [h];exact .any
  ·exact (hl _ h).rep S.sim hk (S.slots n),S.size,S.nlt,S.tabs.take (Nat.le_trans hz.1 hn) hk,S.defers.evo (Evo.take (n0:=k) (h:=s.heap) (w:=w) (zL _) hk)⟩,.take hn hk⟩
theorem W_sreg {Γ:Ctx} {rl:Option Nat} {n0:Nat} {xs:List XOper} {y:XC} {Q:Exit→St→Prop} {s:St} (h:∀ K:St→Prop,(∀ s',W Γ P N rl n0 y Q s'→K s')→runX (.all Γ P) s.heap.length xs s K):W Γ P N rl n0 (.seq (.reg xs) y) Q s :=
 W_seq (W_reg (h _ fun _ h=>h))
theorem W_sdrw {Γ:Ctx} {rl:Option Nat} {n0:Nat} {m:Nat} {rt:List (Nat × Option Nat)} {xs:List XOper} {y:XC} {Q:Exit→St→Prop} {s:St} (hr:∀ p∈rt,(s.slots p.1).touch=none)
  (h:∀ K:St→Prop,(∀ s',W Γ P N rl n0 y Q s'→K s')→runX (.all Γ P) s.heap.length xs { s with heap:=s.heap++List.replicate m .res } K):W Γ P N rl n0 (.seq (.drw m xs rt) y) Q s :=
 W_seq (W_drw hr (h _ fun _ h=>h))
theorem run_take {F:Fns} {b:Nat} {K:St→Prop}:∀ (n:Nat) {l:List XOper} {s:St},(∀ K':St→Prop,(∀ s',runX F b (l.drop n) s' K→K' s')→runX F b (l.take n) s K')→runX F b l s K:=by
 intro n l s h
 have:∀ (n:Nat) (l:List XOper) (s:St),runX F b (l.take n) s (fun s'=>runX F b (l.drop n) s' K)→runX F b l s K:=by
  intro n
  induction n with
  | zero=>intro l s h;exact h
  | succ n ih =>
   intro l s h
   cases l with
   | nil=>exact h
   | cons x l=>exact stepX_mono (fun s' hs=>ih l s' hs) h
 exact this n l s (h _ fun _ h=>h)
theorem take_eq_succ {α:Type} {a b:List α} {i:Nat} (hi:i<a.length) (hj:i<b.length) (h:a.take i=b.take i) (he:a[i]=b[i]):a.take (i+1)=b.take (i+1):=by
 rw [List.take_add_one,List.take_add_one,h,zB hi,zB hj,he]
theorem any_take_succ {α:Type} {p:α→Bool} {l:List α} {i:Nat} (hi:i<l.length) (h:(l.take i).any p=false) (hp:p l[i]=false):(l.take (i+1)).any p=false:=by
 rw [List.take_add_one,zB hi]
 simp only [Option.toList_some,List.any_append,h,List.any_cons,hp,List.any_nil,Bool.or_false]
theorem le_of_mul {a b c:Nat} (h:a * (b+1)≤c):a≤c:=Nat.le_trans (Nat.le_mul_of_pos_right a (Nat.succ_pos b)) h
theorem i64_of {x:Int} (h : -9000000000000000000≤x∧x≤9000000000000000000):IntKind.i64.wrap x=x:=IntWalk.i64_in _ (by omega)
theorem i64_succ {i n:Nat} (hi:i<n) (hn:n≤room):IntKind.i64.wrap ((i:Int)+1)=((i+1:Nat):Int):=by
 rw [IntWalk.i64_in _ (by unfold room at hn;omega)];rfl
theorem i64_pred {n:Nat} (hn:n≤room):IntKind.i64.wrap (((n+1:Nat):Int)-1)=(n:Int):=by
 rw [IntWalk.i64_in _ (by unfold room at hn;omega)];omega
theorem i64_nat {n:Nat} (hn:n≤room):IntKind.i64.wrap (n:Int)=(n:Int):=IntWalk.i64_in _ (by unfold room at hn;omega)
theorem Turn.app {L:List (Nat × HB)} {h:Heap} (hL:Has L h) (t:Heap):Turn L L h (h++t) :=
 ⟨hL.app t,by simp,fun q hq _=>zF hq,fun q hq=>.inl hq⟩
theorem hp_g0 {h t:Heap} {B:HB}:(h++B::t)[h.length]? = some B:=by simp
theorem hp_g1 {h t:Heap} {B C:HB}:(h++B::C::t)[h.length+1]? = some C:=by
 rw [zG (by omega)];simp
theorem hp_s0 {h t:Heap} {B X:HB}:(h++B::t).set h.length X=h++X::t:=by simp
theorem hp_s1 {h t:Heap} {B C X:HB}:(h++B::C::t).set (h.length+1) X=h++B::X::t:=by
 rw [List.set_append_right _ _ (by omega)];simp
theorem RetQ.tmp {n:Nat} {r:A} {s:St} (h:s.slots n=r) (hu:r.under 0=true):RetQ [.t n] r .ret s:=⟨.inr rfl,by
 simp only [readRs,readR,single,h]
 exact .same hu⟩
theorem RetQ.frz {n:Nat} {r:A} {s:St} (h:FrzA 0 s.heap (s.slots n) r):RetQ [.t n] r .ret s:=⟨.inr rfl,by
 simp only [readRs,readR,single]
 exact h⟩
theorem frz_rows {k id off len:Nat} {full:Bool} {e:Elt} {h:Heap} {rows:List (List D)} (hk:k≤id) (hh:h[id]? = some (.cells e (rows.map fun r=>r.map .d))) (hl:off+len≤rows.length) :
  FrzA k h (.ref id rows.length off len full) (.d (.sl e ((rows.drop off).take len))):=by
 have hlen:(rows.map fun r=>r.map A.d).length=rows.length:=by simp
 rw [← hlen]
 have get:∀ i r,((rows.drop off).take len)[i]? = some r→(rows.map fun r=>r.map A.d).getD (off+i) []=r.map .d:=by
  intro i r hi
  rw [zm] at hi
  split at hi
  ·rw [zl] at hi
   rw [zC,zK,hi];rfl
  ·cases hi
 refine .d (.ref hk hh ?_ (fun i r hi=>?_) (fun i r j d hi hj=>?_))
 ·simp;omega
 ·rw [get i r hi];simp
 ·rw [get i r hi,zC,zK,hj]
  exact .d d
theorem frz_all {id:Nat} {full:Bool} {e:Elt} {h:Heap} {rows:List (List D)} (hh:h[id]? = some (.cells e (rows.map fun r=>r.map .d))) :
  FrzA 0 h (.ref id rows.length 0 rows.length full) (.d (.sl e rows)):=by
 have:=frz_rows (full:=full) (zI id) hh (show 0+rows.length≤rows.length by omega)
 simpa using this
def XC.r:XC→XC
 | .seq _ y=>y
 | x=>x
theorem W_aggd {Γ:Ctx} {rl:Option Nat} {n0:Nat} {c:XC} {Q:Exit→St→Prop} {s:St} (n i:Nat) {xs:List A} {d:D} (hs:s.slots n = .agg xs) (hi:xs[i]? = some (.d d)) {p:Prop}
  (hp:∀ (w:World) (X:Nat→Prop) (v:Value),RepD w X d v→p) (h:p→W Γ P N rl n0 c Q s):W Γ P N rl n0 c Q s :=
 W_fact (fun z M ρ a w S=>by
  have:=S.slots n
  rw [hs] at this
  generalize valAt a.tmps n=v at this
  cases this with
  | agg _ _ hr =>
   have:=hr i _ hi
   revert this
   generalize Array.getD _ i undef=v'
   intro this
   cases this with
   | d hx=>exact hp _ _ _ hx) h
theorem W_aggsl {Γ:Ctx} {rl:Option Nat} {n0:Nat} {c:XC} {Q:Exit→St→Prop} {s:St} (n i:Nat) {xs:List A} {e:Elt} {rows:List (List D)} (hs:s.slots n = .agg xs) (hi:xs[i]? = some (.d (.sl e rows)))
  (h:rows.length≤maxLen∧rows.length * e.bytes≤room∧(∀ r∈rows,r.length=e.sz)→W Γ P N rl n0 c Q s):W Γ P N rl n0 c Q s :=
 W_aggd n i hs hi (fun w X v hx=>hx.slFact) h
end Go.Proofs.YtlllnjhgjijnkaaDoor.Nx
namespace Go.Proofs.YtlllnjhgjijnkaaDoor.Nx
open Go
variable {Γ:Ctx} {P:Program} {F:Fns} {pl:Option Nat} {ev:XO→A} {h:Heap} {K:A→Heap→Prop}
def AaddrB (e:Elt) (len:Nat) (h:Heap) (K:A→Heap→Prop) (id N i off:Nat) (n:Int):Option HB→Prop
 | some (.cells _ rows)=>N=rows.length∧0≤n∧n<len∧K (.ptr id N i (off+n.toNat * e.sz)) h
 | _=>False
def Aaddr (e:Elt) (len:Nat) (h:Heap) (K:A→Heap→Prop):A→A→Prop
 | .ptr id N i off,.d (.sc (.int _ n))=>AaddrB e len h K id N i off n h[id]?
 | .iptr cs,.d (.sc (.int _ n))=>0≤n∧n<len∧K (.iptr (cs.drop (n.toNat * e.sz))) h
 | _,_=>False
theorem x_aaddr {e:Elt} {len:Nat} {x i:XO}:exec F pl (.aaddr e len x i) ev h K=Aaddr e len h K (ev x) (ev i):=by
 simp only [exec,Aaddr]
 generalize ev x=a
 generalize ev i=b
 rcases a with _ | _ | (v | _) | _ | _ | _ | _ | _ | _ | _ | _<;>try rfl
theorem aa_ptr {e:Elt} {len id N i off:Nat} {k:IntKind} {n:Int}:Aaddr e len h K (.ptr id N i off) (.d (.sc (.int k n)))=AaddrB e len h K id N i off n h[id]? := Eq.trans rfl rfl
theorem aa_iptr {e:Elt} {len:Nat} {cs:List D} {k:IntKind} {n:Int}:Aaddr e len h K (.iptr cs) (.d (.sc (.int k n)))=(0≤n∧n<len∧K (.iptr (cs.drop (n.toNat * e.sz))) h):=Eq.trans rfl rfl
theorem aa_b {e e':Elt} {rows:List (List A)} {len id N i off:Nat} {n:Int}:AaddrB e len h K id N i off n (some (.cells e' rows))=(N=rows.length∧0≤n∧n<len∧K (.ptr id N i (off+n.toNat * e.sz)) h):=Eq.trans rfl rfl
def Aidx (len n:Nat) (g:Bool) (h:Heap) (K:A→Heap→Prop):A→A→Prop
 | .agg cs,.d (.sc (.int _ m))=>0≤m∧m<len∧LoadC n h K g (cs.drop (m.toNat * n))
 | _,_=>False
theorem x_aidx {len n:Nat} {g:Bool} {x i:XO}:exec F pl (.aidx len n g x i) ev h K=Aidx len n g h K (ev x) (ev i):=by
 simp only [exec,Aidx,loadC_eq]
 generalize ev x=a
 generalize ev i=b
 cases a<;>rfl
theorem ai_agg {len n:Nat} {g:Bool} {cs:List A} {k:IntKind} {m:Int}:Aidx len n g h K (.agg cs) (.d (.sc (.int k m)))=(0≤m∧m<len∧LoadC n h K g (cs.drop (m.toNat * n))):=Eq.trans rfl rfl
def NilckB (h:Heap) (K:A→Heap→Prop) (id N i off:Nat):Option HB→Prop
 | some (.cells _ rows)=>N=rows.length∧K (.ptr id N i off) h
 | _=>False
def Nilck (h:Heap) (K:A→Heap→Prop):A→Prop
 | .ptr id N i off=>NilckB h K id N i off h[id]?
 | .iptr cs=>K (.iptr cs) h
 | .fn f caps=>K (.fn f caps) h
 | _=>False
theorem x_nilck {x:XO}:exec F pl (.nilck x) ev h K=Nilck h K (ev x):=by
 simp only [exec,Nilck]
 generalize ev x=a
 cases a with
 | ptr id N i off =>
  dsimp only
  generalize h[id]? = o
  rcases o with _ | (⟨e,rows⟩ | _ | _)<;>rfl
 | _=>rfl
theorem nk_ptr {id N i off:Nat}:Nilck h K (.ptr id N i off)=NilckB h K id N i off h[id]? := Eq.trans rfl rfl
theorem nk_iptr {cs:List D}:Nilck h K (.iptr cs)=K (.iptr cs) h:=Eq.trans rfl rfl
theorem nk_fn {f:FuncId} {caps:List A}:Nilck h K (.fn f caps)=K (.fn f caps) h:=Eq.trans rfl rfl
theorem nk_b {id N i off:Nat} {e:Elt} {rows:List (List A)}:NilckB h K id N i off (some (.cells e rows))=(N=rows.length∧K (.ptr id N i off) h):=Eq.trans rfl rfl
def S2r (e:Elt) (h:Heap) (K:A→Heap→Prop):A→Prop
 | .d (.sc (.string s))=>(runesOf s).length * e.bytes≤room∧K (.d (.sl e ((runesOf s).map runeRow))) h
 | _=>False
theorem x_s2r {e:Elt} {x:XO}:exec F pl (.s2r e x) ev h K=S2r e h K (ev x):=by
 simp only [exec,S2r]
 generalize ev x=a
 rcases a with _ | _ | (v | _) | _ | _ | _ | _ | _ | _ | _ | _<;>try rfl
theorem s2_s {e:Elt} {s:ByteArray}:S2r e h K (.d (.sc (.string s)))=((runesOf s).length * e.bytes≤room∧K (.d (.sl e ((runesOf s).map runeRow))) h):=Eq.trans rfl rfl
def I2s (h:Heap) (K:A→Heap→Prop):A→Prop
 | .d (.sc (.int _ n))=>K (.str (Utf8.encode n)) h
 | _=>False
theorem x_i2s {x:XO}:exec F pl (.i2s x) ev h K=I2s h K (ev x):=by
 simp only [exec,I2s]
 generalize ev x=a
 rcases a with _ | _ | (v | _) | _ | _ | _ | _ | _ | _ | _ | _<;>try rfl
theorem i2_i {k:IntKind} {n:Int}:I2s h K (.d (.sc (.int k n)))=K (.str (Utf8.encode n)) h:=Eq.trans rfl rfl
variable {k k':IntKind} {a b:Int}
theorem b_quo (hb:b≠0):Bin .quo h K (.d (.sc (.int k a))) (.d (.sc (.int k b)))=K (.sc (.int k (k.wrap (a.tdiv b)))) h:=by simp [Bin,binRes,intRes,BinK,hb]
theorem run_any {F:Fns} {b b':Nat}:∀ {l:List XOper} {s:St} {K:St→Prop},(l.all fun o=>o.pl.isNone)=true→runX F b l s K→runX F b' l s K
 | [],s,K,_,h=>h
 | o::os,s,K,hp,h=>by
  simp only [List.all_cons,Bool.and_eq_true] at hp
  obtain ⟨d,op,g,pl⟩:=o
  obtain ⟨hp1,hp2⟩:=hp
  cases pl with
  | some _=>cases hp1
  | none =>
   have h1:stepX F b ⟨d,op,g,none⟩ s (fun s'=>runX F b os s' K):=h
   have h2:stepX F b' ⟨d,op,g,none⟩ s (fun s'=>runX F b os s' K):=h1
   exact stepX_mono (fun s' hs=>run_any hp2 hs) h2
theorem runC_x {F:Fns} {n0 b:Nat}:∀ {l:List XOper} {s:St} {K:St→Prop},(l.all fun o=>o.pl.isNone)=true→runX F b l s K→runC F n0 l s K
 | [],s,K,_,h=>h
 | o::os,s,K,hp,h=>by
  simp only [List.all_cons,Bool.and_eq_true] at hp
  obtain ⟨d,op,g,pl⟩:=o
  obtain ⟨hp1,hp2⟩:=hp
  cases pl with
  | some _=>cases hp1
  | none =>
   have h1:stepX F b ⟨d,op,g,none⟩ s (fun s'=>runX F b os s' K):=h
   refine ⟨s,.refl _,?_⟩
   have h2:stepX F s.heap.length ⟨d,op,g,none⟩ s (fun s'=>runX F b os s' K):=h1
   exact stepX_mono (fun s' hs=>runC_x hp2 hs) h2
theorem runC_app {F:Fns} {n0:Nat} {l2:List XOper} {K:St→Prop}:∀ {l1:List XOper} {s:St},runC F n0 l1 s (fun s'=>runC F n0 l2 s' K)→runC F n0 (l1++l2) s K
 | [],s,h=>h
 | o::os,s,⟨s1,hco,h⟩=>⟨s1,hco,stepX_mono (fun s' hs=>runC_app hs) h⟩
theorem runC_co {F:Fns} {n0:Nat} {l:List XOper} {s s1:St} {K:St→Prop} (hco:Co n0 s s1) (hl:l≠[]) (h:runC F n0 l s1 K):runC F n0 l s K:=by
 cases l with
 | nil=>exact absurd rfl hl
 | cons o os =>
  obtain ⟨s2,h2,h⟩:=h
  exact ⟨s2,hco.trans h2,h⟩
theorem runC_take {F:Fns} {n0:Nat} {K:St→Prop} (n:Nat) {l:List XOper} {s:St} (hp:((l.take n).all fun o=>o.pl.isNone)=true)
  (h:∀ K':St→Prop,(∀ s',runC F n0 (l.drop n) s' K→K' s')→runX F s.heap.length (l.take n) s K'):runC F n0 l s K:=by
 have:=runC_app (l1:=l.take n) (l2:=l.drop n) (runC_x (n0:=n0) hp (h _ fun _ h=>h))
 rwa [List.take_append_drop] at this
theorem runC_end {F:Fns} {n0:Nat} {K:St→Prop} {l:List XOper} {s:St} (hp:(l.all fun o=>o.pl.isNone)=true) (h:runX F s.heap.length l s K):runC F n0 l s K:=runC_x hp h
theorem W_regCK {N:Nat} {rl:Option Nat} {n0:Nat} {xs:List XOper} {Q:Exit→St→Prop} {s:St} (h:∀ K:St→Prop,(∀ s',Q .normal s'→K s')→runC (.all Γ P) n0 xs s K):W Γ P N rl n0 (.reg xs) Q s :=
 W_regC (h _ fun _ h=>h)
theorem W_sregC {N:Nat} {rl:Option Nat} {n0:Nat} {xs:List XOper} {y:XC} {Q:Exit→St→Prop} {s:St} (h:∀ K:St→Prop,(∀ s',W Γ P N rl n0 y Q s'→K s')→runC (.all Γ P) n0 xs s K):W Γ P N rl n0 (.seq (.reg xs) y) Q s :=
 W_seq (W_regC (h _ fun _ h=>h))
theorem runC_cut {F:Fns} {n0:Nat} {K:St→Prop} (n:Nat) (R:St→Prop) {l:List XOper} {s:St} (hp:((l.take n).all fun o=>o.pl.isNone)=true) (hl:l.drop n≠[])
  (h1:∀ K':St→Prop,(∀ s' s1,Co n0 s' s1→R s1→K' s')→runX F s.heap.length (l.take n) s K') (h2:∀ s1,R s1→runC F n0 (l.drop n) s1 K):runC F n0 l s K :=
 runC_take n hp fun K' hK'=>h1 K' fun s' s1 hc hr=>hK' s' (runC_co hc hl (h2 s1 hr))
theorem W_cut {N:Nat} {rl:Option Nat} {n0:Nat} {x y:XC} {Q:Exit→St→Prop} {s:St} (R:St→Prop) (h1:W Γ P N rl n0 x (fun e s'=>e = .normal∧∃ s1,Co n0 s' s1∧R s1) s) (h2:∀ s1,R s1→W Γ P N rl n0 y Q s1):W Γ P N rl n0 (.seq x y) Q s :=
 W_seq (W_mono (fun e s' ⟨he,s1,hc,hr⟩=>by subst he;exact W_co hc (h2 s1 hr)) h1)
theorem W_cutC {N:Nat} {rl:Option Nat} {n0:Nat} {xs:List XOper} {y:XC} {Q:Exit→St→Prop} {s:St} (R:St→Prop) (h1:∀ K:St→Prop,(∀ s' s1,Co n0 s' s1→R s1→K s')→runC (.all Γ P) n0 xs s K)
  (h2:∀ s1,R s1→W Γ P N rl n0 y Q s1):W Γ P N rl n0 (.seq (.reg xs) y) Q s :=
 W_cut R (W_regC (h1 _ fun s' s1 hc hr=>⟨rfl,s1,hc,hr⟩)) h2
theorem W_cutX {N:Nat} {rl:Option Nat} {n0:Nat} {xs:List XOper} {y:XC} {Q:Exit→St→Prop} {s:St} (R:St→Prop) (hp:(xs.all fun o=>o.pl.isNone)=true) (h1:∀ K:St→Prop,(∀ s' s1,Co n0 s' s1→R s1→K s')→runX (.all Γ P) s.heap.length xs s K)
  (h2:∀ s1,R s1→W Γ P N rl n0 y Q s1):W Γ P N rl n0 (.seq (.reg xs) y) Q s :=
 W_cutC R (fun K hK=>runC_x hp (h1 K hK)) h2
end Go.Proofs.YtlllnjhgjijnkaaDoor.Nx
namespace Go.Proofs.YtlllnjhgjijnkaaDoor.Nx
open Go
def xs:=(And.intro (And.intro (And.intro (And.intro (And.intro (And.intro (And.intro @x_nil @x_cons) (And.intro @x_cont @x_step)) (And.intro (And.intro @x_stepP @x_stepG) (And.intro @x_grd (And.intro @x_grd0 @x_lay)))) (And.intro (And.intro (And.intro @x_lay0 @x_put) (And.intro @x_put0 (And.intro @x_upd @x_evt))) (And.intro (And.intro @x_evk @x_evf) (And.intro @x_then (And.intro @x_thenR @x_thenE))))) (And.intro (And.intro (And.intro (And.intro @x_block @x_blockR) (And.intro @x_blockE (And.intro @x_mov @x_bin))) (And.intro (And.intro @b_add @b_sub) (And.intro @b_mul (And.intro @b_and @b_eql)))) (And.intro (And.intro (And.intro @b_neq @b_lss) (And.intro @b_leq (And.intro @b_gtr @b_geq))) (And.intro (And.intro @b_seql @b_sneq) (And.intro @x_pick (And.intro @x_pick_t @x_load)))))) (And.intro (And.intro (And.intro (And.intro (And.intro @x_loadp @t_d) (And.intro @t_nil (And.intro @t_agg @l_ptr))) (And.intro (And.intro @l_iptr @l_b) (And.intro @l_r (And.intro @l_t @l_f)))) (And.intro (And.intro (And.intro @x_alloc @x_box) (And.intro @x_place (And.intro @x_placeP @x_store))) (And.intro (And.intro @s_ptr @s_b) (And.intro @s_r (And.intro @x_faddr @f_ptr))))) (And.intro (And.intro (And.intro (And.intro @f_iptr @f_b) (And.intro @x_field (And.intro @fd_agg @x_iaddr))) (And.intro (And.intro @i_sl @i_nn) (And.intro @i_fd (And.intro @i_ref @i_b)))) (And.intro (And.intro (And.intro @x_len @n_nil) (And.intro @n_sl (And.intro @n_nn @n_fd))) (And.intro (And.intro @n_str @n_ref) (And.intro @n_b (And.intro @x_un @u_not))))))) (And.intro (And.intro (And.intro (And.intro (And.intro (And.intro @u_neg @x_call) (And.intro @x_build @fl_nil)) (And.intro (And.intro @fl_cons @x_bslice) (And.intro @rw_nil (And.intro @rw_cons @x_append)))) (And.intro (And.intro (And.intro @sr_nil @sr_sl) (And.intro @sr_nn (And.intro @sr_fd @sr_ref))) (And.intro (And.intro @sr_str @sr_b) (And.intro @ap_nil (And.intro @ap_ref @ap_fd))))) (And.intro (And.intro (And.intro (And.intro @ap_b @x_copy) (And.intro @cp_ref (And.intro @cp_b @x_slice))) (And.intro (And.intro @o_none @o_some) (And.intro @o_v (And.intro @sc_nil @sc_sl)))) (And.intro (And.intro (And.intro @sc_nn @sc_ref) (And.intro @sc_b (And.intro @sc_s @sc_m))) (And.intro (And.intro @sc_r @x_sslice) (And.intro @sl_str (And.intro @sl_s @x_eqs)))))) (And.intro (And.intro (And.intro (And.intro (And.intro @eq_agg @eq_f) (And.intro @eq_t (And.intro @ea_nil @ea_cons))) (And.intro (And.intro @ea_c @se_i) (And.intro @se_s (And.intro @se_b @x_eqb)))) (And.intro (And.intro (And.intro @eb_f @eb_t) (And.intro @x_conv (And.intro @cv_i @x_extract))) (And.intro (And.intro @ex_tup @ex_i) (And.intro @x_mkfn (And.intro @x_calle @x_callr))))) (And.intro (And.intro (And.intro (And.intro @x_calln @x_sidx) (And.intro @si_s (And.intro @x_minmax2 @mm_2))) (And.intro (And.intro @x_make @mk_i) (And.intro @x_aaddr (And.intro @aa_ptr @aa_iptr)))) (And.intro (And.intro (And.intro @aa_b @x_aidx) (And.intro @ai_agg (And.intro @x_nilck @nk_ptr))) (And.intro (And.intro @nk_iptr @nk_fn) (And.intro @nk_b (And.intro @x_i2s @i2_i))))))))
def xl:=(And.intro (And.intro (And.intro (And.intro (And.intro @x_look @x_look0) (And.intro @zL (And.intro @true_and @and_true))) (And.intro (And.intro @List.nil_append.{0} @List.cons_append.{0}) (And.intro @zP.{0} (And.intro @List.length_nil.{0} @List.length_cons.{0})))) (And.intro (And.intro (And.intro @List.length_append.{0} @List.length_replicate.{0}) (And.intro @List.length_set.{0} (And.intro @List.length_map.{0,0} @List.getElem?_cons_zero.{0}))) (And.intro (And.intro @List.getElem?_cons_succ.{0} (And.intro @List.getD_cons_zero.{0} @List.getD_cons_succ.{0})) (And.intro @List.set_cons_zero.{0} (And.intro @List.set_cons_succ.{0} @List.map_cons.{0,0}))))) (And.intro (And.intro (And.intro (And.intro @List.map_nil.{0,0} @List.replicate_succ.{0}) (And.intro @List.replicate_zero.{0} (And.intro @List.take_succ_cons.{0} @List.take_zero.{0}))) (And.intro (And.intro @List.take_nil.{0} (And.intro @List.drop_succ_cons.{0} @List.drop_zero.{0})) (And.intro @List.drop_nil.{0} (And.intro @Int.toNat_natCast @Int.toNat_zero)))) (And.intro (And.intro (And.intro @Nat.zero_add @Nat.add_zero) (And.intro @Option.map_some.{0,0} (And.intro @Option.map_none.{0,0} @Option.isNone_none.{0}))) (And.intro (And.intro @Option.isNone_some.{0} (And.intro @Bool.and_true @Bool.true_and)) (And.intro @Bool.not_true (And.intro @Bool.not_false @Bool.false_eq_true))))))
theorem xe:(∀ i,argS i []=[])∧(∀ i x l,argS i (x::l)=(i,x)::argS (i+1) l)∧(∀ l off new,splice l off new=l.take off++new++l.drop (off+new.length)) ∧
 (A.cells .any=[.any])∧(A.one .any=false)∧(A.okCells .any=false)∧(A.cells .nil=[.nil])∧(A.one .nil=true)∧(A.okCells .nil=true)∧(∀ x,A.cells (.d x)=[(.d x)])∧(∀ x,A.one (.d x)=true)∧(∀ x,A.okCells (.d x)=true)∧(∀ e r,A.cells (.nn e r)=[(.nn e r)])∧(∀ e r,A.one (.nn e r)=true)∧(∀ e r,A.okCells (.nn e r)=true)∧(∀ l,A.cells (.agg l)=l)∧(∀ l,A.one (.agg l)=false)∧(∀ l,A.okCells (.agg l)=true)∧(∀ l,A.cells (.tup l)=[(.tup l)])∧(∀ l,A.one (.tup l)=false)∧(∀ l,A.okCells (.tup l)=false)∧(∀ c,A.cells (.iptr c)=[(.iptr c)])∧(∀ c,A.one (.iptr c)=true)∧(∀ c,A.okCells (.iptr c)=true)∧(∀ a b c d,A.cells (.ptr a b c d)=[(.ptr a b c d)])∧(∀ a b c d,A.one (.ptr a b c d)=true)∧(∀ a b c d,A.okCells (.ptr a b c d)=true)∧(∀ a b c d f,A.cells (.ref a b c d f)=[(.ref a b c d f)])∧(∀ a b c d f,A.one (.ref a b c d f)=true)∧(∀ a b c d f,A.okCells (.ref a b c d f)=true)∧(∀ g l,A.cells (.fn g l)=[(.fn g l)])∧(∀ g l,A.one (.fn g l)=true)∧(∀ g l,A.okCells (.fn g l)=true)∧(∀ i,A.cells (.yld i)=[(.yld i)])∧(∀ i,A.one (.yld i)=true)∧(∀ i,A.okCells (.yld i)=true):=by
 repeat refine And.intro (by intros;rfl) ?_
 intros;rfl
theorem xq:type_of% (And.intro xe (And.intro xs xl)):=And.intro xe (And.intro xs xl)
end Go.Proofs.YtlllnjhgjijnkaaDoor.Nx
namespace Go.Proofs.YtlllnjhgjijnkaaDoor.Nx
open Go
def BlkF (k:Nat) (h:Heap) (h2:Heap) (id:Nat):Prop :=
 ∃ e rows rows2,h[id]? = some (.cells e rows)∧h2[id]? = some (.cells e rows2)∧rows2.length=rows.length ∧
  ∀ (i:Nat) (r r2:List A),rows[i]? = some r→rows2[i]? = some r2→r2.length=r.length∧∀ (j:Nat) (y:A),r2[j]? = some y→FrzA k h (r.getD j .any) y∧y.under k=true
theorem Evo.shape {h h2:Heap} {ρ:Phys} {w:World} {k:Nat} (hl:h.length=k) (hl2:h2.length=k) (hb:∀ id,id<k→∃ e rows rows2,h[id]? = some (.cells e rows)∧h2[id]? = some (.cells e rows2)∧rows2.length=rows.length):Evo k h ρ w h2 ρ w where
 os:=rfl
 tape:=rfl
 output:=rfl
 size:=zL _
 old _ _ _:=rfl
 fresh id b p hp:=.inr ⟨id,p,hp⟩
 len:=by omega
 keep id B hid hB:=by
  obtain ⟨e,rows,rows2,h1,h2',h3⟩:=hb id hid
  rw [h1] at hB
  cases hB
  exact ⟨rows2,h2',by omega,fun _=>rfl⟩
theorem Co.frzH {n0:Nat} {s:St} (l:List (Nat × A)) (k:Nat) (h2:Heap) (hl:∀ p∈l,FrzA k s.heap (s.slots p.1) p.2∧p.2.under k=true) (hn:n0≤k) (hk:k≤s.heap.length) (h2l:h2.length=k) (hb:∀ id,id<k→BlkF k s.heap h2 id):Co n0 s ⟨look l,h2⟩ :=
 fun z M ρ a w hz S=>by
  have g1:Evo n0 s.heap ρ w (s.heap.take k) (ρ.take k) w:=.take hn hk
  have g1':Evo k s.heap ρ w (s.heap.take k) (ρ.take k) w:=.take (zL _) hk
  have htl:(s.heap.take k).length=k:=by simp;omega
  have g2:Evo k (s.heap.take k) (ρ.take k) w h2 (ρ.take k) w:=.shape htl h2l fun id hid=>by
   obtain ⟨e,rows,rows2,q1,q2,q3,_⟩:=hb id hid
   exact ⟨e,rows,rows2,by rw [zm,if_pos hid];exact q1,q2,q3⟩
  have rp:∀ {x y:A} {v:Value},FrzA k s.heap x y→y.under k=true→RepA w M ρ s.heap x v→RepA w M (ρ.take k) h2 y v:=fun hf hu hr=>g2.rep (hf.rep S.sim hk hr) hu
  have hρ:∀ id,id<k→(ρ.take k)[id]? = ρ[id]? := fun id hid=>by rw [zm,if_pos hid]
  have lt2:∀ {id:Nat} {B:HB},h2[id]? = some B→id<k:=fun hB=>by
   have:=(zA.1 hB).1;omega
  refine ⟨ρ.take k,⟨S.bnd,⟨by show (ρ.take k).length=h2.length;rw [h2l,List.length_take,S.sim.len];omega,fun id e rows2 hB=>?_,fun id o hB=>?_,fun id hB=>?_,fun i j b p q hi hj=>?_⟩,fun n=>?_,S.size,S.nlt,?_,?_⟩,g1.trans (g2.mono hn)⟩
  ·have hid:=lt2 hB
   obtain ⟨e',rows,rows2',q1,q2,q3,q4⟩:=hb id hid
   rw [q2] at hB
   cases hB
   obtain ⟨c1,c2,c3,c4,c5⟩:=S.sim.cells id e rows q1
   refine ⟨c1,by rw [q3];exact c2,by rw [q3];exact c3,fun r2 hr2=>?_,?_⟩
   ·obtain ⟨i,hi,rfl⟩:=List.mem_iff_getElem.1 hr2
    have hi':i<rows.length:=by omega
    rw [(q4 i _ _ (zB hi') (zB hi)).1]
    exact c4 _ (List.getElem_mem hi')
   ·rcases c5 with ⟨h5,h6⟩ | ⟨b,q,cs,t,h5,h6,h7,h8,h9,h10⟩
    ·refine .inl ⟨(hρ id hid).trans h5,?_⟩
     subst h6
     exact List.eq_nil_of_length_eq_zero q3
    ·refine .inr ⟨b,q,cs,t,(hρ id hid).trans h5,h6,h7,h8,by rw [q3];exact h9,fun i r2 j y hi hj=>?_⟩
     have hi2:i<rows.length:=by have:=(zA.1 hi).1;omega
     obtain ⟨d1,d2⟩:=q4 i _ _ (zB hi2) hi
     obtain ⟨e1,e2⟩:=d2 j y hj
     have hj2:j<rows[i].length:=by have:=(zA.1 hj).1;omega
     rw [zC,zB hj2] at e1
     obtain ⟨v,v1,v2,v3⟩:=h10 i _ j _ (zB hi2) (zB hj2)
     exact ⟨v,v1,v2,rp e1 e2 v3⟩
  ·obtain ⟨e',rows,rows2',q1,q2,q3,q4⟩:=hb id (lt2 hB)
   rw [q2] at hB;cases hB
  ·obtain ⟨e',rows,rows2',q1,q2,q3,q4⟩:=hb id (lt2 hB)
   rw [q2] at hB;cases hB
  ·rw [zm] at hi hj
   split at hi
   ·split at hj
    ·exact S.sim.inj i j b p q hi hj
    ·cases hj
   ·cases hi
  ·rcases look_mem (l:=l) (n:=n) with h | h
   ·show RepA w M _ _ (look l n) _
    rw [h];exact .any
   ·obtain ⟨h1,h3⟩:=hl _ h
    exact rp h1 h3 (S.slots n)
  ·have T:=S.tabs.take (Nat.le_trans hz.1 hn) hk
   exact T.evo (by rw [htl];exact g2)
  ·have D1:=S.defers.evo g1'
   exact D1.evo (by first | exact g2 | (rw [htl];exact g2))
end Go.Proofs.YtlllnjhgjijnkaaDoor.Nx
namespace Go.Proofs.YtlllnjhgjijnkaaDoor.Nx
open Go
theorem Co.nil {n0:Nat} {s:St} (n:Nat) (e:Elt) (he:0<e.sz) (hs:s.slots n = .nil):Co n0 s ⟨upd s.slots n (.ref s.heap.length 0 0 0 true),s.heap++[.cells e []]⟩ :=
 fun z M ρ a w hz S=>by
  have nw:NewAt s.heap ρ (.cells e []) none none s.heap.length (s.heap++[.cells e []]) (ρ++[none]):=.push
  have g:Evo s.heap.length s.heap ρ w (s.heap++[.cells e []]) (ρ++[none]) w:=.atNew nw S.sim.len rfl rfl rfl (zL _) (fun _ _=>rfl) (fun b p h=>by cases h)
  have S2:SimH w M (ρ++[none]) (s.heap++[.cells e []]):=S.sim.newAny nw g (fun _ _=>rfl) (fun b p h=>by cases h)
   (fun e' rows' h=>by
    cases h
    exact ⟨he,by simp,by simp,by simp,.inl ⟨nw.phys S.sim.len,rfl⟩⟩)
   (fun o' h=>by cases h) (by simp)
  refine ⟨ρ++[none],⟨S.bnd,S2,fun m=>?_,S.size,S.nlt,S.tabs.evo g,S.defers.evo g⟩,g.mono hz.2⟩
  show RepA w M _ _ (upd s.slots n _ m) _
  unfold upd
  by_cases hm:m=n
  ·rw [if_pos hm,hm]
   have:=S.slots n
   rw [hs] at this
   generalize valAt a.tmps n=v at this
   cases this
   exact .ref0 nw.heap (nw.phys S.sim.len)
  ·rw [if_neg hm]
   exact g.rep' (S.slots m)
end Go.Proofs.YtlllnjhgjijnkaaDoor.Nx
namespace Go.Proofs.YtlllnjhgjijnkaaDoor.Nx
open Go
variable {P:Program} {w w':World} {M:Nat→Prop} {ρ ρ':Phys} {h h':Heap} {Γ:Ctx}
def FlatA (x:A):Prop:=∀ {w w':World} {M M':Nat→Prop} {ρ ρ':Phys} {h h':Heap} {v:Value},RepA w M ρ h x v→RepA w' M' ρ' h' x v
theorem flat_nil:FlatA .nil:=fun h=>by cases h;exact .nil
theorem flat_sc {v:Value}:FlatA (.sc v):=fun h=>by
 cases h with
 | d hx=>cases hx with
  | sc hk=>exact .d (.sc hk)
def Lent (h:Heap) (args args':List A):Prop:=args'.length=args.length∧∀ (j:Nat) (y:A),args'[j]? = some y→FrzA 0 h (args.getD j .any) y
theorem Lent.rep {args args':List A} {vs:Array Value} (S:SimH w M ρ h) (hl:Lent h args args') (hargs:RepAs w M ρ h args vs):RepAs w M [] [] args' vs:=by
 obtain ⟨h1,h2⟩:=hl
 refine ⟨by rw [hargs.1,h1],fun j y hj=>?_⟩
 have hlt:j<args.length:=by rw [← h1];exact (zA.1 hj).1
 have hx:args[j]? = some (args.getD j .any):=listD_some _ hlt
 have:=(h2 j y hj).rep S (zI _) (hargs.2 j _ hx)
 simpa using this
theorem Lent.nil:Lent h [] []:=⟨rfl,fun j y hj=>by simp at hj⟩
theorem Lent.cons {x y:A} {l l':List A} (hx:FrzA 0 h x y) (hl:Lent h l l'):Lent h (x::l) (y::l'):=by
 refine ⟨by simp [hl.1],fun j z hj=>?_⟩
 cases j with
 | zero=>simp at hj;subst hj;exact hx
 | succ j=>rw [List.getD_cons_succ];exact hl.2 j z (by simpa using hj)
theorem TabT.lone {t:Tabs} (T:TabT t w M ρ h):TabT t w M [] []:=fun g cs hg=>by
 have:=(Evo.take (n0:=0) (h:=h) (ρ:=ρ) (w:=w) (zL _) (zI _)).rep (T g cs hg) rfl
 simpa using this
theorem FnP.lend {f:FuncId} {args args':List A} {r:A} (hf:FnP Γ.t P f args' r) (hr:FlatA r) (hl:Lent h args args'):FnD Γ P f args h r h:=by
 refine ⟨hf.ent,fun M w ρ vs bnd S T hargs=>?_⟩
 refine (hf.run M w vs bnd T.t.lone (hl.rep S hargs)).mono fun e w' he=>?_
 obtain ⟨v,rfl,q1,q2⟩:=he
 have g:=q2.of_lone (h:=h) (ρ:=ρ)
 exact ⟨v,ρ,rfl,hr q1,S.same g (fun id b p hp=>q2.old b (S.lt hp) (fun _ _ he=>by simp at he)),g⟩
def New1 (n:Nat) (x:A):Prop:=FlatA x∨∃ id N off len full,x = .ref id N off len full∧n≤id
def NewA (n:Nat) (x:A):Prop:=New1 n x∨∃ l,x = .tup l∧∀ y∈l,New1 n y
def NewB (n:Nat):HB→Prop
 | .cells _ rows=>∀ r∈rows,∀ x∈r,New1 n x
 | _=>False
theorem New1.move {n:Nat} {x:A} {v:Value} (hn:New1 n x) {h1 h2:Heap} {ρ1 ρ2:Phys} (hh:∀ id,n≤id→h2[id]? = h1[id]?) (hρ:∀ id,n≤id→ρ2[id]? = ρ1[id]?) (hr:RepA w M ρ1 h1 x v):RepA w M ρ2 h2 x v:=by
 rcases hn with hn | ⟨id,N,off,len,full,rfl,hid⟩
 ·exact hn hr
 ·have e1:=hh id hid
  have e2:=hρ id hid
  generalize hx:A.ref id N off len full=x at hr
  cases hr with
  | stale k1 k2 k3=>cases hx;exact .stale (e1.trans k1) k2 k3
  | ref0 k1 k2=>cases hx;exact .ref0 (e1.trans k1) (e2.trans k2)
  | ref k1 k2 k3 k4 k5 k6 k7 k8=>cases hx;exact .ref (e1.trans k1) (e2.trans k2) k3 k4 k5 k6 k7 k8
  | _=>cases hx
theorem NewA.move {n:Nat} {x:A} {v:Value} (hn:NewA n x) {h1 h2:Heap} {ρ1 ρ2:Phys} (hh:∀ id,n≤id→h2[id]? = h1[id]?) (hρ:∀ id,n≤id→ρ2[id]? = ρ1[id]?) (hr:RepA w M ρ1 h1 x v):RepA w M ρ2 h2 x v:=by
 rcases hn with hn | ⟨l,rfl,hl⟩
 ·exact hn.move hh hρ hr
 ·cases hr with
  | tup h1 h2=>exact .tup h1 fun j y hj=>(hl y (zY hj)).move hh hρ (h2 j y hj)
theorem FnD.lend {f:FuncId} {args args':List A} {r:A} {t:Heap} (hf:FnD Γ.t.ctx P f args' (List.replicate h.length .res) r (List.replicate h.length .res++t)) (hr:NewA h.length r) (ht:∀ B∈t,NewB h.length B) (hl:Lent h args args') (hd:A.underL 0 args'=true):FnD Γ P f args h r (h++t):=by
 refine ⟨hf.ent,fun M w ρ vs bnd S T hargs=>?_⟩
 have hSl:=S.len
 have S0:SimH w M (List.replicate h.length none) (List.replicate h.length .res):=by
  refine ⟨by simp,fun id e rows hh=>?_,fun id o hh=>?_,fun id hh=>?_,fun i j b p q hi=>?_⟩
  ·rw [List.getElem?_replicate] at hh;split at hh<;>simp at hh
  ·rw [List.getElem?_replicate] at hh;split at hh<;>simp at hh
  ·have:id<h.length:=by have:=(zA.1 hh).1;simpa using this
   rw [List.getElem?_replicate,if_pos this]
  ·rw [List.getElem?_replicate] at hi;split at hi<;>simp at hi
 have own0:∀ b,¬ Own M [] b→¬ Own M (List.replicate h.length none) b:=by
  rintro b hb (hm | ⟨id,p,hp⟩)
  ·exact hb (.inl hm)
  ·rw [List.getElem?_replicate] at hp;split at hp<;>simp at hp
 have up:∀ {y:A} {v:Value},y.under 0=true→RepA w M [] [] y v→RepA w M (List.replicate h.length none) (List.replicate h.length .res) y v:=fun hu hy =>
  hy.move (n0:=0) (fun a u hn hc=>⟨hc,own0 _ hn⟩) (fun id B hi=>absurd hi (Nat.not_lt_zero _)) hu
 have hA:=hl.rep S hargs
 refine (hf.run M w (List.replicate h.length none) vs bnd S0 ⟨fun g cs hg=>up rfl (T.t.lone g cs hg),fun a v h=>h.elim⟩ ⟨hA.1,fun j y hj=>up (A.underL_get hd hj) (hA.2 j y hj)⟩).mono fun e w' he=>?_
 obtain ⟨v,ρ1,rfl,q1,q2,q3⟩:=he
 have hρl:ρ1.length=h.length+t.length:=by have:=q2.len;simpa using this
 have hold:∀ b,b<w.heap.size→w'.heap[b]? = w.heap[b]? := fun b hb=>q3.old b hb fun id p hp=>by
  rw [List.getElem?_replicate] at hp;split at hp<;>simp at hp
 have hfresh:∀ id b p:Nat,ρ1[id]? = some (some (b,p))→w.heap.size≤b:=fun id b p hp=>by
  rcases q3.fresh id b p hp with hf | ⟨i,q,hq⟩
  ·exact hf
  ·rw [List.getElem?_replicate] at hq;split at hq<;>simp at hq
 have g0:Evo h.length h ρ w h ρ w':=⟨q3.os,q3.tape,q3.output,q3.size,fun b hb _=>hold b hb,fun id b p hp=>.inr ⟨id,p,hp⟩,zL _,fun _ _ _ hb=>.refl hb⟩
 have S1:SimH w' M ρ h:=S.same g0 fun id b p hp=>hold b (S.lt hp)
 let ρ2:Phys:=ρ++ρ1.drop h.length
 have r_lo:∀ id,id<h.length→ρ2[id]? = ρ[id]? := fun id hid=>zF (by omega)
 have r_hi:∀ id,h.length≤id→ρ2[id]? = ρ1[id]? := fun id hid=>by
  show (ρ++ρ1.drop h.length)[id]? = _
  rw [zG (by omega),zl]
  congr 1;omega
 have h_lo:∀ id,id<h.length→(h++t)[id]? = h[id]? := fun id hid=>zF hid
 have h_hi:∀ id,h.length≤id→(h++t)[id]? = (List.replicate h.length .res++t)[id]? := fun id hid=>by
  rw [zG hid,zG (by simpa using hid)];simp
 have g:Evo h.length h ρ w (h++t) ρ2 w':=by
  refine ⟨q3.os,q3.tape,q3.output,q3.size,fun b hb _=>hold b hb,fun id b p hp=>?_,by simp,fun id B hid hB=>?_⟩
  ·rcases Nat.lt_or_ge id h.length with hlt | hge
   ·rw [r_lo id hlt] at hp;exact .inr ⟨id,p,hp⟩
   ·rw [r_hi id hge] at hp;exact .inl (hfresh id b p hp)
  ·cases B with
   | cells e rows=>exact ⟨rows,(h_lo id hid).trans hB,zL _,fun _=>r_lo id hid⟩
   | obj o=>exact ⟨⟨o,(h_lo id hid).trans hB⟩,r_lo id hid⟩
   | res=>trivial
 have mv:∀ {x:A} {v:Value},NewA h.length x→RepA w' M ρ1 (List.replicate h.length .res++t) x v→RepA w' M ρ2 (h++t) x v:=fun hn hr =>
  hn.move (fun id hid=>h_hi id hid) (fun id hid=>r_hi id hid) hr
 refine ⟨v,ρ2,rfl,mv hr q1,⟨by simp [ρ2,hSl,hρl],fun id e rows hB=>?_,fun id o hB=>?_,fun id hB=>?_,fun i j b p q hi hj=>?_⟩,g⟩
 ·rcases Nat.lt_or_ge id h.length with hlt | hge
  ·rw [h_lo id hlt] at hB
   obtain ⟨k1,k2,k3,k4,k5⟩:=S.cells id e rows hB
   refine ⟨k1,k2,k3,k4,?_⟩
   rcases k5 with ⟨k5,k6⟩ | ⟨b,p,cs,ty,k5,k6,k7,k8,k9,k10⟩
   ·exact .inl ⟨(r_lo id hlt).trans k5,k6⟩
   ·refine .inr ⟨b,p,cs,ty,(r_lo id hlt).trans k5,k6,(hold b (S.lt k5)).trans k7,k8,k9,fun i r j x hi hj=>?_⟩
    obtain ⟨u,a1,a2,a3⟩:=k10 i r j x hi hj
    exact ⟨u,a1,a2,g.rep' a3⟩
  ·have hB0:=hB
   rw [h_hi id hge] at hB
   obtain ⟨k1,k2,k3,k4,k5⟩:=q2.cells id e rows hB
   have hmem:HB.cells e rows∈t:=by
    rw [zG hge] at hB0
    exact zY hB0
   have hnew:=ht _ hmem
   refine ⟨k1,k2,k3,k4,?_⟩
   rcases k5 with ⟨k5,k6⟩ | ⟨b,p,cs,ty,k5,k6,k7,k8,k9,k10⟩
   ·exact .inl ⟨(r_hi id hge).trans k5,k6⟩
   ·refine .inr ⟨b,p,cs,ty,(r_hi id hge).trans k5,k6,k7,k8,k9,fun i r j x hi hj=>?_⟩
    obtain ⟨u,a1,a2,a3⟩:=k10 i r j x hi hj
    exact ⟨u,a1,a2,mv (.inl (hnew r (zY hi) x (zY hj))) a3⟩
 ·rcases Nat.lt_or_ge id h.length with hlt | hge
  ·rw [h_lo id hlt] at hB
   obtain ⟨b,p,k1,k2,k3,k4⟩:=S.obj id o hB
   exact ⟨b,p,(r_lo id hlt).trans k1,k2,(hold b (S.lt k1)).trans k3,k4⟩
  ·rw [zG hge] at hB
   exact (ht _ (zY hB)).elim
 ·rcases Nat.lt_or_ge id h.length with hlt | hge
  ·rw [h_lo id hlt] at hB
   exact (r_lo id hlt).trans (S.res id hB)
  ·rw [zG hge] at hB
   exact (ht _ (zY hB)).elim
 ·rcases Nat.lt_or_ge i h.length with hi' | hi'
  ·rw [r_lo i hi'] at hi
   rcases Nat.lt_or_ge j h.length with hj' | hj'
   ·rw [r_lo j hj'] at hj
    exact S.inj i j b p q hi hj
   ·rw [r_hi j hj'] at hj
    have a:=S.lt hi
    have b:=hfresh j _ _ hj
    omega
  ·rw [r_hi i hi'] at hi
   rcases Nat.lt_or_ge j h.length with hj' | hj'
   ·rw [r_lo j hj'] at hj
    have a:=S.lt hj
    have b:=hfresh i _ _ hi
    omega
   ·rw [r_hi j hj'] at hj
    exact q2.inj i j b p q hi hj
end Go.Proofs.YtlllnjhgjijnkaaDoor.Nx

import Derived.Test.YtlllnjhgjijnkaaDoorNxSound2
set_option linter.unusedSimpArgs false
set_option linter.unusedVariables false
set_option linter.unnecessarySimpa false
open List renaming getElem?_eq_some_iff → zA, getElem?_eq_getElem → zB, getElem?_map → zK, getElem?_eq_none → zk, getElem?_drop → zl
open Option renaming map_eq_some_iff → zT
open Nat renaming mul_le_mul_right → zX
namespace Go.Proofs.YtlllnjhgjijnkaaDoor.Nx
open Go
variable {P:Program} {w w':World} {M:Nat→Prop} {ρ ρ':Phys} {h h':Heap}
theorem nil_inv {v:Value} (hx:RepA w M ρ h .nil v):v = .slice none 0 0:=by cases hx;rfl
theorem d_inv {x:D} {v:Value} (hx:RepA w M ρ h (.d x) v):RepD w (Own M ρ) x v:=by cases hx;assumption
theorem nn_inv {e:Elt} {rows:List (List D)} {v:Value} (hx:RepA w M ρ h (.nn e rows) v):RepD w (Own M ρ) (.sl e rows) v∧∃ a n cap,v = .slice (some a) n cap:=by
 cases hx with
 | nn hx=>exact ⟨hx,_,_,_,rfl⟩
theorem fd_inv {e:Elt} {rows:List (List D)} {v:Value} (hx:RepA w M ρ h (.fd e rows) v):RepA w M ρ h (.nn e rows) v∧∃ a,v = .slice (some a) rows.length rows.length:=by
 cases hx with
 | fd hx=>cases hx with
  | nil _ _=>exact ⟨.nn (.nil (Nat.zero_le _) (fun h=>by cases h)),_,rfl⟩
  | sl u a b c d e f=>exact ⟨.nn (.sl u a b c d e f),_,rfl⟩
theorem does_sidx {t:TypeId} {s:ByteArray} {k:IntKind} {n:Int} {u u':Value} (S:SimH w M ρ h) (hu:P.underlying t=some .string) (hx:RepA w M ρ h (.str s) u) (hy:RepA w M ρ h (.sc (.int k n)) u') (h0:0≤n) (h1:n<s.size) :
  Does P (do pure (.value (← Instr.index t u u'))) w M ρ h (.sc (.int .u8 (s.data.toList.getD n.toNat 0).toNat)) h:=by
 obtain ⟨rfl, -⟩:=sc_inv hx
 obtain ⟨rfl, -⟩:=sc_inv hy
 obtain ⟨m,rfl⟩:=Int.eq_ofNat_of_zero_le h0
 have hm:m<s.size:=by omega
 have hb:s[m]? = some (s.data.toList.getD m 0):=by
  have hm':m<s.data.size:=hm
  rw [getElem?_pos s m hm]
  have e:s.data.toList[m]? = some (s.data[m]'hm'):=by simp [hm']
  show some (s.data[m]'hm')=_
  rw [List.getD,e];rfl
 refine .pure (v:=.int .u8 (s.data.toList.getD m 0).toNat) ?_ (.d (.sc ?_)) S
 ·simp [Instr.index,asIntOf,run_underlying hu,hb]
 ·have:=(s.data.toList.getD m 0).toNat_lt
  show IntKind.u8.min≤((s.data.toList.getD m 0).toNat:Int)∧((s.data.toList.getD m 0).toNat:Int)≤IntKind.u8.max
  simp only [IntKind.min,IntKind.max,IntKind.bits,IntKind.signed,Bool.false_eq_true,if_false]
  omega
theorem does_eqnil {neg:Bool} {t et:TypeId} {x y:Operand} {a:A} {u:Value} {K:A→Heap→Prop} (S:SimH w M ρ h) (hu:P.underlying t=some (.slice et)) (hx:RepA w M ρ h a u)
  (hK:match (generalizing:=false) a with
   | .nil=>K (.bool (!neg)) h
   | .nn _ _=>K (.bool neg) h
   | .d (.sl _ rows)=>rows≠[]∧K (.bool neg) h
   | .ref id N _ _ _=>match (generalizing:=false) h[id]? with
    | some (.cells _ rows)=>N=rows.length∧0<N∧K (.bool neg) h
    | _=>False
   | _=>False) :
  ∃ r h',K r h'∧Does P (do let r ← (do eqGuard (if neg then .neq else .eql) t x y u (.slice none 0 0);binOp (if neg then .neq else .eql) t u (.slice none 0 0));pure (.value r)) w M ρ h r h':=by
 have run:∀ (b:Option Addr) n c,u = .slice b n c→(do let r ← (do eqGuard (if neg then .neq else .eql) t x y u (.slice none 0 0);binOp (if neg then .neq else .eql) t u (.slice none 0 0));pure (.value r):Sem Next).run P w = .ok (.value (.bool (if neg then !b.isNone else b.isNone))) w:=by
  intro b n c he
  subst he
  have hg:=run_eqGuard_sc (P:=P) (w:=w) (op:=if neg then .neq else .eql) (t:=t) (x:=x) (y:=y) (a:=.slice b n c) (b:=.slice none 0 0) (by simp) (by simp)
  have he':∀ d,(Op.equalIn (d+1) t (.slice b n c) (.slice none 0 0)).run P w = .ok b.isNone w:=by
   intro d
   cases b<;>simp only [Op.equalIn,Sem.run_bind,run_underlying hu,Result.andThen_ok,Sem.run_pure,Option.isNone]
  have he:(Op.equal t (.slice b n c) (.slice none 0 0)).run P w = .ok b.isNone w:=he' 9999
  simp only [Sem.run_bind,hg,Result.andThen_ok]
  cases neg
  ·simp only [Bool.false_eq_true,if_false,binOp,Sem.run_bind,he,Result.andThen_ok,Sem.run_pure]
  ·simp only [if_true,binOp,Sem.run_bind,he,Result.andThen_ok,Sem.run_pure]
 cases a with
 | nil =>
  have:=nil_inv hx
  refine ⟨_,_,hK,.pure (run _ _ _ this) ?_ S⟩
  cases neg<;>exact .d (.sc trivial)
 | nn e rows =>
  obtain ⟨_,a,n,c,hv⟩:=nn_inv hx
  refine ⟨_,_,hK,.pure (run _ _ _ hv) ?_ S⟩
  cases neg<;>exact .d (.sc trivial)
 | d x =>
  cases x with
  | sc v=>exact hK.elim
  | sl e rows =>
   obtain ⟨hne,hK⟩:=hK
   obtain ⟨a,cap,hv,_,_,_,_,hc⟩:=sl_inv (d_inv hx)
   cases rows with
   | nil=>exact absurd rfl hne
   | cons r rows =>
    obtain ⟨a0,rfl,_⟩:=hc 0 r rfl
    refine ⟨_,_,hK,.pure (run _ _ _ hv) ?_ S⟩
    cases neg<;>exact .d (.sc trivial)
 | ref id N off len full =>
  dsimp only at hK
  generalize hh:h[id]? = o at hK
  rcases o with _ | (⟨e,rows⟩ | _ | _)
  ·exact hK.elim
  ·obtain ⟨hN,h0,hK⟩:=hK
   rcases ref_inv hx hh hN with ⟨_,hz,_⟩ | ⟨b,p,o,cap,hp,rfl,_⟩
   ·subst hz;simp at hN;omega
   ·refine ⟨_,_,hK,.pure (run _ _ _ rfl) ?_ S⟩
    cases neg<;>exact .d (.sc trivial)
  ·exact hK.elim
  ·exact hK.elim
 | _=>exact hK.elim
theorem does_un {op:UnOp} {a v u:Value} (S:SimH w M ρ h) (hx:RepA w M ρ h (.sc a) u) (hr:unRes op a=some v) :
  Does P (do pure (.value (← Op.unary op u))) w M ρ h (.sc v) h:=by
 obtain ⟨rfl,ha⟩:=sc_inv hx
 unfold unRes at hr
 split at hr<;>cases hr
 ·refine .pure ?_ (.d (.sc (scOk_wrap ..))) S
  simp [Op.unary,Op.intArith]
 ·refine .pure ?_ (.d (.sc trivial)) S
  simp [Op.unary]
theorem does_conv {src dst:TypeId} {k k':IntKind} {n:Int} {u:Value} {ds:TypeDesc} (S:SimH w M ρ h) (hs:P.underlying src=some ds) (hd:P.underlying dst=some (.int k)) (hx:RepA w M ρ h (.sc (.int k' n)) u) :
  Does P (do pure (.value (← convert src dst u))) w M ρ h (.sc (.int k (k.wrap n))) h:=by
 obtain ⟨rfl,ha⟩:=sc_inv hx
 refine .pure (v:=.int k (k.wrap n)) ?_ (.d (.sc (scOk_wrap ..))) S
 unfold convert
 simp only [Sem.run_bind,run_underlying hs,run_underlying hd,Result.andThen_ok,Conv.intToInt,Sem.run_pure]
theorem has_i64 {n:Nat} (hn:n≤maxLen):scOk (.int .i64 n):=by
 show IntKind.i64.min≤_∧_≤IntKind.i64.max
 simp only [IntKind.min,IntKind.max,IntKind.bits,IntKind.signed,if_true]
 unfold maxLen at hn
 omega
theorem does_len {t:TypeId} {ty:TypeId} {str:Bool} {a:A} {u:Value} {K:A→Heap→Prop} (S:SimH w M ρ h) (hu:if str then P.underlying t=some .string else ∃ et,P.underlying t=some (.slice et)) (hx:RepA w M ρ h a u)
  (hK:match (generalizing:=false) a with
   | .nil=>str=false∧K (.int 0) h
   | .d (.sl _ rows)=>str=false∧K (.int rows.length) h
   | .nn _ rows=>str=false∧K (.int rows.length) h
   | .fd _ rows=>str=false∧K (.int rows.length) h
   | .ref id N _ len _=>match h[id]? with
    | some (.cells _ rows)=>str=false∧N=rows.length∧K (.int len) h
    | _=>False
   | .d (.sc (.string s))=>str=true∧K (.int s.size) h
   | _=>False) :
  ∃ r h',K r h'∧Does P (do pure (.value (← Builtin.len_ #[t] ty #[u]))) w M ρ h r h':=by
 have run:str=false→∀ (b:Option Addr) n c,u = .slice b n c→(do pure (.value (← Builtin.len_ #[t] ty #[u])):Sem Next).run P w = .ok (.value (.int .i64 n)) w:=by
  rintro rfl b n c rfl
  obtain ⟨et,hu⟩:=hu
  simp [Builtin.len_,run_underlying hu,goInt]
 cases a with
 | nil =>
  obtain ⟨hs,hK⟩:=hK
  exact ⟨_,_,hK,.pure (run hs _ _ _ (nil_inv hx)) (.d (.sc (has_i64 (n:=0) (by simp [maxLen])))) S⟩
 | nn e rows =>
  obtain ⟨hs,hK⟩:=hK
  obtain ⟨hd,_⟩:=nn_inv hx
  obtain ⟨a,cap,hv,h1,h2,_⟩:=sl_inv hd
  exact ⟨_,_,hK,.pure (run hs _ _ _ hv) (.d (.sc (has_i64 (by omega)))) S⟩
 | fd e rows =>
  obtain ⟨hs,hK⟩:=hK
  obtain ⟨hd,_⟩:=nn_inv (fd_inv hx).1
  obtain ⟨a,cap,hv,h1,h2,_⟩:=sl_inv hd
  exact ⟨_,_,hK,.pure (run hs _ _ _ hv) (.d (.sc (has_i64 (by omega)))) S⟩
 | ref id N off len full =>
  dsimp only at hK
  split at hK
  ·rename_i e rows hid
   obtain ⟨hs,hN,hK⟩:=hK
   rcases ref_inv hx hid hN with ⟨hv,_,_,rfl,_⟩ | ⟨b,p,o,cap,hp,hv,hlen,hcap,hm,ho,hphys,hfull⟩
   ·exact ⟨_,_,hK,.pure (run hs _ _ _ hv) (.d (.sc (has_i64 (n:=0) (by simp [maxLen])))) S⟩
   ·exact ⟨_,_,hK,.pure (run hs _ _ _ hv) (.d (.sc (has_i64 (by omega)))) S⟩
  ·exact hK.elim
 | d x =>
  cases x with
  | sc v =>
   cases v<;>try (exact hK.elim)
   rename_i s
   obtain ⟨rfl,hK⟩:=hK
   obtain ⟨rfl,hs⟩:=sc_inv hx
   simp only [if_true] at hu
   refine ⟨_,_,hK,.pure (v:=.int .i64 s.size) ?_ (.d (.sc (has_i64 hs))) S⟩
   simp [Builtin.len_,run_underlying hu,goInt]
  | sl e rows =>
   obtain ⟨hs,hK⟩:=hK
   obtain ⟨a,cap,hv,h1,h2,_⟩:=sl_inv (d_inv hx)
   exact ⟨_,_,hK,.pure (run hs _ _ _ hv) (.d (.sc (has_i64 (by omega)))) S⟩
 | _=>exact hK.elim
theorem does_extract {i:Nat} {l:List A} {a:A} {u:Value} (S:SimH w M ρ h) (hx:RepA w M ρ h (.tup l) u) (hi:l[i]? = some a) :
  Does P (do pure (.value (← Instr.extract u i))) w M ρ h a h:=by
 cases hx with
 | tup hl hr =>
  rename_i cs
  have hlt:i<cs.size:=by rw [hl];exact (zA.1 hi).1
  have hs:=getD_some hlt
  have hrep:=hr i a hi
  generalize cs.getD i undef=v at hs hrep
  exact .pure (by simp [Instr.extract,hs]) hrep S
theorem does_mkfn {f:FuncId} {caps:List A} {vs:Array Value} (S:SimH w M ρ h) (hl:vs.size=caps.length) (hr:∀ (j:Nat) (x:A),caps[j]? = some x→RepA w M ρ h x (vs.getD j undef)) :
  Does P (do pure (.value (← Instr.makeFunc (.func f) #[] vs))) w M ρ h (.fn f caps) h :=
 .pure (by simp [Instr.makeFunc]) (.fn hl hr) S
theorem run_slice' {t et:TypeId} {ti:TypeInfo} {a:Option Addr} {n cap:Nat} {lo hi mx:Option Value} {l u m:Int} (hu:P.underlying t=some (.slice et)) (hi':P.info? et=some ti)
  (hlo:(lo=none∧l=0)∨∃ k,lo=some (.int k l)) (hhi:(hi=none∧u=n∧mx=none)∨∃ k,hi=some (.int k u)) (hmx:(mx=none∧m=cap)∨∃ k,mx=some (.int k m))
  (h0:0≤l) (h1:l≤u) (h2:u≤m) (h3:m≤cap) :
  (Instr.slice t (.slice a n cap) lo hi mx).run P w = .ok (.slice (if m.toNat=l.toNat then a else a.map (·.add (l.toNat * ti.size))) (u.toNat-l.toNat) (m.toNat-l.toNat)) w:=by
 have hb:(Instr.sliceBounds true n cap lo hi mx).run P w = .ok (l.toNat,u.toNat,m.toNat) w:=by
  unfold Instr.sliceBounds
  have el:(l.toNat:Int)=l:=by omega
  have eu:(u.toNat:Int)=u:=by omega
  have em:(m.toNat:Int)=m:=by omega
  rcases hmx with ⟨rfl,rfl⟩ | ⟨km,rfl⟩
  ·rcases hhi with ⟨rfl,rfl,_⟩ | ⟨kh,rfl⟩
   ·rcases hlo with ⟨rfl,rfl⟩ | ⟨kl,rfl⟩
    ·simp
    ·simp [run_sliceBound w kl l n _ h0 h1]
   ·rcases hlo with ⟨rfl,rfl⟩ | ⟨kl,rfl⟩
    ·simp [run_sliceBound w kh u cap _ (by omega) h2]
    ·simp [run_sliceBound w kh u cap _ (by omega) h2,run_sliceBound w kl l u.toNat _ h0 (by omega)]
  ·rcases hhi with ⟨rfl,rfl,hm⟩ | ⟨kh,rfl⟩
   ·cases hm
   ·rcases hlo with ⟨rfl,rfl⟩ | ⟨kl,rfl⟩
    ·simp [run_sliceBound w km m cap _ (by omega) h3,run_sliceBound w kh u m.toNat _ (by omega) (by omega)]
    ·simp [run_sliceBound w km m cap _ (by omega) h3,run_sliceBound w kh u m.toNat _ (by omega) (by omega),run_sliceBound w kl l u.toNat _ h0 (by omega)]
 unfold Instr.slice
 simp only [Sem.run_bind,run_underlying hu,Result.andThen_ok,hb,run_sizeOf hi',Sem.run_pure]
end Go.Proofs.YtlllnjhgjijnkaaDoor.Nx
namespace Go.Proofs.YtlllnjhgjijnkaaDoor.Nx
open Go
variable {P:Program} {w w':World} {M:Nat→Prop} {ρ ρ':Phys} {h h':Heap}
def optVal (x:Option Value) (dflt:Nat) (n:Int):Prop:=(x=none∧n=dflt)∨∃ k,x=some (.int k n)
theorem cut_addr {a:Addr} {X:Nat→Prop} {e:Elt} {rows:List (List D)} {l u:Nat} (hu:u≤rows.length) (hsz:∀ r∈rows,r.length=e.sz)
  (hc:∀ (i:Nat) (r:List D),rows[i]? = some r→∀ (j:Nat) (d:D),r[j]? = some d→∃ v,w.cell? (a.add (i * e.sz+j))=some v∧¬ X a.block∧RepD w X d v) {cap:Nat} (hcap:u-l≤cap) (hm:cap≤maxLen) (hb:rows.length * e.bytes≤room) :
  RepD w X (.sl e ((rows.drop l).take (u-l))) (.slice (some (a.add (l * e.sz))) (u-l) cap):=by
 have hlen:((rows.drop l).take (u-l)).length=u-l:=by simp;omega
 have hg:∀ (i:Nat) (r:List D),((rows.drop l).take (u-l))[i]? = some r→rows[l+i]? = some r:=by
  intro i r hi
  have hlt:i<u-l:=by rw [← hlen];exact (zA.1 hi).1
  rw [List.getElem?_take_of_lt hlt,zl] at hi
  exact hi
 have hex:∀ i,i<u-l→∃ f:Nat→Value,∀ r,((rows.drop l).take (u-l))[i]? = some r→∀ j d,r[j]? = some d→w.cell? ((a.add (l * e.sz)).add (i * e.sz+j))=some (f j)∧¬ X a.block∧RepD w X d (f j):=by
  intro i hi
  have hr:∃ r,((rows.drop l).take (u-l))[i]? = some r:=⟨_,zB (by rw [hlen];exact hi)⟩
  obtain ⟨r,hr⟩:=hr
  have h2:=hc _ _ (hg i r hr)
  have hex2:∀ j,j<r.length→∃ v,∀ d,r[j]? = some d→w.cell? ((a.add (l * e.sz)).add (i * e.sz+j))=some v∧¬ X a.block∧RepD w X d v:=by
   intro j hj
   obtain ⟨v,k1,k2,k3⟩:=h2 j _ (zB hj)
   refine ⟨v,fun d hd=>?_⟩
   rw [zB hj] at hd;cases hd
   rw [add_add]
   refine ⟨?_,k2,k3⟩
   rw [← k1,← Nat.add_assoc,← Nat.add_mul]
  obtain ⟨f,hf⟩:=choose_lt hex2
  refine ⟨f,fun r' hr' j d hj=>?_⟩
  rw [hr] at hr';cases hr'
  exact hf j (zA.1 hj).1 d hj
 obtain ⟨f,hf⟩:=choose_lt hex
 have hlt:∀ (i:Nat) (r:List D),((rows.drop l).take (u-l))[i]? = some r→i<u-l:=fun i r hi=>by rw [← hlen];exact (zA.1 hi).1
 have key:=RepD.sl (w:=w) (X:=X) (e:=e) (rows:=(rows.drop l).take (u-l)) (a:=a.add (l * e.sz)) (cap:=cap) (u:=fun i j=>f i j) (by rw [hlen];exact hcap) hm
  (Nat.le_trans (zX _ (by rw [hlen];omega)) hb) (fun r hr=>hsz r (List.mem_of_mem_drop (List.mem_of_mem_take hr)))
  (fun i r j d hi hj=>by have:=hf i (hlt i r hi) r hi j d hj;rw [add_block];exact ⟨this.1,this.2.1⟩) (fun i r j d hi hj=>(hf i (hlt i r hi) r hi j d hj).2.2)
 rw [hlen] at key
 exact key
theorem does_slice_sl {t et:TypeId} {ti:TypeInfo} {e:Elt} {rows:List (List D)} {v:Value} {lo hi mx:Option Value} {l u m:Int} (S:SimH w M ρ h) (hu:P.underlying t=some (.slice et)) (hti:P.info? et=some ti) (he:e.sz=ti.size)
  (hx:RepD w (Own M ρ) (.sl e rows) v) (hlo:optVal lo 0 l) (hhi:optVal hi rows.length u) (hmx:optVal mx rows.length m) (hh:mx.isSome=true→hi.isSome=true) (h0:0≤l) (h1:l≤u) (h2:u≤m) (h3:m≤rows.length) {bm:Bool} (hbm:bm=true→mx.isSome=true) :
  Does P (do pure (.value (← Instr.sliceAt t v lo hi mx))) w M ρ h (cutA bm l u m e rows) h:=by
 obtain ⟨a,cap,rfl,hl,hm,hb,hsz,hc⟩:=sl_inv hx
 have hc':=hc
 have hrun:∃ m':Int,u≤m'∧(Instr.sliceAt t (.slice a rows.length cap) lo hi mx).run P w = .ok (.slice (if m'.toNat=l.toNat then a else a.map (·.add (l.toNat * ti.size))) (u.toNat-l.toNat) (m'.toNat-l.toNat)) w∧m'≤cap∧(mx.isSome=true→m'=m):=by
  have hs:P.underlying t=some (.slice (P.elem t)):=by simp [Program.elem,hu]
  rcases hmx with ⟨rfl,rfl⟩ | ⟨km,rfl⟩
  ·refine ⟨cap,by omega,?_,by omega,fun h=>by cases h⟩
   rw [run_sliceAt_slice w t _ _ _ _ hs]
   refine run_slice' hu hti (by rcases hlo with h | h;exact .inl (by simpa using h);exact .inr h) (by rcases hhi with h | h;exact .inl ⟨h.1,h.2,rfl⟩;exact .inr h) (.inl ⟨rfl,rfl⟩) h0 h1 (by omega) (by omega)
  ·refine ⟨m,by omega,?_,by omega,fun _=>rfl⟩
   rw [run_sliceAt_slice w t _ _ _ _ hs]
   refine run_slice' hu hti (by rcases hlo with h | h;exact .inl (by simpa using h);exact .inr h) (by rcases hhi with h | h;(have:=hh rfl;rw [h.1] at this;cases this);exact .inr h) (.inr ⟨km,rfl⟩) h0 h1 h2 (by omega)
 obtain ⟨m',hm1,hrun,hm2,hm3⟩:=hrun
 have key:RepD w (Own M ρ) (.sl e ((rows.drop l.toNat).take (u-l).toNat)) (.slice (if m'.toNat=l.toNat then a else a.map (·.add (l.toNat * ti.size))) (u.toNat-l.toNat) (m'.toNat-l.toNat)):=by
  have eul:(u-l).toNat=u.toNat-l.toNat:=by omega
  rw [eul]
  by_cases hlu:l.toNat=u.toNat
  ·have:u.toNat-l.toNat=0:=by omega
   rw [this,List.take_zero]
   refine .nil (by omega) (fun hn=>?_)
   by_cases hml:m'.toNat=l.toNat
   ·omega
   ·rw [if_neg hml] at hn
    have ha:a=none:=by
     cases a with
     | none=>rfl
     | some _=>simp at hn
    subst ha
    have:=(nil_cap hx).2.2
    omega
  ·rw [if_neg (by omega)]
   obtain ⟨a0,rfl⟩:∃ a0,a=some a0:=by
    have hne:0<rows.length:=by omega
    obtain ⟨a0,ha,_⟩:=hc 0 _ (zB hne)
    exact ⟨a0,ha⟩
   simp only [Option.map_some]
   rw [← he]
   refine cut_addr (by omega) hsz (fun i r hi j d hj=>?_) (by omega) (by omega) hb
   obtain ⟨a1,ha,hcell⟩:=hc i r hi
   cases ha
   exact hcell j d hj
 refine .pure (by rw [Sem.run_bind,hrun];rfl) ?_ S
 unfold cutA
 split
 ·rename_i hc
  obtain ⟨c1,c2,c3⟩:=hc
  have e1:=hm3 (hbm c1)
  have hne:0<rows.length:=by omega
  obtain ⟨a0,ha,_⟩:=hc' 0 _ (zB hne)
  subst e1 c3
  rw [ha,if_neg (by omega)] at key ⊢
  exact .fd key
 ·exact .d key
theorem does_slice_ref {t et:TypeId} {ti:TypeInfo} {e:Elt} {rows:List (List A)} {id N off len:Nat} {full:Bool} {v:Value} {lo hi mx:Option Value} {l u m:Int} (S:SimH w M ρ h) (hu:P.underlying t=some (.slice et)) (hti:P.info? et=some ti) (he:e.sz=ti.size)
  (hid:h[id]? = some (.cells e rows)) (hN:N=rows.length) (hx:RepA w M ρ h (.ref id N off len full) v) (hlo:optVal lo 0 l) (hhi:optVal hi len u) (hmx:optVal mx len m) (hh:mx.isSome=true→hi.isSome=true) (h0:0≤l) (h1:l≤u) (h2:u≤m) (h3:m≤len) :
  Does P (do pure (.value (← Instr.sliceAt t v lo hi mx))) w M ρ h (.ref id N (off+l.toNat) (u-l).toNat (full&&mx.isNone)) h:=by
 have hs:P.underlying t=some (.slice (P.elem t)):=by simp [Program.elem,hu]
 have eul:(u-l).toNat=u.toNat-l.toNat:=by omega
 rcases ref_inv hx hid hN with ⟨rfl,rfl,rfl,rfl,hp⟩ | ⟨b,p,o,cap,hp,rfl,hlen,hcap,hm,ho,hphys,hfull⟩
 ·have hl0:l=0:=by omega
  have hu0:u=0:=by omega
  have hm0:m=0:=by omega
  subst hl0;subst hu0;subst hm0
  subst hN
  have hrun:(Instr.sliceAt t (.slice none 0 0) lo hi mx).run P w = .ok (.slice none 0 0) w:=by
   rw [run_sliceAt_slice w t _ _ _ _ hs]
   have:=run_slice' (P:=P) (w:=w) (a:=none) (n:=0) (cap:=0) (lo:=lo) (hi:=hi) (mx:=mx) (l:=0) (u:=0) (m:=0) hu hti (by rcases hlo with h | h;exact .inl (by simpa using h);exact .inr h) (by
    rcases hhi with h | h
    ·refine .inl ⟨h.1,h.2,?_⟩
     cases mx with
     | none=>rfl
     | some x=>have:=hh rfl;rw [h.1] at this;cases this
    ·exact .inr h) (by rcases hmx with h | h;exact .inl h;exact .inr h) (by omega) (by omega) (by omega) (by simp)
   simpa using this
  exact .pure (by rw [Sem.run_bind,hrun];rfl) (.ref0 hid hp) S
 ·have hrun:∃ m':Int,u≤m'∧(Instr.sliceAt t (.slice (some ⟨b,o,none⟩) len cap) lo hi mx).run P w = .ok (.slice (if m'.toNat=l.toNat then some ⟨b,o,none⟩ else (some ⟨b,o,none⟩:Option Addr).map (·.add (l.toNat * ti.size))) (u.toNat-l.toNat) (m'.toNat-l.toNat)) w∧m'≤cap∧(mx.isNone=true→m'=cap):=by
   rcases hmx with ⟨rfl,rfl⟩ | ⟨km,rfl⟩
   ·refine ⟨cap,by omega,?_,by omega,fun _=>rfl⟩
    rw [run_sliceAt_slice w t _ _ _ _ hs]
    exact run_slice' hu hti (by rcases hlo with h | h;exact .inl (by simpa using h);exact .inr h) (by rcases hhi with h | h;exact .inl ⟨h.1,h.2,rfl⟩;exact .inr h) (.inl ⟨rfl,rfl⟩) h0 h1 (by omega) (by omega)
   ·refine ⟨m,by omega,?_,by omega,fun hn=>by cases hn⟩
    rw [run_sliceAt_slice w t _ _ _ _ hs]
    exact run_slice' hu hti (by rcases hlo with h | h;exact .inl (by simpa using h);exact .inr h) (by rcases hhi with h | h;(have:=hh rfl;rw [h.1] at this;cases this);exact .inr h) (.inr ⟨km,rfl⟩) h0 h1 h2 (by omega)
  obtain ⟨m',hm1,hrun,hm2,hm3⟩:=hrun
  refine .pure (by rw [Sem.run_bind,hrun];rfl) ?_ S
  rw [eul,hN]
  have hsz:0<e.sz:=(S.cells id e rows hid).1
  by_cases hc0:m'.toNat=l.toNat
  ·rw [if_pos hc0]
   have e1:m'.toNat-l.toNat=0:=by omega
   have e2:u.toNat-l.toNat=0:=by omega
   rw [e1,e2]
   refine .ref hid hp (by omega) (Nat.le_refl _) (by omega) (.inl rfl) ?_ (fun hf=>?_)
   ·refine Nat.le_trans (zX _ ?_) hphys
    omega
   ·simp only [Bool.and_eq_true] at hf
    have:=hfull hf.1
    have:=hm3 hf.2
    omega
  ·rw [if_neg hc0]
   simp only [Option.map_some]
   rw [add_off]
   have ho':o=off * e.sz:=ho.resolve_left (by omega)
   refine .ref hid hp (by omega) (by omega) (by omega) (.inr (by rw [ho',Nat.add_mul,he])) ?_ (fun hf=>?_)
   ·refine Nat.le_trans (zX _ ?_) hphys
    omega
   ·simp only [Bool.and_eq_true] at hf
    have:=hfull hf.1
    have:=hm3 hf.2
    omega
theorem does_slice_nil {t et:TypeId} {ti:TypeInfo} {v:Value} {lo hi mx:Option Value} (S:SimH w M ρ h) (hu:P.underlying t=some (.slice et)) (hti:P.info? et=some ti)
  (hx:RepA w M ρ h .nil v) (hlo:optVal lo 0 0) (hhi:optVal hi 0 0) (hmx:optVal mx 0 0) (hh:mx.isSome=true→hi.isSome=true) :
  Does P (do pure (.value (← Instr.sliceAt t v lo hi mx))) w M ρ h .nil h:=by
 have hs:P.underlying t=some (.slice (P.elem t)):=by simp [Program.elem,hu]
 have:=nil_inv hx
 subst this
 have hrun:(Instr.sliceAt t (.slice none 0 0) lo hi mx).run P w = .ok (.slice none 0 0) w:=by
  rw [run_sliceAt_slice w t _ _ _ _ hs]
  have:=run_slice' (P:=P) (w:=w) (a:=none) (n:=0) (cap:=0) (lo:=lo) (hi:=hi) (mx:=mx) (l:=0) (u:=0) (m:=0) hu hti (by rcases hlo with h | h;exact .inl (by simpa using h);exact .inr h) (by
   rcases hhi with h | h
   ·refine .inl ⟨h.1,h.2,?_⟩
    cases mx with
    | none=>rfl
    | some x=>have:=hh rfl;rw [h.1] at this;cases this
   ·exact .inr h) (by rcases hmx with h | h;exact .inl h;exact .inr h) (by omega) (by omega) (by omega) (by simp)
  simpa using this
 exact .pure (by rw [Sem.run_bind,hrun];rfl) .nil S
theorem does_sslice {t:TypeId} {s:ByteArray} {v:Value} {lo hi:Option Value} {l u:Int} (S:SimH w M ρ h) (hu:P.underlying t=some .string) (hx:RepA w M ρ h (.str s) v) (hlo:optVal lo 0 l) (hhi:optVal hi s.size u)
  (h0:0≤l) (h1:l≤u) (h2:u≤s.size) :
  Does P (do pure (.value (← Instr.sliceAt t v lo hi none))) w M ρ h (.str (s.extract l.toNat u.toNat)) h:=by
 obtain ⟨rfl,hs⟩:=sc_inv hx
 have el:(l.toNat:Int)=l:=by omega
 have eu:(u.toNat:Int)=u:=by omega
 have hb:(Instr.sliceBounds false s.size s.size lo hi none).run P w = .ok (l.toNat,u.toNat,s.size) w:=by
  unfold Instr.sliceBounds
  rcases hhi with ⟨rfl,rfl⟩ | ⟨kh,rfl⟩
  ·rcases hlo with ⟨rfl,rfl⟩ | ⟨kl,rfl⟩
   ·simp
   ·simp [run_sliceBound w kl l s.size _ h0 h1]
  ·rcases hlo with ⟨rfl,rfl⟩ | ⟨kl,rfl⟩
   ·simp [run_sliceBound w kh u s.size _ (by omega) h2]
   ·simp [run_sliceBound w kh u s.size _ (by omega) h2,run_sliceBound w kl l u.toNat _ h0 (by omega)]
 refine .pure (v:=.string (s.extract l.toNat u.toNat)) ?_ (.d (.sc ?_)) S
 ·rw [Sem.run_bind,run_sliceAt_string w t _ _ _ _ hu]
  unfold Instr.slice
  simp only [Sem.run_bind,run_underlying hu,Result.andThen_ok,hb,Sem.run_pure,Option.isSome_none,Bool.false_eq_true,if_false]
 ·show (s.extract l.toNat u.toNat).size≤maxLen
  have:(s.extract l.toNat u.toNat).size≤s.size:=by simp;omega
  exact Nat.le_trans this hs
structure Src (P:Program) (w:World) (M:Nat→Prop) (ρ:Phys) (h:Heap) (sz:Nat) (new:List (List A)) (v:Value) (f:Nat→Value):Prop where
 rows:∀ r∈new,r.length=sz
 len:∀ w':World,(Builtin.lenOf v).run P w' = .ok new.length w'
 first:∀ (w':World) (n:Nat),w'.heap=w.heap→n≤new.length→(Builtin.firstCells sz n v).run P w' = .ok ((List.range (n * sz)).map f).toArray w'
 one:∀ k,k<new.length * sz→(f k).oneCell'=true
 rep:∀ (i:Nat) (r:List A) (j:Nat) (y:A),new[i]? = some r→r[j]? = some y→RepA w M ρ h y (f (i * sz+j))
theorem divmod {k sz:Nat}:k / sz * sz+k % sz=k:=by rw [Nat.mul_comm];exact Nat.div_add_mod k sz
theorem src_cells {sz:Nat} {new:List (List A)} {a:Addr} {n cap:Nat} (h0:0<sz) (hn:n=new.length) (hrows:∀ r∈new,r.length=sz)
  (hc:∀ (i:Nat) (r:List A) (j:Nat) (y:A),new[i]? = some r→r[j]? = some y→∃ u,w.cell? (a.add (i * sz+j))=some u∧u.oneCell'=true∧RepA w M ρ h y u) :
  ∃ f,Src P w M ρ h sz new (.slice (some a) n cap) f:=by
 have hex:∀ k,k<new.length * sz→∃ u,w.cell? (a.add k)=some u∧u.oneCell'=true∧∀ r y,new[k / sz]? = some r→r[k % sz]? = some y→RepA w M ρ h y u:=by
  intro k hk
  have hi:k / sz<new.length:=(Nat.div_lt_iff_lt_mul h0).2 hk
  have hr:=zB hi
  have hj:k % sz<(new[k / sz]).length:=by rw [hrows _ (List.getElem_mem hi)];exact Nat.mod_lt _ h0
  obtain ⟨u,k1,k2,k3⟩:=hc _ _ _ _ hr (zB hj)
  rw [divmod] at k1
  refine ⟨u,k1,k2,fun r y q1 q2=>?_⟩
  rw [hr] at q1;cases q1
  rw [zB hj] at q2;cases q2
  exact k3
 obtain ⟨f,hf⟩:=choose_lt hex
 refine ⟨f,hrows,fun w'=>by simp [Builtin.lenOf,hn],fun w' n' hw hn'=>?_,fun k hk=>(hf k hk).2.1,fun i r j y hi hj=>?_⟩
 ·refine run_firstCells_some w' sz n' a n cap _ (by simp) (fun j v hj=>?_)
  simp only [zK,zT] at hj
  obtain ⟨k,hk,rfl⟩:=hj
  have hk':k=j∧j<n' * sz:=by
   have:=zA.1 hk
   obtain ⟨q1,q2⟩:=this
   simp at q1 q2
   exact ⟨q2.symm,q1⟩
  obtain ⟨rfl,hlt⟩:=hk'
  have:=(hf k (Nat.lt_of_lt_of_le hlt (zX _ hn'))).1
  simpa [World.cell?,hw] using this
 ·have hi':i<new.length:=(zA.1 hi).1
  have hj':j<sz:=by have:=(zA.1 hj).1;rwa [hrows r (List.mem_of_getElem? hi)] at this
  have hk:i * sz+j<new.length * sz:=by
   have:(i+1) * sz≤new.length * sz:=zX _ hi'
   rw [Nat.add_mul] at this;omega
  have e1:(i * sz+j) / sz=i:=by rw [Nat.mul_comm,Nat.mul_add_div h0,Nat.div_eq_of_lt hj'];simp
  have e2:(i * sz+j) % sz=j:=by rw [Nat.mul_comm,Nat.mul_add_mod,Nat.mod_eq_of_lt hj']
  exact (hf _ hk).2.2 r y (by rw [e1];exact hi) (by rw [e2];exact hj)
theorem src_nil {sz:Nat} {b:Option Addr} {cap:Nat}:∃ f,Src P w M ρ h sz [] (.slice b 0 cap) f:=by
 refine ⟨fun _=>.bool false,by simp,fun w'=>by simp [Builtin.lenOf],fun w' n hw hn=>?_,fun k hk=>by simp at hk,fun i r j y hi=>by simp at hi⟩
 have:n=0:=by simpa using hn
 subst this
 cases b with
 | none=>simp [Builtin.firstCells]
 | some a=>simp [Builtin.firstCells,loadCells,loadCellsFrom]
theorem src_ok {e:Elt} {a:A} {v:Value} {new:List (List A)} (S:SimH w M ρ h) (h0:0<e.sz) (hx:RepA w M ρ h a v) (hs:srcRows e h a=some new):∃ f,Src P w M ρ h e.sz new v f:=by
 have dcase:∀ (e':Elt) (rows:List (List D)),e'.sz=e.sz→RepD w (Own M ρ) (.sl e' rows) v→new=rows.map (fun r=>r.map .d)→∃ f,Src P w M ρ h e.sz new v f:=by
  intro e' rows he hd hnew
  obtain ⟨a,cap,rfl,h1,h2,h3,h4,h5⟩:=sl_inv hd
  cases rows with
  | nil=>subst hnew;exact src_nil
  | cons r0 rs =>
   obtain ⟨a0,rfl,_⟩:=h5 0 r0 rfl
   subst hnew
   refine src_cells h0 (by simp) (fun r hr=>?_) (fun i r j y hi hj=>?_)
   ·obtain ⟨r',hr',rfl⟩:=List.mem_map.1 hr
    simp [h4 r' hr',he]
   ·simp only [zK,zT] at hi
    obtain ⟨r',hr',rfl⟩:=hi
    simp only [zK,zT] at hj
    obtain ⟨d,hd',rfl⟩:=hj
    obtain ⟨a1,ha,hcell⟩:=h5 i r' hr'
    cases ha
    obtain ⟨u,k1,_,k3⟩:=hcell j d hd'
    rw [he] at k1
    exact ⟨u,k1,k3.one,.d k3⟩
 cases a with
 | nil=>simp [srcRows] at hs;subst hs;rw [nil_inv hx];exact src_nil
 | nn e' rows =>
  simp only [srcRows] at hs
  split at hs<;>cases hs
  exact dcase e' rows ‹_› (nn_inv hx).1 rfl
 | fd e' rows =>
  simp only [srcRows] at hs
  split at hs<;>cases hs
  exact dcase e' rows ‹_› (nn_inv (fd_inv hx).1).1 rfl
 | d x =>
  cases x with
  | sl e' rows =>
   simp only [srcRows] at hs
   split at hs<;>cases hs
   exact dcase e' rows ‹_› (d_inv hx) rfl
  | sc u =>
   cases u with
   | string s =>
    simp only [srcRows] at hs
    split at hs<;>cases hs
    rename_i hsz
    obtain ⟨rfl,hs⟩:=sc_inv hx
    have hlen:s.data.toList.length=s.size:=by rw [Array.length_toList];rfl
    refine ⟨fun k=>.int .u8 (s.data.toList.getD k 0).toNat,fun r hr=>?_,fun w'=>by simp only [Builtin.lenOf,Sem.run_pure,List.length_map,hlen],fun w' n hw hn=>?_,fun _ _=>rfl,fun i r j y hi hj=>?_⟩
    ·obtain ⟨b,_,rfl⟩:=List.mem_map.1 hr;simp [hsz]
    ·rw [hsz,Nat.mul_one]
     simp only [Builtin.firstCells,Sem.run_pure]
     congr 1
     apply Array.ext'
     simp only [ByteArray.data_extract,Array.map_extract,Array.toList_extract,Array.toList_map]
     apply List.ext_getElem?
     intro k
     simp only [List.length_map] at hn
     rw [hlen] at hn
     by_cases hk:k<n
     ·have hk':k<s.data.toList.length:=by omega
      simp [List.extract,hk,List.getElem?_take_of_lt,List.getElem?_range,List.getD]
      have:s.data[k]? = some (s.data[k]'(by simpa using hk')):=by simp at hk';simp [hk']
      rw [this];simp
     ·rw [zk (by simp [List.extract];omega),zk (by simp;omega)]
    ·simp only [zK,zT] at hi
     obtain ⟨b,hb,rfl⟩:=hi
     have hj0:j=0:=by have:=(zA.1 hj).1;simpa using this
     subst hj0
     simp at hj
     subst hj
     rw [hsz,Nat.mul_one,Nat.add_zero]
     have e1:s.data.toList.getD i 0=b:=by rw [List.getD,hb];rfl
     rw [e1]
     refine .d (.sc ?_)
     have:=b.toNat_lt
     show IntKind.u8.min≤(b.toNat:Int)∧(b.toNat:Int)≤IntKind.u8.max
     simp only [IntKind.min,IntKind.max,IntKind.bits,IntKind.signed,Bool.false_eq_true,if_false]
     omega
   | _=>simp [srcRows] at hs
 | ref id N off len full =>
  simp only [srcRows] at hs
  split at hs
  ·rename_i e' rows hid
   split at hs<;>cases hs
   rename_i hc
   obtain ⟨he,hN⟩:=hc
   have hcells:=S.cells id e' rows hid
   rcases ref_inv hx hid hN with ⟨rfl,rfl,rfl,rfl,hp⟩ | ⟨b,p,o,cap,hp,rfl,hlen,hcap,hm,ho,hphys,hfull⟩
   ·exact src_nil
   ·have hln:((rows.drop off).take len).length=len:=by simp;omega
    rcases Nat.eq_zero_or_pos len with hl0 | hl0
    ·subst hl0;simp only [List.take_zero];exact src_nil
    ·have ho':o=off * e'.sz:=ho.resolve_left (by omega)
     have hg:∀ (i:Nat) (r:List A),((rows.drop off).take len)[i]? = some r→rows[off+i]? = some r:=by
      intro i r hi
      have hlt:i<len:=by rw [← hln];exact (zA.1 hi).1
      rw [List.getElem?_take_of_lt hlt,zl] at hi
      exact hi
     refine src_cells h0 hln.symm (fun r hr=>?_) (fun i r j y hi hj=>?_)
     ·rw [← he];exact hcells.2.2.2.1 r (List.mem_of_mem_drop (List.mem_of_mem_take hr))
     ·obtain ⟨u,k1,k2,k3⟩:=own_cells S hid hp (hg i r hi) 0 j y (by simpa using hj)
      refine ⟨u,?_,k2,k3⟩
      rw [add_off] at k1 ⊢
      rw [← k1,ho',← he]
      congr 2
      rw [Nat.add_mul];omega
  ·cases hs
 | _=>simp [srcRows] at hs
end Go.Proofs.YtlllnjhgjijnkaaDoor.Nx

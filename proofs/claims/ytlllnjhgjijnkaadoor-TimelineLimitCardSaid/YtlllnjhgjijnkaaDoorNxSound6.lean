import Derived.Test.YtlllnjhgjijnkaaDoorNxSound4
import Derived.Laws.BytesArg
import Derived.RangeFuncRecord
set_option linter.unusedSimpArgs false
set_option linter.unusedVariables false
set_option linter.unnecessarySimpa false
open List renaming getElem?_eq_some_iff → zA, getElem?_eq_getElem → zB, getElem?_set_self → zN, mem_of_getElem? → zY, length_map → zg, getElem?_eq_none → zk, getElem?_drop → zl
open Option.some renaming injEq → zH
open Nat renaming le_refl → zL, mul_le_mul_right → zX
open Array renaming getD_eq_getD_getElem? → zR
namespace Go.Proofs.YtlllnjhgjijnkaaDoor.Nx
open Go
variable {P:Program} {w w':World} {M:Nat→Prop} {ρ ρ':Phys} {h h':Heap}
section
variable {t t' ty et:TypeId} {i:TypeInfo} {z:Value}
theorem run_app_room (ht:P.underlying t=some (.slice et)) (ht':(∃ e2,P.underlying t'=some (.slice e2))∨P.underlying t'=some .string) (hi:P.info? et=some i) {base:Option Addr} {n cap m:Nat} {x:Value} {news:Array Value}
  (hlen:(Builtin.lenOf x).run P w = .ok m w) (hfirst:(Builtin.firstCells i.size m x).run P w = .ok news w) (hroom:n+m≤cap)
  (hst:∀ a,base=some a→(storeCells (a.add (n * i.size)) news.toList).run P w = .ok () w') (hst':base=none→w'=w) :
  (Builtin.append_ #[t,t'] ty #[.slice base n cap,x]).run P w = .ok (.slice base (n+m) cap) w':=by
 rcases ht' with ⟨e2,ht'⟩ | ht'
 ·cases base with
  | none=>simp [Builtin.append_,run_underlying ht,run_underlying ht',sizeOf,typeInfo,hi,hlen,hroom,hfirst,hst' rfl]
  | some a=>simp [Builtin.append_,run_underlying ht,run_underlying ht',sizeOf,typeInfo,hi,hlen,hroom,hfirst,hst a rfl]
 ·cases base with
  | none=>simp [Builtin.append_,run_underlying ht,run_underlying ht',sizeOf,typeInfo,hi,hlen,hroom,hfirst,hst' rfl]
  | some a=>simp [Builtin.append_,run_underlying ht,run_underlying ht',sizeOf,typeInfo,hi,hlen,hroom,hfirst,hst a rfl]
theorem run_app_grow (ht:P.underlying t=some (.slice et)) (ht':(∃ e2,P.underlying t'=some (.slice e2))∨P.underlying t'=some .string) (hi:P.info? et=some i) (hz:i.zero=some z) {base:Option Addr} {n cap m:Nat} {x:Value} {olds news:Array Value}
  (hlen:(Builtin.lenOf x).run P w = .ok m w) (holds:(Builtin.firstCells i.size n (.slice base n cap)).run P w.drew = .ok olds w.drew) (hfirst:(Builtin.firstCells i.size m x).run P w.drew = .ok news w.drew) (hg:cap<n+m) (hm:n+m≤maxLen)
  (hb:(n+m) * i.bytes≤room) :
  (Builtin.append_ #[t,t'] ty #[.slice base n cap,x]).run P w = .ok (.slice (some ⟨w.heap.size,0,none⟩) (n+m) (grownCap w (n+m) cap et))
   (w.drew.alloc (.cells (olds++news++Builtin.zeroCells z.cells (grownCap w (n+m) cap et-(n+m))) et)):=by
 have hn:¬ (n+m≤cap):=by omega
 have h63:¬ (9223372036854775807<((n:Int)+(m:Int))):=by unfold maxLen at hm;omega
 have h48:¬ (281474976710656<Builtin.nextslicecap (n+m) cap * i.bytes):=by
  have:=growslice_fits (need:=n+m) (old:=cap) (bytes:=i.bytes) hg (by unfold room at hb;exact hb)
  omega
 rcases ht' with ⟨e2,ht'⟩ | ht'
 ·simp [Builtin.append_,run_underlying ht,run_underlying ht',sizeOf,typeInfo,zeroValue,hi,hz,hlen,hn,h63,h48,Question.forced,hfirst,holds,newRow,grownCap]
 ·simp [Builtin.append_,run_underlying ht,run_underlying ht',sizeOf,typeInfo,zeroValue,hi,hz,hlen,hn,h63,h48,Question.forced,hfirst,holds,newRow,grownCap]
end
theorem app_cells {sz:Nat} {rows new:List (List A)} {cur:Array Value} {f:Nat→Value} {len:Nat} (hold:∀ (i:Nat) (r:List A) (j:Nat) (x:A),rows[i]? = some r→r[j]? = some x→∃ v,cur[i * sz+j]? = some v∧v.oneCell'=true∧RepA w M ρ h x v)
  (hrows:∀ r∈rows,r.length=sz) (srows:∀ r∈new,r.length=sz) (sone:∀ k,k<new.length * sz→(f k).oneCell'=true)
  (srep:∀ (i:Nat) (r:List A) (j:Nat) (y:A),new[i]? = some r→r[j]? = some y→RepA w M ρ h y (f (i * sz+j))) (hlen:len≤rows.length) {cells:Array Value}
  (h1:∀ k,k<len * sz→cells[k]? = cur[k]?) (h2:∀ k,k<new.length * sz→cells[len * sz+k]? = some (f k)) (h3:∀ k,(len+new.length) * sz≤k→k<rows.length * sz→cells[k]? = cur[k]?)
  {i:Nat} {r:List A} {j:Nat} {x:A} (hi:(rows.take len++new++rows.drop (len+new.length))[i]? = some r) (hj:r[j]? = some x) :
  ∃ v,cells[i * sz+j]? = some v∧v.oneCell'=true∧RepA w M ρ h x v:=by
 have ltl:(rows.take len).length=len:=by simp;omega
 rw [List.append_assoc,List.getElem?_append,ltl] at hi
 split at hi
 ·rename_i hlt
  rw [List.getElem?_take_of_lt hlt] at hi
  obtain ⟨u,k1,k2,k3⟩:=hold i r j x hi hj
  have hjl:j<sz:=by have:=(zA.1 hj).1;rwa [hrows r (zY hi)] at this
  have hk:i * sz+j<len * sz:=by
   have:(i+1) * sz≤len * sz:=zX _ hlt
   rw [Nat.add_mul] at this;omega
  exact ⟨u,by rw [h1 _ hk];exact k1,k2,k3⟩
 ·rename_i hge
  rw [List.getElem?_append] at hi
  split at hi
  ·rename_i hlt
   have hjl:j<sz:=by have:=(zA.1 hj).1;rwa [srows r (zY hi)] at this
   have hk:(i-len) * sz+j<new.length * sz:=by
    have:(i-len+1) * sz≤new.length * sz:=zX _ hlt
    rw [Nat.add_mul] at this;omega
   have e:i * sz+j=len * sz+((i-len) * sz+j):=by
    rw [← Nat.add_assoc,← Nat.add_mul];congr 2;omega
   rw [e]
   exact ⟨_,h2 _ hk,sone _ hk,srep _ r j x hi hj⟩
  ·rename_i hge2
   rw [zl] at hi
   have ei:len+new.length+(i-len-new.length)=i:=by omega
   rw [ei] at hi
   have hjl:j<sz:=by have:=(zA.1 hj).1;rwa [hrows r (zY hi)] at this
   obtain ⟨u,k1,k2,k3⟩:=hold i r j x hi hj
   have hil:i<rows.length:=(zA.1 hi).1
   refine ⟨u,?_,k2,k3⟩
   rw [h3,k1]
   ·have:(len+new.length) * sz≤i * sz:=zX _ (by omega)
    omega
   ·have:(i+1) * sz≤rows.length * sz:=zX _ hil
    rw [Nat.add_mul] at this;omega
theorem seg_parts {cur:Array Value} {new:List Value} {o:Nat} (hl:o+new.length≤cur.size) :
  (cur.toList.take o++new++cur.toList.drop (o+new.length)).toArray.size=cur.size ∧
  (∀ k,k<o→(cur.toList.take o++new++cur.toList.drop (o+new.length)).toArray[k]? = cur[k]?) ∧
  (∀ k,k<new.length→(cur.toList.take o++new++cur.toList.drop (o+new.length)).toArray[o+k]? = new[k]?) ∧
  (∀ k,o+new.length≤k→(cur.toList.take o++new++cur.toList.drop (o+new.length)).toArray[k]? = cur[k]?):=by
 have hs:=fun j=>seg_get (cur:=cur) (new:=new.toArray) (o:=o) (j:=j) (by simpa using hl)
 simp only [List.size_toArray] at hs
 refine ⟨by simp;omega,fun k hk=>?_,fun k hk=>?_,fun k hk=>?_⟩
 ·have:=hs k;rw [if_neg (by omega)] at this;exact this
 ·have:=hs (o+k);rw [if_pos (by omega),Nat.add_sub_cancel_left] at this;simpa using this
 ·have:=hs k;rw [if_neg (by omega)] at this;exact this
theorem range_get {n:Nat} {f:Nat→Value} {k:Nat} (hk:k<n):((List.range n).map f)[k]? = some (f k):=by simp [hk]
theorem does_append {t t' ty et:TypeId} {ti:TypeInfo} {zv:Value} {e:Elt} {rows new:List (List A)} {id N len:Nat} {full:Bool} {v x:Value} {f:Nat→Value} (S:SimH w M ρ h) (bnd:∀ b,M b→b<w.heap.size)
  (ht:P.underlying t=some (.slice et)) (ht':(∃ e2,P.underlying t'=some (.slice e2))∨P.underlying t'=some .string) (hti:P.info? et=some ti) (hz:ti.zero=some zv) (hzv:zv.cells.size=ti.size) (he:e.sz=ti.size) (heb:e.bytes=ti.bytes)
  (hid:h[id]? = some (.cells e rows)) (hN:N=rows.length) (hx:RepA w M ρ h (.ref id N 0 len full) v) (src:Src P w M ρ h e.sz new x f) (hroom:(len+new.length) * e.bytes≤room) (hmax:len+new.length≤maxLen)
  (hcase:len=N∨(full=true∧len+new.length≤N)) :
  Does P (do pure (.value (← Builtin.append_ #[t,t'] ty #[v,x]))) w M ρ h (.ref id (rows.take len++new++rows.drop (len+new.length)).length 0 (len+new.length) true) (h.set id (.cells e (rows.take len++new++rows.drop (len+new.length)))):=by
 have hbs:=S.cells id e rows hid
 obtain ⟨g1,g2,g3,g4,g5⟩:=hbs
 have hidl:id<h.length:=(zA.1 hid).1
 have hRlen:len≤rows.length→(rows.take len++new++rows.drop (len+new.length)).length=max rows.length (len+new.length):=by intro hl;simp;omega
 have hRrows:∀ r∈rows.take len++new++rows.drop (len+new.length),r.length=e.sz:=by
  intro r hr
  simp only [List.mem_append] at hr
  rcases hr with (hr | hr) | hr
  ·exact g4 r (List.mem_of_mem_take hr)
  ·exact src.rows r hr
  ·exact g4 r (List.mem_of_mem_drop hr)
 have growTo:len=N→∀ (base:Option Addr) (cap:Nat) (olds:Array Value),v = .slice base len cap→cap<len+new.length→olds.size=len * e.sz →
   (∀ w',w'.heap=w.heap→(Builtin.firstCells ti.size len (.slice base len cap)).run P w' = .ok olds w') →
   (∀ (i:Nat) (r:List A) (j:Nat) (x:A),rows[i]? = some r→r[j]? = some x→∃ v,olds[i * e.sz+j]? = some v∧v.oneCell'=true∧RepA w M ρ h x v)→len≤cap →
   Does P (do pure (.value (← Builtin.append_ #[t,t'] ty #[v,x]))) w M ρ h (.ref id (rows.take len++new++rows.drop (len+new.length)).length 0 (len+new.length) true) (h.set id (.cells e (rows.take len++new++rows.drop (len+new.length)))):=by
  intro hlN base cap olds hv hg holds hfo hcells hlc
  subst hv
  have hrun:=run_app_grow (P:=P) (w:=w) (ty:=ty) (x:=x) (news:=((List.range (new.length * e.sz)).map f).toArray) ht ht' hti hz (src.len w) (hfo _ rfl) (by rw [← he];exact src.first _ _ rfl (zL _)) hg hmax (by rw [← heb];exact hroom)
  have hlr:len=rows.length:=by omega
  have hlen':=hRlen (by omega)
  have hcell:∀ (extra:Array Value) (i:Nat) (r:List A) (j:Nat) (y:A),(rows.take len++new++rows.drop (len+new.length))[i]? = some r→r[j]? = some y→∃ v,(olds++((List.range (new.length * e.sz)).map f).toArray++extra)[i * e.sz+j]? = some v∧v.oneCell'=true∧RepA w M ρ h y v:=by
   intro extra i r j y hi hj
   refine app_cells (cur:=olds) (len:=len) hcells g4 src.rows src.one src.rep (by omega) (fun k hk=>?_) (fun k hk=>?_) (fun k hk hk'=>?_) hi hj
   ·rw [Array.getElem?_append_left (by simp;omega),Array.getElem?_append_left (by omega)]
   ·rw [Array.getElem?_append_left (by simp;omega),Array.getElem?_append_right (by omega),holds,Nat.add_sub_cancel_left]
    simpa using range_get hk
   ·have:rows.length * e.sz≤(len+new.length) * e.sz:=zX _ (by omega)
    omega
  have S1:SimH w.drew M ρ h:=S.drew
  have hcell':=fun extra i r j y hi hj=>hcell extra i r j y hi hj
  have S2:=S1.grow (e:=e) (rows':=rows.take len++new++rows.drop (len+new.length)) (cs:=olds++((List.range (new.length * e.sz)).map f).toArray++Builtin.zeroCells zv.cells (grownCap w (len+new.length) cap et-(len+new.length))) bnd et hid
   (by rw [hlen'];omega) (by rw [hlen',Nat.max_eq_right (by omega)];exact hroom) (by rw [hlen',Nat.max_eq_right (by omega)];exact hmax) hRrows
   (by
    rw [hlen',Nat.max_eq_right (by omega)]
    simp only [Array.size_append,List.size_toArray,zg,List.length_range,holds,Nat.add_mul]
    omega)
   (fun i r j y hi hj=>by
    obtain ⟨u,q1,q2,q3⟩:=hcell' _ i r j y hi hj
    exact ⟨u,q1,q2,(Evo.drew (h:=h) (ρ:=ρ) (w:=w) _ (zL _)).rep' q3⟩)
  refine ⟨_,_,_,.inl (by rw [Sem.run_bind,hrun];rfl),?_,S2,(Evo.drew _ (zL _)).trans (.grow _ _ hid (by rw [hlen'];omega))⟩
  have hgc:=grownCap_ge w (len+new.length) cap et
  have hgm:=grownCap_le_maxLen w (len+new.length) cap et hmax
  refine .ref (zN hidl) (zN (by rw [S.len];exact hidl)) (by rw [hlen'];omega) hgc hgm (.inr (by simp)) ?_ (fun _=>by rw [hlen'];omega)
  simp only [Array.size_append,List.size_toArray,zg,List.length_range,holds,size_zeroCells,hzv,← he,← Nat.add_mul]
  exact zX _ (by omega)
 have same:new=[]→(rows.take len++new++rows.drop (len+new.length))=rows∧h.set id (.cells e rows)=h:=by
  intro hn
  subst hn
  refine ⟨by simp,?_⟩
  obtain ⟨hlt,heq⟩:=zA.1 hid
  rw [← heq];exact List.set_getElem_self hlt
 rcases ref_inv hx hid hN with ⟨rfl,rfl,_,rfl,hp⟩ | ⟨b,p,o,cap,hp,rfl,hlen,hcap,hm,ho,hphys,hfull⟩
 ·by_cases hn:new=[]
  ·obtain ⟨e1,e2⟩:=same hn
   rw [e1,e2]
   subst hn
   have hrun:=run_app_room (P:=P) (w:=w) (w':=w) (ty:=ty) (x:=x) (n:=0) (cap:=0) (m:=0) (base:=none) (news := #[]) ht ht' hti (src.len w) (by rw [← he];have:=src.first w 0 rfl (by simp);simpa using this) (by simp) (fun _ h=>by cases h) (fun _=>rfl)
   exact .pure (v:=.slice none 0 0) (by rw [Sem.run_bind,hrun];rfl) (.ref0 hid hp) S
  ·have hnl:0<new.length:=List.length_pos_iff.2 hn
   exact growTo hN.symm none 0 #[] rfl (by omega) (by simp) (fun w' _=>by simp [Builtin.firstCells]) (fun i r j x hi=>by simp at hi) (zL _)
 ·by_cases hfit:len+new.length≤cap
  ·by_cases hn:new=[]
   ·obtain ⟨e1,e2⟩:=same hn
    rw [e1,e2]
    subst hn
    have hrun:=run_app_room (P:=P) (w:=w) (w':=w) (ty:=ty) (x:=x) (n:=len) (cap:=cap) (m:=0) (base:=some ⟨b,o,none⟩) (news := #[]) ht ht' hti (src.len w) (by rw [← he];have:=src.first w 0 rfl (by simp);simpa using this) (by simpa using hfit) (fun a h=>by simp [storeCells]) (fun h=>by cases h)
    refine .pure (v:=.slice (some ⟨b,o,none⟩) len cap) (by rw [Sem.run_bind,hrun];rfl) ?_ S
    simp only [List.length_nil,Nat.add_zero]
    refine .ref hid hp hlen hcap hm ho hphys (fun _=>?_)
    rcases hcase with hc | hc
    ·omega
    ·exact hfull hc.1
   ·have hnl:0<new.length:=List.length_pos_iff.2 hn
    have ho':o=0:=by have:=ho.resolve_left (by omega);simpa using this
    subst ho'
    rcases g5 with ⟨g5,_⟩ | ⟨b',p',cs,tb,g5,g6,g7,g8,g9,g10⟩
    ·rw [hp] at g5;cases g5
    rw [hp] at g5;cases g5
    have hfitp:(len+new.length) * e.sz≤cs.size:=by
     rw [g8]
     refine Nat.le_trans (zX _ ?_) hphys
     omega
    have hfitp':len * e.sz+new.length * e.sz≤cs.size:=by rw [← Nat.add_mul];exact hfitp
    have hst:=run_storeCells_at P b (len * e.sz) tb ((List.range (new.length * e.sz)).map f) 0 cs w g7 (by simp;omega) (fun u hu=>by
     obtain ⟨k,hk,rfl⟩:=List.mem_map.1 hu
     exact src.one k (by simpa using hk))
    rw [Nat.add_zero] at hst
    obtain ⟨q1,q2,q3,q4⟩:=seg_parts (cur:=cs) (new:=(List.range (new.length * e.sz)).map f) (o:=len * e.sz) (by simp;omega)
    obtain ⟨hd,hh⟩:=setRow_differs (cs:=(cs.toList.take (len * e.sz)++(List.range (new.length * e.sz)).map f++cs.toList.drop (len * e.sz+((List.range (new.length * e.sz)).map f).length)).toArray) g7
    have hrun:=run_app_room (P:=P) (w:=w) (ty:=ty) (x:=x) (n:=len) (cap:=cap) (m:=new.length) (base:=some ⟨b,0,none⟩) (news:=((List.range (new.length * e.sz)).map f).toArray) ht ht' hti (src.len w)
     (by rw [← he];exact src.first w _ rfl (zL _)) hfit (fun a h=>by cases h;rw [add_off,Nat.zero_add,← he];exact hst) (fun h=>by cases h)
    have hlr:len≤rows.length:=by omega
    have hlen':=hRlen hlr
    have hmaxR:max rows.length (len+new.length) * e.bytes≤room∧max rows.length (len+new.length)≤maxLen:=by
     rcases Nat.le_total rows.length (len+new.length) with h1 | h1
     ·rw [Nat.max_eq_right h1];exact ⟨hroom,hmax⟩
     ·rw [Nat.max_eq_left h1];exact ⟨g2,g3⟩
    have hRp:max rows.length (len+new.length) * e.sz≤p:=by
     rcases Nat.le_total rows.length (len+new.length) with h1 | h1
     ·rw [Nat.max_eq_right h1,← g8];exact hfitp
     ·rw [Nat.max_eq_left h1];exact g9
    refine ⟨_,_,ρ,.inl (by rw [Sem.run_bind,hrun];rfl),?_,S.put hid hp hd (by rw [hlen'];omega) hh (by rw [q1];exact g8) (by rw [hlen'];exact hmaxR.1) (by rw [hlen'];exact hmaxR.2) hRrows (by rw [hlen'];exact hRp) (fun i r j y hi hj=>?_),.put hid hp hd (by rw [hlen'];omega)⟩
    ·refine .ref (zN hidl) hp (by rw [hlen'];omega) hfit hm (.inr (by simp)) (by simpa using hphys) (fun _=>?_)
     rw [hlen']
     rcases hcase with hc | hc
     ·omega
     ·have:=hfull hc.1;omega
    ·refine app_cells (cur:=cs) (len:=len) g10 g4 src.rows src.one src.rep hlr (fun k hk=>q2 k hk) (fun k hk=>?_) (fun k hk _=>q4 k (by simp only [zg,List.length_range];rw [← Nat.add_mul];exact hk)) hi hj
     rw [q3 k (by simpa using hk)]
     exact range_get hk
  ·have hlN:len=N:=by
    rcases hcase with hc | hc
    ·exact hc
    ·have:=hfull hc.1;omega
   obtain ⟨f0,src0⟩:=src_ok (P:=P) (e:=e) (a:=.ref id N 0 len full) S g1 hx (new:=(rows.drop 0).take len) (by simp only [srcRows,hid];exact if_pos ⟨trivial,hN⟩)
   have hln:((rows.drop 0).take len).length=len:=by simp;omega
   refine growTo hlN (some ⟨b,o,none⟩) cap ((List.range (len * e.sz)).map f0).toArray rfl (by omega) (by simp) (fun w' hw=>?_) (fun i r j x hi hj=>?_) hcap
   ·rw [← he];exact src0.first w' len hw (by rw [hln];exact zL _)
   ·have hil:i<len:=by have:=(zA.1 hi).1;omega
    have hi':((rows.drop 0).take len)[i]? = some r:=by rw [List.getElem?_take_of_lt hil];simpa using hi
    have hjl:j<e.sz:=by have:=(zA.1 hj).1;rwa [g4 r (zY hi)] at this
    have hk:i * e.sz+j<len * e.sz:=by
     have:(i+1) * e.sz≤len * e.sz:=zX _ hil
     rw [Nat.add_mul] at this;omega
    exact ⟨f0 (i * e.sz+j),by simpa using range_get hk,src0.one _ (by rw [hln];exact hk),src0.rep i r j x hi' hj⟩
end Go.Proofs.YtlllnjhgjijnkaaDoor.Nx
namespace Go.Proofs.YtlllnjhgjijnkaaDoor.Nx
open Go
variable {P:Program} {w w':World} {M:Nat→Prop} {ρ ρ':Phys} {h h':Heap}
theorem does_append_nil {t t' ty et:TypeId} {ti:TypeInfo} {zv:Value} {e:Elt} {new:List (List A)} {v x:Value} {f:Nat→Value} {pl:Option Nat} {K:A→Heap→Prop} (S:SimH w M ρ h) (bnd:∀ b,M b→b<w.heap.size)
  (ht:P.underlying t=some (.slice et)) (ht':(∃ e2,P.underlying t'=some (.slice e2))∨P.underlying t'=some .string) (hti:P.info? et=some ti) (hz:ti.zero=some zv) (hzv:zv.cells.size=ti.size) (he:e.sz=ti.size) (heb:e.bytes=ti.bytes) (h0:0<e.sz)
  (hx:RepA w M ρ h .nil v) (src:Src P w M ρ h e.sz new x f)
  (hK:if new=[] then K .nil h else new.length * e.bytes≤room∧new.length≤maxLen∧place pl h (.cells e new) fun id h1=>K (.ref id new.length 0 new.length true) h1) :
  ∃ r h',K r h'∧Does P (do pure (.value (← Builtin.append_ #[t,t'] ty #[v,x]))) w M ρ h r h':=by
 have:=nil_inv hx
 subst this
 split at hK
 ·rename_i hn
  subst hn
  have hrun:=run_app_room (P:=P) (w:=w) (w':=w) (ty:=ty) (x:=x) (n:=0) (cap:=0) (m:=0) (base:=none) (news := #[]) ht ht' hti (src.len w) (by rw [← he];have:=src.first w 0 rfl (by simp);simpa using this) (by simp) (fun _ h=>by cases h) (fun _=>rfl)
  exact ⟨_,_,hK,.pure (v:=.slice none 0 0) (by rw [Sem.run_bind,hrun];rfl) .nil S⟩
 ·obtain ⟨k1,k2,k3⟩:=hK
  obtain ⟨id,h1,ρ1,n,hKr⟩:=place_new (ρ:=ρ) k3 none
  -- the same place, first with a block without rows
  have hn:∃ h0 ρ0,NewAt h ρ (.cells e []) none pl id h0 ρ0∧h0.set id (.cells e new)=h1:=by
   cases n with
   | push=>exact ⟨_,_,.push,by simp⟩
   | set hr=>exact ⟨_,_,.set hr,by simp⟩
  obtain ⟨h0',ρ0,n0,e1⟩:=hn
  have g:=Evo.newNil (w:=w) n0 S.len
  have src':Src P w M ρ0 h0' e.sz new x f:=⟨src.rows,src.len,src.first,src.one,fun i r j y hi hj=>g.rep' (src.rep i r j y hi hj)⟩
  have hd:=does_append (P:=P) (t:=t) (t':=t') (ty:=ty) (len:=0) (full:=true) (id:=id) (e:=e) (rows:=[]) (v:=.slice none 0 0) (x:=x) (N:=0) (S.newNil h0 n0) bnd ht ht' hti hz hzv he heb n0.heap rfl (.ref0 n0.heap (n0.phys S.len)) src' (by simpa using k1) (by simpa using k2) (.inl rfl)
  simp only [List.take_nil,List.nil_append,List.drop_nil,List.append_nil,Nat.zero_add] at hd
  rw [e1] at hd
  obtain ⟨v',w',ρ',q1,q2,q3,q4⟩:=hd
  refine ⟨_,_,hKr,v',w',ρ',q1,q2,q3,g.trans (q4.mono (n0.len S.len).2)⟩
theorem does_append_fd {t t' ty et:TypeId} {ti:TypeInfo} {zv:Value} {e e':Elt} {rows:List (List D)} {new:List (List A)} {v x:Value} {f:Nat→Value} {pl:Option Nat} {K:A→Heap→Prop} (S:SimH w M ρ h) (bnd:∀ b,M b→b<w.heap.size)
  (ht:P.underlying t=some (.slice et)) (ht':(∃ e2,P.underlying t'=some (.slice e2))∨P.underlying t'=some .string) (hti:P.info? et=some ti) (hz:ti.zero=some zv) (hzv:zv.cells.size=ti.size) (he:e.sz=ti.size) (heb:e.bytes=ti.bytes) (h0:0<e.sz)
  (hx:RepA w M ρ h (.fd e' rows) v) (src:Src P w M ρ h e.sz new x f)
  (hK:e'.sz=e.sz∧new≠[]∧(rows.length+new.length) * e.bytes≤room∧rows.length+new.length≤maxLen ∧
   place pl h (.cells e ((rows.map fun r=>r.map .d)++new)) fun id h1=>K (.ref id (rows.length+new.length) 0 (rows.length+new.length) true) h1) :
  ∃ r h',K r h'∧Does P (do pure (.value (← Builtin.append_ #[t,t'] ty #[v,x]))) w M ρ h r h':=by
 obtain ⟨k0,hne,k1,k2,k3⟩:=hK
 obtain ⟨hnn,a,rfl⟩:=fd_inv hx
 have hnl:0<new.length:=List.length_pos_iff.2 hne
 obtain ⟨id,h1,ρ1,n,hKr⟩:=place_new (ρ:=ρ) k3 none
 have hn:∃ h0 ρ0,NewAt h ρ (.cells e []) none pl id h0 ρ0∧h0.set id (.cells e ((rows.map fun r=>r.map .d)++new))=h1:=by
  cases n with
  | push=>exact ⟨_,_,.push,by simp⟩
  | set hr=>exact ⟨_,_,.set hr,by simp⟩
 obtain ⟨h0',ρ0,n0,e1⟩:=hn
 have g:=Evo.newNil (w:=w) n0 S.len
 have S0:=S.newNil h0 n0
 have src':Src P w M ρ0 h0' e.sz new x f:=⟨src.rows,src.len,src.first,src.one,fun i r j y hi hj=>g.rep' (src.rep i r j y hi hj)⟩
 obtain ⟨f0,src0⟩:=src_ok (P:=P) (e:=e) (a:=.nn e' rows) S0 h0 (g.rep' hnn) (new:=rows.map fun r=>r.map .d) (by simp only [srcRows];exact if_pos k0)
 have hlm:(rows.map fun r=>r.map A.d).length=rows.length:=by simp
 have hrun:=run_app_grow (P:=P) (w:=w) (ty:=ty) (x:=x) (base:=some a) (n:=rows.length) (cap:=rows.length) (olds:=((List.range (rows.length * e.sz)).map f0).toArray) (news:=((List.range (new.length * e.sz)).map f).toArray) ht ht' hti hz (src.len w)
  (by rw [← he];exact src0.first _ _ rfl (by rw [hlm];exact zL _)) (by rw [← he];exact src.first _ _ rfl (zL _)) (by omega) k2 (by rw [← heb];exact k1)
 have hRl:((rows.map fun r=>r.map A.d)++new).length=rows.length+new.length:=by simp
 have hRr:∀ r∈(rows.map fun r=>r.map A.d)++new,r.length=e.sz:=by
  intro r hr
  rcases List.mem_append.1 hr with hr | hr
  ·exact src0.rows r hr
  ·exact src.rows r hr
 have S1:SimH w.drew M ρ0 h0':=S0.drew
 have hcell:∀ (extra:Array Value) (i:Nat) (r:List A) (j:Nat) (y:A),((rows.map fun r=>r.map A.d)++new)[i]? = some r→r[j]? = some y →
   ∃ v,(((List.range (rows.length * e.sz)).map f0).toArray++((List.range (new.length * e.sz)).map f).toArray++extra)[i * e.sz+j]? = some v∧v.oneCell'=true∧RepA w M ρ0 h0' y v:=by
  intro extra i r j y hi hj
  have hi0:(((rows.map fun r=>r.map A.d).take rows.length)++new++((rows.map fun r=>r.map A.d).drop (rows.length+new.length)))[i]? = some r:=by
   rw [List.take_of_length_le (by simp),List.drop_eq_nil_of_le (by simp),List.append_nil];exact hi
  refine app_cells (cur:=((List.range (rows.length * e.sz)).map f0).toArray) (len:=rows.length) (rows:=rows.map fun r=>r.map A.d) (fun i r j y hi hj=>?_) src0.rows src'.rows src'.one src'.rep (by simp) (fun k hk=>?_) (fun k hk=>?_) (fun k hk hk'=>?_) hi0 hj
  ·have hil:i<rows.length:=by have:=(zA.1 hi).1;simpa using this
   have hjl:j<e.sz:=by have:=(zA.1 hj).1;rwa [src0.rows r (zY hi)] at this
   have hk:i * e.sz+j<rows.length * e.sz:=by
    have:(i+1) * e.sz≤rows.length * e.sz:=zX _ hil
    rw [Nat.add_mul] at this;omega
   exact ⟨f0 (i * e.sz+j),by simpa using range_get hk,src0.one _ (by rw [hlm];exact hk),src0.rep i r j y hi hj⟩
  ·rw [Array.getElem?_append_left (by simp;omega),Array.getElem?_append_left (by simp;omega)]
  ·rw [Array.getElem?_append_left (by simp;omega),Array.getElem?_append_right (by simp)]
   simp only [List.size_toArray,zg,List.length_range,Nat.add_sub_cancel_left]
   simpa using range_get hk
  ·rw [hlm] at hk'
   have:rows.length * e.sz≤(rows.length+new.length) * e.sz:=zX _ (by omega)
   omega
 have hgc:=grownCap_ge w (rows.length+new.length) rows.length et
 have hgm:=grownCap_le_maxLen w (rows.length+new.length) rows.length et k2
 have S2:=S1.grow (e:=e) (rows':=(rows.map fun r=>r.map A.d)++new) (cs:=((List.range (rows.length * e.sz)).map f0).toArray++((List.range (new.length * e.sz)).map f).toArray++Builtin.zeroCells zv.cells (grownCap w (rows.length+new.length) rows.length et-(rows.length+new.length))) bnd et n0.heap
  (by rw [hRl];simp;omega) (by rw [hRl];exact k1) (by rw [hRl];exact k2) hRr
  (by
   rw [hRl]
   simp only [Array.size_append,List.size_toArray,zg,List.length_range,Nat.add_mul]
   omega)
  (fun i r j y hi hj=>by
   obtain ⟨u,q1,q2,q3⟩:=hcell _ i r j y hi hj
   exact ⟨u,q1,q2,(Evo.drew (h:=h0') (ρ:=ρ0) (w:=w) _ (zL _)).rep' q3⟩)
 have hidl:id<h0'.length:=(zA.1 n0.heap).1
 rw [← e1] at hKr
 refine ⟨_,_,hKr,_,_,_,.inl (by rw [Sem.run_bind,hrun];rfl),?_,S2,g.trans (((Evo.drew _ (zL _)).trans (.grow _ _ n0.heap (by rw [hRl];simp;omega))).mono (n0.len S.len).2)⟩
 rw [← hRl]
 refine .ref (zN hidl) (zN (by rw [S0.len];exact hidl)) (by omega) (by rw [hRl];exact hgc) (by rw [hRl];exact hgm) (.inr (by simp)) ?_ (fun _=>by rw [hRl];omega)
 simp only [Array.size_append,List.size_toArray,zg,List.length_range,size_zeroCells,hzv,← he,← Nat.add_mul]
 exact zX _ (by omega)
theorem does_copy {t t' ty et:TypeId} {ti:TypeInfo} {e:Elt} {rows new:List (List A)} {id N off len:Nat} {full:Bool} {v x:Value} {f:Nat→Value} (S:SimH w M ρ h)
  (ht:P.underlying t=some (.slice et)) (hti:P.info? et=some ti) (he:e.sz=ti.size)
  (hid:h[id]? = some (.cells e rows)) (hN:N=rows.length) (hx:RepA w M ρ h (.ref id N off len full) v) (src:Src P w M ρ h e.sz new x f) :
  Does P (do pure (.value (← Builtin.copy_ #[t,t'] ty #[v,x]))) w M ρ h (.int (min new.length len:Nat)) (h.set id (.cells e (rows.take off++new.take (min new.length len)++rows.drop (off+min new.length len)))):=by
 obtain ⟨g1,g2,g3,g4,g5⟩:=S.cells id e rows hid
 have hidl:id<h.length:=(zA.1 hid).1
 have hn1:min new.length len≤new.length:=Nat.min_le_left _ _
 have hfirst:=src.first w (min new.length len) rfl hn1
 have hmin:Nat.min new.length len=min new.length len:=rfl
 have hle:min new.length len≤maxLen:=by
  rcases ref_inv hx hid hN with ⟨_,_,_,rfl,_⟩ | ⟨_,_,_,_,_,_,hlen,_⟩
  ·simp
  ·have:=Nat.min_le_right new.length len;omega
 by_cases hn:min new.length len=0
 ·rw [hn]
  have e1:rows.take off++new.take 0++rows.drop (off+0)=rows:=by simp
  have e2:h.set id (.cells e rows)=h:=by
   obtain ⟨hlt,heq⟩:=zA.1 hid
   rw [← heq];exact List.set_getElem_self hlt
  rw [e1,e2]
  rw [hn] at hfirst
  refine .pure (v:=.int .i64 0) ?_ (.d (.sc (has_i64 (n:=0) (by simp)))) S
  have hmin0:Nat.min new.length len=0:=hn
  rcases ref_inv hx hid hN with ⟨rfl,_⟩ | ⟨b,p,o,cap,hp,rfl,_⟩
  ·simp [Builtin.copy_,run_underlying ht,src.len,hmin0,run_sizeOf hti,← he,hfirst,goInt]
  ·simp [Builtin.copy_,run_underlying ht,src.len,hmin0,run_sizeOf hti,← he,hfirst,goInt,storeCells]
 ·rcases ref_inv hx hid hN with ⟨rfl,_,_,rfl,_⟩ | ⟨b,p,o,cap,hp,rfl,hlen,hcap,hm,ho,hphys,hfull⟩
  ·simp at hn
  ·have hl2:min new.length len≤len:=Nat.min_le_right _ _
   have ho':o=off * e.sz:=ho.resolve_left (by omega)
   subst ho'
   rcases g5 with ⟨g5,_⟩ | ⟨b',p',cs,tb,g5,g6,g7,g8,g9,g10⟩
   ·rw [hp] at g5;cases g5
   rw [hp] at g5;cases g5
   generalize hnn:min new.length len=n at *
   have hfit:off * e.sz+n * e.sz≤cs.size:=by
    rw [g8,← Nat.add_mul]
    exact Nat.le_trans (zX _ (by omega)) hphys
   have hst:=run_storeCells_at P b (off * e.sz) tb ((List.range (n * e.sz)).map f) 0 cs w g7 (by simp;omega) (fun u hu=>by
    obtain ⟨k,hk,rfl⟩:=List.mem_map.1 hu
    have hk':k<n * e.sz:=by simpa using hk
    exact src.one k (Nat.lt_of_lt_of_le hk' (zX _ hn1)))
   obtain ⟨q1,q2,q3,q4⟩:=seg_parts (cur:=cs) (new:=(List.range (n * e.sz)).map f) (o:=off * e.sz) (by simp;omega)
   obtain ⟨hd,hh⟩:=setRow_differs (cs:=(cs.toList.take (off * e.sz)++(List.range (n * e.sz)).map f++cs.toList.drop (off * e.sz+((List.range (n * e.sz)).map f).length)).toArray) g7
   have hRl:(rows.take off++new.take n++rows.drop (off+n)).length=rows.length:=by simp;omega
   have hRrows:∀ r∈rows.take off++new.take n++rows.drop (off+n),r.length=e.sz:=by
    intro r hr
    simp only [List.mem_append] at hr
    rcases hr with (hr | hr) | hr
    ·exact g4 r (List.mem_of_mem_take hr)
    ·exact src.rows r (List.mem_of_mem_take hr)
    ·exact g4 r (List.mem_of_mem_drop hr)
   refine ⟨.int .i64 n,_,ρ,.inl ?_,.d (.sc (has_i64 hle)),S.put hid hp hd (by rw [hRl];exact zL _) hh (by rw [q1];exact g8) (by rw [hRl];exact g2) (by rw [hRl];exact g3) hRrows (by rw [hRl];exact g9) (fun i r j y hi hj=>?_),.put hid hp hd (by rw [hRl];exact zL _)⟩
   ·have hmin2:Nat.min new.length len=n:=hnn
    rw [Nat.add_zero] at hst
    simp [Builtin.copy_,run_underlying ht,src.len,hmin2,run_sizeOf hti,← he,hfirst,goInt]
    simpa using congrArg (fun r=>(r.andThen fun _ w=>Result.ok (Value.int .i64 n) w).andThen fun a w=>Result.ok (Next.value a) w) hst
   ·have hnl:(new.take n).length=n:=by simp;omega
    refine app_cells (cur:=cs) (len:=off) (new:=new.take n) (f:=f) g10 g4 (fun r hr=>src.rows r (List.mem_of_mem_take hr)) (fun k hk=>src.one k ?_) (fun i r j y hi hj=>?_) (by omega) (fun k hk=>q2 k hk) (fun k hk=>?_) (fun k hk _=>q4 k ?_) (by rw [hnl];exact hi) hj
    ·rw [hnl] at hk;exact Nat.lt_of_lt_of_le hk (zX _ hn1)
    ·have hil:i<n:=by have:=(zA.1 hi).1;omega
     rw [List.getElem?_take_of_lt hil] at hi
     exact src.rep i r j y hi hj
    ·rw [hnl] at hk
     rw [q3 k (by simpa using hk)]
     exact range_get hk
    ·simp only [zg,List.length_range];rw [hnl] at hk;rw [← Nat.add_mul];exact hk
theorem does_make {t et:TypeId} {e:Elt} {z:List A} {n c:Int} {u u':Value} {pl:Option Nat} {K:A→Heap→Prop} (S:SimH w M ρ h) (bnd:∀ b,M b→b<w.heap.size)
  (ht:P.underlying t=some (.slice et)) (he:elt? P et=some e) (hz:zeroCells? P et=some z) (hs:small e=true) (hx:RepA w M ρ h (.int n) u) (hy:RepA w M ρ h (.int c) u')
  (h0:0≤n) (h1:n≤c) (h63:c≤9223372036854775807) (hroom:c * e.bytes≤room) (hK:place pl h (.cells e (List.replicate n.toNat z)) fun id h1=>K (.ref id n.toNat 0 n.toNat true) h1) :
  ∃ r h',K r h'∧Does P (do pure (.value (← Instr.makeSlice t u u'))) w M ρ h r h':=by
 obtain ⟨rfl, -⟩:=sc_inv hx
 obtain ⟨rfl, -⟩:=sc_inv hy
 obtain ⟨ti,zv,z1,z2,z3,z4,z5,z6⟩:=zero_rep (w:=w) (M:=M) (ρ:=ρ) (h:=h) hz
 obtain ⟨ti',hti,rfl⟩:=elt_some he
 rw [z1] at hti;cases hti
 obtain ⟨s1,s2⟩:=small_spec hs
 dsimp only at *
 have hb:(ti.bytes:Int) * c≤281474976710656:=by rw [Int.mul_comm];unfold room at hroom;omega
 have hrun:=run_make (P:=P) w t et ti zv ht z1 z2 .i64 .i64 n c h0 h1 hb h63
 have hR:=zero_rows (n:=c.toNat) (w:=w) (M:=M) (ρ:=ρ) (h:=h) (sz:=ti.size) (zv:=zv.cells) (z:=z) ⟨by omega,z5,z6⟩ z4 s1
 have hcs:(madeCells zv.cells (c.toNat * ti.size)).size=c.toNat * ti.size:=size_madeCells _ _
 have hnc:n.toNat≤c.toNat:=by omega
 have hcb:c.toNat * ti.bytes≤room:=by
  have:((c.toNat * ti.bytes:Nat):Int)≤room:=by
   rw [Int.natCast_mul]
   have:(c.toNat:Int)=c:=by omega
   rw [this];exact hroom
  omega
 obtain ⟨id,h1',ρ1,nw,hKr⟩:=place_new (ρ:=ρ) hK (some (w.heap.size,(madeCells zv.cells (c.toNat * ti.size)).size))
 refine ⟨_,_,hKr,_,_,ρ1,.inl (by rw [Sem.run_bind,hrun];rfl),?_,S.newCells bnd et nw s1 ?_ ?_ ?_ ?_ ?_,.newAlloc nw S.len⟩
 ·have:=RepA.ref (w:=w.alloc (.cells (madeCells zv.cells (c.toNat * ti.size)) et)) (M:=M) (off:=0) (len:=n.toNat) (o:=0) (cap:=c.toNat) (full:=true) nw.heap (nw.phys S.len) (by simp) hnc (by unfold maxLen;omega) (.inr (by simp)) (by rw [hcs];simp) (fun _=>by simp;omega)
  simpa using this
 ·simp only [List.length_replicate];exact Nat.le_trans (zX _ hnc) hcb
 ·simp only [List.length_replicate];unfold maxLen;omega
 ·intro r hr;rw [(List.mem_replicate.1 hr).2];exact z4
 ·simp only [List.length_replicate,hcs];exact zX _ hnc
 ·intro i r j x hi hj
  have hi':i<n.toNat:=by have:=(zA.1 hi).1;simpa using this
  have hr:r=z:=by
   have:=List.getElem?_replicate_of_lt (a:=z) hi'
   rw [this] at hi;exact (Option.some.inj hi).symm
  subst hr
  exact hR.get (List.getElem?_replicate_of_lt (by omega)) hj
theorem does_minmax2 {isMax:Bool} {k:IntKind} {a b:Int} {u v:Value} {ts:Array TypeId} {ty:TypeId} (S:SimH w M ρ h) (hx:RepA w M ρ h (.sc (.int k a)) u) (hy:RepA w M ρ h (.sc (.int k b)) v) :
  Does P (do pure (.value (← if isMax then Builtin.max_ ts ty #[u,v] else Builtin.min_ ts ty #[u,v]))) w M ρ h (.sc (.int k (minmaxInt isMax a b))) h:=by
 obtain ⟨rfl,ha⟩:=sc_inv hx
 obtain ⟨rfl,hb⟩:=sc_inv hy
 refine .pure (v:=.int k (minmaxInt isMax a b)) ?_ (.d (.sc ?_)) S
 ·cases isMax<;>simp [Builtin.max_,Builtin.min_,Builtin.max2,Builtin.min2,minmaxInt]
 ·unfold minmaxInt;cases isMax<;>simp only [Bool.false_eq_true,if_false,if_true]<;>split<;>assumption
theorem does_minmax3 {isMax:Bool} {k:IntKind} {a b c:Int} {u v x:Value} {ts:Array TypeId} {ty:TypeId} (S:SimH w M ρ h) (hx:RepA w M ρ h (.sc (.int k a)) u) (hy:RepA w M ρ h (.sc (.int k b)) v) (hz:RepA w M ρ h (.sc (.int k c)) x) :
  Does P (do pure (.value (← if isMax then Builtin.max_ ts ty #[u,v,x] else Builtin.min_ ts ty #[u,v,x]))) w M ρ h (.sc (.int k (minmaxInt isMax (minmaxInt isMax a b) c))) h:=by
 obtain ⟨rfl,ha⟩:=sc_inv hx
 obtain ⟨rfl,hb⟩:=sc_inv hy
 obtain ⟨rfl,hc⟩:=sc_inv hz
 refine .pure (v:=.int k (minmaxInt isMax (minmaxInt isMax a b) c)) ?_ (.d (.sc ?_)) S
 ·cases isMax<;>simp [Builtin.max_,Builtin.min_,Builtin.max2,Builtin.min2,minmaxInt]
 ·unfold minmaxInt;cases isMax<;>simp only [Bool.false_eq_true,if_false,if_true]<;>(repeat' split)<;>assumption
theorem does_aaddr {t et:TypeId} {n:Nat} {ti:TypeInfo} {x y:A} {v u:Value} {K:A→Heap→Prop} (S:SimH w M ρ h) (ht:P.underlying t=some (.array n et)) (hti:P.info? et=some ti) (hx:RepA w M ρ h x v) (hy:RepA w M ρ h y u)
  (hK:match (generalizing:=false) x,y with
   | .ptr id N i' off,.d (.sc (.int _ m))=>match h[id]? with
    | some (.cells _ rows)=>N=rows.length∧0≤m∧m<n∧K (.ptr id N i' (off+m.toNat * ti.size)) h
    | _=>False
   | .iptr cs,.d (.sc (.int _ m))=>0≤m∧m<n∧K (.iptr (cs.drop (m.toNat * ti.size))) h
   | _,_=>False) :
  ∃ r h',K r h'∧Does P (do pure (.value (← Instr.indexAt t v u))) w M ρ h r h':=by
 have run:∀ (a:Addr) (k:IntKind) (m:Int),0≤m→m<n→(Instr.indexAt t (.pointer (some a)) (.int k m)).run P w = .ok (.pointer (some (a.add (m.toNat * ti.size)))) w:=by
  intro a k m h0 h1
  simp [Instr.indexAt,asIntOf,run_underlying ht,Instr.sureAddr,h0,h1,run_sizeOf hti]
 split at hK
 ·rename_i id N i' off k m
  obtain ⟨rfl, -⟩:=sc_inv hy
  split at hK
  ·rename_i e rows hid
   obtain ⟨hN,h0,h1,hK⟩:=hK
   obtain ⟨b,p,hρ,rfl⟩:=ptr_inv hx hid hN
   refine ⟨_,_,hK,.pure (by rw [Sem.run_bind,run _ _ _ h0 h1];rfl) ?_ S⟩
   rw [add_off,Nat.add_assoc,hN]
   exact .ptr hid hρ
  ·exact hK.elim
 ·rename_i cs k m
  obtain ⟨rfl, -⟩:=sc_inv hy
  obtain ⟨h0,h1,hK⟩:=hK
  cases hx with
  | iptr f hc hr =>
   refine ⟨_,_,hK,.pure (by rw [Sem.run_bind,run _ _ _ h0 h1];rfl) ?_ S⟩
   refine .iptr (fun j=>f (m.toNat * ti.size+j)) (fun j d hj=>?_) (fun j d hj=>?_)
   ·rw [zl] at hj
    rw [add_add,add_block]
    exact hc _ d hj
   ·rw [zl] at hj
    exact hr _ d hj
 ·exact hK.elim
theorem does_aidx {t et:TypeId} {n:Nat} {ti:TypeInfo} {x y:A} {v u:Value} {K:A→Heap→Prop} (S:SimH w M ρ h) (ht:P.underlying t=some (.array n et)) (hti:P.info? et=some ti) (hk:known P et=true) (hx:RepA w M ρ h x v) (hy:RepA w M ρ h y u)
  (hK:match (generalizing:=false) x,y with
   | .agg cs,.d (.sc (.int _ m))=>0≤m∧m<n∧loadsTo ti.size (aggB P et) (cs.drop (m.toNat * ti.size)) fun a=>K a h
   | _,_=>False) :
  ∃ r h',K r h'∧Does P (do pure (.value (← Instr.index t v u))) w M ρ h r h':=by
 split at hK
 ·rename_i cs k m
  obtain ⟨rfl, -⟩:=sc_inv hy
  obtain ⟨h0,h1,hK⟩:=hK
  obtain ⟨vs,rfl⟩:∃ vs,v = .agg vs:=by cases hx;exact ⟨_,rfl⟩
  obtain ⟨a,b,hKa,hrun,hrep⟩:=run_part (P:=P) hk hti hx hK
  refine ⟨a,h,hKa,.pure ?_ hrep S⟩
  simp [Instr.index,asIntOf,run_underlying ht,h0,h1,run_sizeOf hti,hrun]
 ·exact hK.elim
end Go.Proofs.YtlllnjhgjijnkaaDoor.Nx
namespace Go.Proofs.YtlllnjhgjijnkaaDoor.Nx
open Go
variable {P:Program} {w w':World} {M:Nat→Prop} {ρ ρ':Phys} {h h':Heap}
theorem mapM_spec {α β:Type} {f:α→Option β}:∀ {l:List α} {ys:List β},l.mapM f=some ys→ys.length=l.length∧∀ (j:Nat) (x:α),l[j]? = some x→∃ y,ys[j]? = some y∧f x=some y:=by
 intro l
 induction l with
 | nil=>intro ys hm;simp at hm;subst hm;simp
 | cons a l ih =>
  intro ys hm
  simp only [List.mapM_cons,Option.bind_eq_bind,Option.pure_def,Option.bind_eq_some_iff,zH] at hm
  obtain ⟨y,hy,ys',hys,rfl⟩:=hm
  obtain ⟨h1,h2⟩:=ih hys
  refine ⟨by simp [h1],fun j x hj=>?_⟩
  cases j with
  | zero=>simp at hj;subst hj;exact ⟨y,by simp,hy⟩
  | succ j=>simp at hj;simpa using h2 j x hj
theorem runesFrom_eq (s:ByteArray):∀ (b i:Nat) (acc:Array Value),Conv.runesFrom s b i acc=acc++((runesGo s b i).map fun (n:Nat)=>Value.int .i32 (n:Int)).toArray
 | 0,i,acc=>by simp [Conv.runesFrom,runesGo]
 | b+1,i,acc=>by
  simp only [Conv.runesFrom,runesGo]
  split
  ·rw [runesFrom_eq s b]
   simp
  ·simp
theorem runesGo_length (s:ByteArray):∀ b i,(runesGo s b i).length≤b
 | 0,i=>by simp [runesGo]
 | b+1,i=>by
  simp only [runesGo]
  split
  ·simp only [List.length_cons];have:=runesGo_length s b (i+(Utf8.decode s i).2);omega
  ·simp
theorem decode_le (s:ByteArray) (i:Nat):(Utf8.decode s i).1≤1114111:=by
 unfold Utf8.decode
 dsimp only
 split
 ·dsimp only;omega
 ·split
  ·split
   ·dsimp only;omega
   ·simp [Utf8.runeError]
  ·split
   ·split
    ·dsimp only;omega
    ·simp [Utf8.runeError]
   ·split
    ·split
     ·rename_i hv
      simp only [Utf8.valid,Bool.and_eq_true,Bool.or_eq_true,decide_eq_true_eq] at hv
      dsimp only;omega
     ·simp [Utf8.runeError]
    ·simp [Utf8.runeError]
theorem runesGo_le (s:ByteArray):∀ b i,∀ n∈runesGo s b i,n≤1114111
 | 0,i=>by simp [runesGo]
 | b+1,i=>by
  simp only [runesGo]
  split
  ·intro n hn
   rcases List.mem_cons.1 hn with rfl | hn
   ·exact decode_le s i
   ·exact runesGo_le s b _ n hn
  ·simp
theorem has_i32 {n:Nat} (hn:n≤1114111):scOk (.int .i32 n):=by
 have h1:IntKind.i32.min = -2147483648:=by decide
 have h2:IntKind.i32.max=2147483647:=by decide
 exact ⟨by rw [h1];omega,by rw [h2];omega⟩
theorem Evo.foreign (hos:w'.os=w.os) (ht:w'.tape=w.tape) (ho:w'.output=w.output) (hsz:w.heap.size≤w'.heap.size) (hold:∀ b,b<w.heap.size→w'.heap[b]? = w.heap[b]?):Evo h.length h ρ w h ρ w' :=
 ⟨hos,ht,ho,hsz,fun b hb _=>hold b hb,fun id b p hb=>.inr ⟨id,p,hb⟩,zL _,fun _ _ _ hb=>.refl hb⟩
theorem SimH.foreign (S:SimH w M ρ h) (g:Evo h.length h ρ w h ρ w') (hold:∀ b,b<w.heap.size→w'.heap[b]? = w.heap[b]?):SimH w' M ρ h where
 len:=S.len
 cells id e rows hB:=by
  obtain ⟨q1,q2,q3,q4,q5⟩:=S.cells id e rows hB
  refine ⟨q1,q2,q3,q4,?_⟩
  rcases q5 with q5 | ⟨b,p,cs,t,k1,k2,k3,k4,k5,k6⟩
  ·exact .inl q5
  ·have hb:b<w.heap.size:=(Array.getElem?_eq_some_iff.1 k3).1
   refine .inr ⟨b,p,cs,t,k1,k2,(hold b hb).trans k3,k4,k5,fun i r j x hi hj=>?_⟩
   obtain ⟨v,r1,r2,r3⟩:=k6 i r j x hi hj
   exact ⟨v,r1,r2,g.rep' r3⟩
 obj id o hB:=by
  obtain ⟨b,p,k1,k2,k3,k4⟩:=S.obj id o hB
  exact ⟨b,p,k1,k2,(hold b (Array.getElem?_eq_some_iff.1 k3).1).trans k3,k4⟩
 res:=S.res
 inj:=S.inj
theorem run_convert_runes (src dst et:TypeId) (s:ByteArray) (hs:P.underlying src=some .string) (hd:P.underlying dst=some (.slice et)) (he:P.underlying et=some (.int .i32)) :
  (convert src dst (.string s)).run P w = .ok (.slice (some ⟨w.heap.size,0,none⟩) (runesOf s).length (grownCap w (runesOf s).length 0 et))
   (w.drew.alloc (.cells (((runesOf s).map fun (n:Nat)=>Value.int .i32 (n:Int)).toArray++Array.replicate (grownCap w (runesOf s).length 0 et-(runesOf s).length) (.int .i32 0)) et)):=by
 simp [convert,run_underlying hs,run_underlying hd,run_underlying he,Conv.stringToRunes,newRow,Question.forced,grownCap,runesFrom_eq,runesOf]
theorem does_s2r {src dst et:TypeId} {e:Elt} {s:ByteArray} {u:Value} (S:SimH w M ρ h) (bnd:∀ b,M b→b<w.heap.size) (hs:P.underlying src=some .string) (hd:P.underlying dst=some (.slice et)) (he:P.underlying et=some (.int .i32)) (hsz:e.sz=1)
  (hx:RepA w M ρ h (.str s) u) (hroom:(runesOf s).length * e.bytes≤room) :
  Does P (do pure (.value (← convert src dst u))) w M ρ h (.d (.sl e ((runesOf s).map runeRow))) h:=by
 obtain ⟨rfl,hss⟩:=sc_inv hx
 have hrun:=run_convert_runes (P:=P) (w:=w) src dst et s hs hd he
 have hlen:(runesOf s).length≤maxLen:=Nat.le_trans (runesGo_length s _ _) hss
 generalize hcs:(((runesOf s).map fun (n:Nat)=>Value.int .i32 (n:Int)).toArray++Array.replicate (grownCap w (runesOf s).length 0 et-(runesOf s).length) (.int .i32 0))=cs at hrun
 have hold:∀ b,b<w.heap.size→(w.drew.alloc (.cells cs et)).heap[b]? = w.heap[b]? := fun b hb=>by
  simp [World.alloc,World.drew, -World.alloc_eq, -World.drew_eq,Array.getElem?_push,show b≠w.heap.size by omega]
 have g:Evo h.length h ρ w h ρ (w.drew.alloc (.cells cs et)):=.foreign rfl rfl rfl (by simp [World.alloc,World.drew, -World.alloc_eq, -World.drew_eq]) hold
 have hnew:(w.drew.alloc (.cells cs et)).heap[w.heap.size]? = some (.cells cs et (0,0)):=by
  simp [World.alloc,World.drew, -World.alloc_eq, -World.drew_eq]
 have hown:¬ Own M ρ w.heap.size:=by
  rintro (hm | ⟨id,p,hp⟩)
  ·exact absurd (bnd _ hm) (Nat.lt_irrefl _)
  ·exact absurd (S.lt hp) (Nat.lt_irrefl _)
 refine ⟨_,_,ρ,.inl (by rw [Sem.run_bind,hrun];rfl),?_,S.foreign g hold,g⟩
 have key:∀ (i:Nat) (r:List D) (j:Nat) (d:D),((runesOf s).map runeRow)[i]? = some r→r[j]? = some d→∃ n:Nat,cs[i * e.sz+j]? = some (.int .i32 n)∧d = .sc (.int .i32 n)∧n≤1114111:=by
  intro i r j d hi hj
  simp only [List.getElem?_map,Option.map_eq_some_iff] at hi
  obtain ⟨n,hn,rfl⟩:=hi
  cases j with
  | succ j=>simp [runeRow] at hj
  | zero =>
   simp only [runeRow,List.getElem?_cons_zero,zH] at hj
   have hlt:i<(runesOf s).length:=(zA.1 hn).1
   refine ⟨n,?_,hj.symm,runesGo_le s _ _ n (zY hn)⟩
   rw [hsz,Nat.mul_one,Nat.add_zero,← hcs,Array.getElem?_append_left (by simpa using hlt)]
   simp [hn]
 have hl':((runesOf s).map runeRow).length=(runesOf s).length:=by simp
 rw [← hl']
 refine .d (.sl (fun i j=>cs.getD (i * e.sz+j) undef) ?_ (grownCap_le_maxLen w _ 0 et (by rw [hl'];exact hlen)) (by rw [hl'];exact hroom) (fun r hr=>?_) (fun i r j d hi hj=>?_) (fun i r j d hi hj=>?_))
 ·exact grownCap_ge w _ 0 et
 ·obtain ⟨n,_,rfl⟩:=List.mem_map.1 hr
  simp [runeRow,hsz]
 ·obtain ⟨n,h1,h2,h3⟩:=key i r j d hi hj
  refine ⟨?_,hown⟩
  rw [add_off,Nat.zero_add]
  simp only [World.cell?,hnew]
  rw [zR,h1]
  simpa using h1
 ·obtain ⟨n,h1,rfl,h3⟩:=key i r j d hi hj
  rw [zR,h1]
  exact .sc (has_i32 h3)
theorem sliceRows_src {e:Elt} {x:A} {rows:List (List A)} (hs:sliceRows e h x=some rows):srcRows e h x=some rows:=by
 unfold sliceRows at hs
 split at hs
 ·cases hs
 ·exact hs
theorem slice_value {e:Elt} {x:A} {rows:List (List A)} {u:Value} (hs:sliceRows e h x=some rows) (hx:RepA w M ρ h x u) (S:SimH w M ρ h):∃ a n c,u = .slice a n c:=by
 cases x with
 | nil=>cases hx;exact ⟨_,_,_,rfl⟩
 | d y=>cases y with
  | sc v=>simp [sliceRows] at hs
  | sl e' r=>cases hx with
   | d hy=>obtain ⟨a,c,rfl,_⟩:=sl_inv hy;exact ⟨_,_,_,rfl⟩
 | nn e' r=>obtain ⟨_,a,n,c,rfl⟩:=nn_inv hx;exact ⟨_,_,_,rfl⟩
 | fd e' r=>obtain ⟨_,a,n,c,rfl⟩:=nn_inv (fd_inv hx).1;exact ⟨_,_,_,rfl⟩
 | ref id N off len full =>
  simp only [sliceRows,srcRows] at hs
  split at hs
  ·rename_i hid
   split at hs
   ·rename_i hc
    rcases ref_inv hx hid hc.2 with ⟨rfl,_⟩ | ⟨b,p,o,cap,hp,rfl,_⟩
    ·exact ⟨_,_,_,rfl⟩
    ·exact ⟨_,_,_,rfl⟩
   ·cases hs
  ·cases hs
 | _=>simp [sliceRows,srcRows] at hs
theorem does_b2s {src dst et:TypeId} {x:A} {rows:List (List A)} {ns:List Int} {u:Value} (S:SimH w M ρ h) (hs:P.underlying src=some (.slice et)) (hd:P.underlying dst=some .string) (he:P.underlying et=some (.int .u8))
  (hx:RepA w M ρ h x u) {e:Elt} (hsz:e.sz=1) (hr:sliceRows e h x=some rows) (hn:rows.mapM byteOf=some ns) (hl:ns.length≤maxLen) :
  Does P (do pure (.value (← convert src dst u))) w M ρ h (.str (strOfNums ns)) h:=by
 obtain ⟨a,n,c,rfl⟩:=slice_value hr hx S
 obtain ⟨f,src'⟩:=src_ok (P:=P) S (by omega) hx (sliceRows_src hr)
 obtain ⟨m1,m2⟩:=mapM_spec hn
 have hlen:=src'.len w
 simp only [Builtin.lenOf,Sem.run_pure,Result.ok.injEq,and_true] at hlen
 have hfirst:=src'.first w rows.length rfl (zL _)
 rw [hsz,Nat.mul_one] at hfirst
 refine .pure (v:=.string (strOfNums ns)) ?_ (.d (.sc (by show (strOfNums ns).size≤maxLen;rw [strOfNums_size];exact hl))) S
 rw [Sem.run_bind,run_convert_bytes_string w src dst et a n c hs he hd]
 cases a with
 | none =>
  have h0:rows.length=0:=by
   simp only [Builtin.firstCells,Sem.run_pure,Result.ok.injEq,and_true] at hfirst
   have:=congrArg Array.size hfirst
   simpa using this.symm
  have:ns=[]:=List.eq_nil_of_length_eq_zero (by omega)
  subst this
  simp [Conv.bytesToString,strOfNums]
  rfl
 | some a =>
  have hcells:((List.range rows.length).map f).toArray=(ns.map (Value.int .u8)).toArray:=by
   congr 1
   apply List.ext_getElem?
   intro i
   by_cases hi:i<rows.length
   ·obtain ⟨y,hy,hb⟩:=m2 i _ (zB hi)
    have hrow:rows[i]? = some rows[i]:=zB hi
    generalize rows[i]=r at hb hrow
    have hr1:r=[.d (.sc (.int .u8 y))]:=by
     unfold byteOf at hb
     split at hb
     ·cases hb;rfl
     ·cases hb
    subst hr1
    have hrep:=src'.rep i _ 0 _ hrow rfl
    rw [hsz,Nat.mul_one,Nat.add_zero] at hrep
    obtain ⟨hf,_⟩:=sc_inv hrep
    simp [hi,hy,hf]
   ·rw [zk (by simpa using hi),zk (by simp;omega)]
  simp only [Builtin.firstCells,Nat.mul_one] at hfirst
  rw [hcells] at hfirst
  have hn':n=rows.length:=by simpa using hlen
  subst hn'
  rw [run_bytesToString w a _ c ns (by simpa using hfirst),foldl_push_bytes]
  simp [strOfNums,ByteArray.empty,ByteArray.emptyWithCapacity]
  rfl
theorem encode_size (n:Int):(Utf8.encode n).size≤4:=by
 unfold Utf8.encode
 generalize (if Utf8.valid n=true then n.toNat else Utf8.runeError)=c
 dsimp only
 repeat' split
 all_goals simp [ByteArray.size]
theorem does_i2s {src dst:TypeId} {k:IntKind} {n:Int} {u:Value} {kk:IntKind} (S:SimH w M ρ h) (hs:P.underlying src=some (.int kk)) (hd:P.underlying dst=some .string) (hx:RepA w M ρ h (.sc (.int k n)) u) :
  Does P (do pure (.value (← convert src dst u))) w M ρ h (.str (Utf8.encode n)) h:=by
 obtain ⟨rfl,_⟩:=sc_inv hx
 refine .pure (v:=.string (Utf8.encode n)) ?_ (.d (.sc (Nat.le_trans (encode_size n) (by decide)))) S
 simp [convert,run_underlying hs,run_underlying hd,Conv.intToString]
theorem does_cap_nil {t ty et:TypeId} {u:Value} (S:SimH w M ρ h) (hu:P.underlying t=some (.slice et)) (hx:RepA w M ρ h .nil u) :
  Does P (do pure (.value (← Builtin.cap_ #[t] ty #[u]))) w M ρ h (.int 0) h:=by
 rw [nil_inv hx]
 refine .pure (v:=.int .i64 0) ?_ (.d (.sc (has_i64 (n:=0) (by simp)))) S
 simp [Builtin.cap_,run_underlying hu,goInt]
theorem does_iter {t:TypeId} {s:ByteArray} {u:Value} {pl:Option Nat} {K:A→Heap→Prop} (S:SimH w M ρ h) (bnd:∀ b,M b→b<w.heap.size) (hu:P.underlying t=some .string) (hx:RepA w M ρ h (.str s) u)
  (hK:place pl h (.obj (.stringIter s 0)) fun id h1=>K (.ptr id 0 0 0) h1):∃ r h',K r h'∧Does P (do pure (.value (← Instr.range t u))) w M ρ h r h':=by
 obtain ⟨rfl,_⟩:=sc_inv hx
 obtain ⟨id,h1,ρ1,n,hKr⟩:=place_new (ρ:=ρ) hK (some (w.heap.size,0))
 refine ⟨_,_,hKr,.pointer (some ⟨w.heap.size,0,none⟩),w.alloc (.stringIter s 0),ρ1,.inl ?_,.obj n.heap (n.phys S.len),S.newObj bnd n (fun c t f=>by simp),.newAlloc n S.len⟩
 simp [Instr.range,run_underlying hu]
theorem does_next {ty:TypeId} {s:ByteArray} {pos id:Nat} {u:Value} {K:A→Heap→Prop} (S:SimH w M ρ h) (hx:RepA w M ρ h (.ptr id 0 0 0) u) (hid:h[id]? = some (.obj (.stringIter s pos))) (hs:s.size≤maxLen)
  (hK:nextStr s pos id h K):∃ r h',K r h'∧Does P (do pure (.value (← Instr.next u true ty))) w M ρ h r h':=by
 have hv:∃ b p,u = .pointer (some ⟨b,0,none⟩)∧ρ[id]? = some (some (b,p)):=by
  generalize hz:(0:Nat)=z at hx
  cases hx with
  | ptr hh hp=>rw [hid] at hh;cases hh
  | pstale hh _ _=>rw [hid] at hh;cases hh
  | obj hh hp=>exact ⟨_,_,rfl,hp⟩
 obtain ⟨b,p,rfl,hρ⟩:=hv
 obtain ⟨b',p',k1,k2,k3,k4⟩:=S.obj id _ hid
 rw [hρ] at k1
 cases k1
 have hlt:b<w.heap.size:=(Array.getElem?_eq_some_iff.1 k3).1
 simp only [nextStr] at hK
 split at hK
 ·rename_i hp
  have hd:Differs b w (w.putObj b (.stringIter s (pos+(Utf8.decode s pos).2))):=⟨rfl,rfl,rfl,by simp [World.putObj],fun j hj=>World.putObj_heap_other (fun e=>hj e)⟩
  refine ⟨_,_,hK,.tuple #[.bool true,goInt pos,.int .i32 (Utf8.decode s pos).1],w.putObj b (.stringIter s (pos+(Utf8.decode s pos).2)),ρ,.inl ?_,?_,S.putObj hid hρ hd (World.putObj_heap_same hlt) (fun c t f=>by simp),.putObj hid hρ hd⟩
  ·simp [Instr.next,getObj,setObj,Sem.run,k3,hp,World.putObj]
  ·refine .tup rfl fun j x hj=>?_
   match j with
   | 0=>simp at hj;subst hj;exact .d (.sc trivial)
   | 1=>simp at hj;subst hj;exact .d (.sc (has_i64 (n:=pos) (by omega)))
   | 2 =>
    simp at hj;subst hj
    exact .d (.sc (has_i32 (decode_le s pos)))
   | j+3=>simp at hj
 ·rename_i hp
  refine ⟨_,_,hK,.pure (v:=.tuple #[.bool false]) ?_ (.tup rfl fun j x hj=>?_) S⟩
  ·simp [Instr.next,getObj,Sem.run,k3,hp]
  ·cases j with
   | zero=>simp at hj;subst hj;exact .d (.sc trivial)
   | succ j=>simp at hj
end Go.Proofs.YtlllnjhgjijnkaaDoor.Nx

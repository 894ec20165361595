import Derived.Test.YtlllnjhgjijnkaaDoorNxP15p
set_option linter.unusedSimpArgs false
set_option linter.unusedVariables false
set_option linter.unnecessarySimpa false
open List renaming getElem?_eq_getElem → zB, getD_eq_getElem?_getD → zC, getElem?_set_ne → zM, append_nil → zP, append_assoc → zS, length_cons → za, length_append → zb, drop_eq_getElem_cons → zd, getElem?_drop → zl, length_take → zs, length_drop → zt, eq_nil_of_length_eq_zero → zx
open Nat renaming zero_le → zI
open Bool renaming and_eq_true → zf
namespace Go.Proofs.YtlllnjhgjijnkaaDoor.Nx
open Go
structure Cg where
 kind:Int
 row:Int
 col:Int
 count:Int
 upto:Int
 gl:List Gl
 deriving DecidableEq
def btw (n a b:Int):Bool:=decide (a≤n)&&decide (n≤b)
theorem btw_iff {n a b:Int}:btw n a b=true↔a≤n∧n≤b:=by simp [btw]
def blankG (c:Cg):Bool :=
 if c.kind=1 then (decide (c.count=0)&&decide (c.upto=0))&&decide (c.gl=[])
 else if c.kind=2 then decide (c.col=0)&&decide (c.gl=[])
 else if c.kind=3 then decide (c.upto=0)
 else decide (c.upto=0)&&decide (c.gl=[])
def rowAt (rows:List (List Gl)) (n:Int):List Gl:=rows.getD n.toNat []
def rangeG (v:Vw) (c:Cg):Bool :=
 if c.kind=1 then btw c.row 1 60&&btw c.col 1 132
 else if c.kind=2 then ((((decide (0≤c.row)&&decide (c.row<c.upto))&&decide (c.upto≤v.height)) && !decide (c.count=0))&&decide (c.count<c.upto-c.row))&&decide (c.row-c.upto<c.count)
 else if c.kind=3 then (btw c.row 0 (v.height-1)&&btw c.col 0 264)&&btw c.count 0 (max 0 (((rowAt v.rows c.row).length:Int)-c.col))
 else (btw c.row 0 (v.height-1)&&btw c.col 0 (v.width-1))&&btw c.count 0 1
def chgC (v:Vw) (c:Cg):Int:=if btw c.kind 1 4 then (if blankG c then (if rangeG v c then fnz glyphC c.gl else 2) else 1) else 9
def cutW (w:Int):List Gl→List Gl
 | []=>[]
 | g::l=>if w<(gw g:Nat) then [] else g::cutW (w-(gw g:Nat)) l
def sizeR (w:Int) (l:List Gl):List Gl:=trimGl (cutW w l)
def sizeV (v:Vw) (h w:Int):Vw:=⟨w,h,(List.range h.toNat).map fun i=>sizeR w (v.rows.getD i []),min v.row (h-1),min v.col (w-1),v.vis⟩
def scrollR (rows:List (List Gl)) (top bottom b:Int) (i:Nat):List Gl :=
 if top≤(i:Int)∧(i:Int)<bottom then (if top≤(i:Int)+b∧(i:Int)+b<bottom then rowAt rows ((i:Int)+b) else []) else rows.getD i []
def scrollL (rows:List (List Gl)) (top bottom b:Int):List (List Gl):=(List.range rows.length).map (scrollR rows top bottom b)
def padR (l:List Gl) (n:Nat):List Gl:=l++List.replicate (n-l.length) spaceGl
def spliceR (l:List Gl) (col count:Nat) (g:List Gl):List Gl:=trimGl ((padR l col).take col++g++(padR l col).drop (col+count))
def stepV (v:Vw) (c:Cg):Vw :=
 if c.kind=1 then sizeV v c.row c.col
 else if c.kind=2 then { v with rows:=scrollL v.rows c.row c.upto c.count }
 else if c.kind=3 then { v with rows:=v.rows.set c.row.toNat (spliceR (rowAt v.rows c.row) c.col.toNat c.count.toNat c.gl) }
 else { v with row:=c.row,col:=c.col,vis:=decide (c.count=1) }
def wideV (v:Vw):Bool:=v.rows.any fun r=>decide (v.width<(widthN r:Int))
def runV:Vw→Int→List Cg→Vw × Int × Int
 | v,i,[]=>if wideV v then (zeroV,i,12) else (v,0,0)
 | v,i,c::l=>if chgC v c=0 then runV (stepV v c) (i+1) l else (zeroV,i,chgC v c)
def applyV (v:Vw) (l:List Cg):Vw × Int × Int:=if viewC v=0 then runV v 0 l else (zeroV,0,1)
theorem fnz_iff {α:Type} {F:α→Int}:∀ {l:List α},fnz F l=0↔∀ a∈l,F a=0
 | []=>by simp [fnz]
 | a::l=>by
  rw [fnz]
  split
  ·rename_i h;rw [fnz_iff (l:=l)];simp [h]
  ·rename_i h;simp [h]
theorem trim_id {l:List Gl} (h:endsBlank l=false):trimGl l=l:=by
 unfold trimGl
 rcases hl:l.length with _ | n
 ·have:l=[]:=zx hl
  subst this;rfl
 ·rw [endsBlank_at hl] at h
  have hg:l[n]? = some l[n]:=zB (by omega)
  rw [trimN,hg,if_neg (by simpa using h),← hl,List.take_length]
theorem trim_mem {l:List Gl} {g:Gl} (h:g∈trimGl l):g∈l:=List.mem_of_mem_take h
theorem trim_len (l:List Gl):(trimGl l).length≤l.length:=by rw [trimGl_len];exact trimN_le _ _
theorem trim_width (l:List Gl):widthN (trimGl l)≤widthN l:=widthN_take l _
structure Ed (v:Vw):Prop where
 sz:szOk v.width v.height=true
 len:(v.rows.length:Int)=v.height
 out:outV v=false
 gl:∀ r∈v.rows,∀ g∈r,glyphC g=0
 tr:∀ r∈v.rows,endsBlank r=false
theorem szOk_iff {w h:Int}:szOk w h=true↔(1≤w∧w≤132)∧1≤h∧h≤60:=by
 simp [szOk];omega
theorem outV_iff {v:Vw}:outV v=false↔(0≤v.row∧v.row<v.height)∧0≤v.col∧v.col<v.width:=by
 simp [outV];omega
theorem viewC_zero {v:Vw}:viewC v=0↔Ed v∧wideV v=false:=by
 unfold viewC
 constructor
 ·intro h
  split at h
  ·rename_i h1
   split at h
   ·rename_i h2
    split at h
    ·cases h
    ·rename_i h3
     rw [fnz_iff] at h
     have hr:∀ r∈v.rows,fnz glyphC r=0∧¬ v.width<(widthN r:Int)∧endsBlank r=false:=by
      intro r hr
      have:=h r hr
      unfold rowC at this
      split at this
      ·rename_i h4
       split at this
       ·cases this
       ·split at this
        ·cases this
        ·rename_i h5 h6;exact ⟨h4,h5,by simpa using h6⟩
      ·rename_i h4;exact absurd this h4
     refine ⟨⟨h1,h2,by simpa using h3,fun r h'=>fnz_iff.1 (hr r h').1,fun r h'=>(hr r h').2.2⟩,?_⟩
     rw [wideV,List.any_eq_false]
     intro r h'
     simpa using (hr r h').2.1
   ·cases h
  ·cases h
 ·rintro ⟨e,hw⟩
  rw [if_pos e.sz,if_pos e.len,if_neg (by rw [e.out];simp),fnz_iff]
  intro r hr
  have h1:=List.any_eq_false.1 hw r hr
  unfold rowC
  rw [if_pos (fnz_iff.2 (e.gl r hr)),if_neg (by simpa using h1),if_neg (by rw [e.tr r hr];simp)]
theorem chgC_zero {v:Vw} {c:Cg} (h:chgC v c=0):(1≤c.kind∧c.kind≤4)∧blankG c=true∧rangeG v c=true∧∀ g∈c.gl,glyphC g=0:=by
 unfold chgC at h
 split at h
 ·rename_i h1
  split at h
  ·rename_i h2
   split at h
   ·rename_i h3
    exact ⟨btw_iff.1 h1,h2,h3,fnz_iff.1 h⟩
   ·cases h
  ·cases h
 ·cases h
theorem cutW_pre (w:Int):∀ l:List Gl,∃ n,cutW w l=l.take n:=by
 intro l
 induction l generalizing w with
 | nil=>exact ⟨0,rfl⟩
 | cons g l ih =>
  rw [cutW]
  split
  ·exact ⟨0,rfl⟩
  ·obtain ⟨n,hn⟩:=ih (w-(gw g:Nat))
   exact ⟨n+1,by rw [hn];rfl⟩
theorem cutW_mem {w:Int} {l:List Gl} {g:Gl} (h:g∈cutW w l):g∈l:=by
 obtain ⟨n,hn⟩:=cutW_pre w l
 rw [hn] at h
 exact List.mem_of_mem_take h
theorem cutW_width:∀ (l:List Gl) (w:Int),0≤w→(widthN (cutW w l):Int)≤w
 | [],w,h=>by simpa [cutW,widthN] using h
 | g::l,w,h=>by
  rw [cutW]
  split
  ·simpa [widthN] using h
  ·rename_i hg
   have:=cutW_width l (w-(gw g:Nat)) (by omega)
   rw [widthN];omega
theorem sizeR_ends (w:Int) (l:List Gl):endsBlank (sizeR w l)=false:=trim_ends _
theorem sizeR_mem {w:Int} {l:List Gl} {g:Gl} (h:g∈sizeR w l):g∈l:=cutW_mem (trim_mem h)
theorem sizeR_width {w:Int} (hw:0≤w) (l:List Gl):(widthN (sizeR w l):Int)≤w:=by
 have:=cutW_width l w hw
 have:=trim_width (cutW w l)
 unfold sizeR;omega
theorem padR_mem {l:List Gl} {n:Nat} {g:Gl} (h:g∈padR l n):g∈l∨g=spaceGl:=by
 rcases List.mem_append.1 h with h | h
 ·exact .inl h
 ·exact .inr (List.eq_of_mem_replicate h)
theorem space_ok:glyphC spaceGl=0:=by decide +kernel
theorem spliceR_mem {l g:List Gl} {a b:Nat} {x:Gl} (h:x∈spliceR l a b g):x∈l∨x∈g∨x=spaceGl:=by
 have h:=trim_mem h
 rcases List.mem_append.1 h with h | h
 ·rcases List.mem_append.1 h with h | h
  ·rcases padR_mem (List.mem_of_mem_take h) with h | h
   ·exact .inl h
   ·exact .inr (.inr h)
  ·exact .inr (.inl h)
 ·rcases padR_mem (List.mem_of_mem_drop h) with h | h
  ·exact .inl h
  ·exact .inr (.inr h)
theorem getD_mem {rows:List (List Gl)} {n:Nat}:rows.getD n []=[]∨rows.getD n []∈rows:=by
 rw [zC]
 cases h:rows[n]? with
 | none=>exact .inl rfl
 | some r=>exact .inr (List.mem_of_getElem? h)
theorem scrollL_mem {rows:List (List Gl)} {t b k:Int} {r:List Gl} (h:r∈scrollL rows t b k):r=[]∨r∈rows:=by
 obtain ⟨i,_,rfl⟩:=List.mem_map.1 h
 unfold scrollR rowAt
 split
 ·split
  ·exact getD_mem
  ·exact .inl rfl
 ·exact getD_mem
theorem scrollL_len {rows:List (List Gl)} {t b k:Int}:(scrollL rows t b k).length=rows.length:=by simp [scrollL]
theorem sizeV_rows {v:Vw} {h w:Int} {r:List Gl} (hr:r∈(sizeV v h w).rows):∃ l,(l=[]∨l∈v.rows)∧r=sizeR w l:=by
 obtain ⟨i,_,rfl⟩:=List.mem_map.1 hr
 exact ⟨_,getD_mem,rfl⟩
theorem Ed.step {v:Vw} (e:Ed v) {c:Cg} (h:chgC v c=0):Ed (stepV v c):=by
 obtain ⟨h1,h2,h3,h4⟩:=chgC_zero h
 have hs:=szOk_iff.1 e.sz
 have ho:=outV_iff.1 e.out
 unfold rangeG at h3
 unfold stepV
 split
 ·rename_i hk
  rw [if_pos hk,zf,btw_iff,btw_iff] at h3
  refine ⟨szOk_iff.2 ⟨h3.2,h3.1⟩,?_,outV_iff.2 ?_,fun r hr g hg=>?_,fun r hr=>?_⟩
  ·simp only [sizeV,List.length_map,List.length_range];omega
  ·simp only [sizeV];omega
  ·obtain ⟨l,hl,rfl⟩:=sizeV_rows hr
   have:=sizeR_mem hg
   rcases hl with rfl | hl
   ·cases this
   ·exact e.gl l hl g this
  ·obtain ⟨l,hl,rfl⟩:=sizeV_rows hr
   exact sizeR_ends _ _
 ·rename_i hk
  rw [if_neg hk] at h3
  split
  ·rename_i hk
   refine ⟨e.sz,?_,e.out,fun r hr g hg=>?_,fun r hr=>?_⟩
   ·simp only [scrollL_len];exact e.len
   ·rcases scrollL_mem hr with rfl | hr
    ·cases hg
    ·exact e.gl r hr g hg
   ·rcases scrollL_mem hr with rfl | hr
    ·rfl
    ·exact e.tr r hr
  ·rename_i hk
   rw [if_neg hk] at h3
   split
   ·refine ⟨e.sz,?_,e.out,fun r hr g hg=>?_,fun r hr=>?_⟩
    ·simp only [List.length_set];exact e.len
    ·rcases List.mem_or_eq_of_mem_set hr with hr | rfl
     ·exact e.gl r hr g hg
     ·rcases spliceR_mem hg with hg | hg | rfl
      ·unfold rowAt at hg
       rcases getD_mem (rows:=v.rows) (n:=c.row.toNat) with h | h
       ·rw [h] at hg;cases hg
       ·exact e.gl _ h g hg
      ·exact h4 g hg
      ·exact space_ok
    ·rcases List.mem_or_eq_of_mem_set hr with hr | rfl
     ·exact e.tr r hr
     ·exact trim_ends _
   ·rename_i hk
    rw [if_neg hk] at h3
    simp only [zf,btw_iff] at h3
    exact ⟨e.sz,e.len,outV_iff.2 (by simp only;omega),e.gl,e.tr⟩
theorem runV_ends:∀ (l:List Cg) (v:Vw) (i:Int),Ed v→((runV v i l).2.2=0→(runV v i l).2.1=0∧viewC (runV v i l).1=0)∧((runV v i l).2.2≠0→(runV v i l).1=zeroV∧i≤(runV v i l).2.1∧(runV v i l).2.1≤i+l.length)
 | [],v,i,e=>by
  rw [runV]
  split
  ·exact ⟨fun h=>(by cases h),fun _=>⟨rfl,Int.le_refl _,by simp⟩⟩
  ·rename_i h
   exact ⟨fun _=>⟨rfl,viewC_zero.2 ⟨e,by simpa using h⟩⟩,fun h=>absurd rfl h⟩
 | c::l,v,i,e=>by
  rw [runV]
  split
  ·rename_i h
   obtain ⟨h1,h2⟩:=runV_ends l (stepV v c) (i+1) (e.step h)
   refine ⟨h1,fun hn=>?_⟩
   obtain ⟨k1,k2,k3⟩:=h2 hn
   rw [za]
   exact ⟨k1,by omega,by omega⟩
  ·rename_i h
   exact ⟨fun h'=>absurd h' h,fun _=>⟨rfl,Int.le_refl _,by rw [za];simp only;omega⟩⟩
theorem applyV_ends (v:Vw) (l:List Cg):((applyV v l).2.2=0→viewC v=0∧(applyV v l).2.1=0∧viewC (applyV v l).1=0)∧((applyV v l).2.2≠0→(applyV v l).1=zeroV∧0≤(applyV v l).2.1∧(applyV v l).2.1≤l.length):=by
 unfold applyV
 split
 ·rename_i h
  obtain ⟨h1,h2⟩:=runV_ends l v 0 (viewC_zero.1 h).1
  refine ⟨fun hn=>⟨h,h1 hn⟩,fun hn=>?_⟩
  have:=h2 hn
  simpa using this
 ·exact ⟨fun h=>(by simp at h),fun _=>⟨rfl,Int.le_refl _,by simp⟩⟩
theorem apply_one {v:Vw} {c:Cg} (hv:viewC v=0) (hc:chgC v c=0):applyV v [c]=if wideV (stepV v c) then (zeroV,1,12) else (stepV v c,0,0):=by
 rw [applyV,if_pos hv,runV,if_pos hc,runV];rfl
theorem wide_step {v:Vw} {c:Cg} (hv:viewC v=0) (hc:chgC v c=0) (hk:c.kind≠3):wideV (stepV v c)=false:=by
 obtain ⟨e,hw⟩:=viewC_zero.1 hv
 obtain ⟨h1,h2,h3,h4⟩:=chgC_zero hc
 unfold rangeG at h3
 unfold wideV at hw ⊢
 rw [List.any_eq_false] at hw ⊢
 have hs:=szOk_iff.1 e.sz
 unfold stepV
 rw [if_neg hk]
 split
 ·rename_i hk
  rw [if_pos hk,zf,btw_iff,btw_iff] at h3
  intro r hr
  obtain ⟨l,hl,rfl⟩:=sizeV_rows hr
  have:=sizeR_width (w:=c.col) (by omega) l
  rw [decide_eq_true_eq]
  show ¬ c.col<(widthN (sizeR c.col l):Int)
  omega
 ·split
  ·intro r hr
   rcases scrollL_mem hr with rfl | hr
   ·rw [decide_eq_true_eq]
    show ¬ v.width<((0:Nat):Int)
    omega
   ·exact hw r hr
  ·exact hw
theorem splice_swap {v:Vw} {a b:Cg} (ha:a.kind=3) (hb:b.kind=3) (hra:0≤a.row) (hrb:0≤b.row) (h:a.row≠b.row):stepV (stepV v a) b=stepV (stepV v b) a∧chgC (stepV v a) b=chgC v b:=by
 have hne:a.row.toNat≠b.row.toNat:=by omega
 have e1:∀ (w:Vw) (c:Cg),c.kind=3→stepV w c={ w with rows:=w.rows.set c.row.toNat (spliceR (rowAt w.rows c.row) c.col.toNat c.count.toNat c.gl) }:=by
  intro w c hc
  unfold stepV
  rw [if_neg (by omega),if_neg (by omega),if_pos hc]
 have r1:∀ {rows:List (List Gl)} {x:List Gl},rowAt (rows.set a.row.toNat x) b.row=rowAt rows b.row:=by
  intro rows x
  unfold rowAt
  rw [zC,zC,zM hne]
 have r2:∀ {rows:List (List Gl)} {x:List Gl},rowAt (rows.set b.row.toNat x) a.row=rowAt rows a.row:=by
  intro rows x
  unfold rowAt
  rw [zC,zC,zM (Ne.symm hne)]
 refine ⟨?_,?_⟩
 ·rw [e1 _ b hb,e1 v a ha,e1 _ a ha,e1 v b hb]
  simp only [r1,r2,List.set_comm _ _ hne]
 ·unfold chgC
  have:rangeG (stepV v a) b=rangeG v b:=by
   unfold rangeG
   rw [e1 v a ha]
   simp only [r1]
  rw [this]
end Go.Proofs.YtlllnjhgjijnkaaDoor.Nx
namespace Go.Proofs.YtlllnjhgjijnkaaDoor.Nx
open Go
def lcsG (x:Gl) (f:List Gl→Nat):List Gl→Nat
 | []=>0
 | y::b=>if x=y then 1+f b else max (f (y::b)) (lcsG x f b)
def lcsN:List Gl→List Gl→Nat
 | [],_=>0
 | x::a,b=>lcsG x (lcsN a) b
def wlkG (x:Gl) (a:List Gl) (f:List Gl→Nat→List (Nat × Nat)):List Gl→Nat→List (Nat × Nat)
 | [],i=>(1,i)::f [] (i+1)
 | y::b,i=>if x=y then (0,i)::f b (i+1) else if lcsN (x::a) b≤lcsN a (y::b) then (1,i)::f (y::b) (i+1) else (2,i)::wlkG x a f b i
def wlk:List Gl→List Gl→Nat→List (Nat × Nat)
 | [],b,i=>b.map fun _=>(2,i)
 | x::a,b,i=>wlkG x a (wlk a) b i
structure Edt where
 at':Nat
 del:Nat
 ins:List Gl
 deriving DecidableEq
def edDel (i:Nat):Option Edt→Edt
 | none=>⟨i,1,[]⟩
 | some e=>{ e with del:=e.del+1 }
def edIns (i:Nat) (g:List Gl):Option Edt→Edt
 | none=>⟨i,0,g⟩
 | some e=>{ e with ins:=e.ins++g }
def edG:List (Nat × Nat)→List Gl→Option Edt→List Edt
 | [],_,cur=>cur.toList
 | (s,i)::r,b,cur=>if s=0 then cur.toList++edG r (b.drop 1) none else if s=1 then edG r b (some (edDel i cur)) else edG r (b.drop 1) (some (edIns i (b.take 1) cur))
def scriptE (a b:List Gl):List Edt:=edG (wlk a b 0) b none
def okE (A B:List Gl):Nat→Nat→List Edt→Prop
 | i,j,[]=>B.take j++A.drop i=B
 | i,j,e::es=>∃ j1,B.take j++A.drop i=B.take j1++A.drop e.at'∧(j1:Int)-e.at'=j-i∧j1≤B.length∧e.at'+e.del≤A.length∧e.ins=(B.drop j1).take e.ins.length∧j1+e.ins.length≤B.length ∧
   (es=[]∨e.at'+e.del<A.length)∧okE A B (e.at'+e.del) (j1+e.ins.length) es
theorem okE_shift {A B:List Gl} {i j:Nat} {L:List Edt} (h:okE A B (i+1) (j+1) L) (he:B.take (j+1)++A.drop (i+1)=B.take j++A.drop i):okE A B i j L:=by
 cases L with
 | nil=>rw [okE] at h ⊢; rw [← he];exact h
 | cons e es =>
  rw [okE] at h ⊢
  obtain ⟨j1,h1,h2,h3⟩:=h
  exact ⟨j1,by rw [← he];exact h1,by omega,h3⟩
def startE (i j:Nat) (A B:List Gl):Option Edt→Prop
 | none=>True
 | some e=>e.at'+e.del=i∧e.ins.length≤j∧e.ins=(B.drop (j-e.ins.length)).take e.ins.length
def fromI (i:Nat):Option Edt→Nat
 | none=>i
 | some e=>e.at'
def fromJ (j:Nat):Option Edt→Nat
 | none=>j
 | some e=>j-e.ins.length
theorem take_snoc_drop {B:List Gl} {j n:Nat} (h:n≤j) (hj:j<B.length):(B.drop (j-n)).take n++(B.drop j).take 1=(B.drop (j+1-(n+1))).take (n+1):=by
 have e:j+1-(n+1)=j-n:=by omega
 rw [e,List.take_add_one (l:=B.drop (j-n)) (i:=n),zl,show j-n+n=j by omega,zB hj,zd hj]
 rfl
theorem script_ok {A B:List Gl}:∀ (n:Nat) (a b:List Gl) (i j:Nat) (cur:Option Edt),a.length+b.length≤n→a=A.drop i→b=B.drop j→i≤A.length→j≤B.length→startE i j A B cur →
  okE A B (fromI i cur) (fromJ j cur) (edG (wlk a b i) b cur):=by
 intro n
 -- closing the open edit
 have close:∀ {i j:Nat} {cur:Option Edt} {L:List Edt},i≤A.length→j≤B.length→startE i j A B cur→(L=[]∨i<A.length)→okE A B i j L→okE A B (fromI i cur) (fromJ j cur) (cur.toList++L):=by
  intro i j cur L hi hj hs hL hok
  cases cur with
  | none=>exact hok
  | some e =>
   obtain ⟨h1,h2,h3⟩:=hs
   refine ⟨j-e.ins.length,rfl,rfl,by omega,by omega,h3,by omega,?_,?_⟩
   ·rcases hL with rfl | h
    ·exact .inl rfl
    ·exact .inr (by omega)
   ·rw [h1,show j-e.ins.length+e.ins.length=j by omega];exact hok
 -- a step that removes
 have rem:∀ {i j:Nat} {cur:Option Edt} {s:List (Nat × Nat)} {b:List Gl},startE i j A B cur→(∀ cur',startE (i+1) j A B cur'→okE A B (fromI (i+1) cur') (fromJ j cur') (edG s b cur'))→okE A B (fromI i cur) (fromJ j cur) (edG ((1,i)::s) b cur):=by
  intro i j cur s b hs ih
  rw [edG,if_neg (by decide),if_pos rfl]
  cases cur with
  | none=>exact ih (some ⟨i,1,[]⟩) ⟨rfl,zI _,rfl⟩
  | some e =>
   obtain ⟨h1,h2,h3⟩:=hs
   exact ih (some { e with del:=e.del+1 }) ⟨by simp only;omega,h2,h3⟩
 have add:∀ {i j:Nat} {cur:Option Edt} {s:List (Nat × Nat)} {b:List Gl},b=B.drop j→j<B.length→startE i j A B cur→(∀ cur',startE i (j+1) A B cur'→okE A B (fromI i cur') (fromJ (j+1) cur') (edG s (b.drop 1) cur'))→okE A B (fromI i cur) (fromJ j cur) (edG ((2,i)::s) b cur):=by
  intro i j cur s b hb hj hs ih
  rw [edG,if_neg (by decide),if_neg (by decide)]
  have hl1:(b.take 1).length=1:=by rw [zs,hb,zt];omega
  cases cur with
  | none =>
   have h:=ih (some ⟨i,0,b.take 1⟩) ⟨rfl,by simp only [hl1];omega,by
    simp only [hl1]
    rw [hb,show j+1-1=j by omega]⟩
   simp only [fromI,fromJ,hl1] at h
   exact h
  | some e =>
   obtain ⟨h1,h2,h3⟩:=hs
   have h:=ih (some { e with ins:=e.ins++b.take 1 }) ⟨h1,by simp only [zb,hl1];omega,by
    simp only [zb,hl1]
    rw [← take_snoc_drop h2 hj,← h3,hb]⟩
   simp only [fromI,fromJ,zb,hl1] at h
   rw [show j+1-(e.ins.length+1)=j-e.ins.length by omega] at h
   exact h
 induction n with
 | zero =>
  intro a b i j cur hn ha hb hi hj hs
  have hae:a=[]:=zx (by omega)
  have hbe:b=[]:=zx (by omega)
  subst hae hbe
  have:=close (L:=[]) hi hj hs (.inl rfl) (by
   rw [okE,← ha,zP]
   have:B.length≤j:=List.drop_eq_nil_iff.1 hb.symm
   exact List.take_of_length_le this)
  simpa [wlk,edG] using this
 | succ n ih =>
  intro a b i j cur hn ha hb hi hj hs
  have tl:∀ {l l':List Gl} {k:Nat} {x:Gl},x::l=l'.drop k→l=l'.drop (k+1)∧k<l'.length:=by
   intro l l' k x h
   have hk:k<l'.length:=by
    rcases Nat.lt_or_ge k l'.length with h' | h'
    ·exact h'
    ·rw [List.drop_eq_nil_of_le h'] at h;cases h
   rw [zd hk] at h
   exact ⟨(List.cons.inj h).2,hk⟩
  cases a with
  | nil =>
   cases b with
   | nil =>
    have:=close (L:=[]) hi hj hs (.inl rfl) (by
     rw [okE,← ha,zP]
     exact List.take_of_length_le (List.drop_eq_nil_iff.1 hb.symm))
    simpa [wlk,edG] using this
   | cons y b =>
    obtain ⟨hb',hjl⟩:=tl hb
    have e:wlk [] (y::b) i=(2,i)::wlk [] b i:=rfl
    rw [e]
    exact add hb hjl hs fun cur' hs'=>ih [] b i (j+1) cur' (by simpa using hn) ha hb' hi hjl hs'
  | cons x a =>
   obtain ⟨ha',hil⟩:=tl ha
   simp only [za] at hn
   cases b with
   | nil =>
    have e:wlk (x::a) [] i=(1,i)::wlk a [] (i+1):=rfl
    rw [e]
    exact rem hs fun cur' hs'=>ih a [] (i+1) j cur' (by simp;omega) ha' hb hil hj hs'
   | cons y b =>
    obtain ⟨hb',hjl⟩:=tl hb
    simp only [za] at hn
    have e:wlk (x::a) (y::b) i=if x=y then (0,i)::wlk a b (i+1) else if lcsN (x::a) b≤lcsN a (y::b) then (1,i)::wlk a (y::b) (i+1) else (2,i)::wlk (x::a) b i:=rfl
    rw [e]
    split
    ·rename_i hxy
     subst hxy
     rw [edG,if_pos rfl]
     refine close hi hj hs (.inr hil) ?_
     have h:=ih a b (i+1) (j+1) none (by omega) ha' hb' hil hjl trivial
     refine okE_shift h ?_
     rw [List.take_add_one,zB hjl,zS,← ha,ha']
     congr 1
     have h1:=ha;rw [zd hil] at h1
     have h2:=hb;rw [zd hjl] at h2
     have:=(List.cons.inj h2).1
     rw [← this];rfl
    ·split
     ·exact rem hs fun cur' hs'=>ih a (y::b) (i+1) j cur' (by simp;omega) ha' hb hil hj hs'
     ·exact add hb hjl hs fun cur' hs'=>ih (x::a) b i (j+1) cur' (by simp;omega) ha hb' hi hjl hs'
def cgsE (row:Int):Int→List Edt→List Cg
 | _,[]=>[]
 | m,e::es=>⟨3,row,(e.at':Int)+m,e.del,0,e.ins⟩::cgsE row (m+e.ins.length-e.del) es
def costG:List Cg→Int
 | []=>0
 | c::l=>2+max 0 (min c.count 1000)+c.gl.length+costG l
def wholeG (row:Int) (a b:List Gl):Cg:=⟨3,row,0,(trimGl a).length,0,trimGl b⟩
def splicesV (row:Int) (a b:List Gl):List Cg :=
 let out:=cgsE row 0 (scriptE (trimGl a) (trimGl b))
 if out≠[]∧costG [wholeG row (trimGl a) (trimGl b)]<costG out then [wholeG row (trimGl a) (trimGl b)] else out
theorem splice_step {v:Vw} {row col cnt:Nat} {ins:List Gl} (hrow:row<v.rows.length) (hh:(v.rows.length:Int)=v.height) (hcol:col≤264) (hlen:col+cnt≤v.rows[row].length) (hg:∀ g∈ins,glyphC g=0) :
  chgC v ⟨3,row,col,cnt,0,ins⟩=0∧stepV v ⟨3,row,col,cnt,0,ins⟩={ v with rows:=v.rows.set row (trimGl (v.rows[row].take col++ins++v.rows[row].drop (col+cnt))) }:=by
 have hr:rowAt v.rows (row:Int)=v.rows[row]:=by
  unfold rowAt
  rw [Int.toNat_natCast,zC,zB hrow];rfl
 refine ⟨?_,?_⟩
 ·unfold chgC
  rw [if_pos (btw_iff.2 (by simp)),if_pos (by simp [blankG]),if_pos,fnz_iff.2 hg]
  simp only [rangeG,if_neg (show ¬ (3:Int)=1 by decide),if_neg (show ¬ (3:Int)=2 by decide),if_true,zf,btw_iff,hr]
  omega
 ·have e:stepV v ⟨3,row,col,cnt,0,ins⟩={ v with rows:=v.rows.set row (spliceR (rowAt v.rows row) col cnt ins) }:=by
   simp [stepV]
  rw [e,hr]
  unfold spliceR padR
  rw [show col-v.rows[row].length=0 by omega,List.replicate_zero,zP]
theorem ends_drop {A:List Gl} {n:Nat} (hA:endsBlank A=false) (hn:n<A.length) (p:List Gl):endsBlank (p++A.drop n)=false:=by
 unfold endsBlank at hA ⊢
 rw [List.getLast?_append,List.getLast?_drop,if_neg (by omega)]
 rw [decide_eq_false_iff_not] at hA ⊢
 intro h
 apply hA
 cases hl:A.getLast? with
 | none=>rw [List.getLast?_eq_none_iff] at hl;subst hl;simp at hn
 | some x=>rw [hl] at h;simpa using h
theorem run_cgs {A B:List Gl} (hA:endsBlank A=false) (hB:endsBlank B=false) (hBl:B.length≤264) (hg:∀ g∈B,glyphC g=0) (row:Nat):∀ (es:List Edt) (i j:Nat) (m:Int) (v:Vw) (k:Int) (tail:List Cg),row<v.rows.length→(v.rows.length:Int)=v.height →
  v.rows[row]? = some (B.take j++A.drop i)→m=(j:Int)-i→okE A B i j es→runV v k (cgsE row m es++tail)=runV { v with rows:=v.rows.set row B } (k+(cgsE row m es).length) tail:=by
 intro es
 induction es with
 | nil =>
  intro i j m v k tail hrow hh hr hm hok
  rw [okE] at hok
  rw [hok] at hr
  have:v.rows.set row B=v.rows:=by
   apply List.ext_getElem?
   intro q
   rw [List.getElem?_set]
   split
   ·rename_i h;subst h;rw [hr]
   ·rfl
  rw [this]
  simp [cgsE]
 | cons e es ih =>
  intro i j m v k tail hrow hh hr hm hok
  rw [okE] at hok
  obtain ⟨j1,h1,h2,h3,h4,h5,h6,h7,h8⟩:=hok
  have hRr:v.rows[row]=B.take j1++A.drop e.at':=by
   rw [zB hrow] at hr
   rw [← h1];exact Option.some.inj hr
  have hcol:(e.at':Int)+m=(j1:Int):=by omega
  have htl:(B.take j1).length=j1:=by rw [zs];omega
  have hRl:v.rows[row].length=j1+(A.length-e.at'):=by rw [hRr,zb,htl,zt]
  have hins:∀ g∈e.ins,glyphC g=0:=fun g hg'=>hg g (by rw [h5] at hg';exact List.mem_of_mem_drop (List.mem_of_mem_take hg'))
  obtain ⟨s1,s2⟩:=splice_step (v:=v) (row:=row) (col:=j1) (cnt:=e.del) (ins:=e.ins) hrow hh (by omega) (by omega) hins
  have hnew:v.rows[row].take j1++e.ins++v.rows[row].drop (j1+e.del)=B.take (j1+e.ins.length)++A.drop (e.at'+e.del):=by
   rw [hRr,List.take_left' htl,List.drop_append,htl,List.drop_eq_nil_of_le (by rw [htl];omega),List.nil_append,show j1+e.del-j1=e.del by omega,List.drop_drop,List.take_add]
   rw [← h5]
  have htr:endsBlank (B.take (j1+e.ins.length)++A.drop (e.at'+e.del))=false:=by
   rcases h7 with rfl | h7
   ·rw [okE] at h8;rw [h8];exact hB
   ·exact ends_drop hA h7 _
  rw [hnew,trim_id htr] at s2
  rw [cgsE,hcol,List.cons_append,runV,if_pos s1,s2]
  have:=ih (e.at'+e.del) (j1+e.ins.length) (m+e.ins.length-e.del) { v with rows:=v.rows.set row (B.take (j1+e.ins.length)++A.drop (e.at'+e.del)) } (k+1) tail (by simpa using hrow) (by simpa using hh) (by simp [List.getElem?_set,hrow]) (by omega) h8
  rw [this]
  simp only [List.set_set,za]
  congr 1
  omega
theorem run_splices {v:Vw} {row:Nat} {A B:List Gl} (hrow:row<v.rows.length) (hh:(v.rows.length:Int)=v.height) (hr:v.rows[row]? = some A) (hA:endsBlank A=false) (hB:endsBlank B=false) (hBl:B.length≤264) (hg:∀ g∈B,glyphC g=0) (k:Int) (tail:List Cg) :
  runV v k (splicesV row A B++tail)=runV { v with rows:=v.rows.set row B } (k+(splicesV row A B).length) tail:=by
 have hs:=script_ok (A:=A) (B:=B) _ A B 0 0 none (Nat.le_refl _) rfl rfl (zI _) (zI _) trivial
 unfold splicesV
 rw [trim_id hA,trim_id hB]
 simp only
 split
 ·have hRr:v.rows[row]=A:=by
   rw [zB hrow] at hr;exact Option.some.inj hr
  obtain ⟨s1,s2⟩:=splice_step (v:=v) (row:=row) (col:=0) (cnt:=A.length) (ins:=B) hrow hh (by omega) (by rw [hRr];omega) hg
  rw [hRr,List.take_zero,List.nil_append,Nat.zero_add,List.drop_length,zP,trim_id hB] at s2
  have:wholeG row A B=⟨3,row,(0:Nat),A.length,0,B⟩:=by unfold wholeG;rw [trim_id hA,trim_id hB];rfl
  rw [this,List.singleton_append,runV,if_pos s1,s2];simp
 ·refine run_cgs hA hB hBl hg row _ 0 0 0 v k tail hrow hh (by simpa using hr) (by simp) hs
def cursorV (x b:Vw):List Cg:=if x.row=b.row∧x.col=b.col∧x.vis=b.vis then [] else [⟨4,b.row,b.col,if b.vis then 1 else 0,0,[]⟩]
def splicesTo (x b:Vw):Nat→List Cg
 | 0=>[]
 | n+1=>splicesTo x b n++splicesV n (x.rows.getD n []) (b.rows.getD n [])
def restV (x b:Vw):List Cg:=splicesTo x b b.rows.length++cursorV x b
theorem row_len {r:List Gl}:r.length≤widthN r:=(widthN_le r).1
theorem wide_row {v:Vw} (h:wideV v=false) {r:List Gl} (hr:r∈v.rows):(widthN r:Int)≤v.width:=by
 have:=List.any_eq_false.1 h r hr
 simp only [decide_eq_true_eq] at this;omega
theorem run_splicesTo {x b:Vw} (ex:Ed x) (hb:viewC b=0) (hh:x.height=b.height):∀ (n:Nat),n≤b.rows.length→∀ (k:Int) (tail:List Cg),∃ k',runV x k (splicesTo x b n++tail)=runV { x with rows:=b.rows.take n++x.rows.drop n } k' tail:=by
 obtain ⟨eb,hw⟩:=viewC_zero.1 hb
 have hlx:=ex.len
 have hlb:=eb.len
 have hsb:=szOk_iff.1 eb.sz
 intro n
 induction n with
 | zero=>intro _ k tail;exact ⟨k,by simp [splicesTo]⟩
 | succ n ih =>
  intro hn k tail
  have hnb:n<b.rows.length:=hn
  have hnx:n<x.rows.length:=by omega
  rw [splicesTo,zS]
  obtain ⟨k1,h1⟩:=ih (by omega) k (splicesV n (x.rows.getD n []) (b.rows.getD n [])++tail)
  rw [h1]
  have gx:x.rows.getD n []=x.rows[n]:=by rw [zC,zB hnx];rfl
  have gb:b.rows.getD n []=b.rows[n]:=by rw [zC,zB hnb];rfl
  rw [gx,gb]
  have hmx:x.rows[n]∈x.rows:=List.getElem_mem hnx
  have hmb:b.rows[n]∈b.rows:=List.getElem_mem hnb
  have htl:(b.rows.take n).length=n:=by rw [zs];omega
  have hwid:=wide_row hw hmb
  have hrl:=row_len (r:=b.rows[n])
  have hget:(b.rows.take n++x.rows.drop n)[n]? = some x.rows[n]:=by
   rw [List.getElem?_append_right (by omega),htl,Nat.sub_self,zl,Nat.add_zero,zB hnx]
  have:=run_splices (v:={ x with rows:=b.rows.take n++x.rows.drop n }) (row:=n) (A:=x.rows[n]) (B:=b.rows[n])
   (by simp only [zb,htl,zt];omega) (by simp only [zb,htl,zt];omega) hget (ex.tr _ hmx) (eb.tr _ hmb) (by omega) (eb.gl _ hmb) k1 tail
  rw [this]
  refine ⟨k1+(splicesV n x.rows[n] b.rows[n]).length,?_⟩
  congr 2
  simp only
  rw [List.set_append_right _ _ (by omega),htl,Nat.sub_self,zd hnx,List.set_cons_zero,List.take_add_one,zB hnb,Option.toList_some,zS]
  rfl
theorem run_rest {x b:Vw} (ex:Ed x) (hb:viewC b=0) (hh:x.height=b.height) (hw:x.width=b.width) (k:Int):runV x k (restV x b)=(b,0,0):=by
 obtain ⟨eb,hwb⟩:=viewC_zero.1 hb
 have hlx:=ex.len
 have hlb:=eb.len
 have hob:=outV_iff.1 eb.out
 unfold restV
 obtain ⟨k1,h1⟩:=run_splicesTo ex hb hh b.rows.length (Nat.le_refl _) k (cursorV x b)
 rw [h1,List.take_length,List.drop_eq_nil_of_le (by omega),zP]
 unfold cursorV
 split
 ·rename_i h
  have:({ x with rows:=b.rows }:Vw)=b:=by
   obtain ⟨q1,q2,q3⟩:=h
   cases x;cases b;simp_all
  rw [this,runV,hwb];rfl
 ·have hc:chgC { x with rows:=b.rows } ⟨4,b.row,b.col,if b.vis then 1 else 0,0,[]⟩=0:=by
   unfold chgC
   rw [if_pos (btw_iff.2 (by simp)),if_pos (by simp [blankG]),if_pos]
   ·rfl
   ·simp only [rangeG,if_neg (show ¬ (4:Int)=1 by decide),if_neg (show ¬ (4:Int)=2 by decide),if_neg (show ¬ (4:Int)=3 by decide),zf,btw_iff]
    refine ⟨⟨by omega,by omega⟩,?_⟩
    cases b.vis<;>simp
  rw [runV,if_pos hc]
  have:stepV { x with rows:=b.rows } ⟨4,b.row,b.col,if b.vis then 1 else 0,0,[]⟩=b:=by
   simp only [stepV,if_neg (show ¬ (4:Int)=1 by decide),if_neg (show ¬ (4:Int)=2 by decide),if_neg (show ¬ (4:Int)=3 by decide)]
   obtain ⟨a1,a2,a3,a4,a5,a6⟩:=b
   simp only at hh hw
   subst hh hw
   cases a6<;>simp
  rw [this,runV,hwb];rfl
def sizeCg (b:Vw):Cg:=⟨1,b.height,b.width,0,0,[]⟩
end Go.Proofs.YtlllnjhgjijnkaaDoor.Nx

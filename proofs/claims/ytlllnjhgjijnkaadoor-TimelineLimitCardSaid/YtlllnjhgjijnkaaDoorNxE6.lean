import Derived.Test.YtlllnjhgjijnkaaDoorNxE2
import Derived.Test.YtlllnjhgjijnkaaDoorNxW8
set_option linter.unusedSimpArgs false
set_option linter.unusedVariables false
set_option linter.unnecessarySimpa false
open List renaming getElem?_eq_some_iff → zA, getElem?_eq_getElem → zB, getD_eq_getElem?_getD → zC, getElem?_append_left → zF, getElem?_append_right → zG, getElem?_map → zK, getElem?_set_ne → zM, getElem?_set_self → zN, append_nil → zP, append_assoc → zS, map_cons → zU, map_nil → zV, length_append → zb, not_mem_nil → zc, drop_eq_getElem_cons → zd, length_map → zg, take_length → zh, getElem?_range → zj, getElem?_eq_none → zk, getElem?_take → zm, mem_cons → zp, length_take → zs
open Bool renaming true_eq_false → zE
open Option.some renaming injEq → zH
open Nat renaming zero_le → zI, le_refl → zL
open Int renaming toNat_natCast → zQ
open Nat renaming reduceEqDiff → qE, reduceAdd → qA, reduceLT → qL, reduceLeDiff → qD
namespace Go.Proofs.YtlllnjhgjijnkaaDoor.Nx
open Go
variable {P:Program} {N:Nat} {Γ:Tabs}
def XC.l:XC→XC
 | .seq x _=>x
 | x=>x
def XC.b:XC→XC
 | .block _ x=>x
 | x=>x
def XC.lp:XC→XC
 | .loop x=>x
 | x=>x
theorem EdIs.idk {h:Heap} {id:Nat} {v:Vw} {k:Nat} {R:List (List A)} (e:EdIs h id v k R):id≠k:=by
 rintro rfl
 have:=e.hid.symm.trans e.hk
 simp only [zH,HB.cells.injEq] at this
 exact absurd (congrArg Elt.sz this.1) (by decide)
theorem EdIs.setK {h g:Heap} {id:Nat} {v w:Vw} {k:Nat} {R R':List (List A)} (e:EdIs h id v k R) (hlen:w.rows.length≤R'.length)
  (hrow:∀ (i:Nat) (r:List Gl),w.rows[i]? = some r→(R'[i]? = R[i]? ∧ v.rows[i]? = some r)∨(R'[i]? = some [.nil]∧r=[]))
  (hg:∀ q,q<h.length→g[q]? = h[q]?):EdIs ((g.set k (.cells eRw R')).set id (.cells eVw [edRow w k R'.length])) id w k R':=by
 have hid:=e.id_lt
 have hk:=e.k_lt
 have gl:∀ q,q<h.length→q<g.length:=fun q hq=>by
  have:=hg q hq
  rw [zB hq] at this
  exact (zA.1 this).1
 have hgid:=gl _ hid
 have hgk:=gl _ hk
 refine ⟨zN (by simpa using hgid),by rw [zM e.idk,zN hgk],hlen,fun i r hi=>?_,fun i j q n m hi hj h1 h2=>?_⟩
 ·rcases hrow i r hi with ⟨h1,h2⟩ | ⟨h1,h2⟩
  ·obtain ⟨x,g1,g2⟩:=e.row i r h2
   refine ⟨x,h1.trans g1,?_⟩
   rcases g2 with g2 | ⟨q,g2,g3⟩
   ·exact .inl g2
   ·have hne:=e.ne g3
    have hq:=(zA.1 g3).1
    exact .inr ⟨q,g2,by rw [zM (Ne.symm hne.1),zM (Ne.symm hne.2.1),hg q hq];exact g3⟩
  ·exact ⟨_,h1,.inl ⟨rfl,h2⟩⟩
 ·have key:∀ {i q n:Nat},i<w.rows.length→R'[i]? = some [.ref q n 0 n true]→R[i]? = some [.ref q n 0 n true]∧i<v.rows.length:=by
   intro i q n hi hr
   rcases hrow i _ (zB hi) with ⟨h1,h2⟩ | ⟨h1,_⟩
   ·exact ⟨h1.symm.trans hr,(zA.1 h2).1⟩
   ·rw [h1] at hr;cases hr
  obtain ⟨a1,a2⟩:=key hi h1
  obtain ⟨b1,b2⟩:=key hj h2
  exact e.dis i j q n m a2 b2 a1 b1
def growL (v:Vw) (i:Nat):Vw:={ v with rows:=v.rows++List.replicate i [] }
theorem size_grow {fw ft:FuncId} {Δ:Ctx} {n0:Nat} {v:Vw} {Hh:Nat} (hv:v.height=Hh) (hH:Hh≤1000) (hvl:v.rows.length≤1000) {g:Heap} {id k:Nat} {R:List (List A)} (e:EdIs g id v k R) :
  ∃ g' k' R',g.length≤g'.length∧EdIs g' id (growL v (Hh-v.rows.length)) k' R'∧Keep6 g g' id∧WE Δ P N none n0 (x_change_editor_size fw ft).r.r.l ⟨look [(0,.ptr id 1 0 0)],g⟩ .normal ⟨look [(0,.ptr id 1 0 0)],g'⟩:=by
 have key:=WE_loopX (Γ:=Δ) (P:=P) (N:=N) (rl:=none) (n0:=n0) (j:=0) (x:=(x_change_editor_size fw ft).r.r.l.b.lp)
  (fun m s=>∃ i g' k' R',i≤Hh-v.rows.length∧m=Hh-v.rows.length-i∧g.length≤g'.length∧EdIs g' id (growL v i) k' R'∧Keep6 g g' id∧s=⟨look [(0,.ptr id 1 0 0)],g'⟩)
  (fun s=>∃ g' k' R',g.length≤g'.length∧EdIs g' id (growL v (Hh-v.rows.length)) k' R'∧Keep6 g g' id∧s=⟨look [(0,.ptr id 1 0 0)],g'⟩) (fun m s hI=>?_) (m:=Hh-v.rows.length) (s:=⟨look [(0,.ptr id 1 0 0)],g⟩) ⟨0,g,k,R,zI _,rfl,zL _,by simpa [growL] using e,.refl,rfl⟩
 ·obtain ⟨s1,⟨g',k',R',h1,h2,h3,rfl⟩,hW⟩:=key
  exact ⟨g',k',R',h1,h2,h3,hW⟩
 obtain ⟨i,g',k',R',hi,rfl,hgl,e',hk6,rfl⟩:=hI
 have idlt:=e'.id_lt
 have klt:=e'.k_lt
 have idk:=e'.idk
 have hgr:(growL v i).rows.length=v.rows.length+i:=by simp [growL]
 have hgh:(growL v i).height=Hh:=hv
 have hgh1:(growL v (i+1)).height=Hh:=hv
 have gid:g'[id]? = some (.cells eVw [edRow (growL v i) k' R'.length]):=e'.hid
 have gk:g'[k']? = some (.cells eRw R'):=e'.hk
 have hle:v.rows.length+i≤R'.length:=by rw [← hgr];exact e'.len
 by_cases hlt:v.rows.length+i<Hh
 ·left
  have d1:decide (((v.rows.length+i:Nat):Int)<(Hh:Int))=true:=decide_eq_true (by omega)
  have hroom:(v.rows.length+i+1) * 24≤room:=by simp only [room];omega
  have hmax:v.rows.length+i+1≤maxLen:=by simp only [maxLen];omega
  let G:Heap:=g'++[HB.cells eRw [[A.nil]]]
  have gid1:∀ t:Heap,(g'++t)[id]? = some (.cells eVw [edRow (growL v i) k' R'.length]):=fun t=>hp_gl gid
  have gk1:∀ t:Heap,(g'++t)[k']? = some (.cells eRw R'):=fun t=>hp_gl gk
  have gsk:∀ X (t:Heap),((g'++t).set k' X)[id]? = some (.cells eVw [edRow (growL v i) k' R'.length]):=fun X t=>by
   rw [zM (Ne.symm idk)];exact hp_gl gid
  have step:∀ R2:List (List A),v.rows.length+i+1≤R2.length→(∀ a,a<v.rows.length+i→R2[a]? = R'[a]?)→R2[v.rows.length+i]? = some [A.nil] →
    (∀ K:St→Prop,(∀ (sl:Nat→A) (hp:Heap),sl 0 = .ptr id 1 0 0→hp=((G.set k' (.cells eRw R2)).set id (.cells eVw [edRow (growL v (i+1)) k' R2.length]))→K ⟨sl,hp⟩)→W Δ P N none n0 (x_change_editor_size fw ft).r.r.l.b.lp (fun e s=>e = .normal∧K s) ⟨look [(0,.ptr id 1 0 0)],g'⟩) →
    ∃ m' s2,m'<Hh-v.rows.length-i∧(∃ i g' k' R',i≤Hh-v.rows.length∧m'=Hh-v.rows.length-i∧g.length≤g'.length∧EdIs g' id (growL v i) k' R'∧Keep6 g g' id∧s2=⟨look [(0,.ptr id 1 0 0)],g'⟩)∧WE Δ P N none n0 (x_change_editor_size fw ft).r.r.l.b.lp ⟨look [(0,.ptr id 1 0 0)],g'⟩ .normal s2:=by
   intro R2 hl2 hold hnew hW
   refine ⟨Hh-v.rows.length-(i+1),⟨look [(0,.ptr id 1 0 0)],(G.set k' (.cells eRw R2)).set id (.cells eVw [edRow (growL v (i+1)) k' R2.length])⟩,by omega,⟨i+1,_,k',R2,by omega,rfl,by simp [G];omega,e'.setK (by simp [growL];omega) (fun a r ha=>?_) (fun q hq=>zF hq),hk6.trans ((Keep6.app (t:=[HB.cells eRw [[A.nil]]])).trans ((Keep6.setO (gk1 _) (by decide)).trans .set)),rfl⟩,?_⟩
   ·have hal:=(zA.1 ha).1
    have hgr1:(growL v (i+1)).rows=(growL v i).rows++[[]]:=by simp [growL,List.replicate_succ',zS]
    rw [hgr1] at ha hal
    rw [zb,List.length_singleton,hgr] at hal
    rcases Nat.lt_or_ge a (v.rows.length+i) with h' | h'
    ·left
     rw [zF (by omega)] at ha
     exact ⟨hold a h',ha⟩
    ·right
     have:a=v.rows.length+i:=by omega
     subst this
     rw [zG (by omega),hgr,Nat.sub_self] at ha
     cases ha
     exact ⟨hnew,rfl⟩
   ·refine hW (fun s=>Co n0 s _) fun sl hp h0 he=>?_
    subst he
    exact Co.keep _ (by simp [h0])
  by_cases hfull:v.rows.length+i=R'.length
  ·refine step (R'++[[.nil]]) (by simp;omega) (fun a ha=>zF (by omega)) (by rw [zG (by omega)];simp [hfull]) fun K hK=>?_
   simp only [x_change_editor_size,XC.r,XC.l,XC.b,XC.lp]
   refine W_seq ?_
   refine W_seq (W_drw (by simp) ?_);simp only [xq,reduceIte,qE,qA,qL,qD,gid,gk,edRow,hgr,hgh,zP,d1]
   refine W_cond rfl (fun _=>W_skip ?_) (fun hc=>by cases hc)
   simp only [xq,reduceIte,qE,qA,qL,qD]
   refine W_block ?_
   refine W_reg ?_;simp only [xq,reduceIte,qE,qA,qL,qD,gid,gid1,gk,gk1,gsk,edRow,hgr,hgh,hfull,hp_g0]
   refine ⟨by rw [← hfull];exact hroom,by rw [← hfull];exact hmax,?_⟩
   refine hK _ _ (by simp [x_upd,x_look]) ?_
   have hl:(growL v (i+1)).rows.length=R'.length+1:=by rw [← hfull];simp [growL];omega
   simp only [G,edRow,hl,hgh1,zb,List.length_singleton]
   rfl
  ·have hfull2:v.rows.length+i<R'.length:=by omega
   have hfull3:¬ (v.rows.length+i=R'.length):=hfull
   have ht:(R'.take (v.rows.length+i)).length=v.rows.length+i:=by rw [zs];omega
   have hl2:(R'.take (v.rows.length+i)++[[A.nil]]++R'.drop (v.rows.length+i+1)).length=R'.length:=by
    simp only [zb,ht,List.length_singleton,List.length_drop];omega
   refine step (R'.take (v.rows.length+i)++[[.nil]]++R'.drop (v.rows.length+i+1)) (by omega) (fun a ha=>?_) ?_ fun K hK=>?_
   ·rw [zS,zF (by omega),zm,if_pos ha]
   ·rw [zS,zG (by omega),ht,Nat.sub_self];rfl
   simp only [x_change_editor_size,XC.r,XC.l,XC.b,XC.lp]
   refine W_seq ?_
   refine W_seq (W_drw (by simp) ?_);simp only [xq,reduceIte,qE,qA,qL,qD,gid,gk,edRow,hgr,hgh,zP,d1]
   refine W_cond rfl (fun _=>W_skip ?_) (fun hc=>by cases hc)
   simp only [xq,reduceIte,qE,qA,qL,qD]
   refine W_block ?_
   refine W_reg ?_;simp only [xq,reduceIte,qE,qA,qL,qD,gid,gid1,gk,gk1,gsk,edRow,hgr,hgh,if_neg hfull3,hp_g0]
   refine ⟨hroom,hmax,hfull2,?_⟩
   refine hK _ _ (by simp [x_upd,x_look]) ?_
   have hl:(growL v (i+1)).rows.length=v.rows.length+i+1:=by simp [growL];omega
   simp only [G,edRow,hl,hl2,hgh1]
   rfl
 ·right
  refine ⟨⟨look [(0,.ptr id 1 0 0)],g'⟩,⟨g',k',R',hgl,?_,hk6,rfl⟩,?_⟩
  ·have:Hh-v.rows.length=i:=by omega
   rw [this];exact e'
  ·have d1:decide (((v.rows.length+i:Nat):Int)<(Hh:Int))=false:=decide_eq_false (by omega)
   simp only [x_change_editor_size,XC.r,XC.l,XC.b,XC.lp]
   refine W_seq ?_
   refine W_seq (W_drw (by simp) ?_);simp only [xq,reduceIte,qE,qA,qL,qD,gid,gk,edRow,hgr,hgh,zP,d1]
   refine W_cond rfl (fun hc=>by cases hc) (fun _=>W_exit ?_)
   simp only [xq,reduceIte,qE,qA,qL,qD]
   exact Co.keep _ (by simp [x_upd,x_look])
theorem EdIs.cut {h:Heap} {id:Nat} {v:Vw} {k:Nat} {R:List (List A)} (e:EdIs h id v k R) (n:Nat) (hn:n≤v.rows.length):EdIs (h.set id (.cells eVw [edRow { v with rows:=v.rows.take n } k R.length])) id { v with rows:=v.rows.take n } k R:=by
 have hl:(v.rows.take n).length=n:=by rw [zs];omega
 refine ⟨zN e.id_lt,by rw [zM e.idk];exact e.hk,by simp only [hl];have:=e.len;omega,fun i r hi=>?_,fun i j q a b hi hj=>?_⟩
 ·simp only [zm] at hi
  split at hi
  ·obtain ⟨x,h1,h2⟩:=e.row i r hi
   refine ⟨x,h1,?_⟩
   rcases h2 with h2 | ⟨q,h2,h3⟩
   ·exact .inl h2
   ·exact .inr ⟨q,h2,by rw [zM (Ne.symm (e.ne h3).1)];exact h3⟩
  ·cases hi
 ·simp only [hl] at hi hj
  exact e.dis i j q a b (by omega) (by omega)
def cutV (v:Vw) (i:Nat):Vw:={ v with rows:=(v.rows.take i).map (sizeR v.width)++v.rows.drop i }
theorem cutV_len {v:Vw} {i:Nat}:(cutV v i).rows.length=v.rows.length:=by simp [cutV];omega
theorem cutV_succ {v:Vw} {i:Nat} (h:i<v.rows.length):cutV v (i+1)={ cutV v i with rows:=(cutV v i).rows.set i (sizeR v.width v.rows[i]) }:=by
 have hl:((v.rows.take i).map (sizeR v.width)).length=i:=by simp;omega
 simp only [cutV]
 congr 1
 rw [List.set_append_right _ _ (by omega),hl,Nat.sub_self,zd h,List.set_cons_zero,List.take_add_one,zB h,Option.toList_some,List.map_append,zS]
 rfl
theorem cutV_get {v:Vw} {i:Nat} (h:i<v.rows.length):(cutV v i).rows[i]? = some v.rows[i]:=by
 have hl:((v.rows.take i).map (sizeR v.width)).length=i:=by simp;omega
 simp only [cutV]
 rw [zG (by omega),hl,Nat.sub_self,List.getElem?_drop,Nat.add_zero,zB h]
theorem cutW_at (w:Int):∀ (l:List Gl) (i:Nat),i≤l.length→(∀ j,j≤i→(widthN (l.take j):Int)≤w)→cutW w l=l.take i++cutW (w-widthN (l.take i)) (l.drop i)
 | l,0,_,_=>by simp [widthN]
 | [],i+1,h,_=>by simp at h
 | g::l,i+1,h,hw=>by
  have h1:=hw 1 (by omega)
  simp only [List.take_succ_cons,List.take_zero,widthN] at h1
  rw [cutW,if_neg (by omega),cutW_at (w-(gw g:Nat)) l i (by simpa using h) (fun j hj=>by
   have:=hw (j+1) (by omega)
   rw [List.take_succ_cons,widthN] at this
   omega)]
  rw [List.take_succ_cons,widthN,List.drop_succ_cons,List.cons_append]
  congr 3
  push_cast
  omega
end Go.Proofs.YtlllnjhgjijnkaaDoor.Nx
namespace Go.Proofs.YtlllnjhgjijnkaaDoor.Nx
open Go
variable {P:Program} {N:Nat} {Γ:Tabs}
theorem glRows_one' {l:List Gl} {i:Nat} (hi:i<l.length):((glRows l).drop i).take 1=glRows [l[i]]:=by
 rw [glRows,← List.map_drop,← List.map_take,zd hi];rfl
def sizeRow (fw ft:FuncId):XC:=(x_change_editor_size fw ft).r.r.r.r.l.r.b.lp.r.r.l.b.r
set_option maxHeartbeats 1000000 in
theorem size_row {fw ft:FuncId} {Δ:Ctx} {n0:Nat} (Hw:∀ l:List Gl,FnP Δ.t P fw [.d (.sl eGl (glRows l))] (.int (widthN l))) (Ht:∀ l:List Gl,RowO P ft (.d (.sl eGl (glRows l))) (trimGl l))
  {g:Heap} {id k q i M n1:Nat} {R:List (List A)} {v:Vw} {r:List Gl} {x:A} (hw0:0≤v.width∧v.width≤1000) (gid:g[id]? = some (.cells eVw [edRow v k R.length])) (gk:g[k]? = some (.cells eRw R)) (gq:g[q]? = some (rowB r)) (hrl:r.length≤50000) (hi:i<v.rows.length) (hx:R[i]? = some [x]) :
  WE Δ P N none n0 (sizeRow fw ft) ⟨look [(0,.ptr id 1 0 0),(4,.int i),(5,.ref q r.length 0 r.length true),(62,.ref k R.length 0 M true),(63,.int n1),(64,.int i)],g⟩ .normal
   ⟨look [(0,.ptr id 1 0 0),(62,.ref k R.length 0 M true),(63,.int n1),(64,.int i)],g.set k (.cells eRw (R.set i [.ref g.length (sizeR v.width r).length 0 (sizeR v.width r).length true]))++[rowB (sizeR v.width r)]⟩:=by
 have gid1:∀ t:Heap,(g++t)[id]? = some (.cells eVw [edRow v k R.length]):=fun t=>hp_gl gid
 have gk1:∀ t:Heap,(g++t)[k]? = some (.cells eRw R):=fun t=>hp_gl gk
 have klt:k<g.length:=(zA.1 gk).1
 obtain ⟨cn,hcn⟩:=cutW_pre v.width r
 let S:Nat→St:=fun n=>⟨look [(0,.ptr id 1 0 0),(4,.int i),(5,.ref q r.length 0 r.length true),(6,.int n),(7,.int (widthN (r.take n))),(62,.ref k R.length 0 M true),(63,.int n1),(64,.int i)],g⟩
 let T:Nat→St:=fun n=>⟨look [(0,.ptr id 1 0 0),(4,.int i),(5,.ref q r.length 0 r.length true),(6,.int n),(62,.ref k R.length 0 M true),(63,.int n1),(64,.int i)],g⟩
 simp only [sizeRow,x_change_editor_size,XC.r,XC.l,XC.b,XC.lp]
 have hcl:=congrArg List.length hcn
 rw [zs] at hcl
 have hcut:cutW v.width r=r.take (cutW v.width r).length:=by
  rw [hcl,hcn]
  rcases Nat.le_total cn r.length with h | h
  ·rw [Nat.min_eq_left h]
  ·rw [Nat.min_eq_right h,List.take_of_length_le h,zh]
 refine wR ?_
 simp only [xq,reduceIte,qE,qA,qL,qD]
 refine W_cut (· = T (cutW v.width r).length) ?_ ?_
 ·refine W_block ?_
  refine W_co (s':=S 0) (Co.keep _ (by simp [x_upd,x_look,widthN])) ?_
  refine W_loop (fun m s=>∃ n,n≤r.length∧m=r.length-n∧s=S n∧∀ j,j≤n→(widthN (r.take j):Int)≤v.width) ⟨0,zI _,rfl,rfl,fun j hj=>by
   have:j=0:=by omega
   subst this;simpa [widthN] using hw0.1⟩ ?_
  rintro m s ⟨n,hn,rfl,rfl,hpre⟩
  have hat:=cutW_at v.width r n hn hpre
  have hwle:=widthN_le (r.take n)
  simp only [zs] at hwle
  simp only [S]
  refine W_seq ?_
  refine wR ?_;simp only [xq,reduceIte,qE,qA,qL,qD,gq,rowB,zg,glRows_len]
  refine W_cond rfl (fun hc=>W_skip ?_) (fun hc=>W_exit ?_)
  ·have hlt:n<r.length:=by simpa using hc
   have hsucc:=widthN_succ hlt
   have hgw:gw r[n]≤2:=by unfold gw;split<;>omega
   have w1:IntKind.i64.wrap ((n:Int)+1)=((n+1:Nat):Int):=by rw [i64_of (by omega)];omega
   have w2:IntKind.i64.wrap ((widthN (r.take n):Int)+(widthN [r[n]]:Int))=((widthN (r.take (n+1)):Nat):Int):=by
    have:widthN [r[n]]=gw r[n]:=by simp [widthN]
    rw [this,i64_of (by omega),hsucc];omega
   have t1:(((n+1:Nat):Int)-(n:Int)).toNat=1:=by omega
   have hcall:FnD Δ P fw [.ref q r.length n 1 true] g (.int (widthN [r[n]])) (g++[]):=by
    rw [zP]
    refine FnP.lend (Hw [r[n]]) flat_sc (.cons ?_ .nil)
    have:=frzD_rows (k:=0) (off:=n) (len:=1) (full:=true) (e:=eGl) (rows:=glRows r) (zI q) gq (by rw [glRows_len];omega)
    rw [glRows_len,glRows_one' hlt] at this
    exact .d this
   simp only [xq,reduceIte,qE,qA,qL,qD]
   refine W_block ?_
   refine W_seq ?_
   refine wR ?_;simp only [xq,reduceIte,qE,qA,qL,qD,gq,rowB,zg,glRows_len,w1,t1,zQ,Nat.zero_add]
   repeat refine And.intro (by omega) ?_
   refine cr_fn hcall ?_
   simp only [xq,reduceIte,qE,qA,qL,qD,zP,w2]
   refine wR ?_;simp only [xq,reduceIte,qE,qA,qL,qD,gid,edRow]
   refine W_cond rfl (fun hd=>W_exit ?_) (fun hd=>W_skip ?_)
   ·have hd:v.width<((widthN (r.take (n+1)):Nat):Int):=of_decide_eq_true hd
    have hfin:(cutW v.width r).length=n:=by
     rw [hat,zd hlt,cutW,if_pos (by rw [hsucc] at hd;omega),zP,zs];omega
    simp only [xq,reduceIte,qE,qA,qL,qD]
    exact ⟨T (cutW v.width r).length,Co.keep _ (by simp [x_upd,x_look,hfin]),rfl⟩
   ·have hd:((widthN (r.take (n+1)):Nat):Int)≤v.width:=by have:=of_decide_eq_false hd;omega
    simp only [xq,reduceIte,qE,qA,qL,qD]
    refine W_reg ?_;simp only [xq,reduceIte,qE,qA,qL,qD,w1]
    refine ⟨r.length-(n+1),S (n+1),by omega,Co.keep _ ?_,n+1,hlt,rfl,rfl,fun j hj=>?_⟩
    ·simp [x_upd,x_look]
    ·rcases Nat.lt_or_ge j (n+1) with h | h
     ·exact hpre j (by omega)
     ·have:j=n+1:=by omega
      subst this;exact hd
  ·have hle:n=r.length:=by simp at hc;omega
   subst hle
   have hfin:(cutW v.width r).length=r.length:=by
    rw [hat,List.drop_length,zh];simp [cutW]
   simp only [xq,reduceIte,qE,qA,qL,qD]
   exact ⟨T (cutW v.width r).length,Co.keep _ (by simp [x_upd,x_look,hfin]),rfl⟩
 rintro _ rfl
 have hcle:(cutW v.width r).length≤r.length:=by rw [hcl];omega
 have hT:FnD Δ P ft [.ref q r.length 0 (cutW v.width r).length true] g (.ref g.length (sizeR v.width r).length 0 (sizeR v.width r).length true) (g++[rowB (sizeR v.width r)]):=by
  refine RowO.lend (y:=.d (.sl eGl (glRows (cutW v.width r)))) (Ht _) ?_ rfl
  have:=frzD_rows (k:=0) (off:=0) (len:=(cutW v.width r).length) (full:=true) (e:=eGl) (rows:=glRows r) (zI q) gq (by rw [glRows_len];omega)
  rw [glRows_len,List.drop_zero,glRows_take,← hcut] at this
  exact .d this
 simp only [T]
 refine W_drw (by simp) ?_
 simp only [xq,reduceIte,qE,qA,qL,qD,gid,gid1,gk,gk1,gq,edRow,rowB,zg,glRows_len,Int.natCast_zero,Int.sub_zero,Int.toNat_zero,zQ,zP]
 repeat refine And.intro (by omega) ?_
 refine cr_fn hT ?_
 simp only [xq,reduceIte,qE,qA,qL,qD,gid1,gk1,hx,zQ]
 repeat refine And.intro (by omega) ?_
 rw [hp_sl klt]
 exact Co.keep _ (by simp [x_upd,x_look])
end Go.Proofs.YtlllnjhgjijnkaaDoor.Nx
namespace Go.Proofs.YtlllnjhgjijnkaaDoor.Nx
open Go
variable {P:Program} {N:Nat} {Γ:Tabs}
set_option maxHeartbeats 2000000 in
theorem size_fn {f fw ft:FuncId} {Δ:Ctx} (H:FnIs P f N [] (x_change_editor_size fw ft)) (hN:2≤N) (Hw:∀ l:List Gl,FnP Δ.t P fw [.d (.sl eGl (glRows l))] (.int (widthN l))) (Ht:∀ l:List Gl,RowO P ft (.d (.sl eGl (glRows l))) (trimGl l)) :
  EdStep Δ P f (fun v c=>c.kind=1∧StepPre v c) stepV:=by
 rintro v c ⟨hk,hpre⟩ h id k R hb e
 obtain ⟨q1,q2,q3,q4⟩:=chgC_zero hpre.ok
 have hlen:=hpre.ed.len
 have hs:=szOk_iff.1 hpre.ed.sz
 have ho:=outV_iff.1 hpre.ed.out
 simp only [rangeG,hk,if_true,Bool.and_eq_true,btw_iff] at q3
 obtain ⟨Hh,hrow⟩:∃ j:Nat,c.row=j:=⟨c.row.toNat,by omega⟩
 have idlt:=e.id_lt
 have hne:id≠h.length:=by omega
 -- the new size is put down
 let v1:Vw:={ v with height:=c.row,width:=c.col }
 let hA:Heap:=h.set id (.cells eVw [edRow v1 k R.length])++[cgB c]
 have eA:EdIs hA id v1 k R:=(e.setId (w:=v1) rfl).app _
 have gid:∀ t:Heap,(h++t)[id]? = some (.cells eVw [edRow v k R.length]):=fun t=>hp_gl e.hid
 have gs:∀ X (t:Heap),(h.set id X++t)[id]? = some X:=fun X t=>hp_gs idlt
 have sl:∀ X (t:Heap),(h++t).set id X=h.set id X++t:=fun X t=>hp_sl idlt
 have ss:∀ X Y (t:Heap),(h.set id X++t).set id Y=h.set id Y++t:=fun X Y t=>hp_ss idlt
 have w0:WE Δ P N none h.length (x_change_editor_size fw ft).l ⟨look (argS 0 [.ptr id 1 0 0,cgA c]),h⟩ .normal ⟨look [(0,.ptr id 1 0 0),(3,.ptr h.length 1 0 0)],h++[cgB c]⟩:=by
  simp only [x_change_editor_size,XC.r,XC.l,cgA,Cg.ds,zU,zV]
  refine W_reg ?_
  simp only [xq,reduceIte,qE,qA,qL,qD,hp_g0,hp_s0]
  exact Co.keep _ (by simp [x_upd,x_look])
 have w1:WE Δ P N none h.length (x_change_editor_size fw ft).r.l ⟨look [(0,.ptr id 1 0 0),(3,.ptr h.length 1 0 0)],h++[cgB c]⟩ .normal ⟨look [(0,.ptr id 1 0 0)],hA⟩:=by
  simp only [x_change_editor_size,XC.r,XC.l]
  refine W_drw2 id h.length hne (by simp;omega) (by simp) rfl (by simp [x_look,x_look0,A.touch]) ?_
  simp only [xq,reduceIte,qE,qA,qL,qD,hp_g0,hp_gs0,gid,gs,sl,ss,edRow,cgB,Cg.ds,zP]
  exact Co.keep _ (by simp [x_upd,x_look])
 obtain ⟨g1,k1,R1,hg1,e1,hk1,wB⟩:=size_grow (P:=P) (fw:=fw) (ft:=ft) (Δ:=Δ) (N:=N) (n0:=h.length) (v:=v1) (Hh:=Hh) hrow (by omega) (by show v.rows.length≤1000;omega) eA
 let v2:Vw:={ growL v1 (Hh-v1.rows.length) with rows:=(growL v1 (Hh-v1.rows.length)).rows.take Hh }
 have hgl:Hh≤(growL v1 (Hh-v1.rows.length)).rows.length:=by simp [growL];omega
 have hv2l:v2.rows.length=Hh:=by show (List.take _ _).length=_;rw [zs];omega
 have e2:=e1.cut Hh hgl
 -- the slice is cut
 have wC:WE Δ P N none h.length ((x_change_editor_size fw ft).r.r.r.l) ⟨look [(0,.ptr id 1 0 0)],g1⟩ .normal ⟨look [(0,.ptr id 1 0 0)],g1.set id (.cells eVw [edRow v2 k1 R1.length])⟩:=by
  have gid:=e1.hid
  have gk:=e1.hk
  have hh:(growL v1 (Hh-v1.rows.length)).height=Hh:=hrow
  have hR:=e1.len
  have hv2h:v2.height=Hh:=hrow
  simp only [x_change_editor_size,XC.r,XC.l]
  refine W_drw (by simp) ?_
  simp only [xq,reduceIte,qE,qA,qL,qD,gid,gk,edRow,hh,zP,Int.natCast_zero,Int.sub_zero,zQ,Int.toNat_zero]
  repeat refine And.intro (by omega) ?_
  have:edRow v2 k1 R1.length=[.int (growL v1 (Hh-v1.rows.length)).width,.int Hh,.ref k1 R1.length 0 Hh true,.int (growL v1 (Hh-v1.rows.length)).row,.int (growL v1 (Hh-v1.rows.length)).col,.bool (growL v1 (Hh-v1.rows.length)).vis]:=by
   simp only [edRow,hv2l,hv2h];rfl
  rw [← edRow,this]
  exact Co.keep _ (by simp [x_upd,x_look])
 -- the rows are cut
 let g2:Heap:=g1.set id (.cells eVw [edRow v2 k1 R1.length])
 have hg2:g1.length=g2.length:=by simp [g2]
 have hv2w:v2.width=c.col:=rfl
 have hrl:∀ r∈v2.rows,r.length≤50000:=by
  intro r hr
  have hr:r∈v.rows++List.replicate (Hh-v1.rows.length) []:=List.mem_of_mem_take hr
  rcases List.mem_append.1 hr with hr | hr
  ·exact hpre.row r hr
  ·rw [List.eq_of_mem_replicate hr];simp
 let Ds (i:Nat) (R:List (List A)) (g:Heap):St:=⟨look [(0,.ptr id 1 0 0),(62,.ref k1 R.length 0 Hh true),(63,.int Hh),(64,.int i)],g⟩
 have wD0:WE Δ P N none h.length ((x_change_editor_size fw ft).r.r.r.r.l.l) ⟨look [(0,.ptr id 1 0 0)],g2⟩ .normal (Ds 0 R1 g2):=by
  have gs1:∀ X,(g1.set id X)[id]? = some X:=fun X=>zN e1.id_lt
  have gk1:∀ X,(g1.set id X)[k1]? = some (.cells eRw R1):=fun X=>by rw [zM e1.idk];exact e1.hk
  simp only [x_change_editor_size,XC.r,XC.l]
  refine W_reg ?_
  simp only [g2,Ds,xq,reduceIte,qE,qA,qL,qD,gs1,gk1,edRow,hv2l]
  exact Co.keep _ (by simp [x_upd,x_look])
 obtain ⟨s3,⟨g3,R3,hg3,e3,hk3,rfl⟩,wD⟩:=WE_loopX (Γ:=Δ) (P:=P) (N:=N) (rl:=none) (n0:=h.length) (j:=2) (x:=(x_change_editor_size fw ft).r.r.r.r.l.r.b.lp)
  (fun m s=>∃ i g R,i≤Hh∧m=Hh-i∧g2.length≤g.length∧EdIs g id (cutV v2 i) k1 R∧Keep6 g2 g id∧s=Ds i R g)
  (fun s=>∃ g R,g2.length≤g.length∧EdIs g id (cutV v2 Hh) k1 R∧Keep6 g2 g id∧s=⟨look [(0,.ptr id 1 0 0)],g⟩) (fun m s hI=>by
   obtain ⟨i,g,R,hi,rfl,hgl,eg,hkg,rfl⟩:=hI
   simp only [Ds]
   by_cases hlt:i<Hh
   ·left
    have hil:i<v2.rows.length:=by omega
    have hic:i<(cutV v2 i).rows.length:=by rw [cutV_len];exact hil
    obtain ⟨x,hx,hr⟩:=eg.row i _ (cutV_get hil)
    have gk:=eg.hk
    have d1:decide ((i:Int)<(Hh:Int))=true:=decide_eq_true (by omega)
    have hRl:=eg.len
    have hril:=hrl _ (List.getElem_mem hil)
    rw [cutV_len,hv2l] at hRl
    have w1:IntKind.i64.wrap ((i:Int)+1)=((i+1:Nat):Int):=by rw [i64_of (by omega)];omega
    -- from a state with the row as an own block on
    have tail:∀ (g':Heap) (q:Nat),g.length≤g'.length→Keep6 g g' id→EdIs g' id (cutV v2 i) k1 R→g'[q]? = some (rowB v2.rows[i]) →
      (∀ Q:St→Prop,(∀ sl:Nat→A,sl 0 = .ptr id 1 0 0→sl 4 = .int i→sl 5 = .ref q v2.rows[i].length 0 v2.rows[i].length true→sl 62 = .ref k1 R.length 0 Hh true→sl 63 = .int Hh→sl 64 = .int i →
       W Δ P N none h.length (sizeRow fw ft) (blockQ 3 (thenQ (W Δ P N none h.length (x_change_editor_size fw ft).r.r.r.r.l.r.b.lp.r.r.r (fun e s'=>e = .normal∧Q s')) (fun e s'=>e = .normal∧Q s'))) ⟨sl,g'⟩) →
       W Δ P N none h.length (x_change_editor_size fw ft).r.r.r.r.l.r.b.lp (fun e s'=>e = .normal∧Q s') (Ds i R g)) →
      ∃ m' s2,m'<Hh-i∧(∃ i g R,i≤Hh∧m'=Hh-i∧g2.length≤g.length∧EdIs g id (cutV v2 i) k1 R∧Keep6 g2 g id∧s2=Ds i R g)∧WE Δ P N none h.length (x_change_editor_size fw ft).r.r.r.r.l.r.b.lp (Ds i R g) .normal s2:=by
     intro g' q hgg hkk eg' hq hW
     let R':=R.set i [A.ref g'.length (sizeR v2.width v2.rows[i]).length 0 (sizeR v2.width v2.rows[i]).length true]
     let gf:Heap:=g'.set k1 (.cells eRw R')++[rowB (sizeR v2.width v2.rows[i])]
     have hef:EdIs gf id (cutV v2 (i+1)) k1 R':=by
      rw [cutV_succ hil]
      refine eg'.setRow (p:=g'.length) (r:=sizeR v2.width v2.rows[i]) hic hx ?_ ?_ ?_ (zL _) (fun q' rr hq' _=>?_)
      ·show (g'.set k1 _++_)[id]? = _
       exact (hp_gn (Ne.symm eg'.idk) eg'.hid).trans eg'.hid.symm
      ·exact hp_gs eg'.k_lt
      ·exact hp_gs0
      ·exact hp_gn (Ne.symm (eg'.ne hq').2.1) hq'
     refine ⟨Hh-(i+1),Ds (i+1) R' gf,by omega,⟨i+1,gf,R',hlt,rfl,by simp [gf];omega,hef,hkg.trans (hkk.trans ((Keep6.setO eg'.hk (by decide)).trans .app)),rfl⟩,?_⟩
     refine hW (fun s'=>Co h.length s' (Ds (i+1) R' gf)) fun sl h0 h4 h5 h62 h63 h64=>?_
     refine W_mono ?_ (WE.co (s':=⟨look [(0,.ptr id 1 0 0),(4,.int i),(5,.ref q v2.rows[i].length 0 v2.rows[i].length true),(62,.ref k1 R.length 0 Hh true),(63,.int Hh),(64,.int i)],g'⟩) (Co.keep _ (by simp [h0,h4,h5,h62,h63,h64]))
      (size_row (fw:=fw) (ft:=ft) (n0:=h.length) (v:=cutV v2 i) (x:=x) (M:=Hh) (n1:=Hh) Hw Ht (by show 0≤c.col∧c.col≤1000;omega) eg'.hid eg'.hk hq hril hic hx))
     rintro e1 s1 ⟨rfl,hco⟩
     have hRlen:R'.length=R.length:=by simp [R']
     show W Δ P N none h.length _ _ s1
     refine W_co hco ?_
     simp only [x_change_editor_size,XC.r,XC.l,XC.b,XC.lp]
     refine W_reg ?_
     simp only [xq,reduceIte,qE,qA,qL,qD,w1]
     simp only [Ds,hRlen]
     exact Co.keep _ (by simp [x_upd,x_look])
    rcases hr with ⟨rfl,hnil⟩ | ⟨q,rfl,hq⟩
    ·refine tail (g++[rowB []]) g.length (by simp) .app (eg.app _) (by rw [hnil];exact hp_g0) fun Q hQ=>?_
     rw [hnil] at hQ
     simp only [sizeRow,x_change_editor_size,XC.r,XC.l,XC.b,XC.lp] at hQ ⊢
     simp only [Ds]
     refine wR ?_;simp only [xq,reduceIte,qE,qA,qL,qD,d1]
     refine W_seq (W_cond rfl (fun _=>W_skip ?_) (fun hc=>by cases hc))
     simp only [xq,reduceIte,qE,qA,qL,qD]
     refine W_seq (W_block ?_)
     refine wR ?_;simp only [xq,reduceIte,qE,qA,qL,qD,gk,hx,zQ]
     repeat refine And.intro (by omega) ?_
     refine W_co (Co.nil 5 eGl (by decide) (by simp [x_upd])) ?_
     refine hQ _ ?_ ?_ ?_ ?_ ?_ ?_<;>simp [x_upd,x_look]
    ·refine tail g q (zL _) .refl eg hq fun Q hQ=>?_
     simp only [sizeRow,x_change_editor_size,XC.r,XC.l,XC.b,XC.lp] at hQ ⊢
     simp only [Ds]
     refine wR ?_;simp only [xq,reduceIte,qE,qA,qL,qD,d1]
     refine W_seq (W_cond rfl (fun _=>W_skip ?_) (fun hc=>by cases hc))
     simp only [xq,reduceIte,qE,qA,qL,qD]
     refine W_seq (W_block ?_)
     refine wR ?_;simp only [xq,reduceIte,qE,qA,qL,qD,gk,hx,zQ]
     repeat refine And.intro (by omega) ?_
     refine hQ _ ?_ ?_ ?_ ?_ ?_ ?_<;>simp [x_upd,x_look]
   ·right
    have hie:i=Hh:=by omega
    subst hie
    have d1:decide ((i:Int)<(i:Int))=false:=decide_eq_false (by omega)
    refine ⟨⟨look [(0,.ptr id 1 0 0)],g⟩,⟨g,R,hgl,eg,hkg,rfl⟩,?_⟩
    simp only [x_change_editor_size,XC.r,XC.l,XC.b,XC.lp]
    refine wR ?_;simp only [xq,reduceIte,qE,qA,qL,qD,d1]
    refine W_seq (W_cond rfl (fun hc=>by cases hc) (fun _=>W_exit ?_))
    simp only [xq,reduceIte,qE,qA,qL,qD]
    exact Co.keep _ (by simp [x_upd,x_look])) ⟨0,g2,R1,zI _,rfl,zL _,by simpa [cutV] using e2,.refl,rfl⟩
 -- the cursor
 let v5:Vw:={ cutV v2 Hh with row:=min v.row (c.row-1),col:=min v.col (c.col-1) }
 have hv1l:v1.rows.length=v.rows.length:=rfl
 have hstep:stepV v c=v5:=by
  simp only [stepV,hk,if_true,sizeV,v5,cutV]
  have:v2.rows.take Hh=v2.rows:=List.take_of_length_le (by omega)
  rw [this,List.drop_eq_nil_of_le (by omega),zP]
  simp only [v2,growL,hrow,zQ]
  congr 1
  ·exact hrow.symm
  apply List.ext_getElem?
  intro i
  rw [zK,zK,zm]
  by_cases hi:i<Hh
  ·rw [zj hi,if_pos hi]
   simp only [Option.map_some]
   by_cases hi2:i<v.rows.length
   ·rw [zF hi2,zC,zB hi2]
    rfl
   ·rw [zG (by rw [hv1l];omega),List.getElem?_replicate,if_pos (by rw [hv1l];omega),zC,zk (by omega)]
    rfl
  ·rw [if_neg hi,zk (by simpa using hi)];rfl
 have e5:=e3.setId (w:=v5) rfl
 rw [← hstep] at e5
 have wE:WE Δ P N none h.length ((x_change_editor_size fw ft).r.r.r.r.r) ⟨look [(0,.ptr id 1 0 0)],g3⟩ .normal ⟨look [(0,.ptr id 1 0 0)],g3.set id (.cells eVw [edRow (stepV v c) k1 R3.length])⟩:=by
  rw [hstep]
  have gid:=e3.hid
  have idl3:=e3.id_lt
  have gs:∀ X,(g3.set id X)[id]? = some X:=fun X=>zN idl3
  have ss:∀ X Y,(g3.set id X).set id Y=g3.set id Y:=fun X Y=>by rw [List.set_set]
  have a1:(cutV v2 Hh).height=c.row:=rfl
  have a2:(cutV v2 Hh).width=c.col:=rfl
  have a3:(cutV v2 Hh).row=v.row:=rfl
  have a4:(cutV v2 Hh).col=v.col:=rfl
  have w1:IntKind.i64.wrap (c.row-1)=c.row-1:=i64_of (by omega)
  have w2:IntKind.i64.wrap (c.col-1)=c.col-1:=i64_of (by omega)
  have m1:minmaxInt false v.row (c.row-1)=min v.row (c.row-1):=by unfold minmaxInt;simp;split<;>omega
  have m2:minmaxInt false v.col (c.col-1)=min v.col (c.col-1):=by unfold minmaxInt;simp;split<;>omega
  simp only [x_change_editor_size,XC.r,XC.l]
  refine W_drw (by simp) ?_
  simp only [xq,reduceIte,qE,qA,qL,qD,gid,gs,ss,edRow,a1,a2,a3,a4,w1,w2,m1,m2,zP]
  exact Co.keep _ (by simp [x_upd,x_look])
 refine ⟨g3.set id (.cells eVw [edRow (stepV v c) k1 R3.length]),k1,R3,?_,?_,e5,(Keep6.set.trans (Keep6.app (t:=[cgB c]))).trans (hk1.trans (Keep6.set.trans (hk3.trans .set)))⟩
 ·have hA':h.length≤hA.length:=by simp [hA]
  have key:WE Δ P N none h.length (x_change_editor_size fw ft) ⟨look (argS 0 [.ptr id 1 0 0,cgA c]),h⟩ .normal ⟨look [(0,.ptr id 1 0 0)],g3.set id (.cells eVw [edRow (stepV v c) k1 R3.length])⟩:=by
   exact w0.seq (w1.seq (wB.seq (wC.seq ((wD0.seq wD).seq wE))))
  exact FnD.of_WE H (by simpa using hN) hb key (.inl rfl) rfl
 ·have:h.length≤hA.length:=by simp [hA]
  simp only [List.length_set]
  omega
end Go.Proofs.YtlllnjhgjijnkaaDoor.Nx
namespace Go.Proofs.YtlllnjhgjijnkaaDoor.Nx
open Go
variable {P:Program} {N:Nat} {Γ:Tabs}
def possB (n t b y:Int):Bool:=((((decide (0≤t)&&decide (t<b))&&decide (b≤n)) && !decide (y=0))&&decide (y<b-t))&&decide (t-b<y)
set_option maxHeartbeats 1000000 in
theorem possible_fn {f:FuncId} (H:FnIs P f N [.t 8] x_scrolldiff_possible) (hN:4≤N) (n t b y:Int) (hn:n≤1000000000000000000):FnP Γ P f [.int n,.int t,.int b,.int y] (.bool (possB n t b y)):=by
 refine .of_W H (by simpa using hN) ?_
 have w3:(0≤t∧t<b)∧b≤n→IntKind.i64.wrap (b-t)=b-t∧IntKind.i64.wrap (t-b)=t-b:=fun q=>⟨i64_of (by omega),i64_of (by omega)⟩
 obtain ⟨B1,hB1⟩:∃ B,B=(decide (0≤t)&&decide (t<b)):=⟨_,rfl⟩
 obtain ⟨B2,hB2⟩:∃ B,B=(B1&&decide (b≤n)):=⟨_,rfl⟩
 obtain ⟨B3,hB3⟩:∃ B,B=(B2 && !decide (y=0)):=⟨_,rfl⟩
 obtain ⟨B4,hB4⟩:∃ B,B=(B3&&decide (y<b-t)):=⟨_,rfl⟩
 have hB:possB n t b y=(B4&&decide (t-b<y)):=by rw [possB,hB4,hB3,hB2,hB1]
 have h2t:B2=true→(0≤t∧t<b)∧b≤n:=fun h=>by
  rw [hB2,hB1] at h;simpa using h
 have h3t:B3=true→B2=true:=fun h=>by rw [hB3] at h;simp at h;exact h.1
 have h4t:B4=true→B3=true:=fun h=>by rw [hB4] at h;simp at h;exact h.1
 unfold x_scrolldiff_possible
 refine wR ?_;simp only [xq,reduceIte,qE,qA,qL,qD]
 refine W_sreg fun K hK=>?_
 let RR (F:Nat) (B:Bool):(Nat→A)→Prop:=fun sl=>sl 0 = .int n∧sl 1 = .int t∧sl 2 = .int b∧sl 3 = .int y∧sl F = .bool B
 refine run_stage (H:=[]) 7 (RR 15 B1) (fun K' hK'=>?_) ?_
 ·cases e1:decide (0≤t)
  ·simp only [xq,reduceIte,qE,qA,qL,qD,e1,undefA,zE]
   refine hK' _ ?_
   simp [RR,x_upd,x_look,hB1,e1]
  ·simp only [xq,reduceIte,qE,qA,qL,qD,e1,undefA,zE]
   refine hK' _ ?_
   simp [RR,x_upd,x_look,hB1,e1]
 rintro sl ⟨s0,s1,s2,s3,sF⟩
 refine run_stage (H:=[]) 5 (RR 20 B2) (fun K' hK'=>?_) ?_
 ·cases B1
  ·simp only [xq,reduceIte,qE,qA,qL,qD,s0,s1,s2,s3,sF,undefA,zE]
   refine hK' _ ?_
   simp [RR,x_upd,s0,s1,s2,s3,hB2]
  ·simp only [xq,reduceIte,qE,qA,qL,qD,s0,s1,s2,s3,sF,undefA,zE]
   refine hK' _ ?_
   simp [RR,x_upd,s0,s1,s2,s3,hB2]
 clear s0 s1 s2 s3 sF sl
 rintro sl ⟨s0,s1,s2,s3,sF⟩
 refine run_stage (H:=[]) 4 (RR 24 B3) (fun K' hK'=>?_) ?_
 ·cases B2
  ·simp only [xq,reduceIte,qE,qA,qL,qD,s0,s1,s2,s3,sF,undefA,zE]
   refine hK' _ ?_
   simp [RR,x_upd,s0,s1,s2,s3,hB3]
  ·simp only [xq,reduceIte,qE,qA,qL,qD,s0,s1,s2,s3,sF,undefA,zE]
   refine hK' _ ?_
   simp [RR,x_upd,s0,s1,s2,s3,hB3]
 clear s0 s1 s2 s3 sF sl
 rintro sl ⟨s0,s1,s2,s3,sF⟩
 refine run_stage (H:=[]) 7 (RR 31 B4) (fun K' hK'=>?_) ?_
 ·cases hb3:B3
  ·rw [hb3] at sF hB4
   simp only [xq,reduceIte,qE,qA,qL,qD,s0,s1,s2,s3,sF,undefA,zE]
   refine hK' _ ?_
   simp [RR,x_upd,s0,s1,s2,s3,hB4]
  ·have w:=(w3 (h2t (h3t hb3))).1
   rw [hb3] at sF hB4
   simp only [xq,reduceIte,qE,qA,qL,qD,s0,s1,s2,s3,sF,w,undefA,zE]
   refine hK' _ ?_
   simp [RR,x_upd,s0,s1,s2,s3,hB4]
 clear s0 s1 s2 s3 sF sl
 rintro sl ⟨s0,s1,s2,s3,sF⟩
 cases hb4:B4
 ·rw [hb4] at sF hB
  simp only [xq,reduceIte,qE,qA,qL,qD,s0,s1,s2,s3,sF,undefA,zE]
  refine hK _ (W_ret (.tmp ?_ rfl))
  simp [x_upd,hB]
 ·have w:=(w3 (h2t (h3t (h4t hb4)))).2
  rw [hb4] at sF hB
  simp only [xq,reduceIte,qE,qA,qL,qD,s0,s1,s2,s3,sF,w,undefA,zE]
  refine hK _ (W_ret (.tmp ?_ rfl))
  simp [x_upd,hB]
theorem cloneN_fn {f:FuncId} (H:FnIs P f N [.t 2] x_slices_Clone_675) (hN:1≤N):RowO P f .nil []:=by
 intro Δ h hb
 refine .of_W H (by simpa using hN) hb ?_
 unfold x_slices_Clone_675
 refine wR ?_;simp only [xq,reduceIte,qE,qA,qL,qD]
 refine W_seq ?_
 refine wR ?_;simp only [xq,reduceIte,qE,qA,qL,qD,x_eqnil,EqNil]
 refine W_cond (t:=true) (by simp [ev,x_upd]) (fun _=>?_) (fun h=>by cases h)
 refine wR ?_;simp only [xq,reduceIte,qE,qA,qL,qD]
 refine W_co (Co.nil 2 eGl (by decide) (by simp [x_upd])) ?_
 refine W_ret ⟨.inr rfl,?_⟩
 simp only [readRs,readR,single,x_upd,reduceIte,qE,x_look,xq,reduceIte,qE,qA,qL,qD]
 rfl
def pAt (b j:Nat):Nat:=if j=0 then b else b+2 * j+1
def refR (b:Nat) (S:Nat→List Gl) (j:Nat):List A:=[.ref (pAt b j) (S j).length 0 (S j).length true]
def rowsBk (b:Nat) (S:Nat→List Gl) (i:Nat):HB:=.cells eRw ((List.range i).map (refR b S))
def scrT (b:Nat) (S:Nat→List Gl):Nat→Heap
 | 0=>[]
 | 1=>[rowB (S 0),.cells eRw [refR b S 0],rowsBk b S 1]
 | i+2=>(scrT b S (i+1)).set 2 (rowsBk b S (i+2))++[rowB (S (i+1)),.cells eRw [refR b S (i+1)]]
theorem scrT_len {b:Nat} {S:Nat→List Gl}:∀ i,(scrT b S (i+1)).length=2 * i+3
 | 0=>rfl
 | i+1=>by rw [scrT,zb,List.length_set,scrT_len i];simp;omega
theorem scrT_two {b:Nat} {S:Nat→List Gl}:∀ i,(scrT b S (i+1))[2]? = some (rowsBk b S (i+1))
 | 0=>rfl
 | i+1=>by
  rw [scrT,zF (by rw [List.length_set,scrT_len];omega),zN (by rw [scrT_len];omega)]
theorem scrT_row {b:Nat} {S:Nat→List Gl}:∀ i j,j≤i→(scrT b S (i+1))[pAt 0 j]? = some (rowB (S j))
 | 0,j,h=>by
  have:j=0:=by omega
  subst this;rfl
 | i+1,j,h=>by
  have hp:pAt 0 j≠2:=by unfold pAt;split<;>omega
  rcases Nat.lt_or_ge j (i+1) with h' | h'
  ·have hl:pAt 0 j<(scrT b S (i+1)).length:=by rw [scrT_len];unfold pAt;split<;>omega
   rw [scrT,zF (by rw [List.length_set];exact hl),zM (Ne.symm hp)]
   exact scrT_row i j (by omega)
  ·have:j=i+1:=by omega
   subst this
   have hpe:pAt 0 (i+1)=2 * i+3:=by unfold pAt;rw [if_neg (by omega)];omega
   rw [scrT,zG (by rw [List.length_set,scrT_len,hpe];omega),List.length_set,scrT_len,hpe,Nat.sub_self];rfl
theorem pAt_inj {b i j:Nat} (h:pAt b i=pAt b j):i=j:=by
 unfold pAt at h
 split at h<;>split at h<;>omega
theorem pAt_add {b j:Nat}:pAt b j=b+pAt 0 j:=by
 unfold pAt;split<;>omega
theorem scrT_new {b:Nat} {S:Nat→List Gl}:∀ i,∀ B∈scrT b S i,NewB b B
 | 0,B,h=>by cases h
 | 1,B,h=>by
  have hr:∀ j,∀ x∈refR b S j,New1 b x:=fun j x hx=>by
   simp only [refR,List.mem_singleton] at hx
   exact .inr ⟨_,_,_,_,_,hx,by unfold pAt;split<;>omega⟩
  simp only [scrT,zp,zc,or_false] at h
  rcases h with rfl | rfl | rfl
  ·exact new_row
  ·intro r hr' x hx
   simp only [List.mem_singleton] at hr'
   subst hr';exact hr _ x hx
  ·intro r hr' x hx
   obtain ⟨j,_,rfl⟩:=List.mem_map.1 hr'
   exact hr _ x hx
 | i+2,B,h=>by
  have hr:∀ j,∀ x∈refR b S j,New1 b x:=fun j x hx=>by
   simp only [refR,List.mem_singleton] at hx
   exact .inr ⟨_,_,_,_,_,hx,by unfold pAt;split<;>omega⟩
  rw [scrT] at h
  rcases List.mem_append.1 h with h | h
  ·rcases List.mem_or_eq_of_mem_set h with h | rfl
   ·exact scrT_new (i+1) B h
   ·intro r hr' x hx
    obtain ⟨j,_,rfl⟩:=List.mem_map.1 hr'
    exact hr _ x hx
  ·simp only [zp,zc,or_false] at h
   rcases h with rfl | rfl
   ·exact new_row
   ·intro r hr' x hx
    simp only [List.mem_singleton] at hr'
    subst hr';exact hr _ x hx
end Go.Proofs.YtlllnjhgjijnkaaDoor.Nx
namespace Go.Proofs.YtlllnjhgjijnkaaDoor.Nx
open Go
variable {P:Program} {N:Nat} {Γ:Tabs}
theorem possB_iff {n t b y:Int}:possB n t b y=true↔0≤t∧t<b∧b≤n∧y≠0∧y<b-t∧t-b<y:=by
 simp [possB];omega
theorem scrT_zero {b:Nat} {S:Nat→List Gl}:b+(scrT b S 0).length=pAt b 0:=by simp [scrT,pAt]
theorem scrT_pAt {b:Nat} {S:Nat→List Gl} (i:Nat):b+(scrT b S i).length=pAt b i:=by
 cases i with
 | zero=>exact scrT_zero
 | succ i=>rw [scrT_len];unfold pAt;rw [if_neg (by omega)];omega
set_option maxHeartbeats 2000000 in
theorem scrRows_fn {f fp fc:FuncId} {Δ:Ctx} (H:FnIs P f N [.t 8,.t 9] (x_scrolldiff_Rows fp fc)) (hN:4≤N) (Hp:∀ n t b y:Int,n≤1000000000000000000→FnP Δ.t P fp [.int n,.int t,.int b,.int y] (.bool (possB n t b y)))
  (Hc:∀ l:List Gl,RowO P fc (.d (.sl eGl (glRows l))) l) (Hn:RowO P fc .nil []) (l:List (List Gl)) (t b y:Int) (hp:possB l.length t b y=true) (hl:l.length≤1000) (h:Heap) (hb:Δ.b≤h.length) :
  FnD Δ P f [.d (.sl eRw (rwRows l)),.int t,.int b,.int y] h (.tup [.ref (h.length+2) l.length 0 l.length true,.int 0]) (h++scrT h.length (scrollR l t b y) l.length):=by
 obtain ⟨p1,p2,p3,p4,p5,p6⟩:=possB_iff.1 hp
 refine .of_W H (by simpa using hN) hb ?_
 have hP:=Hp l.length t b y (by omega)
 rw [hp] at hP
 unfold x_scrolldiff_Rows
 refine wR ?_;simp only [xq,reduceIte,qE,qA,qL,qD]
 refine W_seq ?_
 refine wR ?_;simp only [xq,reduceIte,qE,qA,qL,qD,rwRows_len]
 refine c_fn (hP) rfl ?_;simp only [xq,reduceIte,qE,qA,qL,qD]
 refine W_cond rfl (fun hc=>by cases hc) (fun _=>W_skip ?_)
 simp only [xq,reduceIte,qE,qA,qL,qD]
 refine wR ?_;simp only [xq,reduceIte,qE,qA,qL,qD]
 refine W_seq ?_
 refine wR ?_;simp only [xq,reduceIte,qE,qA,qL,qD,rwRows_len]
 refine W_block ?_
 obtain ⟨S,hS⟩:∃ S,S=scrollR l t b y:=⟨_,rfl⟩
 rw [← hS]
 obtain ⟨b0,hb0⟩:∃ b0,b0=h.length:=⟨_,rfl⟩
 let out:Nat→A:=fun i=>if i=0 then .nil else .ref (b0+2) i 0 i true
 let St0:Nat→St:=fun i=>⟨look [(0,.d (.sl eRw (rwRows l))),(1,.int t),(2,.int b),(3,.int y),(10,out i),(21,.d (.sl eRw (rwRows l))),(22,.int l.length),(23,.int i)],h++scrT b0 S i⟩
 refine W_co (s':=St0 0) (by
  simp only [St0,scrT,zP]
  exact Co.keep _ (by simp [x_upd,x_look,out])) ?_
 refine W_loop (fun m s=>∃ i,i≤l.length∧m=l.length-i∧s=St0 i) ⟨0,zI _,rfl,rfl⟩ ?_
 rintro m s ⟨i,hi,rfl,rfl⟩
 simp only [St0]
 refine wR ?_;simp only [xq,reduceIte,qE,qA,qL,qD]
 refine W_seq (W_cond rfl (fun hc=>W_skip ?_) (fun hc=>W_exit ?_))
 ·have hlt:i<l.length:=by simpa using hc
  have w1:IntKind.i64.wrap ((i:Int)+1)=((i+1:Nat):Int):=by rw [i64_of (by omega)];omega
  have w2:IntKind.i64.wrap ((i:Int)+y)=(i:Int)+y:=i64_of (by omega)
  have hgi:l.getD i []=l[i]:=by rw [zC,zB hlt];rfl
  -- the row is cloned and put behind the others
  have fin:∀ (sl:Nat→A) (x:A),sl 12=x→RowO P fc x (S i)→sl 0 = .d (.sl eRw (rwRows l))→sl 1 = .int t→sl 2 = .int b→sl 3 = .int y→sl 10=out i→sl 21 = .d (.sl eRw (rwRows l))→sl 22 = .int l.length→sl 23 = .int i →
    W Δ P N none h.length (.reg [
     { dst:=some 51,op:=.mov (.t 10) },
     { dst:=some 52,op:=.mov (.t 12) },
     { dst:=some 53,op:=.callr (.f fc) [(.t 52)] },
     { dst:=some 54,op:=.bslice ⟨1,24⟩ [.nil] 1 [(0,(.t 53))] },
     { dst:=some 55,op:=.append ⟨1,24⟩ (.t 51) (.t 54) },
     { dst:=some 10,op:=.mov (.t 55) }]) (fun e s'=>e = .normal∧∃ sl',s'=⟨sl',h++scrT b0 S (i+1)⟩∧sl' 0 = .d (.sl eRw (rwRows l))∧sl' 1 = .int t∧sl' 2 = .int b∧sl' 3 = .int y∧sl' 10=out (i+1)∧sl' 21 = .d (.sl eRw (rwRows l))∧sl' 22 = .int l.length∧sl' 23 = .int i) ⟨sl,h++scrT b0 S i⟩:=by
   intro sl x s12 hx s0 s1 s2 s3 s10 s21 s22 s23
   have hcall:=hx Δ (h++scrT b0 S i) (by simp;omega)
   have hlen:(h++scrT b0 S i).length=pAt b0 i:=by rw [zb,← hb0,scrT_pAt]
   rw [hlen] at hcall
   refine W_reg ?_
   simp only [xq,reduceIte,qE,qA,qL,qD,s12]
   refine cr_fn hcall ?_
   have gk:∀ (t:Heap) (k:Nat),(h++t)[b0+k]? = t[k]? := fun t k=>by rw [hb0];exact hp_gk
   have g0:∀ (B:HB) (t:Heap),(h++B::t)[b0]? = some B:=fun B t=>by rw [hb0];exact hp_g0
   cases i with
   | zero =>
    simp only [xq,reduceIte,qE,qA,qL,qD,s10,out,scrT,zP,g0,gk,zS,← hb0,pAt,if_neg (show ¬ ([[A.ref b0 (S 0).length 0 (S 0).length true]]=([]:List (List A))) by simp)]
    refine ⟨by simp only [room];omega,by simp only [maxLen];omega,?_⟩
    refine ⟨_,rfl,?_⟩
    simp [x_upd,s0,s1,s2,s3,s21,s22,s23]
   | succ j =>
    have hlen2:b0+(scrT b0 S (j+1)).length=pAt b0 (j+1):=scrT_pAt _
    have h3:3≤(scrT b0 S (j+1)).length:=by rw [scrT_len];omega
    have g2:∀ t,(h++(scrT b0 S (j+1)++t))[b0+2]? = some (rowsBk b0 S (j+1)):=fun t=>by
     rw [gk,zF (by omega)];exact scrT_two j
    have g3:∀ a g,(h++(scrT b0 S (j+1)++[a,g]))[pAt b0 (j+1)+1]? = some g:=fun a g=>by
     rw [← hlen2,Nat.add_assoc,gk,zG (by omega)];simp
    have g3':∀ a g,(h++(scrT b0 S (j+1)++[a,g]))[b0+((scrT b0 S (j+1)).length+1)]? = some g:=fun a g=>by
     rw [gk,zG (by omega)];simp
    have hrows:((List.range (j+1)).map (refR b0 S))++[[.ref (pAt b0 (j+1)) (S (j+1)).length 0 (S (j+1)).length true]]=(List.range (j+2)).map (refR b0 S):=by
     rw [List.range_succ (n:=j+1),List.map_append];rfl
    have hset:(h++(scrT b0 S (j+1)++[rowB (S (j+1)),.cells eRw [[.ref (pAt b0 (j+1)) (S (j+1)).length 0 (S (j+1)).length true]]])).set (b0+2) (.cells eRw ((List.range (j+2)).map (refR b0 S)))=h++scrT b0 S (j+1+1):=by
     rw [hb0,hp_sk,scrT,List.set_append_left _ _ (by rw [← hb0];omega),← hb0];rfl
    have hne:¬ (j+1=0):=by omega
    simp only [xq,reduceIte,qE,qA,qL,qD,s10,out,if_neg hne,zS,← hb0,hlen2,g2,g3,g3',rowsBk,zg,List.length_range]
    refine ⟨by simp only [room];omega,by simp only [maxLen];omega,?_⟩
    rw [hrows,hset]
    refine ⟨_,rfl,?_⟩
    simp [x_upd,s0,s1,s2,s3,s21,s22,s23]
  simp only [xq,reduceIte,qE,qA,qL,qD]
  refine W_seq (W_block ?_)
  refine wR ?_;simp only [xq,reduceIte,qE,qA,qL,qD,rwRows_get hlt,rwRows_len,zQ]
  repeat refine And.intro (by omega) ?_
  refine W_cut (fun s=>∃ sl x,s=⟨sl,h++scrT b0 S i⟩∧sl 12=x∧RowO P fc x (S i)∧sl 0 = .d (.sl eRw (rwRows l))∧sl 1 = .int t∧sl 2 = .int b∧sl 3 = .int y∧sl 10=out i∧sl 21 = .d (.sl eRw (rwRows l))∧sl 22 = .int l.length∧sl 23 = .int i) ?_ ?_
  ·have hSi:S i=scrollR l t b y i:=by rw [hS]
   have stop:∀ (sl:Nat→A) (x:A),sl 12=x→RowO P fc x (S i)→sl 0 = .d (.sl eRw (rwRows l))→sl 1 = .int t→sl 2 = .int b→sl 3 = .int y→sl 10=out i→sl 21 = .d (.sl eRw (rwRows l))→sl 22 = .int l.length→sl 23 = .int i →
     ∃ s1,Co h.length ⟨sl,h++scrT b0 S i⟩ s1∧∃ sl x,s1=⟨sl,h++scrT b0 S i⟩∧sl 12=x∧RowO P fc x (S i)∧sl 0 = .d (.sl eRw (rwRows l))∧sl 1 = .int t∧sl 2 = .int b∧sl 3 = .int y∧sl 10=out i∧sl 21 = .d (.sl eRw (rwRows l))∧sl 22 = .int l.length∧sl 23 = .int i :=
    fun sl x h1 h2 h3 h4 h5 h6 h7 h8 h9 h10=>⟨_,Co.refl _,sl,x,rfl,h1,h2,h3,h4,h5,h6,h7,h8,h9,h10⟩
   by_cases hin:t≤(i:Int)∧(i:Int)<b
   ·have d1:decide (t≤(i:Int))=true:=decide_eq_true hin.1
    have d2:decide ((i:Int)<b)=true:=decide_eq_true hin.2
    refine wR ?_;simp only [xq,reduceIte,qE,qA,qL,qD,d1,d2]
    refine W_cond rfl (fun _=>?_) (fun hc=>by cases hc)
    refine wR ?_;simp only [xq,reduceIte,qE,qA,qL,qD]
    refine wR ?_;simp only [xq,reduceIte,qE,qA,qL,qD,w2]
    by_cases hin2:t≤(i:Int)+y∧(i:Int)+y<b
    ·have d3:decide (t≤(i:Int)+y)=true:=decide_eq_true hin2.1
     have d4:decide ((i:Int)+y<b)=true:=decide_eq_true hin2.2
     obtain ⟨q,hq⟩:∃ q:Nat,(i:Int)+y=q:=⟨((i:Int)+y).toNat,by omega⟩
     have hql:q<l.length:=by omega
     have hSq:S i=l[q]:=by
      rw [hSi,scrollR,if_pos hin,if_pos hin2,hq,rowAt,zQ,zC,zB hql];rfl
     refine wR ?_;simp only [xq,reduceIte,qE,qA,qL,qD,d3,d4]
     refine W_cond rfl (fun _=>?_) (fun hc=>by cases hc)
     refine W_reg ?_;simp only [xq,reduceIte,qE,qA,qL,qD,hq,rwRows_get hql,rwRows_len,zQ]
     repeat refine And.intro (by omega) ?_
     refine stop _ (.d (.sl eGl (glRows l[q]))) ?_ (by rw [hSq];exact Hc _) ?_ ?_ ?_ ?_ ?_ ?_ ?_ ?_<;>simp [x_upd,x_look]
    ·have hSq:S i=[]:=by rw [hSi,scrollR,if_pos hin,if_neg hin2]
     cases d3:decide (t≤(i:Int)+y)
     ·refine wR ?_;simp only [xq,reduceIte,qE,qA,qL,qD,d3,undefA,zE]
      refine W_cond rfl (fun hc=>by cases hc) (fun _=>W_skip ?_)
      simp only [xq,reduceIte,qE,qA,qL,qD]
      refine stop _ .nil ?_ (by rw [hSq];exact Hn) ?_ ?_ ?_ ?_ ?_ ?_ ?_ ?_<;>simp [x_upd,x_look]
     ·have d4:decide ((i:Int)+y<b)=false:=decide_eq_false (by have:=of_decide_eq_true d3;omega)
      refine wR ?_;simp only [xq,reduceIte,qE,qA,qL,qD,d3,d4,undefA,zE]
      refine W_cond rfl (fun hc=>by cases hc) (fun _=>W_skip ?_)
      simp only [xq,reduceIte,qE,qA,qL,qD]
      refine stop _ .nil ?_ (by rw [hSq];exact Hn) ?_ ?_ ?_ ?_ ?_ ?_ ?_ ?_<;>simp [x_upd,x_look]
   ·have hSq:S i=l[i]:=by rw [hSi,scrollR,if_neg hin,hgi]
    cases d1:decide (t≤(i:Int))
    ·refine wR ?_;simp only [xq,reduceIte,qE,qA,qL,qD,d1,undefA,zE]
     refine W_cond rfl (fun hc=>by cases hc) (fun _=>W_skip ?_)
     simp only [xq,reduceIte,qE,qA,qL,qD]
     refine stop _ (.d (.sl eGl (glRows l[i]))) ?_ (by rw [hSq];exact Hc _) ?_ ?_ ?_ ?_ ?_ ?_ ?_ ?_<;>simp [x_upd,x_look]
    ·have d2:decide ((i:Int)<b)=false:=decide_eq_false (by have:=of_decide_eq_true d1;omega)
     refine wR ?_;simp only [xq,reduceIte,qE,qA,qL,qD,d1,d2,undefA,zE]
     refine W_cond rfl (fun hc=>by cases hc) (fun _=>W_skip ?_)
     simp only [xq,reduceIte,qE,qA,qL,qD]
     refine stop _ (.d (.sl eGl (glRows l[i]))) ?_ (by rw [hSq];exact Hc _) ?_ ?_ ?_ ?_ ?_ ?_ ?_ ?_<;>simp [x_upd,x_look]
  rintro _ ⟨sl,x,rfl,h12,hx,h0,h1,h2,h3,h10,h21,h22,h23⟩
  refine W_mono ?_ (fin sl x h12 hx h0 h1 h2 h3 h10 h21 h22 h23)
  rintro e1 s1 ⟨rfl,sl',rfl,k0,k1,k2,k3,k10,k21,k22,k23⟩
  simp only [xq,reduceIte,qE,qA,qL,qD]
  refine W_reg ?_;simp only [xq,reduceIte,qE,qA,qL,qD,k23,w1]
  refine ⟨l.length-(i+1),St0 (i+1),by omega,Co.keep _ ?_,i+1,hlt,rfl,rfl⟩
  simp [x_upd,x_look,k0,k1,k2,k3,k10,k21,k22,k23]
 ·have hle:i=l.length:=by simp at hc;omega
  subst hle
  simp only [xq,reduceIte,qE,qA,qL,qD]
  refine wR ?_;simp only [xq,reduceIte,qE,qA,qL,qD]
  refine W_ret ⟨.inr rfl,?_⟩
  have hne:¬ l.length=0:=by omega
  simp only [readRs,readR,single,x_upd,reduceIte,qE,x_look,argS,xq,reduceIte,qE,qA,qL,qD,loadsTo,out,if_neg hne,hb0]
end Go.Proofs.YtlllnjhgjijnkaaDoor.Nx
namespace Go.Proofs.YtlllnjhgjijnkaaDoor.Nx
open Go
variable {P:Program} {N:Nat} {Γ:Tabs}
theorem rowAt_frz {h:Heap} {x:A} {r:List Gl} (hr:RowAt h x r):FrzD 0 h x (.sl eGl (glRows r)):=by
 rcases hr with ⟨rfl,rfl⟩ | ⟨q,rfl,hq⟩
 ·exact .nil _
 ·have:=frzD_rows (k:=0) (off:=0) (len:=r.length) (full:=true) (e:=eGl) (rows:=glRows r) (zI q) hq (by rw [glRows_len];omega)
  rw [glRows_len,List.drop_zero,List.take_of_length_le (by rw [glRows_len];exact zL _)] at this
  exact this
theorem EdIs.frz {h:Heap} {id:Nat} {v:Vw} {k:Nat} {R:List (List A)} (e:EdIs h id v k R):FrzD 0 h (.ref k R.length 0 v.rows.length true) (.sl eRw (rwRows v.rows)):=by
 have get:∀ {i:Nat} {r:List D},(rwRows v.rows)[i]? = some r→∃ (hi:i<v.rows.length) (x:A),r=[.sl eGl (glRows v.rows[i])]∧R.getD (0+i) []=[x]∧RowAt h x v.rows[i]:=by
  intro i r hi
  have hlt:i<v.rows.length:=by have:=(zA.1 hi).1;rwa [rwRows_len] at this
  obtain ⟨x,h1,h2⟩:=e.row i _ (zB hlt)
  refine ⟨hlt,x,?_,?_,h2⟩
  ·rw [rwRows,zK,zB hlt] at hi
   simpa using hi.symm
  ·rw [Nat.zero_add,zC,h1];rfl
 refine .ref (zI _) e.hk (rwRows_len) (fun i r hi=>?_) (fun i r j d hi hj=>?_)
 ·obtain ⟨_,x,rfl,h2,_⟩:=get hi
  rw [h2];rfl
 ·obtain ⟨_,x,rfl,h2,h3⟩:=get hi
  rw [h2]
  match j,hj with
  | 0,hj=>simp at hj;subst hj;exact rowAt_frz h3
  | j+1,hj=>simp at hj
set_option maxHeartbeats 1000000 in
theorem scroll_fn {f fr:FuncId} {Δ:Ctx} (H:FnIs P f N [] (x_change_editor_scroll fr)) (hN:2≤N)
  (Hr:∀ (Δ':Ctx),Δ'.t=Δ.t→∀ (l:List (List Gl)) (t b y:Int),possB l.length t b y=true→l.length≤1000→∀ h:Heap,Δ'.b≤h.length→FnD Δ' P fr [.d (.sl eRw (rwRows l)),.int t,.int b,.int y] h (.tup [.ref (h.length+2) l.length 0 l.length true,.int 0]) (h++scrT h.length (scrollR l t b y) l.length)) :
  EdStep Δ P f (fun v c=>c.kind=2∧StepPre v c) stepV:=by
 rintro v c ⟨hk,hpre⟩ h id k R hb e
 obtain ⟨q1,q2,q3,q4⟩:=chgC_zero hpre.ok
 have hlen:=hpre.ed.len
 have hs:=szOk_iff.1 hpre.ed.sz
 have hposs:possB v.rows.length c.row c.upto c.count=true:=by
  simp only [rangeG,hk,if_neg (show ¬ (2:Int)=1 by decide),if_true] at q3
  rw [possB,hlen];exact q3
 have hn1:1≤v.rows.length:=by omega
 obtain ⟨S,hS⟩:∃ S,S=scrollR v.rows c.row c.upto c.count:=⟨_,rfl⟩
 have hstep:stepV v c={ v with rows:=(List.range v.rows.length).map S }:=by
  simp only [stepV,hk,if_neg (show ¬ (2:Int)=1 by decide),if_true,scrollL,hS]
 have idlt:=e.id_lt
 have gid:∀ t:Heap,(h++t)[id]? = some (.cells eVw [edRow v k R.length]):=fun t=>hp_gl e.hid
 have sl:∀ X (t:Heap),(h++t).set id X=h.set id X++t:=fun X t=>hp_sl idlt
 let m:=h.length+1
 have hcall:FnD Δ P fr [.ref k R.length 0 v.rows.length true,.int c.row,.int c.upto,.int c.count] (h++[cgB c]) (.tup [.ref (m+2) v.rows.length 0 v.rows.length true,.int 0]) ((h++[cgB c])++scrT m S v.rows.length):=by
  have h0:=Hr Δ.t.ctx rfl v.rows c.row c.upto c.count hposs (by omega) (List.replicate (h++[cgB c]).length .res) (zI _)
  rw [List.length_replicate] at h0
  have hl1:(h++[cgB c]).length=m:=by simp [m]
  rw [← hS] at h0
  have:=FnD.lend (h:=h++[cgB c]) (args:=[.ref k R.length 0 v.rows.length true,.int c.row,.int c.upto,.int c.count]) h0 (.inr ⟨_,rfl,fun y hy=>?_⟩) (scrT_new _) (.cons (.d (e.app [cgB c]).frz) (.cons (.same rfl) (.cons (.same rfl) (.cons (.same rfl) .nil)))) rfl
  ·rw [hl1] at this;exact this
  ·simp only [zp,zc,or_false] at hy
   rcases hy with rfl | rfl
   ·exact .inr ⟨_,_,_,_,_,rfl,by omega⟩
   ·exact .inl flat_sc
 have hrl:(stepV v c).rows.length=v.rows.length:=by rw [hstep];simp
 refine ⟨h.set id (.cells eVw [edRow (stepV v c) (m+2) v.rows.length])++cgB c::scrT m S v.rows.length,m+2,(List.range v.rows.length).map (refR m S),?_,by simp,?_,Keep6.set.trans .app⟩
 ·refine .of_W H (by simpa using hN) hb ?_
  unfold x_change_editor_scroll
  simp only [cgA,Cg.ds,zU,zV]
  refine wR ?_;simp only [xq,reduceIte,qE,qA,qL,qD,hp_g0,hp_s0]
  refine W_seq (W_drw (by simp) ?_)
  simp only [xq,reduceIte,qE,qA,qL,qD,hp_g0,gid,edRow,zP]
  refine cr_fn hcall ?_
  simp only [xq,reduceIte,qE,qA,qL,qD,zS]
  refine wR ?_;simp only [xq,reduceIte,qE,qA,qL,qD]
  refine W_cond rfl (fun _=>?_) (fun hc=>by cases hc)
  refine W_reg ?_;simp only [xq,reduceIte,qE,qA,qL,qD,gid,sl,edRow]
  refine ⟨.inl rfl,?_⟩
  have a1:(stepV v c).width=v.width:=by rw [hstep]
  have a2:(stepV v c).height=v.height:=by rw [hstep]
  have a3:(stepV v c).row=v.row:=by rw [hstep]
  have a4:(stepV v c).col=v.col:=by rw [hstep]
  have a5:(stepV v c).vis=v.vis:=by rw [hstep]
  simp only [readRs,single,true_and,hrl,a1,a2,a3,a4,a5]
  rfl
 ·obtain ⟨n',hn'⟩:∃ n',v.rows.length=n'+1:=⟨v.rows.length-1,by omega⟩
  have tail:∀ (i:Nat),(h.set id (.cells eVw [edRow (stepV v c) (m+2) v.rows.length])++cgB c::scrT m S v.rows.length)[m+i]? = (scrT m S v.rows.length)[i]? := fun i=>by
   have:m+i=h.length+(i+1):=by simp only [m];omega
   rw [this,hp_gsk];rfl
  refine ⟨?_,?_,by simp [hrl],fun i r hi=>?_,fun i j q n n2 hi hj h1 h2=>?_⟩
  ·rw [hp_gs idlt];simp
  ·rw [tail,hn',scrT_two];rfl
  ·have hlt:=(zA.1 hi).1
   rw [hrl] at hlt
   rw [hstep] at hi
   simp only [zK,zj hlt,Option.map_some,zH] at hi
   subst hi
   refine ⟨_,by rw [zK,zj hlt];rfl,.inr ⟨pAt m i,rfl,?_⟩⟩
   rw [pAt_add,tail,hn',scrT_row n' i (by omega)]
  ·rw [hrl] at hi hj
   rw [zK,zj hi] at h1
   rw [zK,zj hj] at h2
   simp only [refR,Option.map_some,zH,List.cons.injEq,A.ref.injEq,and_true] at h1 h2
   exact pAt_inj (h1.1.trans h2.1.symm)
end Go.Proofs.YtlllnjhgjijnkaaDoor.Nx
namespace Go.Proofs.YtlllnjhgjijnkaaDoor.Nx
open Go
variable {P:Program} {N:Nat} {Γ:Tabs}
set_option maxHeartbeats 1000000 in
theorem apply19_fn {f f1 f2 f3 f4:FuncId} {Δ:Ctx} (H:FnIs P f N [] (x_change_editor_apply f1 f2 f3 f4)) (hN:2≤N)
  (H1:EdStep Δ P f1 (fun v c=>c.kind=1∧StepPre v c) stepV) (H2:EdStep Δ P f2 (fun v c=>c.kind=2∧StepPre v c) stepV) (H3:EdStep Δ P f3 (fun v c=>c.kind=3∧StepPre v c) stepV) (H4:EdStep Δ P f4 (fun _ c=>c.kind=4) stepV) :
  EdStep Δ P f StepPre stepV:=by
 intro v c hpre h id k R hb e
 obtain ⟨q1,_⟩:=chgC_zero hpre.ok
 let tb:HB:=.cells ⟨4,32⟩ [[.fn f1 [],.fn f2 [],.fn f3 [],.fn f4 []]]
 have walk:∀ (g:FuncId) (h':Heap),((c.kind=1∧g=f1)∨(c.kind=2∧g=f2)∨(c.kind=3∧g=f3)∨(c.kind=4∧g=f4))→FnD Δ P g [.ptr id 1 0 0,cgA c] (h++[cgB c,tb]) (.tup []) h'→FnD Δ P f [.ptr id 1 0 0,cgA c] h (.tup []) h':=by
  intro g h' hg hF
  simp only [cgA,cgB,tb,Cg.ds,zU,zV] at hF ⊢
  refine .of_W H (by simpa using hN) hb ?_
  unfold x_change_editor_apply
  refine wR ?_;simp only [xq,reduceIte,qE,qA,qL,qD,hp_g0,hp_s0]
  refine wR ?_;simp only [xq,reduceIte,qE,qA,qL,qD,hp_g0,hp_g1,hp_gk,hp_sk,zS]
  refine W_drw (by simp) ?_
  rcases hg with ⟨hk,rfl⟩ | ⟨hk,rfl⟩ | ⟨hk,rfl⟩ | ⟨hk,rfl⟩
  all_goals
   rw [hk] at hF
   simp only [xq,reduceIte,qE,qA,qL,qD,hp_g0,hp_gk,hk,zP,(by decide:IntKind.i64.wrap ((1:Int)-1)=0),(by decide:IntKind.i64.wrap ((2:Int)-1)=1),(by decide:IntKind.i64.wrap ((3:Int)-1)=2),(by decide:IntKind.i64.wrap ((4:Int)-1)=3),(by decide:Int.toNat 0=0),(by decide:Int.toNat 1=1),(by decide:Int.toNat 2=2),(by decide:Int.toNat 3=3),Nat.zero_mul,Nat.one_mul,Nat.mul_one]
   refine ⟨by decide,by decide,ce_fn hF ?_⟩
   simp only [xq,reduceIte,qE,qA,qL,qD]
   exact ⟨.inl rfl,by simp [readRs,single]⟩
 have hb2:Δ.b≤(h++[cgB c,tb]).length:=by simp;omega
 have hk:c.kind=1∨c.kind=2∨c.kind=3∨c.kind=4:=by omega
 rcases hk with hk | hk | hk | hk
 ·obtain ⟨h',k',R',hF,hl,e',hk6⟩:=H1 ⟨hk,hpre⟩ hb2 (e.app _)
  exact ⟨h',k',R',walk f1 h' (.inl ⟨hk,rfl⟩) hF,by simp at hl;omega,e',(Keep6.app (t:=[cgB c,tb])).trans hk6⟩
 ·obtain ⟨h',k',R',hF,hl,e',hk6⟩:=H2 ⟨hk,hpre⟩ hb2 (e.app _)
  exact ⟨h',k',R',walk f2 h' (.inr (.inl ⟨hk,rfl⟩)) hF,by simp at hl;omega,e',(Keep6.app (t:=[cgB c,tb])).trans hk6⟩
 ·obtain ⟨h',k',R',hF,hl,e',hk6⟩:=H3 ⟨hk,hpre⟩ hb2 (e.app _)
  exact ⟨h',k',R',walk f3 h' (.inr (.inr (.inl ⟨hk,rfl⟩))) hF,by simp at hl;omega,e',(Keep6.app (t:=[cgB c,tb])).trans hk6⟩
 ·obtain ⟨h',k',R',hF,hl,e',hk6⟩:=H4 (v:=v) hk hb2 (e.app _)
  exact ⟨h',k',R',walk f4 h' (.inr (.inr (.inr ⟨hk,rfl⟩))) hF,by simp at hl;omega,e',(Keep6.app (t:=[cgB c,tb])).trans hk6⟩
theorem cloneRows_fn {f:FuncId} {Δ:Ctx} (H:FnIs P f N [.t 2] x_slices_Clone_164) (hN:1≤N) (l:List (List Gl)) (hl:l≠[]) (h:Heap) (hb:Δ.b≤h.length) :
  FnD Δ P f [.d (.sl eRw (rwRows l))] h (.ref h.length l.length 0 l.length true) (h++[.cells eRw ((rwRows l).map fun r=>r.map .d)]):=by
 refine .of_W H (by simpa using hN) hb (W_sl 0 rfl fun ⟨hm,hroom,_⟩=>?_)
 rw [rwRows_len] at hm hroom
 unfold x_slices_Clone_164
 refine W_nil 0 rfl (fun h0=>?_) ?_
 ·exact absurd (List.map_eq_nil_iff.1 h0) hl
 ·refine wR ?_;simp only [xq,reduceIte,qE,qA,qL,qD]
  refine W_seq ?_
  refine wR ?_;simp only [xq,reduceIte,qE,qA,qL,qD,x_eqnil,EqNil]
  refine W_cond (t:=false) (by simp [ev,x_upd]) (fun h=>by cases h) (fun _=>W_skip ?_)
  simp only [xq,reduceIte,qE,qA,qL,qD]
  refine wR ?_;simp only [xq,reduceIte,qE,qA,qL,qD,hp_g0,hp_s0,rwRows_len]
  refine ⟨hroom,hm,W_ret ⟨.inr rfl,?_⟩⟩
  simp only [readRs,readR,single,x_upd,reduceIte,qE,x_look,xq,reduceIte,qE,qA,qL,qD]
def opR (b:Nat) (l:List (List Gl)) (i j:Nat):List A:=if j<i then [.ref (b+j) (l.getD j []).length 0 (l.getD j []).length true] else [.d (.sl eGl (glRows (l.getD j [])))]
def opB (b:Nat) (l:List (List Gl)) (i:Nat):List (List A):=(List.range l.length).map (opR b l i)
theorem opB_len {b i:Nat} {l:List (List Gl)}:(opB b l i).length=l.length:=by simp [opB]
theorem opB_zero {b:Nat} {l:List (List Gl)}:opB b l 0=(rwRows l).map fun r=>r.map .d:=by
 apply List.ext_getElem?
 intro j
 simp only [opB,rwRows,zK]
 by_cases hj:j<l.length
 ·rw [zj hj,zB hj]
  simp [opR,zC,zB hj]
 ·rw [zk (by simpa using hj),zk (by omega)];rfl
theorem opB_get {b i:Nat} {l:List (List Gl)} (hi:i<l.length):(opB b l i)[i]? = some [.d (.sl eGl (glRows l[i]))]:=by
 rw [opB,zK,zj hi,Option.map_some,opR,if_neg (Nat.lt_irrefl i),zC,zB hi];rfl
theorem opB_set {b i:Nat} {l:List (List Gl)} (hi:i<l.length):(opB b l i).set i [.ref (b+i) l[i].length 0 l[i].length true]=opB b l (i+1):=by
 apply List.ext_getElem?
 intro j
 rw [List.getElem?_set]
 by_cases hij:i=j
 ·subst hij
  rw [if_pos rfl,if_pos (by rw [opB_len];exact hi),opB,zK,zj hi,Option.map_some,opR,if_pos (Nat.lt_succ_self i),zC,zB hi];rfl
 ·rw [if_neg hij]
  simp only [opB,zK]
  by_cases hj:j<l.length
  ·rw [zj hj]
   simp only [Option.map_some,opR]
   by_cases h1:j<i
   ·rw [if_pos h1,if_pos (by omega)]
   ·rw [if_neg h1,if_neg (by omega)]
  ·rw [zk (by simpa using hj)];rfl
set_option maxHeartbeats 1000000 in
theorem open19T_fn {f fr fc:FuncId} {Δ:Ctx} (H:FnIs P f N [.t 2] (x_change_open fr fc)) (hN:1≤N) (Hr:∀ l:List (List Gl),l≠[]→∀ h:Heap,Δ.b≤h.length→FnD Δ P fr [.d (.sl eRw (rwRows l))] h (.ref h.length l.length 0 l.length true) (h++[.cells eRw ((rwRows l).map fun r=>r.map .d)]))
  (Hc:∀ l:List Gl,RowO P fc (.d (.sl eGl (glRows l))) l) (v:Vw) (hv:v.rows≠[]) (hvl:v.rows.length≤1000) (h:Heap) (hb:Δ.b≤h.length) :
  ∃ t id k R,FnD Δ P f [vwA v] h (.ptr id 1 0 0) (h++t)∧EdIs (h++t) id v k R∧h.length≤id∧h.length≤(h++t).length∧Keep6 h (h++t) id:=by
 let n:=v.rows.length
 let b:=h.length+2
 let vb:HB:=.cells eVw [edRow v (h.length+1) n]
 let Hp:Nat→Heap:=fun i=>h++vb :: .cells eRw (opB b v.rows i)::(v.rows.take i).map rowB
 let Hf:Heap:=h++vb :: .cells eRw (opB b v.rows n)::(v.rows.map rowB++[vb])
 have hHfl:Hf.length=b+n+1:=by simp [Hf,b,n];omega
 refine ⟨vb :: .cells eRw (opB b v.rows n)::(v.rows.map rowB++[vb]),b+n,h.length+1,opB b v.rows n,?_,?_,by omega,by simp,.app⟩
 ·refine .of_W H (by simpa using hN) hb ?_
  unfold x_change_open
  simp only [vwA,Vw.ds,zU,zV]
  refine wR ?_;simp only [xq,reduceIte,qE,qA,qL,qD,hp_g0,hp_s0]
  refine wR ?_;simp only [xq,reduceIte,qE,qA,qL,qD,hp_g0,hp_s0]
  refine cr_fn (Hr v.rows hv _ (by simp;omega)) ?_
  simp only [xq,reduceIte,qE,qA,qL,qD,hp_g0,hp_s0,zS]
  refine W_seq ?_
  refine wR ?_;simp only [xq,reduceIte,qE,qA,qL,qD,hp_g0,hp_g1,rwRows_len]
  refine W_block ?_
  let S:Nat→St:=fun i=>⟨look [(1,.ptr h.length 1 0 0),(10,.ref (h.length+1) n 0 n true),(11,.int n),(12,.int i)],Hp i⟩
  refine W_co (s':=S 0) ?_ ?_
  ·simp only [S,Hp,opB_zero,List.take_zero,zV]
   exact Co.keep _ (by simp [x_upd,x_look,n])
  refine W_loop (fun m s=>∃ i,i≤n∧m=n-i∧s=S i) ⟨0,zI _,rfl,rfl⟩ ?_
  rintro m s ⟨i,hi,rfl,rfl⟩
  simp only [S,Hp]
  refine wR ?_;simp only [xq,reduceIte,qE,qA,qL,qD]
  refine W_seq (W_cond rfl (fun hc=>W_skip ?_) (fun hc=>W_exit ?_))
  ·have hlt:i<v.rows.length:=by simp at hc;omega
   have w1:IntKind.i64.wrap ((i:Int)+1)=((i+1:Nat):Int):=by rw [i64_of (by omega)];omega
   have hlen:(h++vb :: .cells eRw (opB b v.rows i)::(v.rows.take i).map rowB).length=b+i:=by simp [b];omega
   have hcall:=Hc v.rows[i] Δ (h++vb :: .cells eRw (opB b v.rows i)::(v.rows.take i).map rowB) (by omega)
   rw [hlen] at hcall
   have hset:h++vb :: .cells eRw (opB b v.rows (i+1))::((v.rows.take i).map rowB++[rowB v.rows[i]])=Hp (i+1):=by
    simp only [Hp]
    rw [List.take_add_one,zB hlt,Option.toList_some,List.map_append];rfl
   simp only [xq,reduceIte,qE,qA,qL,qD]
   refine W_seq (W_block ?_)
   refine wR ?_;simp only [xq,reduceIte,qE,qA,qL,qD,hp_g0,hp_g1,opB_len,opB_get hlt,zQ]
   repeat refine And.intro (by omega) ?_
   refine W_drw (by simp) ?_
   simp only [xq,reduceIte,qE,qA,qL,qD,vb,edRow,hp_g0,hp_g1,zP]
   refine cr_fn hcall ?_
   simp only [xq,reduceIte,qE,qA,qL,qD,vb,edRow,hp_g0,hp_g1,hp_s1,opB_len,opB_get hlt,opB_set hlt,zQ,zS]
   repeat refine And.intro (by omega) ?_
   refine W_reg ?_;simp only [xq,reduceIte,qE,qA,qL,qD,w1]
   refine ⟨n-(i+1),S (i+1),by omega,?_,i+1,hlt,rfl,rfl⟩
   simp only [S]
   rw [← hset]
   exact Co.keep _ (by simp [x_upd,x_look])
  ·have hie:i=v.rows.length:=by
    have h1:¬ ((i:Int)<(n:Int)):=of_decide_eq_false hc
    have h2:n=v.rows.length:=rfl
    omega
   have hlen:(h++vb :: .cells eRw (opB b v.rows i)::(v.rows.take i).map rowB).length=b+i:=by simp [b];omega
   simp only [xq,reduceIte,qE,qA,qL,qD]
   subst hie
   simp only [vb,edRow] at hlen
   refine wR ?_;simp only [xq,reduceIte,qE,qA,qL,qD,vb,edRow,hp_g0,hlen]
   refine W_ret ⟨.inr rfl,?_⟩
   simp only [readRs,readR,single,x_upd,reduceIte,qE,x_look,argS,xq,reduceIte,qE,qA,qL,qD,loadsTo]
   simp only [Hf,vb,edRow,zh,zS,List.cons_append,n]
   exact ⟨trivial,trivial⟩
 ·have tl:∀ j,Hf[b+j]? = (v.rows.map rowB++[vb])[j]? := fun j=>by
   have:b+j=h.length+(j+2):=by simp only [b];omega
   rw [this]
   simp only [Hf]
   rw [hp_gk];rfl
  refine ⟨?_,?_,by rw [opB_len];exact zL _,fun i r hi=>?_,fun i j q m m2 hi hj h1 h2=>?_⟩
  ·refine (tl n).trans ?_
   rw [zG (by simp [n]),opB_len];simp [n,vb]
  ·rw [hp_g1]
  ·have hlt:=(zA.1 hi).1
   have hg:v.rows.getD i []=r:=by rw [zC,hi];rfl
   refine ⟨.ref (b+i) r.length 0 r.length true,?_,.inr ⟨b+i,rfl,?_⟩⟩
   ·rw [opB,zK,zj hlt,Option.map_some,opR,if_pos hlt,hg]
   ·refine (tl i).trans ?_
    rw [zF (by simpa using hlt),zK,hi];rfl
  ·rw [opB,zK,zj hi,Option.map_some,opR,if_pos hi] at h1
   rw [opB,zK,zj hj,Option.map_some,opR,if_pos hj] at h2
   simp only [zH,List.cons.injEq,A.ref.injEq,and_true] at h1 h2
   omega
theorem open19_fn {f fr fc:FuncId} {Δ:Ctx} (H:FnIs P f N [.t 2] (x_change_open fr fc)) (hN:1≤N) (Hr:∀ l:List (List Gl),l≠[]→∀ h:Heap,Δ.b≤h.length→FnD Δ P fr [.d (.sl eRw (rwRows l))] h (.ref h.length l.length 0 l.length true) (h++[.cells eRw ((rwRows l).map fun r=>r.map .d)]))
  (Hc:∀ l:List Gl,RowO P fc (.d (.sl eGl (glRows l))) l) (v:Vw) (hv:v.rows≠[]) (hvl:v.rows.length≤1000) (h:Heap) (hb:Δ.b≤h.length) :
  ∃ h' id k R,FnD Δ P f [vwA v] h (.ptr id 1 0 0) h'∧EdIs h' id v k R∧h.length≤id∧h.length≤h'.length∧Keep6 h h' id:=by
 obtain ⟨t,id,k,R,h1,h2,h3,h4,h5⟩:=open19T_fn H hN Hr Hc v hv hvl h hb
 exact ⟨h++t,id,k,R,h1,h2,h3,h4,h5⟩
end Go.Proofs.YtlllnjhgjijnkaaDoor.Nx

import Derived.Test.YtigfbnglplbbpaaDoorNxE2
import Derived.Test.YtigfbnglplbbpaaDoorNxW8
set_option linter.unusedSimpArgs false
set_option linter.unusedVariables false
set_option linter.unnecessarySimpa false
open List renaming getElem?_eq_some_iff → zA, getElem?_eq_getElem → zB, getD_eq_getElem?_getD → zC, getElem?_append_left → zF, getElem?_append_right → zG, getElem?_map → zK, getElem?_set_ne → zM, getElem?_set_self → zN, append_nil → zP, append_assoc → zS, length_append → zb, drop_eq_getElem_cons → zd, length_map → zg, getElem?_eq_none → zk, getElem?_take → zm, length_take → zs
open Nat renaming zero_le → zI, le_refl → zL
open Int renaming toNat_natCast → zQ
open Nat renaming reduceEqDiff → qE, reduceAdd → qA, reduceLT → qL, reduceLeDiff → qD
namespace Go.Proofs.YtigfbnglplbbpaaDoor.Nx
open Go
variable {P:Program} {N:Nat} {Γ:Tabs}
def XC.l:XC→XC
  | .seq x _=>x
  | x=>x
def XC.b:XC→XC
  | .block _ x=>x
  | x=>x
def XC.lp:XC→XC
  | .loop x=>x
  | x=>x
theorem EdIs.idk {h:Heap} {id:Nat} {v:Vw} {k:Nat} {R:List (List A)} (e:EdIs h id v k R):id≠k:=by
  rintro rfl
  have:=e.hid.symm.trans e.hk
  simp only [Option.some.injEq,HB.cells.injEq] at this
  exact absurd (congrArg Elt.sz this.1) (by decide)
theorem EdIs.setK {h g:Heap} {id:Nat} {v w:Vw} {k:Nat} {R R':List (List A)} (e:EdIs h id v k R) (hlen:w.rows.length≤R'.length)
    (hrow:∀ (i:Nat) (r:List Gl),w.rows[i]? = some r→(R'[i]? = R[i]? ∧ v.rows[i]? = some r)∨(R'[i]? = some [.nil]∧r=[]))
    (hg:∀ q,q<h.length→g[q]? = h[q]?):EdIs ((g.set k (.cells eRw R')).set id (.cells eVw [edRow w k R'.length])) id w k R':=by
  have hid:=e.id_lt
  have hk:=e.k_lt
  have gl:∀ q,q<h.length→q<g.length:=fun q hq=>by
    have:=hg q hq
    rw [zB hq] at this
    exact (zA.1 this).1
  have hgid:=gl _ hid
  have hgk:=gl _ hk
  refine ⟨zN (by simpa using hgid),by rw [zM e.idk,zN hgk],hlen,fun i r hi=>?_,fun i j q n m hi hj h1 h2=>?_⟩
  · rcases hrow i r hi with ⟨h1,h2⟩ | ⟨h1,h2⟩
    · obtain ⟨x,g1,g2⟩:=e.row i r h2
      refine ⟨x,h1.trans g1,?_⟩
      rcases g2 with g2 | ⟨q,g2,g3⟩
      · exact .inl g2
      · have hne:=e.ne g3
        have hq:=(zA.1 g3).1
        exact .inr ⟨q,g2,by rw [zM (Ne.symm hne.1),zM (Ne.symm hne.2.1),hg q hq];exact g3⟩
    · exact ⟨_,h1,.inl ⟨rfl,h2⟩⟩
  · have key:∀ {i q n:Nat},i<w.rows.length→R'[i]? = some [.ref q n 0 n true]→R[i]? = some [.ref q n 0 n true]∧i<v.rows.length:=by
      intro i q n hi hr
      rcases hrow i _ (zB hi) with ⟨h1,h2⟩ | ⟨h1,_⟩
      · exact ⟨h1.symm.trans hr,(zA.1 h2).1⟩
      · rw [h1] at hr;cases hr
    obtain ⟨a1,a2⟩:=key hi h1
    obtain ⟨b1,b2⟩:=key hj h2
    exact e.dis i j q n m a2 b2 a1 b1
def growL (v:Vw) (i:Nat):Vw:={ v with rows:=v.rows++List.replicate i [] }
theorem size_grow {fw ft:FuncId} {Δ:Ctx} {n0:Nat} {v:Vw} {Hh:Nat} (hv:v.height=Hh) (hH:Hh≤1000) (hvl:v.rows.length≤1000) {g:Heap} {id k:Nat} {R:List (List A)} (e:EdIs g id v k R) :
    ∃ g' k' R',g.length≤g'.length∧EdIs g' id (growL v (Hh-v.rows.length)) k' R'∧Keep6 g g' id∧WE Δ P N none n0 (x_change_editor_size fw ft).r.r.l ⟨look [(0,.ptr id 1 0 0)],g⟩ .normal ⟨look [(0,.ptr id 1 0 0)],g'⟩:=by
  have key:=WE_loopX (Γ:=Δ) (P:=P) (N:=N) (rl:=none) (n0:=n0) (j:=0) (x:=(x_change_editor_size fw ft).r.r.l.b.lp)
    (fun m s=>∃ i g' k' R',i≤Hh-v.rows.length∧m=Hh-v.rows.length-i∧g.length≤g'.length∧EdIs g' id (growL v i) k' R'∧Keep6 g g' id∧s=⟨look [(0,.ptr id 1 0 0)],g'⟩)
    (fun s=>∃ g' k' R',g.length≤g'.length∧EdIs g' id (growL v (Hh-v.rows.length)) k' R'∧Keep6 g g' id∧s=⟨look [(0,.ptr id 1 0 0)],g'⟩) (fun m s hI=>?_) (m:=Hh-v.rows.length) (s:=⟨look [(0,.ptr id 1 0 0)],g⟩) ⟨0,g,k,R,zI _,rfl,zL _,by simpa [growL] using e,.refl,rfl⟩
  · obtain ⟨s1,⟨g',k',R',h1,h2,h3,rfl⟩,hW⟩:=key
    exact ⟨g',k',R',h1,h2,h3,hW⟩
  obtain ⟨i,g',k',R',hi,rfl,hgl,e',hk6,rfl⟩:=hI
  have idlt:=e'.id_lt
  have klt:=e'.k_lt
  have idk:=e'.idk
  have hgr:(growL v i).rows.length=v.rows.length+i:=by simp [growL]
  have hgh:(growL v i).height=Hh:=hv
  have hgh1:(growL v (i+1)).height=Hh:=hv
  have gid:g'[id]? = some (.cells eVw [edRow (growL v i) k' R'.length]):=e'.hid
  have gk:g'[k']? = some (.cells eRw R'):=e'.hk
  have hle:v.rows.length+i≤R'.length:=by rw [← hgr];exact e'.len
  by_cases hlt:v.rows.length+i<Hh
  · left
    have d1:decide (((v.rows.length+i:Nat):Int)<(Hh:Int))=true:=decide_eq_true (by omega)
    have hroom:(v.rows.length+i+1) * 24≤room:=by simp only [room];omega
    have hmax:v.rows.length+i+1≤maxLen:=by simp only [maxLen];omega
    let G:Heap:=g'++[HB.cells eRw [[A.nil]]]
    have gid1:∀ t:Heap,(g'++t)[id]? = some (.cells eVw [edRow (growL v i) k' R'.length]):=fun t=>hp_gl gid
    have gk1:∀ t:Heap,(g'++t)[k']? = some (.cells eRw R'):=fun t=>hp_gl gk
    have gsk:∀ X (t:Heap),((g'++t).set k' X)[id]? = some (.cells eVw [edRow (growL v i) k' R'.length]):=fun X t=>by
      rw [zM (Ne.symm idk)];exact hp_gl gid
    have step:∀ R2:List (List A),v.rows.length+i+1≤R2.length→(∀ a,a<v.rows.length+i→R2[a]? = R'[a]?)→R2[v.rows.length+i]? = some [A.nil] →
        (∀ K:St→Prop,(∀ (sl:Nat→A) (hp:Heap),sl 0 = .ptr id 1 0 0→hp=((G.set k' (.cells eRw R2)).set id (.cells eVw [edRow (growL v (i+1)) k' R2.length]))→K ⟨sl,hp⟩)→W Δ P N none n0 (x_change_editor_size fw ft).r.r.l.b.lp (fun e s=>e = .normal∧K s) ⟨look [(0,.ptr id 1 0 0)],g'⟩) →
        ∃ m' s2,m'<Hh-v.rows.length-i∧(∃ i g' k' R',i≤Hh-v.rows.length∧m'=Hh-v.rows.length-i∧g.length≤g'.length∧EdIs g' id (growL v i) k' R'∧Keep6 g g' id∧s2=⟨look [(0,.ptr id 1 0 0)],g'⟩)∧WE Δ P N none n0 (x_change_editor_size fw ft).r.r.l.b.lp ⟨look [(0,.ptr id 1 0 0)],g'⟩ .normal s2:=by
      intro R2 hl2 hold hnew hW
      refine ⟨Hh-v.rows.length-(i+1),⟨look [(0,.ptr id 1 0 0)],(G.set k' (.cells eRw R2)).set id (.cells eVw [edRow (growL v (i+1)) k' R2.length])⟩,by omega,⟨i+1,_,k',R2,by omega,rfl,by simp [G];omega,e'.setK (by simp [growL];omega) (fun a r ha=>?_) (fun q hq=>zF hq),hk6.trans ((Keep6.app (t:=[HB.cells eRw [[A.nil]]])).trans ((Keep6.setO (gk1 _) (by decide)).trans .set)),rfl⟩,?_⟩
      · have hal:=(zA.1 ha).1
        have hgr1:(growL v (i+1)).rows=(growL v i).rows++[[]]:=by simp [growL,List.replicate_succ',zS]
        rw [hgr1] at ha hal
        rw [zb,List.length_singleton,hgr] at hal
        rcases Nat.lt_or_ge a (v.rows.length+i) with h' | h'
        · left
          rw [zF (by omega)] at ha
          exact ⟨hold a h',ha⟩
        · right
          have:a=v.rows.length+i:=by omega
          subst this
          rw [zG (by omega),hgr,Nat.sub_self] at ha
          cases ha
          exact ⟨hnew,rfl⟩
      · refine hW (fun s=>Co n0 s _) fun sl hp h0 he=>?_
        subst he
        exact Co.keep _ (by simp [h0])
    by_cases hfull:v.rows.length+i=R'.length
    · refine step (R'++[[.nil]]) (by simp;omega) (fun a ha=>zF (by omega)) (by rw [zG (by omega)];simp [hfull]) fun K hK=>?_
      simp only [x_change_editor_size,XC.r,XC.l,XC.b,XC.lp]
      refine W_seq ?_
      refine W_seq (W_drw (by simp) ?_);simp only [xq,reduceIte,qE,qA,qL,qD,gid,gk,edRow,hgr,hgh,zP,d1]
      refine W_cond rfl (fun _=>W_skip ?_) (fun hc=>by cases hc)
      simp only [xq,reduceIte,qE,qA,qL,qD]
      refine W_block ?_
      refine W_reg ?_;simp only [xq,reduceIte,qE,qA,qL,qD,gid,gid1,gk,gk1,gsk,edRow,hgr,hgh,hfull,hp_g0]
      refine ⟨by rw [← hfull];exact hroom,by rw [← hfull];exact hmax,?_⟩
      refine hK _ _ (by simp [x_upd,x_look]) ?_
      have hl:(growL v (i+1)).rows.length=R'.length+1:=by rw [← hfull];simp [growL];omega
      simp only [G,edRow,hl,hgh1,zb,List.length_singleton]
      rfl
    · have hfull2:v.rows.length+i<R'.length:=by omega
      have hfull3:¬ (v.rows.length+i=R'.length):=hfull
      have ht:(R'.take (v.rows.length+i)).length=v.rows.length+i:=by rw [zs];omega
      have hl2:(R'.take (v.rows.length+i)++[[A.nil]]++R'.drop (v.rows.length+i+1)).length=R'.length:=by
        simp only [zb,ht,List.length_singleton,List.length_drop];omega
      refine step (R'.take (v.rows.length+i)++[[.nil]]++R'.drop (v.rows.length+i+1)) (by omega) (fun a ha=>?_) ?_ fun K hK=>?_
      · rw [zS,zF (by omega),zm,if_pos ha]
      · rw [zS,zG (by omega),ht,Nat.sub_self];rfl
      simp only [x_change_editor_size,XC.r,XC.l,XC.b,XC.lp]
      refine W_seq ?_
      refine W_seq (W_drw (by simp) ?_);simp only [xq,reduceIte,qE,qA,qL,qD,gid,gk,edRow,hgr,hgh,zP,d1]
      refine W_cond rfl (fun _=>W_skip ?_) (fun hc=>by cases hc)
      simp only [xq,reduceIte,qE,qA,qL,qD]
      refine W_block ?_
      refine W_reg ?_;simp only [xq,reduceIte,qE,qA,qL,qD,gid,gid1,gk,gk1,gsk,edRow,hgr,hgh,if_neg hfull3,hp_g0]
      refine ⟨hroom,hmax,hfull2,?_⟩
      refine hK _ _ (by simp [x_upd,x_look]) ?_
      have hl:(growL v (i+1)).rows.length=v.rows.length+i+1:=by simp [growL];omega
      simp only [G,edRow,hl,hl2,hgh1]
      rfl
  · right
    refine ⟨⟨look [(0,.ptr id 1 0 0)],g'⟩,⟨g',k',R',hgl,?_,hk6,rfl⟩,?_⟩
    · have:Hh-v.rows.length=i:=by omega
      rw [this];exact e'
    · have d1:decide (((v.rows.length+i:Nat):Int)<(Hh:Int))=false:=decide_eq_false (by omega)
      simp only [x_change_editor_size,XC.r,XC.l,XC.b,XC.lp]
      refine W_seq ?_
      refine W_seq (W_drw (by simp) ?_);simp only [xq,reduceIte,qE,qA,qL,qD,gid,gk,edRow,hgr,hgh,zP,d1]
      refine W_cond rfl (fun hc=>by cases hc) (fun _=>W_exit ?_)
      simp only [xq,reduceIte,qE,qA,qL,qD]
      exact Co.keep _ (by simp [x_upd,x_look])
theorem EdIs.cut {h:Heap} {id:Nat} {v:Vw} {k:Nat} {R:List (List A)} (e:EdIs h id v k R) (n:Nat) (hn:n≤v.rows.length):EdIs (h.set id (.cells eVw [edRow { v with rows:=v.rows.take n } k R.length])) id { v with rows:=v.rows.take n } k R:=by
  have hl:(v.rows.take n).length=n:=by rw [zs];omega
  refine ⟨zN e.id_lt,by rw [zM e.idk];exact e.hk,by simp only [hl];have:=e.len;omega,fun i r hi=>?_,fun i j q a b hi hj=>?_⟩
  · simp only [zm] at hi
    split at hi
    · obtain ⟨x,h1,h2⟩:=e.row i r hi
      refine ⟨x,h1,?_⟩
      rcases h2 with h2 | ⟨q,h2,h3⟩
      · exact .inl h2
      · exact .inr ⟨q,h2,by rw [zM (Ne.symm (e.ne h3).1)];exact h3⟩
    · cases hi
  · simp only [hl] at hi hj
    exact e.dis i j q a b (by omega) (by omega)
def cutV (v:Vw) (i:Nat):Vw:={ v with rows:=(v.rows.take i).map (sizeR v.width)++v.rows.drop i }
theorem cutV_len {v:Vw} {i:Nat}:(cutV v i).rows.length=v.rows.length:=by simp [cutV];omega
theorem cutV_succ {v:Vw} {i:Nat} (h:i<v.rows.length):cutV v (i+1)={ cutV v i with rows:=(cutV v i).rows.set i (sizeR v.width v.rows[i]) }:=by
  have hl:((v.rows.take i).map (sizeR v.width)).length=i:=by simp;omega
  simp only [cutV]
  congr 1
  rw [List.set_append_right _ _ (by omega),hl,Nat.sub_self,zd h,List.set_cons_zero,List.take_add_one,zB h,Option.toList_some,List.map_append,zS]
  rfl
theorem cutV_get {v:Vw} {i:Nat} (h:i<v.rows.length):(cutV v i).rows[i]? = some v.rows[i]:=by
  have hl:((v.rows.take i).map (sizeR v.width)).length=i:=by simp;omega
  simp only [cutV]
  rw [zG (by omega),hl,Nat.sub_self,List.getElem?_drop,Nat.add_zero,zB h]
theorem cutW_at (w:Int):∀ (l:List Gl) (i:Nat),i≤l.length→(∀ j,j≤i→(widthN (l.take j):Int)≤w)→cutW w l=l.take i++cutW (w-widthN (l.take i)) (l.drop i)
  | l,0,_,_=>by simp [widthN]
  | [],i+1,h,_=>by simp at h
  | g::l,i+1,h,hw=>by
    have h1:=hw 1 (by omega)
    simp only [List.take_succ_cons,List.take_zero,widthN] at h1
    rw [cutW,if_neg (by omega),cutW_at (w-(gw g:Nat)) l i (by simpa using h) (fun j hj=>by
      have:=hw (j+1) (by omega)
      rw [List.take_succ_cons,widthN] at this
      omega)]
    rw [List.take_succ_cons,widthN,List.drop_succ_cons,List.cons_append]
    congr 3
    push_cast
    omega
end Go.Proofs.YtigfbnglplbbpaaDoor.Nx
namespace Go.Proofs.YtigfbnglplbbpaaDoor.Nx
open Go
variable {P:Program} {N:Nat} {Γ:Tabs}
theorem glRows_one' {l:List Gl} {i:Nat} (hi:i<l.length):((glRows l).drop i).take 1=glRows [l[i]]:=by
  rw [glRows,← List.map_drop,← List.map_take,zd hi];rfl
def sizeRow (fw ft:FuncId):XC:=(x_change_editor_size fw ft).r.r.r.r.l.r.b.lp.r.r.l.b.r
set_option maxHeartbeats 1000000 in
theorem size_row {fw ft:FuncId} {Δ:Ctx} {n0:Nat} (Hw:∀ l:List Gl,FnP Δ.t P fw [.d (.sl eGl (glRows l))] (.int (widthN l))) (Ht:∀ l:List Gl,RowO P ft (.d (.sl eGl (glRows l))) (trimGl l))
    {g:Heap} {id k q i M n1:Nat} {R:List (List A)} {v:Vw} {r:List Gl} {x:A} (hw0:0≤v.width∧v.width≤1000) (gid:g[id]? = some (.cells eVw [edRow v k R.length])) (gk:g[k]? = some (.cells eRw R)) (gq:g[q]? = some (rowB r)) (hrl:r.length≤50000) (hi:i<v.rows.length) (hx:R[i]? = some [x]) :
    WE Δ P N none n0 (sizeRow fw ft) ⟨look [(0,.ptr id 1 0 0),(4,.int i),(5,.ref q r.length 0 r.length true),(62,.ref k R.length 0 M true),(63,.int n1),(64,.int i)],g⟩ .normal
      ⟨look [(0,.ptr id 1 0 0),(62,.ref k R.length 0 M true),(63,.int n1),(64,.int i)],g.set k (.cells eRw (R.set i [.ref g.length (sizeR v.width r).length 0 (sizeR v.width r).length true]))++[rowB (sizeR v.width r)]⟩:=by
  have gid1:∀ t:Heap,(g++t)[id]? = some (.cells eVw [edRow v k R.length]):=fun t=>hp_gl gid
  have gk1:∀ t:Heap,(g++t)[k]? = some (.cells eRw R):=fun t=>hp_gl gk
  have klt:k<g.length:=(zA.1 gk).1
  obtain ⟨cn,hcn⟩:=cutW_pre v.width r
  let S:Nat→St:=fun n=>⟨look [(0,.ptr id 1 0 0),(4,.int i),(5,.ref q r.length 0 r.length true),(6,.int n),(7,.int (widthN (r.take n))),(62,.ref k R.length 0 M true),(63,.int n1),(64,.int i)],g⟩
  let T:Nat→St:=fun n=>⟨look [(0,.ptr id 1 0 0),(4,.int i),(5,.ref q r.length 0 r.length true),(6,.int n),(62,.ref k R.length 0 M true),(63,.int n1),(64,.int i)],g⟩
  simp only [sizeRow,x_change_editor_size,XC.r,XC.l,XC.b,XC.lp]
  have hcl:=congrArg List.length hcn
  rw [zs] at hcl
  have hcut:cutW v.width r=r.take (cutW v.width r).length:=by
    rw [hcl,hcn]
    rcases Nat.le_total cn r.length with h | h
    · rw [Nat.min_eq_left h]
    · rw [Nat.min_eq_right h,List.take_of_length_le h,List.take_length]
  refine W_seq (W_reg ?_)
  simp only [xq,reduceIte,qE,qA,qL,qD]
  refine W_cut (· = T (cutW v.width r).length) ?_ ?_
  · refine W_block ?_
    refine W_co (s':=S 0) (Co.keep _ (by simp [x_upd,x_look,widthN])) ?_
    refine W_loop (fun m s=>∃ n,n≤r.length∧m=r.length-n∧s=S n∧∀ j,j≤n→(widthN (r.take j):Int)≤v.width) ⟨0,zI _,rfl,rfl,fun j hj=>by
      have:j=0:=by omega
      subst this;simpa [widthN] using hw0.1⟩ ?_
    rintro m s ⟨n,hn,rfl,rfl,hpre⟩
    have hat:=cutW_at v.width r n hn hpre
    have hwle:=widthN_le (r.take n)
    simp only [zs] at hwle
    simp only [S]
    refine W_seq ?_
    refine W_seq (W_reg ?_);simp only [xq,reduceIte,qE,qA,qL,qD,gq,rowB,zg,glRows_len]
    refine W_cond rfl (fun hc=>W_skip ?_) (fun hc=>W_exit ?_)
    · have hlt:n<r.length:=by simpa using hc
      have hsucc:=widthN_succ hlt
      have hgw:gw r[n]≤2:=by unfold gw;split<;>omega
      have w1:IntKind.i64.wrap ((n:Int)+1)=((n+1:Nat):Int):=by rw [i64_of (by omega)];omega
      have w2:IntKind.i64.wrap ((widthN (r.take n):Int)+(widthN [r[n]]:Int))=((widthN (r.take (n+1)):Nat):Int):=by
        have:widthN [r[n]]=gw r[n]:=by simp [widthN]
        rw [this,i64_of (by omega),hsucc];omega
      have t1:(((n+1:Nat):Int)-(n:Int)).toNat=1:=by omega
      have hcall:FnD Δ P fw [.ref q r.length n 1 true] g (.int (widthN [r[n]])) (g++[]):=by
        rw [zP]
        refine FnP.lend (Hw [r[n]]) flat_sc (.cons ?_ .nil)
        have:=frzD_rows (k:=0) (off:=n) (len:=1) (full:=true) (e:=eGl) (rows:=glRows r) (zI q) gq (by rw [glRows_len];omega)
        rw [glRows_len,glRows_one' hlt] at this
        exact .d this
      simp only [xq,reduceIte,qE,qA,qL,qD]
      refine W_block ?_
      refine W_seq ?_
      refine W_seq (W_reg ?_);simp only [xq,reduceIte,qE,qA,qL,qD,gq,rowB,zg,glRows_len,w1,t1,zQ,Nat.zero_add]
      repeat refine And.intro (by omega) ?_
      refine cr_fn hcall ?_
      simp only [xq,reduceIte,qE,qA,qL,qD,zP,w2]
      refine W_seq (W_reg ?_);simp only [xq,reduceIte,qE,qA,qL,qD,gid,edRow]
      refine W_cond rfl (fun hd=>W_exit ?_) (fun hd=>W_skip ?_)
      · have hd:v.width<((widthN (r.take (n+1)):Nat):Int):=of_decide_eq_true hd
        have hfin:(cutW v.width r).length=n:=by
          rw [hat,zd hlt,cutW,if_pos (by rw [hsucc] at hd;omega),zP,zs];omega
        simp only [xq,reduceIte,qE,qA,qL,qD]
        exact ⟨T (cutW v.width r).length,Co.keep _ (by simp [x_upd,x_look,hfin]),rfl⟩
      · have hd:((widthN (r.take (n+1)):Nat):Int)≤v.width:=by have:=of_decide_eq_false hd;omega
        simp only [xq,reduceIte,qE,qA,qL,qD]
        refine W_reg ?_;simp only [xq,reduceIte,qE,qA,qL,qD,w1]
        refine ⟨r.length-(n+1),S (n+1),by omega,Co.keep _ ?_,n+1,hlt,rfl,rfl,fun j hj=>?_⟩
        · simp [x_upd,x_look]
        · rcases Nat.lt_or_ge j (n+1) with h | h
          · exact hpre j (by omega)
          · have:j=n+1:=by omega
            subst this;exact hd
    · have hle:n=r.length:=by simp at hc;omega
      subst hle
      have hfin:(cutW v.width r).length=r.length:=by
        rw [hat,List.drop_length,List.take_length];simp [cutW]
      simp only [xq,reduceIte,qE,qA,qL,qD]
      exact ⟨T (cutW v.width r).length,Co.keep _ (by simp [x_upd,x_look,hfin]),rfl⟩
  rintro _ rfl
  have hcle:(cutW v.width r).length≤r.length:=by rw [hcl];omega
  have hT:FnD Δ P ft [.ref q r.length 0 (cutW v.width r).length true] g (.ref g.length (sizeR v.width r).length 0 (sizeR v.width r).length true) (g++[rowB (sizeR v.width r)]):=by
    refine RowO.lend (y:=.d (.sl eGl (glRows (cutW v.width r)))) (Ht _) ?_ rfl
    have:=frzD_rows (k:=0) (off:=0) (len:=(cutW v.width r).length) (full:=true) (e:=eGl) (rows:=glRows r) (zI q) gq (by rw [glRows_len];omega)
    rw [glRows_len,List.drop_zero,glRows_take,← hcut] at this
    exact .d this
  simp only [T]
  refine W_drw (by simp) ?_
  simp only [xq,reduceIte,qE,qA,qL,qD,gid,gid1,gk,gk1,gq,edRow,rowB,zg,glRows_len,Int.natCast_zero,Int.sub_zero,Int.toNat_zero,zQ,zP]
  repeat refine And.intro (by omega) ?_
  refine cr_fn hT ?_
  simp only [xq,reduceIte,qE,qA,qL,qD,gid1,gk1,hx,zQ]
  repeat refine And.intro (by omega) ?_
  rw [hp_sl klt]
  exact Co.keep _ (by simp [x_upd,x_look])
end Go.Proofs.YtigfbnglplbbpaaDoor.Nx
namespace Go.Proofs.YtigfbnglplbbpaaDoor.Nx
open Go
variable {P:Program} {N:Nat} {Γ:Tabs}
set_option maxHeartbeats 2000000 in
theorem size_fn {f fw ft:FuncId} {Δ:Ctx} (H:FnIs P f N [] (x_change_editor_size fw ft)) (hN:2≤N) (Hw:∀ l:List Gl,FnP Δ.t P fw [.d (.sl eGl (glRows l))] (.int (widthN l))) (Ht:∀ l:List Gl,RowO P ft (.d (.sl eGl (glRows l))) (trimGl l)) :
    EdStep Δ P f (fun v c=>c.kind=1∧StepPre v c) stepV:=by
  rintro v c ⟨hk,hpre⟩ h id k R hb e
  obtain ⟨q1,q2,q3,q4⟩:=chgC_zero hpre.ok
  have hlen:=hpre.ed.len
  have hs:=szOk_iff.1 hpre.ed.sz
  have ho:=outV_iff.1 hpre.ed.out
  simp only [rangeG,hk,if_true,Bool.and_eq_true,btw_iff] at q3
  obtain ⟨Hh,hrow⟩:∃ j:Nat,c.row=j:=⟨c.row.toNat,by omega⟩
  have idlt:=e.id_lt
  have hne:id≠h.length:=by omega
  -- the new size is put down
  let v1:Vw:={ v with height:=c.row,width:=c.col }
  let hA:Heap:=h.set id (.cells eVw [edRow v1 k R.length])++[cgB c]
  have eA:EdIs hA id v1 k R:=(e.setId (w:=v1) rfl).app _
  have gid:∀ t:Heap,(h++t)[id]? = some (.cells eVw [edRow v k R.length]):=fun t=>hp_gl e.hid
  have gs:∀ X (t:Heap),(h.set id X++t)[id]? = some X:=fun X t=>hp_gs idlt
  have sl:∀ X (t:Heap),(h++t).set id X=h.set id X++t:=fun X t=>hp_sl idlt
  have ss:∀ X Y (t:Heap),(h.set id X++t).set id Y=h.set id Y++t:=fun X Y t=>hp_ss idlt
  have w0:WE Δ P N none h.length (x_change_editor_size fw ft).l ⟨look (argS 0 [.ptr id 1 0 0,cgA c]),h⟩ .normal ⟨look [(0,.ptr id 1 0 0),(3,.ptr h.length 1 0 0)],h++[cgB c]⟩:=by
    simp only [x_change_editor_size,XC.r,XC.l,cgA,Cg.ds,List.map_cons,List.map_nil]
    refine W_reg ?_
    simp only [xq,reduceIte,qE,qA,qL,qD,hp_g0,hp_s0]
    exact Co.keep _ (by simp [x_upd,x_look])
  have w1:WE Δ P N none h.length (x_change_editor_size fw ft).r.l ⟨look [(0,.ptr id 1 0 0),(3,.ptr h.length 1 0 0)],h++[cgB c]⟩ .normal ⟨look [(0,.ptr id 1 0 0)],hA⟩:=by
    simp only [x_change_editor_size,XC.r,XC.l]
    refine W_drw2 id h.length hne (by simp;omega) (by simp) rfl (by simp [x_look,x_look0,A.touch]) ?_
    simp only [xq,reduceIte,qE,qA,qL,qD,hp_g0,hp_gs0,gid,gs,sl,ss,edRow,cgB,Cg.ds,zP]
    exact Co.keep _ (by simp [x_upd,x_look])
  obtain ⟨g1,k1,R1,hg1,e1,hk1,wB⟩:=size_grow (P:=P) (fw:=fw) (ft:=ft) (Δ:=Δ) (N:=N) (n0:=h.length) (v:=v1) (Hh:=Hh) hrow (by omega) (by show v.rows.length≤1000;omega) eA
  let v2:Vw:={ growL v1 (Hh-v1.rows.length) with rows:=(growL v1 (Hh-v1.rows.length)).rows.take Hh }
  have hgl:Hh≤(growL v1 (Hh-v1.rows.length)).rows.length:=by simp [growL];omega
  have hv2l:v2.rows.length=Hh:=by show (List.take _ _).length=_;rw [zs];omega
  have e2:=e1.cut Hh hgl
  -- the slice is cut
  have wC:WE Δ P N none h.length ((x_change_editor_size fw ft).r.r.r.l) ⟨look [(0,.ptr id 1 0 0)],g1⟩ .normal ⟨look [(0,.ptr id 1 0 0)],g1.set id (.cells eVw [edRow v2 k1 R1.length])⟩:=by
    have gid:=e1.hid
    have gk:=e1.hk
    have hh:(growL v1 (Hh-v1.rows.length)).height=Hh:=hrow
    have hR:=e1.len
    have hv2h:v2.height=Hh:=hrow
    simp only [x_change_editor_size,XC.r,XC.l]
    refine W_drw (by simp) ?_
    simp only [xq,reduceIte,qE,qA,qL,qD,gid,gk,edRow,hh,zP,Int.natCast_zero,Int.sub_zero,zQ,Int.toNat_zero]
    repeat refine And.intro (by omega) ?_
    have:edRow v2 k1 R1.length=[.int (growL v1 (Hh-v1.rows.length)).width,.int Hh,.ref k1 R1.length 0 Hh true,.int (growL v1 (Hh-v1.rows.length)).row,.int (growL v1 (Hh-v1.rows.length)).col,.bool (growL v1 (Hh-v1.rows.length)).vis]:=by
      simp only [edRow,hv2l,hv2h];rfl
    rw [← edRow,this]
    exact Co.keep _ (by simp [x_upd,x_look])
  -- the rows are cut
  let g2:Heap:=g1.set id (.cells eVw [edRow v2 k1 R1.length])
  have hg2:g1.length=g2.length:=by simp [g2]
  have hv2w:v2.width=c.col:=rfl
  have hrl:∀ r∈v2.rows,r.length≤50000:=by
    intro r hr
    have hr:r∈v.rows++List.replicate (Hh-v1.rows.length) []:=List.mem_of_mem_take hr
    rcases List.mem_append.1 hr with hr | hr
    · exact hpre.row r hr
    · rw [List.eq_of_mem_replicate hr];simp
  let Ds (i:Nat) (R:List (List A)) (g:Heap):St:=⟨look [(0,.ptr id 1 0 0),(62,.ref k1 R.length 0 Hh true),(63,.int Hh),(64,.int i)],g⟩
  have wD0:WE Δ P N none h.length ((x_change_editor_size fw ft).r.r.r.r.l.l) ⟨look [(0,.ptr id 1 0 0)],g2⟩ .normal (Ds 0 R1 g2):=by
    have gs1:∀ X,(g1.set id X)[id]? = some X:=fun X=>zN e1.id_lt
    have gk1:∀ X,(g1.set id X)[k1]? = some (.cells eRw R1):=fun X=>by rw [zM e1.idk];exact e1.hk
    simp only [x_change_editor_size,XC.r,XC.l]
    refine W_reg ?_
    simp only [g2,Ds,xq,reduceIte,qE,qA,qL,qD,gs1,gk1,edRow,hv2l]
    exact Co.keep _ (by simp [x_upd,x_look])
  obtain ⟨s3,⟨g3,R3,hg3,e3,hk3,rfl⟩,wD⟩:=WE_loopX (Γ:=Δ) (P:=P) (N:=N) (rl:=none) (n0:=h.length) (j:=2) (x:=(x_change_editor_size fw ft).r.r.r.r.l.r.b.lp)
    (fun m s=>∃ i g R,i≤Hh∧m=Hh-i∧g2.length≤g.length∧EdIs g id (cutV v2 i) k1 R∧Keep6 g2 g id∧s=Ds i R g)
    (fun s=>∃ g R,g2.length≤g.length∧EdIs g id (cutV v2 Hh) k1 R∧Keep6 g2 g id∧s=⟨look [(0,.ptr id 1 0 0)],g⟩) (fun m s hI=>by
      obtain ⟨i,g,R,hi,rfl,hgl,eg,hkg,rfl⟩:=hI
      simp only [Ds]
      by_cases hlt:i<Hh
      · left
        have hil:i<v2.rows.length:=by omega
        have hic:i<(cutV v2 i).rows.length:=by rw [cutV_len];exact hil
        obtain ⟨x,hx,hr⟩:=eg.row i _ (cutV_get hil)
        have gk:=eg.hk
        have d1:decide ((i:Int)<(Hh:Int))=true:=decide_eq_true (by omega)
        have hRl:=eg.len
        have hril:=hrl _ (List.getElem_mem hil)
        rw [cutV_len,hv2l] at hRl
        have w1:IntKind.i64.wrap ((i:Int)+1)=((i+1:Nat):Int):=by rw [i64_of (by omega)];omega
        -- from a state with the row as an own block on
        have tail:∀ (g':Heap) (q:Nat),g.length≤g'.length→Keep6 g g' id→EdIs g' id (cutV v2 i) k1 R→g'[q]? = some (rowB v2.rows[i]) →
            (∀ Q:St→Prop,(∀ sl:Nat→A,sl 0 = .ptr id 1 0 0→sl 4 = .int i→sl 5 = .ref q v2.rows[i].length 0 v2.rows[i].length true→sl 62 = .ref k1 R.length 0 Hh true→sl 63 = .int Hh→sl 64 = .int i →
              W Δ P N none h.length (sizeRow fw ft) (blockQ 3 (thenQ (W Δ P N none h.length (x_change_editor_size fw ft).r.r.r.r.l.r.b.lp.r.r.r (fun e s'=>e = .normal∧Q s')) (fun e s'=>e = .normal∧Q s'))) ⟨sl,g'⟩) →
              W Δ P N none h.length (x_change_editor_size fw ft).r.r.r.r.l.r.b.lp (fun e s'=>e = .normal∧Q s') (Ds i R g)) →
            ∃ m' s2,m'<Hh-i∧(∃ i g R,i≤Hh∧m'=Hh-i∧g2.length≤g.length∧EdIs g id (cutV v2 i) k1 R∧Keep6 g2 g id∧s2=Ds i R g)∧WE Δ P N none h.length (x_change_editor_size fw ft).r.r.r.r.l.r.b.lp (Ds i R g) .normal s2:=by
          intro g' q hgg hkk eg' hq hW
          let R':=R.set i [A.ref g'.length (sizeR v2.width v2.rows[i]).length 0 (sizeR v2.width v2.rows[i]).length true]
          let gf:Heap:=g'.set k1 (.cells eRw R')++[rowB (sizeR v2.width v2.rows[i])]
          have hef:EdIs gf id (cutV v2 (i+1)) k1 R':=by
            rw [cutV_succ hil]
            refine eg'.setRow (p:=g'.length) (r:=sizeR v2.width v2.rows[i]) hic hx ?_ ?_ ?_ (zL _) (fun q' rr hq' _=>?_)
            · show (g'.set k1 _++_)[id]? = _
              exact (hp_gn (Ne.symm eg'.idk) eg'.hid).trans eg'.hid.symm
            · exact hp_gs eg'.k_lt
            · exact hp_gs0
            · exact hp_gn (Ne.symm (eg'.ne hq').2.1) hq'
          refine ⟨Hh-(i+1),Ds (i+1) R' gf,by omega,⟨i+1,gf,R',hlt,rfl,by simp [gf];omega,hef,hkg.trans (hkk.trans ((Keep6.setO eg'.hk (by decide)).trans .app)),rfl⟩,?_⟩
          refine hW (fun s'=>Co h.length s' (Ds (i+1) R' gf)) fun sl h0 h4 h5 h62 h63 h64=>?_
          refine W_mono ?_ (WE.co (s':=⟨look [(0,.ptr id 1 0 0),(4,.int i),(5,.ref q v2.rows[i].length 0 v2.rows[i].length true),(62,.ref k1 R.length 0 Hh true),(63,.int Hh),(64,.int i)],g'⟩) (Co.keep _ (by simp [h0,h4,h5,h62,h63,h64]))
            (size_row (fw:=fw) (ft:=ft) (n0:=h.length) (v:=cutV v2 i) (x:=x) (M:=Hh) (n1:=Hh) Hw Ht (by show 0≤c.col∧c.col≤1000;omega) eg'.hid eg'.hk hq hril hic hx))
          rintro e1 s1 ⟨rfl,hco⟩
          have hRlen:R'.length=R.length:=by simp [R']
          show W Δ P N none h.length _ _ s1
          refine W_co hco ?_
          simp only [x_change_editor_size,XC.r,XC.l,XC.b,XC.lp]
          refine W_reg ?_
          simp only [xq,reduceIte,qE,qA,qL,qD,w1]
          simp only [Ds,hRlen]
          exact Co.keep _ (by simp [x_upd,x_look])
        rcases hr with ⟨rfl,hnil⟩ | ⟨q,rfl,hq⟩
        · refine tail (g++[rowB []]) g.length (by simp) .app (eg.app _) (by rw [hnil];exact hp_g0) fun Q hQ=>?_
          rw [hnil] at hQ
          simp only [sizeRow,x_change_editor_size,XC.r,XC.l,XC.b,XC.lp] at hQ ⊢
          simp only [Ds]
          refine W_seq (W_reg ?_);simp only [xq,reduceIte,qE,qA,qL,qD,d1]
          refine W_seq (W_cond rfl (fun _=>W_skip ?_) (fun hc=>by cases hc))
          simp only [xq,reduceIte,qE,qA,qL,qD]
          refine W_seq (W_block ?_)
          refine W_seq (W_reg ?_);simp only [xq,reduceIte,qE,qA,qL,qD,gk,hx,zQ]
          repeat refine And.intro (by omega) ?_
          refine W_co (Co.nil 5 eGl (by decide) (by simp [x_upd])) ?_
          refine hQ _ ?_ ?_ ?_ ?_ ?_ ?_<;>simp [x_upd,x_look]
        · refine tail g q (zL _) .refl eg hq fun Q hQ=>?_
          simp only [sizeRow,x_change_editor_size,XC.r,XC.l,XC.b,XC.lp] at hQ ⊢
          simp only [Ds]
          refine W_seq (W_reg ?_);simp only [xq,reduceIte,qE,qA,qL,qD,d1]
          refine W_seq (W_cond rfl (fun _=>W_skip ?_) (fun hc=>by cases hc))
          simp only [xq,reduceIte,qE,qA,qL,qD]
          refine W_seq (W_block ?_)
          refine W_seq (W_reg ?_);simp only [xq,reduceIte,qE,qA,qL,qD,gk,hx,zQ]
          repeat refine And.intro (by omega) ?_
          refine hQ _ ?_ ?_ ?_ ?_ ?_ ?_<;>simp [x_upd,x_look]
      · right
        have hie:i=Hh:=by omega
        subst hie
        have d1:decide ((i:Int)<(i:Int))=false:=decide_eq_false (by omega)
        refine ⟨⟨look [(0,.ptr id 1 0 0)],g⟩,⟨g,R,hgl,eg,hkg,rfl⟩,?_⟩
        simp only [x_change_editor_size,XC.r,XC.l,XC.b,XC.lp]
        refine W_seq (W_reg ?_);simp only [xq,reduceIte,qE,qA,qL,qD,d1]
        refine W_seq (W_cond rfl (fun hc=>by cases hc) (fun _=>W_exit ?_))
        simp only [xq,reduceIte,qE,qA,qL,qD]
        exact Co.keep _ (by simp [x_upd,x_look])) ⟨0,g2,R1,zI _,rfl,zL _,by simpa [cutV] using e2,.refl,rfl⟩
  -- the cursor
  let v5:Vw:={ cutV v2 Hh with row:=min v.row (c.row-1),col:=min v.col (c.col-1) }
  have hv1l:v1.rows.length=v.rows.length:=rfl
  have hstep:stepV v c=v5:=by
    simp only [stepV,hk,if_true,sizeV,v5,cutV]
    have:v2.rows.take Hh=v2.rows:=List.take_of_length_le (by omega)
    rw [this,List.drop_eq_nil_of_le (by omega),zP]
    simp only [v2,growL,hrow,zQ]
    congr 1
    · exact hrow.symm
    apply List.ext_getElem?
    intro i
    rw [zK,zK,zm]
    by_cases hi:i<Hh
    · rw [List.getElem?_range hi,if_pos hi]
      simp only [Option.map_some]
      by_cases hi2:i<v.rows.length
      · rw [zF hi2,zC,zB hi2]
        rfl
      · rw [zG (by rw [hv1l];omega),List.getElem?_replicate,if_pos (by rw [hv1l];omega),zC,zk (by omega)]
        rfl
    · rw [if_neg hi,zk (by simpa using hi)];rfl
  have e5:=e3.setId (w:=v5) rfl
  rw [← hstep] at e5
  have wE:WE Δ P N none h.length ((x_change_editor_size fw ft).r.r.r.r.r) ⟨look [(0,.ptr id 1 0 0)],g3⟩ .normal ⟨look [(0,.ptr id 1 0 0)],g3.set id (.cells eVw [edRow (stepV v c) k1 R3.length])⟩:=by
    rw [hstep]
    have gid:=e3.hid
    have idl3:=e3.id_lt
    have gs:∀ X,(g3.set id X)[id]? = some X:=fun X=>zN idl3
    have ss:∀ X Y,(g3.set id X).set id Y=g3.set id Y:=fun X Y=>by rw [List.set_set]
    have a1:(cutV v2 Hh).height=c.row:=rfl
    have a2:(cutV v2 Hh).width=c.col:=rfl
    have a3:(cutV v2 Hh).row=v.row:=rfl
    have a4:(cutV v2 Hh).col=v.col:=rfl
    have w1:IntKind.i64.wrap (c.row-1)=c.row-1:=i64_of (by omega)
    have w2:IntKind.i64.wrap (c.col-1)=c.col-1:=i64_of (by omega)
    have m1:minmaxInt false v.row (c.row-1)=min v.row (c.row-1):=by unfold minmaxInt;simp;split<;>omega
    have m2:minmaxInt false v.col (c.col-1)=min v.col (c.col-1):=by unfold minmaxInt;simp;split<;>omega
    simp only [x_change_editor_size,XC.r,XC.l]
    refine W_drw (by simp) ?_
    simp only [xq,reduceIte,qE,qA,qL,qD,gid,gs,ss,edRow,a1,a2,a3,a4,w1,w2,m1,m2,zP]
    exact Co.keep _ (by simp [x_upd,x_look])
  refine ⟨g3.set id (.cells eVw [edRow (stepV v c) k1 R3.length]),k1,R3,?_,?_,e5,(Keep6.set.trans (Keep6.app (t:=[cgB c]))).trans (hk1.trans (Keep6.set.trans (hk3.trans .set)))⟩
  · have hA':h.length≤hA.length:=by simp [hA]
    have key:WE Δ P N none h.length (x_change_editor_size fw ft) ⟨look (argS 0 [.ptr id 1 0 0,cgA c]),h⟩ .normal ⟨look [(0,.ptr id 1 0 0)],g3.set id (.cells eVw [edRow (stepV v c) k1 R3.length])⟩:=by
      exact w0.seq (w1.seq (wB.seq (wC.seq ((wD0.seq wD).seq wE))))
    exact FnD.of_WE H (by simpa using hN) hb key (.inl rfl) rfl
  · have:h.length≤hA.length:=by simp [hA]
    simp only [List.length_set]
    omega
end Go.Proofs.YtigfbnglplbbpaaDoor.Nx

import Derived.Test.YtlllnjhgjijnkaaDoorNxJ13
import Derived.Test.YtlllnjhgjijnkaaDoorNxE29
import Derived.Test.YtlllnjhgjijnkaaDoorNxDL
set_option linter.unusedSimpArgs false
set_option linter.unusedVariables false
set_option linter.unnecessarySimpa false
open List renaming getElem?_eq_getElem → zB, map_cons → zU, map_nil → zV
open Bool renaming true_eq_false → zE
open Int renaming toNat_natCast → zQ
open Nat renaming reduceEqDiff → qE, reduceAdd → qA, reduceLT → qL, reduceLeDiff → qD
namespace Go.Proofs.YtlllnjhgjijnkaaDoor.Nx
open Go
variable {P:Program} {N:Nat} {Γ:Tabs}
abbrev TSameOk (Γ:Tabs) (P:Program) (f:FuncId):Prop:=∀ a b:Tl,FnP Γ P f [tlA a,tlA b] (.bool (decide (a=b)))
def headT (a b:Tl):Bool:=((decide (a.first=b.first)&&decide (a.began=b.began))&&decide (a.base=b.base))&&decide (a.steps.length=b.steps.length)
theorem headT_eq {a b:Tl} (h:headT a b=true) (hs:a.steps=b.steps):a=b:=by
 simp only [headT,Bool.and_eq_true,decide_eq_true_eq] at h
 obtain ⟨⟨⟨h1,h2⟩,h3⟩,_⟩:=h
 cases a;cases b;simp only at h1 h2 h3 hs;subst h1 h2 h3 hs;rfl
set_option maxHeartbeats 2000000 in
theorem tsame_fn {f fv fc:FuncId} (H:FnIs P f N [.t 4] (x_ref21_Same fv fc)) (hN:2≤N) (Hv:SameOk Γ P fv) (Hc:CgsSameOk Γ P fc):TSameOk Γ P f:=by
 intro a b
 refine .of_W H (by simpa using hN) ?_
 have hv:=Hv a.base b.base
 unfold x_ref21_Same
 simp only [tlA,vwA,Vw.ds,Tl.ds,zU,zV] at hv ⊢
 refine W_aggsl 0 8 rfl rfl fun ⟨_,hmx,_⟩=>?_
 rw [stRows_len] at hmx
 have hmx:=le_of_mul hmx
 simp only [room] at hmx
 have fin:∀ (sl:Nat→A) (h:Heap) (r:Bool),sl 4 = .bool r→decide (a=b)=r→RetQ [.t 4] (.bool (decide (a=b))) .ret ⟨sl,h⟩:=fun sl h r h2 hr=>by
  rw [hr];exact .tmp h2 rfl
 refine wR ?_;simp only [xq,reduceIte,qE,qA,qL,qD]
 refine W_seq ?_
 refine W_cut (· = ⟨look [(2,.ptr 0 1 0 0),(3,.ptr 1 1 0 0),(34,.bool (!headT a b))],[tlB a,tlB b]⟩) (W_reg ?_) ?_
 ·refine run_take 6 fun K1 hK1=>?_
  simp only [xq,reduceIte,qE,qA,qL,qD]
  refine hK1 _ ?_
  clear hK1 K1
  refine run_take 7 fun K1 hK1=>?_
  cases e1:decide (a.first=b.first)
  ·simp only [xq,reduceIte,qE,qA,qL,qD,undefA,zE]
   refine hK1 _ ?_
   clear hK1 K1
   simp only [xq,reduceIte,qE,qA,qL,qD,undefA,zE]
   exact ⟨_,Co.keep _ (by simp [x_upd,x_look,headT,e1,Tl.ds]),rfl⟩
  ·simp only [xq,reduceIte,qE,qA,qL,qD,undefA,zE]
   refine hK1 _ ?_
   clear hK1 K1
   refine run_take 8 fun K1 hK1=>?_
   cases e2:decide (a.began=b.began)
   ·simp only [xq,reduceIte,qE,qA,qL,qD,undefA,zE]
    refine hK1 _ ?_
    clear hK1 K1
    simp only [xq,reduceIte,qE,qA,qL,qD,undefA,zE]
    exact ⟨_,Co.keep _ (by simp [x_upd,x_look,headT,e1,e2,Tl.ds]),rfl⟩
   ·simp only [xq,reduceIte,qE,qA,qL,qD,undefA,zE]
    refine c_fn (hv) rfl ?_;simp only [xq,reduceIte,qE,qA,qL,qD]
    refine hK1 _ ?_
    clear hK1 K1
    cases e3:decide (a.base=b.base)
    ·simp only [xq,reduceIte,qE,qA,qL,qD,undefA,zE]
     exact ⟨_,Co.keep _ (by simp [x_upd,x_look,headT,e1,e2,e3,Tl.ds]),rfl⟩
    ·simp only [xq,reduceIte,qE,qA,qL,qD,undefA,zE,stRows_len]
     refine ⟨_,Co.keep _ ?_,rfl⟩
     have:decide ((a.steps.length:Int)=(b.steps.length:Int))=decide (a.steps.length=b.steps.length):=by rw [decide_eq_decide];omega
     simp [x_upd,x_look,headT,e1,e2,e3,Tl.ds,this]
 rintro _ rfl
 refine W_cond rfl (fun h1=>?_) (fun h1=>W_skip ?_)
 ·have h1:headT a b=false:=by simpa using h1
  refine wR ?_;simp only [xq,reduceIte,qE,qA,qL,qD]
  refine W_ret (fin _ _ false rfl ?_)
  refine decide_eq_false ?_
  rintro rfl
  simp [headT] at h1
 have h1:headT a b=true:=by simpa using h1
 have hlen:a.steps.length=b.steps.length:=by simp only [headT,Bool.and_eq_true,decide_eq_true_eq] at h1;exact h1.2
 simp only [xq,reduceIte,qE,qA,qL,qD]
 refine W_seq ?_
 refine wR ?_;simp only [xq,reduceIte,qE,qA,qL,qD]
 refine W_block ?_
 let S:Nat→St:=fun i=>⟨look [(2,.ptr 0 1 0 0),(3,.ptr 1 1 0 0),(5,.int i)],[tlB a,tlB b]⟩
 refine W_co (s':=S 0) (Co.keep _ (by simp [x_upd,x_look])) ?_
 refine W_loop (fun m s=>∃ i,i≤a.steps.length∧m=a.steps.length-i∧s=S i∧a.steps.take i=b.steps.take i) ⟨0,Nat.zero_le _,rfl,rfl,by simp⟩ ?_
 rintro m s ⟨i,hi,rfl,rfl,hpre⟩
 simp only [S]
 refine W_seq (W_seq ?_)
 refine W_reg ?_;simp only [xq,reduceIte,qE,qA,qL,qD,Tl.ds,stRows_len]
 refine W_cond rfl (fun hc=>W_skip ?_) (fun hc=>W_exit ?_)
 ·have hlt:i<a.steps.length:=by simpa using hc
  have hltb:i<b.steps.length:=by omega
  have w1:IntKind.i64.wrap ((i:Int)+1)=((i+1:Nat):Int):=by rw [i64_of (by omega)];omega
  obtain ⟨x,hx⟩:∃ x,x=a.steps[i]:=⟨_,rfl⟩
  obtain ⟨y,hy⟩:∃ y,y=b.steps[i]:=⟨_,rfl⟩
  have hxr:(stRows a.steps).getD i []=x.ds:=by rw [stRows_get hlt,hx]
  have hyr:(stRows b.steps).getD i []=y.ds:=by rw [stRows_get hltb,hy]
  have hcs:=Hc x.chs y.chs
  simp only [xq,reduceIte,qE,qA,qL,qD]
  refine W_seq (W_block ?_)
  refine W_cut (· = ⟨look [(2,.ptr 0 1 0 0),(3,.ptr 1 1 0 0),(5,.int i),(70,.bool (!decide (x.time=y.time) || !decide (x.chs=y.chs)))],[tlB a,tlB b]⟩) (W_drw (by simp) ?_) ?_
  ·refine run_take 14 fun K1 hK1=>?_
   simp only [xq,reduceIte,qE,qA,qL,qD,Tl.ds,stRows_len,hxr,hyr,Stp.ds,zQ]
   repeat refine And.intro (by omega) ?_
   refine hK1 _ ?_
   clear hK1 K1
   cases e1:decide (x.time=y.time)
   ·simp only [xq,reduceIte,qE,qA,qL,qD,undefA,zE]
    exact ⟨_,Co.keep _ (by simp [x_upd,x_look]),rfl⟩
   ·simp only [xq,reduceIte,qE,qA,qL,qD,Tl.ds,stRows_len,hxr,hyr,Stp.ds,zQ,undefA,zE]
    repeat refine And.intro (by omega) ?_
    refine c_fn (hcs) rfl ?_;simp only [xq,reduceIte,qE,qA,qL,qD]
    exact ⟨_,Co.keep _ (by simp [x_upd,x_look]),rfl⟩
  rintro _ rfl
  refine W_cond rfl (fun h2=>?_) (fun h2=>W_skip ?_)
  ·refine wR ?_;simp only [xq,reduceIte,qE,qA,qL,qD]
   refine W_ret (fin _ _ false rfl ?_)
   refine decide_eq_false ?_
   rintro rfl
   rw [← hy] at hx
   subst hx
   simp at h2
  ·have hxy:x=y:=by
    simp only [Bool.or_eq_false_iff,Bool.not_eq_false',decide_eq_true_eq] at h2
    cases x;cases y;simp only at h2;obtain ⟨rfl,rfl⟩:=h2;rfl
   simp only [xq,reduceIte,qE,qA,qL,qD]
   refine W_reg ?_;simp only [xq,reduceIte,qE,qA,qL,qD,w1]
   refine ⟨a.steps.length-(i+1),S (i+1),by omega,Co.keep _ (by simp [x_upd,x_look]),i+1,hlt,rfl,rfl,?_⟩
   rw [List.take_add_one,List.take_add_one,hpre,zB hlt,zB hltb,← hx,← hy,hxy]
 ·have hie:i=a.steps.length:=by simp at hc;omega
  subst hie
  rw [List.take_length,hlen,List.take_length] at hpre
  simp only [xq,reduceIte,qE,qA,qL,qD]
  refine wR ?_;simp only [xq,reduceIte,qE,qA,qL,qD]
  exact W_ret (fin _ _ true rfl (decide_eq_true (headT_eq h1 hpre)))
theorem MomsOk.of_mem:∀ {l:List Mom} {m x:Mom},MomsOk m l→x∈m::l→viewC x.view=0∧0≤x.time∧x.time≤maxT
 | [],m,x,h,hx=>by
  rw [List.mem_singleton] at hx;subst hx;exact h
 | y::l,m,x,h,hx=>by
  rcases List.mem_cons.1 hx with rfl | hx
  ·exact ⟨h.1,h.2.1,h.le⟩
  ·exact MomsOk.of_mem h.2.2.2 hx
set_option maxHeartbeats 2000000 in
theorem equalLaw21_fn {f fb fa fd fs:FuncId} (H:FnIs P f N [.t 4] (x_law21_TimelineEqual fb fa fd fs)) (hN:2≤N) (Hb:BuildOk Γ P fb) (Ha:FnP Γ P fa [] (.bool true)) (Hd:TAddOk Γ P fd) (Hs:TSameOk Γ P fs) (l:List Mom) (n:Int) (hn:0≤n∧n≤65535) :
  FnP Γ P f [mosA l,.sc (.int .u16 n)] (.bool true):=by
 refine .of_W H (by simpa using hN) ?_
 obtain ⟨r,hr⟩:∃ r,buildR l=r:=⟨_,rfl⟩
 have hb:=Hb l
 rw [hr] at hb
 unfold x_law21_TimelineEqual
 simp only [buE,tlA,Tl.ds,zU,zV] at hb
 refine wR ?_;simp only [xq,reduceIte,qE,qA,qL,qD]
 refine wR ?_;simp only [xq,reduceIte,qE,qA,qL,qD]
 refine c_fn (hb) rfl ?_;simp only [xq,reduceIte,qE,qA,qL,qD]
 refine W_co (s':=⟨look [(1,.sc (.int .u16 n)),(5,.ptr 0 1 0 0),(6,mosA r.2.1),(7,.bool r.2.2)],[tlB r.1]⟩) (Co.keep _ (by simp [x_upd,x_look])) ?_
 refine W_seq ?_
 refine wR ?_;simp only [xq,reduceIte,qE,qA,qL,qD]
 rcases buildR_ok hr with hz | ⟨m0,ins,rfl,hok,hin,hsm⟩
 ·refine W_cond (t:=true) (by simp [ev,x_upd,hz]) (fun _=>?_) (fun h=>by cases h)
  refine wR ?_;simp only [xq,reduceIte,qE,qA,qL,qD]
  refine c_fn (Ha) rfl ?_;simp only [xq,reduceIte,qE,qA,qL,qD]
  refine W_ret (.tmp ?_ rfl)
  simp only [x_upd,reduceIte]
 refine W_cond rfl (fun h=>by cases h) (fun _=>W_skip ?_)
 obtain ⟨m,hm⟩:∃ m,m=lastM m0 ins:=⟨_,rfl⟩
 have hlm:m∈m0::ins:=by
  have:=last_at (ins:=ins) (m0:=m0)
  rw [← hm] at this
  exact List.mem_of_getElem? this
 have hvm:=hok.of_mem hlm
 have htok:=tok_of hok hsm
 have hfv:finV (tlOf 0 m0 ins).base (tlOf 0 m0 ins).steps=m.view:=by rw [hm];exact finV_of hok
 have hadd:∀ k:Int,FnP Γ P fd [tlA (tlOf 0 m0 ins),vwA m.view,.int k] (tlE (if k<0∨maxT<k then (zeroT,2) else if k<m.time then (zeroT,10) else (tlOf 0 m0 ins,0))):=fun k=>by
  have:=Hd (tlOf 0 m0 ins) m.view k htok (hsm m hlm) (by rw [hfv];exact hsm m hlm)
  rw [addT_of hok (by omega) (by omega),← hm,if_neg (by simpa using hvm.1),if_pos rfl] at this
  exact this
 have hmg:(moRows (m0::ins)).getD ins.length []=m.ds:=by rw [List.getD_eq_getElem?_getD,moRows,List.getElem?_map,last_at,← hm];rfl
 generalize tlOf 0 m0 ins=t at *
 have w0:IntKind.i64.wrap (((ins.length+1:Nat):Int)-1)=(ins.length:Int):=by rw [i64_of (by omega)];omega
 simp only [xq,reduceIte,qE,qA,qL,qD]
 refine wR ?_;simp only [xq,reduceIte,qE,qA,qL,qD,moRows_len,hmg,Mom.ds,w0,zQ,hp_g0,hp_s0]
 repeat refine And.intro (by omega) ?_
 refine wR ?_;simp only [xq,reduceIte,qE,qA,qL,qD,Mom.ds]
 refine W_seq ?_
 refine wR ?_;simp only [xq,reduceIte,qE,qA,qL,qD]
 refine W_cond rfl (fun h1=>?_) (fun h1=>W_skip ?_)
 ·refine wR ?_;simp only [xq,reduceIte,qE,qA,qL,qD]
  refine c_fn (Ha) rfl ?_;simp only [xq,reduceIte,qE,qA,qL,qD]
  refine W_ret (.tmp ?_ rfl)
  simp only [x_upd,reduceIte]
 have h1:¬ (1099511557776:Int)<m.time:=by simpa using h1
 have w2:IntKind.i64.wrap (m.time+IntKind.i64.wrap n)=m.time+n:=by rw [i64_of (x:=n) (by omega),i64_of (by omega)]
 have w3:IntKind.i64.wrap (m.time-1)=m.time-1:=i64_of (by omega)
 have q1:=hadd (m.time+n)
 rw [if_neg (by simp only [maxT];omega),if_neg (by omega)] at q1
 obtain ⟨e,he1,q2⟩:∃ e,(e=10∨(m.time=0∧e=2))∧FnP Γ P fd [tlA t,vwA m.view,.int (m.time-1)] (tlE (zeroT,e)):=by
  have:=hadd (m.time-1)
  by_cases h0:m.time=0
  ·rw [if_pos (by omega)] at this;exact ⟨2,.inr ⟨h0,rfl⟩,this⟩
  ·rw [if_neg (by simp only [maxT];omega),if_pos (by omega)] at this;exact ⟨10,.inl rfl,this⟩
 have s1:=Hs t t
 have s2:FnP Γ P fs [tlA zeroT,.agg [.int 0,.int 0,.int 0,.int 0,.nil,.int 0,.int 0,.bool false,.nil]] (.bool (decide (zeroT=zeroT))):=(Hs zeroT zeroT).weak (.cons (.same rfl) (.cons frz_tlZ .nil))
 rw [decide_eq_true rfl] at s1 s2
 simp only [tlE,vwA,Vw.ds,tlA,Tl.ds,zU,zV] at q1 q2 s1 s2
 simp only [xq,reduceIte,qE,qA,qL,qD]
 refine wR ?_;simp only [xq,reduceIte,qE,qA,qL,qD,Tl.ds,Mom.ds,w2]
 refine c_fn (q1) rfl ?_;simp only [xq,reduceIte,qE,qA,qL,qD]
 refine wR ?_;simp only [xq,reduceIte,qE,qA,qL,qD,Tl.ds,Mom.ds,w3]
 refine c_fn (q2) rfl ?_;simp only [xq,reduceIte,qE,qA,qL,qD]
 have d0:decide ((0:Int)=0)=true:=by decide
 have d10:decide ((10:Int)=10)=true:=by decide
 have d2:decide ((2:Int)=2)=true:=by decide
 have d210:decide ((2:Int)=10)=false:=by decide
 refine W_sreg fun K hK=>?_
 have fin:∀ (sl:Nat→A) (h:Heap),sl 4 = .bool true→K ⟨sl,h⟩:=fun sl h h0=>hK _ (W_ret (.tmp h0 rfl))
 clear hK
 refine run_take 8 fun K1 hK1=>?_
 simp only [xq,reduceIte,qE,qA,qL,qD,d0,Tl.ds]
 refine c_fn (s1) rfl ?_;simp only [xq,reduceIte,qE,qA,qL,qD]
 refine hK1 _ ?_
 clear hK1 K1
 rcases he1 with rfl | ⟨h0,rfl⟩
 ·refine run_take 12 fun K1 hK1=>?_
  simp only [xq,reduceIte,qE,qA,qL,qD,d10,undefA,zE]
  refine hK1 _ ?_
  clear hK1 K1
  simp only [xq,reduceIte,qE,qA,qL,qD,Tl.ds,undefA,zE]
  refine c_fn (s2) rfl ?_;simp only [xq,reduceIte,qE,qA,qL,qD]
  refine c_fn (Ha) rfl ?_;simp only [xq,reduceIte,qE,qA,qL,qD]
  exact fin _ _ rfl
 ·refine run_take 12 fun K1 hK1=>?_
  simp only [xq,reduceIte,qE,qA,qL,qD,d210,d2,h0,d0,undefA,zE]
  refine hK1 _ ?_
  clear hK1 K1
  simp only [xq,reduceIte,qE,qA,qL,qD,Tl.ds,undefA,zE]
  refine c_fn (s2) rfl ?_;simp only [xq,reduceIte,qE,qA,qL,qD]
  refine c_fn (Ha) rfl ?_;simp only [xq,reduceIte,qE,qA,qL,qD]
  exact fin _ _ rfl
end Go.Proofs.YtlllnjhgjijnkaaDoor.Nx

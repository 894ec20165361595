import Derived.Test.YtigfbnglplbbpaaDoorNxI2
set_option linter.unusedSimpArgs false
set_option linter.unusedVariables false
set_option linter.unnecessarySimpa false
open List renaming getElem?_eq_getElem → zB, getD_eq_getElem?_getD → zC, map_cons → zU, map_nil → zV, mem_cons → zp, replicate_zero → zr
open Bool renaming true_eq_false → zE
open Nat renaming zero_le → zI
open Int renaming toNat_natCast → zQ
open Nat renaming reduceEqDiff → qE, reduceAdd → qA, reduceLT → qL, reduceLeDiff → qD
namespace Go.Proofs.YtigfbnglplbbpaaDoor.Nx
open Go
variable {P:Program} {N:Nat} {Γ:Tabs}
set_option maxHeartbeats 1000000 in
theorem match_fn {f:FuncId} (H:FnIs P f N [.t 4] x_scrolldiff_match) (hN:2≤N) (a b:Vw):FnP Γ P f [vwA a,vwA b] (.bool (matchV a b)):=by
  refine .of_W H (by simpa using hN) ?_
  unfold x_scrolldiff_match
  simp only [vwA,Vw.ds,zU,zV]
  refine W_seq (W_reg ?_);simp only [xq,reduceIte,qE,qA,qL,qD]
  unfold matchV
  cases e1:decide (a.height=b.height)
  · refine W_seq (W_reg ?_);simp only [xq,reduceIte,qE,qA,qL,qD,e1,undefA,zE,rwRows_len]
    refine W_ret (.tmp ?_ rfl)
    simp only [x_upd,reduceIte,Bool.false_and]
  · cases e2:decide ((a.rows.length:Int)=a.height)
    · refine W_seq (W_reg ?_);simp only [xq,reduceIte,qE,qA,qL,qD,e1,e2,undefA,zE,rwRows_len]
      refine W_ret (.tmp ?_ rfl)
      simp only [x_upd,reduceIte,Bool.false_and,Bool.and_false]
    · refine W_seq (W_reg ?_);simp only [xq,reduceIte,qE,qA,qL,qD,e1,e2,undefA,zE,rwRows_len]
      refine W_ret (.tmp ?_ rfl)
      simp only [x_upd,reduceIte,Bool.true_and]
theorem sequal_fn {f fe:FuncId} (H:FnIs P f N [.t 4] (x_scrolldiff_equal fe)) (hN:2≤N) (He:∀ a b:List Gl,FnP Γ P fe [.d (.sl eGl (glRows a)),.d (.sl eGl (glRows b))] (.bool (decide (a=b)))) (a b:List Gl) :
    FnP Γ P f [.d (.sl eGl (glRows a)),.d (.sl eGl (glRows b))] (.bool (decide (a=b))):=by
  refine .of_W H (by simpa using hN) ?_
  unfold x_scrolldiff_equal
  refine W_seq (W_reg ?_);simp only [xq,reduceIte,qE,qA,qL,qD]
  refine W_seq (W_reg ?_);simp only [xq,reduceIte,qE,qA,qL,qD]
  refine c_fn (He a b) rfl ?_;simp only [xq,reduceIte,qE,qA,qL,qD]
  refine W_ret (.tmp ?_ rfl)
  simp only [x_upd,reduceIte]
abbrev RowEqOk (Γ:Tabs) (P:Program) (f:FuncId):Prop:=∀ a b:List Gl,FnP Γ P f [.d (.sl eGl (glRows a)),.d (.sl eGl (glRows b))] (.bool (decide (a=b)))
theorem gain2_fn {f fe:FuncId} (H:FnIs P f N [.t 4] (x_scrolldiff_gain_2 fe)) (hN:3≤N) (He:RowEqOk Γ P fe) (a b:Vw) (i:Nat) (ha:i<a.rows.length) (hb:i<b.rows.length) :
    FnP Γ P f [.int i,.iptr a.ds,.iptr b.ds] (.bool (decide (a.rows.getD i []=b.rows.getD i []))):=by
  refine .of_W H (by simpa using hN) ?_
  have ga:a.rows.getD i []=a.rows[i]:=by rw [zC,zB ha];rfl
  have gb:b.rows.getD i []=b.rows[i]:=by rw [zC,zB hb];rfl
  unfold x_scrolldiff_gain_2
  refine W_seq (W_reg ?_);simp only [xq,reduceIte,qE,qA,qL,qD]
  refine W_seq (W_drw (by simp) ?_);simp only [xq,reduceIte,qE,qA,qL,qD,zr,List.append_nil,Vw.ds,rwRows_len,rwRows_get ha,rwRows_get hb,zQ]
  refine ⟨by omega,by omega,by omega,by omega,?_⟩
  refine c_fn (He a.rows[i] b.rows[i]) rfl ?_;simp only [xq,reduceIte,qE,qA,qL,qD]
  refine W_ret (.tmp ?_ rfl)
  simp only [x_upd,reduceIte,ga,gb]
theorem gain1_fn {f fe:FuncId} (H:FnIs P f N [.t 7] (x_scrolldiff_gain_1 fe)) (hN:6≤N) (He:RowEqOk Γ P fe) (a b:Vw) (top bot y:Int) (i:Nat) (hb:i<b.rows.length) (ht:0≤top) (hbo:bot≤a.rows.length) (hbl:b.rows.length≤1000) (hy : -1000≤y∧y≤1000) :
    FnP Γ P f [.int i,.iptr [.sc (.int .i64 y)],.iptr [.sc (.int .i64 top)],.iptr [.sc (.int .i64 bot)],.iptr a.ds,.iptr b.ds] (.bool (scrEq a.rows b.rows top bot y i)):=by
  refine .of_W H (by simpa using hN) ?_
  have gb:b.rows.getD i []=b.rows[i]:=by rw [zC,zB hb];rfl
  have w1:IntKind.i64.wrap ((i:Int)+y)=(i:Int)+y:=i64_of (by omega)
  unfold x_scrolldiff_gain_1
  refine W_seq (W_reg ?_);simp only [xq,reduceIte,qE,qA,qL,qD]
  refine W_seq ?_
  refine W_seq (W_reg ?_);simp only [xq,reduceIte,qE,qA,qL,qD,w1]
  let S:Bool→St:=fun c=>⟨look [(0,.int i),(4,.iptr a.ds),(5,.iptr b.ds),(8,.int ((i:Int)+y)),(19,.bool c)],[]⟩
  refine W_cut (· = S (decide (top≤(i:Int)+y)&&decide ((i:Int)+y<bot))) (W_reg ?_) ?_
  · cases e1:decide (top≤(i:Int)+y)
    · simp only [xq,reduceIte,qE,qA,qL,qD,e1,undefA,zE]
      exact ⟨_,Co.keep _ (by simp [x_upd,x_look]),rfl⟩
    · simp only [xq,reduceIte,qE,qA,qL,qD,e1,undefA,zE]
      exact ⟨_,Co.keep _ (by simp [x_upd,x_look]),rfl⟩
  rintro _ rfl
  simp only [S]
  refine W_cond rfl (fun hd=>?_) (fun hd=>W_skip ?_)
  · have hd:top≤(i:Int)+y∧(i:Int)+y<bot:=by simpa using hd
    obtain ⟨k,hk⟩:∃ k:Nat,(i:Int)+y=k:=⟨((i:Int)+y).toNat,by omega⟩
    have hka:k<a.rows.length:=by omega
    have ga:rowAt a.rows ((i:Int)+y)=a.rows[k]:=by rw [rowAt,hk,zQ,zC,zB hka];rfl
    rw [scrEq,if_pos hd,ga,gb]
    refine W_seq (W_drw (by simp) ?_);simp only [xq,reduceIte,qE,qA,qL,qD,zr,List.append_nil,Vw.ds,hk,rwRows_len,rwRows_get hka,rwRows_get hb,zQ]
    refine ⟨by omega,by omega,by omega,by omega,?_⟩
    refine c_fn (He a.rows[k] b.rows[i]) rfl ?_;simp only [xq,reduceIte,qE,qA,qL,qD]
    refine W_ret (.tmp ?_ rfl)
    simp only [x_upd,reduceIte]
  · have hd:¬ (top≤(i:Int)+y∧(i:Int)+y<bot):=by simpa using hd
    rw [scrEq,if_neg hd,gb]
    simp only [xq,reduceIte,qE,qA,qL,qD]
    refine W_seq (W_reg ?_);simp only [xq,reduceIte,qE,qA,qL,qD,Vw.ds,rwRows_len,rwRows_get hb,zQ,glRows_len]
    refine ⟨by omega,by omega,?_⟩
    refine W_ret (.tmp ?_ rfl)
    simp only [x_upd,reduceIte]
    congr 1
    rw [decide_eq_decide]
    constructor
    · intro h;exact List.eq_nil_of_length_eq_zero (by omega)
    · intro h;rw [h];rfl
theorem cntB_bnd (p:Nat→Bool) (t:Nat):∀ k,0≤cntB p t k∧cntB p t k≤k
  | 0=>by simp [cntB]
  | k+1=>by
    have:=cntB_bnd p t k
    rw [cntB]
    split<;>omega
theorem count_fn {f g:FuncId} {caps:List A} (H:FnIs P f N [.t 6] x_scrolldiff_count) (hN:3≤N) (top bot:Nat) (hb:bot≤1000) (htb:top≤bot) (p:Nat→Bool) (h0:A.underL 0 caps=true)
    (Hg:∀ i:Nat,top≤i→i<bot→FnP Γ P g ([.int i]++caps) (.bool (p i))):FnP Γ P f [.int top,.int bot,.fn g caps] (.int (cntB p top (bot-top))):=by
  refine .of_W H (by simpa using hN) ?_
  unfold x_scrolldiff_count
  refine W_seq (W_reg ?_);simp only [xq,reduceIte,qE,qA,qL,qD]
  refine W_seq (W_reg ?_);simp only [xq,reduceIte,qE,qA,qL,qD]
  refine W_seq ?_
  refine W_seq (W_reg ?_);simp only [xq,reduceIte,qE,qA,qL,qD]
  refine W_block ?_
  let S:Nat→St:=fun k=>⟨look [(1,.int bot),(2,.fn g caps),(7,.int (cntB p top k)),(8,.int ((top+k:Nat):Int))],[]⟩
  refine W_co (s':=S 0) (Co.keep _ (by simp [x_upd,x_look,cntB])) ?_
  refine W_loop (fun m s=>∃ k,top+k≤bot∧m=bot-(top+k)∧s=S k) ⟨0,by omega,rfl,rfl⟩ ?_
  rintro m s ⟨k,hk,rfl,rfl⟩
  have hcb:=cntB_bnd p top k
  simp only [S]
  refine W_seq ?_
  refine W_seq (W_reg ?_);simp only [xq,reduceIte,qE,qA,qL,qD]
  refine W_cond rfl (fun hc=>W_skip ?_) (fun hc=>W_exit ?_)
  · have hlt:top+k<bot:=by simp only [decide_eq_true_eq] at hc;omega
    have w1:IntKind.i64.wrap (((top+k:Nat):Int)+1)=((top+(k+1):Nat):Int):=by rw [i64_of (by omega)];omega
    have w2:IntKind.i64.wrap (cntB p top k+1)=cntB p top k+1:=i64_of (by omega)
    simp only [xq,reduceIte,qE,qA,qL,qD]
    refine W_seq (W_block ?_)
    refine W_seq (W_reg ?_);simp only [xq,reduceIte,qE,qA,qL,qD]
    refine c_clo (Hg (top+k) (by omega) hlt) (by simp [A.underL,A.under,h0]) ?_
    simp only [xq,reduceIte,qE,qA,qL,qD]
    refine W_cond rfl (fun hd=>?_) (fun hd=>W_skip ?_)
    · have hsu:cntB p top (k+1)=cntB p top k+1:=by rw [cntB,hd];rfl
      refine W_reg ?_;simp only [xq,reduceIte,qE,qA,qL,qD,w2]
      refine W_reg ?_;simp only [xq,reduceIte,qE,qA,qL,qD,w1]
      exact ⟨bot-(top+(k+1)),S (k+1),by omega,Co.keep _ (by simp [x_upd,x_look,hsu]),k+1,hlt,rfl,rfl⟩
    · have hsu:cntB p top (k+1)=cntB p top k:=by rw [cntB,hd];simp
      simp only [xq,reduceIte,qE,qA,qL,qD]
      refine W_reg ?_;simp only [xq,reduceIte,qE,qA,qL,qD,w1]
      exact ⟨bot-(top+(k+1)),S (k+1),by omega,Co.keep _ (by simp [x_upd,x_look,hsu]),k+1,hlt,rfl,rfl⟩
  · have hle:k=bot-top:=by simp only [decide_eq_false_iff_not] at hc;omega
    subst hle
    simp only [xq,reduceIte,qE,qA,qL,qD]
    refine W_seq (W_reg ?_);simp only [xq,reduceIte,qE,qA,qL,qD]
    refine W_ret (.tmp ?_ rfl)
    simp only [x_upd,reduceIte]
theorem gain_fn {f f1 fc f2:FuncId} (H:FnIs P f N [.t 10] (x_scrolldiff_gain f1 fc f2)) (hN:5≤N) (a b:Vw) (top bot:Nat) (y:Int) (hbl:b.rows.length≤1000) (hab:a.rows.length=b.rows.length) (htb:top≤bot) (hbo:bot≤a.rows.length) (hy : -1000≤y∧y≤1000)
    (H1:∀ i:Nat,i<b.rows.length→FnP Γ P f1 [.int i,.iptr [.sc (.int .i64 y)],.iptr [.sc (.int .i64 top)],.iptr [.sc (.int .i64 bot)],.iptr a.ds,.iptr b.ds] (.bool (scrEq a.rows b.rows top bot y i)))
    (H2:∀ i:Nat,i<b.rows.length→FnP Γ P f2 [.int i,.iptr a.ds,.iptr b.ds] (.bool (decide (a.rows.getD i []=b.rows.getD i []))))
    (Hc:∀ (g:FuncId) (caps:List A) (p:Nat→Bool),A.underL 0 caps=true→(∀ i:Nat,top≤i→i<bot→FnP Γ P g ([.int i]++caps) (.bool (p i)))→FnP Γ P fc [.int top,.int bot,.fn g caps] (.int (cntB p top (bot-top)))) :
    FnP Γ P f [vwA a,vwA b,.int top,.int bot,.int y] (.int (gainV a.rows b.rows top bot y)):=by
  refine .of_W H (by simpa using hN) ?_
  have c1:=Hc f1 [.iptr [.sc (.int .i64 y)],.iptr [.sc (.int .i64 top)],.iptr [.sc (.int .i64 bot)],.iptr a.ds,.iptr b.ds] (scrEq a.rows b.rows top bot y) rfl (fun i _ hi=>H1 i (by omega))
  have c2:=Hc f2 [.iptr a.ds,.iptr b.ds] (fun i=>decide (a.rows.getD i []=b.rows.getD i [])) rfl (fun i _ hi=>H2 i (by omega))
  have b1:=cntB_bnd (scrEq a.rows b.rows top bot y) top (bot-top)
  have b2:=cntB_bnd (fun i=>decide (a.rows.getD i []=b.rows.getD i [])) top (bot-top)
  have hg:gainV a.rows b.rows top bot y=cntB (scrEq a.rows b.rows top bot y) top (bot-top)-cntB (fun i=>decide (a.rows.getD i []=b.rows.getD i [])) top (bot-top):=by
    rw [gainV,zQ,show ((bot:Int)-(top:Int)).toNat=bot-top by omega]
  rw [hg]
  generalize cntB (scrEq a.rows b.rows top bot y) top (bot-top)=n1 at *
  generalize cntB (fun i=>decide (a.rows.getD i []=b.rows.getD i [])) top (bot-top)=n2 at *
  have w1:IntKind.i64.wrap (n1-n2)=n1-n2:=i64_of (by omega)
  unfold x_scrolldiff_gain
  simp only [vwA,Vw.ds,zU,zV]
  refine W_seq (W_reg ?_);simp only [xq,reduceIte,qE,qA,qL,qD]
  let S:St:=⟨look [(5,.iptr a.ds),(6,.iptr b.ds),(7,.iptr [.sc (.int .i64 top)]),(8,.iptr [.sc (.int .i64 bot)]),(9,.iptr [.sc (.int .i64 y)])],[]⟩
  refine W_co (s':=S) (Co.frz _ 0 ?_ (zI _) (zI _) u0) ?_
  · intro p hp
    simp only [zp,List.not_mem_nil,or_false] at hp
    rcases hp with rfl | rfl | rfl | rfl | rfl
    · exact frz_box (zI _) (e:=eVw) (ds:=a.ds) rfl
    · exact frz_box (zI _) (e:=eVw) (ds:=b.ds) rfl
    · exact frz_box (zI _) (e:=eInt) (ds:=[.sc (.int .i64 top)]) rfl
    · exact frz_box (zI _) (e:=eInt) (ds:=[.sc (.int .i64 bot)]) rfl
    · exact frz_box (zI _) (e:=eInt) (ds:=[.sc (.int .i64 y)]) rfl
  simp only [S]
  refine W_seq (W_reg ?_);simp only [xq,reduceIte,qE,qA,qL,qD]
  refine c_fn (c1) rfl ?_;simp only [xq,reduceIte,qE,qA,qL,qD]
  refine W_seq (W_reg ?_);simp only [xq,reduceIte,qE,qA,qL,qD]
  refine c_fn (c2) rfl ?_;simp only [xq,reduceIte,qE,qA,qL,qD,w1]
  refine W_ret (.tmp ?_ rfl)
  simp only [x_upd,reduceIte]
end Go.Proofs.YtigfbnglplbbpaaDoor.Nx
namespace Go.Proofs.YtigfbnglplbbpaaDoor.Nx
open Go
variable {P:Program} {N:Nat} {Γ:Tabs}
def Cand.ds (c:Cand):List D:=[.sc (.int .i64 c.gain),.sc (.int .i64 c.top),.sc (.int .i64 c.bot),.sc (.int .i64 c.by')]
def caA (c:Cand):A:=.agg (c.ds.map .d)
abbrev caB (c:Cand):HB:=.cells ⟨4,32⟩ [c.ds.map .d]
theorem ca_eq (c d:Cand):((c.gain == d.gain)&&((c.top == d.top)&&((c.bot == d.bot)&&(c.by' == d.by'))))=decide (c=d):=by
  cases c;cases d
  rw [Bool.eq_iff_iff]
  simp
theorem ca_eq0 (c:Cand):((c.gain == 0)&&((c.top == 0)&&((c.bot == 0)&&(c.by' == 0))))=decide (c=cand0):=ca_eq c cand0
theorem abs_mm {y:Int}:minmaxInt true y (0-y)=absI y:=by
  unfold minmaxInt absI
  simp only [if_true]
  split<;>omega
theorem under_vwB' {v:Vw} {k:Nat}:HB.under k (vwB v):=by
  intro r hr x hx
  simp only [List.mem_singleton] at hr
  subst hr
  obtain ⟨d,_,rfl⟩:=List.mem_map.1 hx
  rfl
theorem under_caB {c:Cand} {k:Nat}:HB.under k (caB c):=by
  intro r hr x hx
  simp only [List.mem_singleton] at hr
  subst hr
  obtain ⟨d,_,rfl⟩:=List.mem_map.1 hx
  rfl
set_option maxHeartbeats 1000000 in
theorem better_fn {f:FuncId} (H:FnIs P f N [.t 4] x_scrolldiff_candidate_better) (hN:2≤N) (c d:Cand) (hc : -1000≤c.by'∧c.by'≤1000) (hd : -1000≤d.by'∧d.by'≤1000):FnP Γ P f [caA c,caA d] (.bool (betterC c d)):=by
  refine .of_W H (by simpa using hN) ?_
  have w1:IntKind.i64.wrap (0-c.by')=0-c.by':=i64_of (by omega)
  have w2:IntKind.i64.wrap (0-d.by')=0-d.by':=i64_of (by omega)
  unfold x_scrolldiff_candidate_better
  simp only [caA,Cand.ds,zU,zV]
  refine W_seq (W_reg ?_);simp only [xq,reduceIte,qE,qA,qL,qD]
  refine W_seq (W_block ?_)
  refine W_seq (W_reg ?_);simp only [xq,reduceIte,qE,qA,qL,qD,ca_eq]
  repeat refine And.intro (by omega) ?_
  refine W_cond rfl (fun h0=>?_) (fun h0=>?_)
  · have h0:=of_decide_eq_true h0
    refine W_seq (W_reg ?_);simp only [xq,reduceIte,qE,qA,qL,qD]
    refine W_ret ?_
    simp only [xq,reduceIte,qE,qA,qL,qD]
    refine .tmp ?_ rfl
    simp only [x_upd,reduceIte,betterC,if_pos h0]
  have h0:=of_decide_eq_false h0
  refine W_seq (W_reg ?_);simp only [xq,reduceIte,qE,qA,qL,qD]
  refine W_cond rfl (fun h1=>?_) (fun h1=>?_)
  · have h1:c.gain≠d.gain:=by simpa using h1
    refine W_seq (W_reg ?_);simp only [xq,reduceIte,qE,qA,qL,qD]
    refine W_ret ?_
    simp only [xq,reduceIte,qE,qA,qL,qD]
    refine .tmp ?_ rfl
    simp only [x_upd,reduceIte,betterC,if_neg h0,if_pos h1]
  have h1:¬ c.gain≠d.gain:=by simpa using h1
  refine W_seq (W_reg ?_);simp only [xq,reduceIte,qE,qA,qL,qD,w1,w2,abs_mm]
  refine W_cond rfl (fun h2=>?_) (fun h2=>?_)
  · have h2:absI c.by'≠absI d.by':=by simpa using h2
    refine W_seq (W_reg ?_);simp only [xq,reduceIte,qE,qA,qL,qD,w1,w2,abs_mm]
    refine W_ret ?_
    simp only [xq,reduceIte,qE,qA,qL,qD]
    refine .tmp ?_ rfl
    simp only [x_upd,reduceIte,betterC,if_neg h0,if_neg h1,if_pos h2]
  have h2:¬ absI c.by'≠absI d.by':=by simpa using h2
  refine W_seq (W_reg ?_);simp only [xq,reduceIte,qE,qA,qL,qD]
  refine W_cond rfl (fun h3=>?_) (fun h3=>?_)
  · have h3:c.by'≠d.by':=by simpa using h3
    refine W_seq (W_reg ?_);simp only [xq,reduceIte,qE,qA,qL,qD]
    refine W_ret ?_
    simp only [xq,reduceIte,qE,qA,qL,qD]
    refine .tmp ?_ rfl
    simp only [x_upd,reduceIte,betterC,if_neg h0,if_neg h1,if_neg h2,if_pos h3]
  have h3:¬ c.by'≠d.by':=by simpa using h3
  refine W_seq (W_reg ?_);simp only [xq,reduceIte,qE,qA,qL,qD]
  refine W_cond rfl (fun h4=>?_) (fun h4=>W_skip ?_)
  · have h4:c.top≠d.top:=by simpa using h4
    refine W_seq (W_reg ?_);simp only [xq,reduceIte,qE,qA,qL,qD]
    refine W_ret ?_
    simp only [xq,reduceIte,qE,qA,qL,qD]
    refine .tmp ?_ rfl
    simp only [x_upd,reduceIte,betterC,if_neg h0,if_neg h1,if_neg h2,if_neg h3,if_pos h4]
  have h4:¬ c.top≠d.top:=by simpa using h4
  simp only [xq,reduceIte,qE,qA,qL,qD]
  refine W_seq (W_reg ?_);simp only [xq,reduceIte,qE,qA,qL,qD]
  refine W_ret (.tmp ?_ rfl)
  simp only [x_upd,reduceIte,betterC,if_neg h0,if_neg h1,if_neg h2,if_neg h3,if_neg h4]
def CandOk (c:Cand):Prop := -1000≤c.by'∧c.by'≤1000
def candCond (a b:List (List Gl)) (y top:Int) (best:Cand) (bot:Int):Bool:=decide (2≤gainV a b top bot y)&&(decide (best=cand0)||betterC ⟨gainV a b top bot y,top,bot,y⟩ best)
theorem stepC_if {a b:List (List Gl)} {y top bot:Int} {best:Cand}:stepC a b y top best bot=if candCond a b y top best bot=true then ⟨gainV a b top bot y,top,bot,y⟩ else best:=by
  unfold stepC candCond
  congr 1
  simp only [Bool.and_eq_true,Bool.or_eq_true,decide_eq_true_eq]
def fndA (x:Cg × Bool):A:=.tup [cgA x.1,.bool x.2]
abbrev GainOk (Γ:Tabs) (P:Program) (f:FuncId) (a b:Vw):Prop:=∀ (top bot:Nat) (y:Int),top≤bot→bot≤a.rows.length → -1000≤y∧y≤1000→FnP Γ P f [vwA a,vwA b,.int top,.int bot,.int y] (.int (gainV a.rows b.rows top bot y))
set_option maxHeartbeats 2000000 in
theorem find_fn {f fm fg fb:FuncId} (H:FnIs P f N [.c 4 6 true,.t 5] (x_scrolldiff_Find fm fg fb)) (hN:2≤N) (a b:Vw) (hal:a.rows.length≤1000) (Hm:FnP Γ P fm [vwA a,vwA b] (.bool (matchV a b)))
    (Hg:matchV a b=true→GainOk Γ P fg a b) (Hb:∀ c d:Cand,CandOk c→CandOk d→FnP Γ P fb [caA c,caA d] (.bool (betterC c d))) :
    FnP Γ P f [vwA a,vwA b] (fndA (findV a b)):=by
  refine .of_W H (by simpa using hN) ?_
  unfold x_scrolldiff_Find
  have hm0:=Hm
  simp only [vwA,Vw.ds,zU,zV] at hm0 ⊢
  refine W_seq (W_reg ?_);simp only [xq,reduceIte,qE,qA,qL,qD]
  refine W_seq ?_
  refine W_seq (W_reg ?_);simp only [xq,reduceIte,qE,qA,qL,qD]
  refine c_fn (hm0) rfl ?_;simp only [xq,reduceIte,qE,qA,qL,qD]
  refine W_cond rfl (fun hk=>?_) (fun hk=>W_skip ?_)
  · have hk:matchV a b=false:=by simpa using hk
    refine W_seq (W_reg ?_);simp only [xq,reduceIte,qE,qA,qL,qD]
    refine W_ret ⟨.inr rfl,?_⟩
    simp only [readRs,readR,single,x_upd,reduceIte,qE,x_look,argS,xq,reduceIte,qE,qA,qL,qD,loadsTo]
    rw [findV,if_neg (by rw [hk];decide)]
    refine frzT2 (.agg rfl fun j y hj=>?_) (.same rfl)
    rcases j with _ | _ | _ | _ | _ | _ | j
    · cases hj;exact .same rfl
    · cases hj;exact .same rfl
    · cases hj;exact .same rfl
    · cases hj;exact .same rfl
    · cases hj;exact .same rfl
    · cases hj;exact .d (.nil _)
    · simp [Cg.ds] at hj
  have hk:matchV a b=true:=by simpa using hk
  have Hg:=Hg hk
  simp only [xq,reduceIte,qE,qA,qL,qD]
  refine W_seq (W_reg ?_);simp only [xq,reduceIte,qE,qA,qL,qD,rwRows_len]
  refine W_seq (W_reg ?_);simp only [xq,reduceIte,qE,qA,qL,qD]
  obtain ⟨n,hn⟩:∃ n,n=a.rows.length:=⟨_,rfl⟩
  rw [← hn] at hal
  let zc:HB:=.cells eCg [[.int 0,.int 0,.int 0,.int 0,.int 0,.nil]]
  let Hp:Cand→Heap:=fun c=>[vwB a,vwB b,zc,caB c]
  have huH:∀ c,∀ B∈Hp c,HB.under 4 B:=by
    intro c B hB
    simp only [Hp,zp,List.not_mem_nil,or_false] at hB
    rcases hB with rfl | rfl | rfl | rfl
    · exact under_vwB'
    · exact under_vwB'
    · intro r hr x hx
      simp only [List.mem_singleton] at hr
      subst hr
      simp only [zp,List.not_mem_nil,or_false] at hx
      rcases hx with rfl | rfl | rfl | rfl | rfl | rfl<;>rfl
    · exact under_caB
  have tr:∀ (l:List (Nat × A)) (sl:Nat→A) (c:Cand) (t:Heap),(∀ p∈l,sl p.1=p.2∧p.2.under 4=true)→Co 0 ⟨sl,Hp c++t⟩ ⟨look l,Hp c⟩:=fun l sl c t hl=>by
    have:=Co.to (n0:=0) (s:=⟨sl,Hp c++t⟩) l 4 hl (zI _) (by simp [Hp]) (by simpa [Hp] using huH c)
    simpa [Hp] using this
  let base:List (Nat × A):=[(2,.ptr 0 1 0 0),(3,.ptr 1 1 0 0),(4,.ptr 2 1 0 0),(6,.int n),(7,.ptr 3 1 0 0)]
  refine W_cut (· = ⟨look [(4,.ptr 2 1 0 0),(7,.ptr 3 1 0 0)],Hp (bestC a.rows b.rows n)⟩) ?_ ?_
  · have w0:IntKind.i64.wrap (1-(n:Int))=1-(n:Int):=i64_of (by omega)
    refine W_seq (W_reg ?_);simp only [xq,reduceIte,qE,qA,qL,qD,← hn,w0]
    refine W_block ?_
    let S1:Int→Cand→St:=fun y c=>⟨look ((8,.int y)::base),Hp c⟩
    refine W_co (s':=S1 (1-n) cand0) (Co.keep _ (by simp [base,x_upd,x_look,← hn])) ?_
    refine W_loop (fun m s=>∃ y c,m=((n:Int)-y).toNat∧s=S1 y c∧CandOk c∧1-(n:Int)≤y∧(y≤n∨n=0)∧byC a.rows b.rows n ((n:Int)-y).toNat y c=bestC a.rows b.rows n) ⟨1-n,cand0,rfl,rfl,⟨by simp [cand0],by simp [cand0]⟩,by omega,by omega,by rw [bestC,show ((n:Int)-(1-n)).toNat=2 * n-1 by omega]⟩ ?_
    rintro m s ⟨y,c,rfl,rfl,hcok,hy1,hy2,hby⟩
    simp only [S1,base]
    refine W_seq ?_
    refine W_seq (W_reg ?_);simp only [xq,reduceIte,qE,qA,qL,qD]
    refine W_cond rfl (fun hc=>W_skip ?_) (fun hc=>W_exit ?_)
    · have hlt:y<n:=of_decide_eq_true hc
      obtain ⟨r,hr⟩:∃ r,((n:Int)-y).toNat=r+1:=⟨((n:Int)-y).toNat-1,by omega⟩
      rw [hr,byC] at hby
      have wy:IntKind.i64.wrap (y+1)=y+1:=i64_of (by omega)
      simp only [xq,reduceIte,qE,qA,qL,qD]
      refine W_seq (W_block ?_)
      refine W_seq (W_reg ?_);simp only [xq,reduceIte,qE,qA,qL,qD]
      refine W_block ?_
      let S2:Nat→Cand→St:=fun t c=>⟨look ((27,.int n)::(28,.int t)::(8,.int y)::base),Hp c⟩
      refine W_co (s':=S2 0 c) (Co.keep _ (by simp [base,x_upd,x_look])) ?_
      obtain ⟨fin,hfin⟩:∃ fin,fin=topC a.rows b.rows n y n 0 c:=⟨_,rfl⟩
      rw [← hfin] at hby
      refine W_loop (fun m s=>∃ t c,t≤n∧m=n-t∧s=S2 t c∧CandOk c∧topC a.rows b.rows n y (n-t) t c=fin) ⟨0,c,zI _,rfl,rfl,hcok,by rw [hfin];rfl⟩ ?_
      clear hcok hfin c
      rintro m s ⟨t,c,ht,rfl,rfl,hcok,htop⟩
      simp only [S2,base]
      refine W_seq (W_reg ?_);simp only [xq,reduceIte,qE,qA,qL,qD]
      refine W_seq (W_cond rfl (fun hc=>W_skip ?_) (fun hc=>W_exit ?_))
      · have hlt2:t<n:=by simpa using hc
        obtain ⟨r2,hr2⟩:∃ r,n-t=r+1:=⟨n-t-1,by omega⟩
        rw [hr2,topC] at htop
        have wt:IntKind.i64.wrap ((t:Int)+1)=((t+1:Nat):Int):=by rw [i64_of (by omega)];omega
        have wn:IntKind.i64.wrap (0-y)=0-y:=i64_of (by omega)
        have ha:0≤absI y∧absI y≤1000:=by unfold absI;omega
        have wa:IntKind.i64.wrap ((t:Int)+absI y)=(t:Int)+absI y:=i64_of (by omega)
        have wb:IntKind.i64.wrap ((t:Int)+absI y+1)=(t:Int)+absI y+1:=i64_of (by omega)
        obtain ⟨bt,hbt⟩:∃ bt:Nat,(t:Int)+absI y+1=bt:=⟨((t:Int)+absI y+1).toNat,by omega⟩
        simp only [xq,reduceIte,qE,qA,qL,qD]
        refine W_seq (W_block ?_)
        refine W_seq (W_reg ?_);simp only [xq,reduceIte,qE,qA,qL,qD]
        refine W_seq (W_reg ?_);simp only [xq,reduceIte,qE,qA,qL,qD,wn,abs_mm,wa,wb]
        refine W_block ?_
        let S3:Nat→Cand→St:=fun u c=>⟨look ((27,.int n)::(28,.int t)::(8,.int y)::(9,.int t)::(10,.int u)::base),Hp c⟩
        refine W_co (s':=S3 bt c) (Co.keep _ (by simp [base,x_upd,x_look,hbt])) ?_
        obtain ⟨fin2,hfin2⟩:∃ fin,fin=(if y=0 then c else botC a.rows b.rows y t ((n:Int)+1-((t:Int)+absI y+1)).toNat ((t:Int)+absI y+1) c):=⟨_,rfl⟩
        rw [← hfin2] at htop
        have ht0:t+1≤bt:=by omega
        refine W_loop (fun m s=>∃ u c,t+1≤u∧m=n+1-u∧s=S3 u c∧CandOk c∧(if y=0 then c else botC a.rows b.rows y t ((n:Int)+1-u).toNat u c)=fin2) ⟨bt,c,ht0,rfl,rfl,hcok,by rw [hfin2,hbt]⟩ ?_
        clear hcok hfin2 hbt ht0 c
        rintro m s ⟨u,c,hu,rfl,rfl,hcok,hbot⟩
        simp only [S3,base]
        let T3:Bool→St:=fun z=>⟨look ((44,.bool z)::(27,.int n)::(28,.int t)::(8,.int y)::(9,.int t)::(10,.int u)::base),Hp c⟩
        refine W_seq (W_cut (· = T3 (!decide (y=0)&&decide ((u:Int)≤n))) (W_reg ?_) ?_)
        · cases e1:decide (y=0)
          · simp only [xq,reduceIte,qE,qA,qL,qD,e1,undefA,zE]
            exact ⟨_,Co.keep _ (by simp [base,x_upd,x_look]),rfl⟩
          · simp only [xq,reduceIte,qE,qA,qL,qD,e1,undefA,zE]
            exact ⟨_,Co.keep _ (by simp [base,x_upd,x_look]),rfl⟩
        rintro _ rfl
        simp only [T3,base]
        refine W_cond rfl (fun hc=>W_skip ?_) (fun hc=>W_exit ?_)
        · obtain ⟨hy0,hun⟩:¬ y=0∧u≤n:=by
            simp only [Bool.and_eq_true,Bool.not_eq_true',decide_eq_false_iff_not,decide_eq_true_eq] at hc
            exact ⟨hc.1,by omega⟩
          obtain ⟨r3,hr3⟩:∃ r,((n:Int)+1-u).toNat=r+1:=⟨((n:Int)+1-u).toNat-1,by omega⟩
          rw [if_neg hy0,hr3,botC,stepC_if] at hbot
          have wu:IntKind.i64.wrap ((u:Int)+1)=((u+1:Nat):Int):=by rw [i64_of (by omega)];omega
          have hG:=Hg t u y (by omega) (by omega) (by omega)
          simp only [vwA,Vw.ds,zU,zV] at hG
          obtain ⟨g,hgd⟩:∃ g,g=gainV a.rows b.rows t u y:=⟨_,rfl⟩
          obtain ⟨cc,hcc⟩:∃ cc:Bool,cc=candCond a.rows b.rows y t c u:=⟨_,rfl⟩
          have hcc2:=hcc
          rw [candCond] at hcc2
          rw [← hgd] at hG hbot hcc2
          rw [← hcc] at hbot
          have hcd:CandOk ⟨g,t,u,y⟩:=⟨by simp only;omega,by simp only;omega⟩
          have hB:=Hb ⟨g,t,u,y⟩ c hcd hcok
          simp only [caA,Cand.ds,zU,zV] at hB
          simp only [xq,reduceIte,qE,qA,qL,qD]
          refine W_seq (W_block ?_)
          refine W_seq (W_reg ?_);simp only [xq,reduceIte,qE,qA,qL,qD,Hp,Vw.ds]
          refine c_fn (hG) rfl ?_;simp only [xq,reduceIte,qE,qA,qL,qD]
          let T4:Bool→St:=fun z=>⟨look ((69,.bool z)::(11,.ptr 4 1 0 0)::(27,.int n)::(28,.int t)::(8,.int y)::(9,.int t)::(10,.int u)::base),Hp c++[caB ⟨g,t,u,y⟩]⟩
          refine W_cut (· = T4 cc) (W_reg ?_) ?_
          · rw [hcc2]
            cases e1:decide (2≤g)
            · simp only [xq,reduceIte,qE,qA,qL,qD,e1,undefA,zE]
              exact ⟨_,Co.keep _ (by simp [base,x_upd,x_look]),rfl⟩
            · cases e2:decide (c=cand0)
              · simp only [xq,reduceIte,qE,qA,qL,qD,e1,Cand.ds,ca_eq0,e2,undefA,zE]
                repeat refine And.intro (by omega) ?_
                refine c_fn (hB) rfl ?_;simp only [xq,reduceIte,qE,qA,qL,qD,undefA,zE]
                exact ⟨_,Co.keep _ (by simp [base,x_upd,x_look]),rfl⟩
              · simp only [xq,reduceIte,qE,qA,qL,qD,e1,Cand.ds,ca_eq0,e2,undefA,zE]
                repeat refine And.intro (by omega) ?_
                exact ⟨_,Co.keep _ (by simp [base,x_upd,x_look]),rfl⟩
          rintro _ rfl
          simp only [T4,base,Hp]
          refine W_cond rfl (fun hz=>?_) (fun hz=>W_skip ?_)
          · rw [hz,if_pos rfl] at hbot
            refine W_reg ?_;simp only [xq,reduceIte,qE,qA,qL,qD,Cand.ds]
            refine W_reg ?_;simp only [xq,reduceIte,qE,qA,qL,qD,wu]
            refine ⟨n+1-(u+1),S3 (u+1) ⟨g,t,u,y⟩,by omega,tr _ _ ⟨g,t,u,y⟩ [caB ⟨g,t,u,y⟩] ?_,u+1,_,by omega,rfl,rfl,hcd,?_⟩
            · simp [base,x_upd,x_look,A.under]
            · rw [if_neg hy0,show ((n:Int)+1-((u+1:Nat):Int)).toNat=r3 by omega,show ((u+1:Nat):Int)=(u:Int)+1 by omega];exact hbot
          · rw [hz,if_neg (by decide)] at hbot
            simp only [xq,reduceIte,qE,qA,qL,qD]
            refine W_reg ?_;simp only [xq,reduceIte,qE,qA,qL,qD,wu]
            refine ⟨n+1-(u+1),S3 (u+1) c,by omega,tr _ _ c [caB ⟨g,t,u,y⟩] ?_,u+1,_,by omega,rfl,rfl,hcok,?_⟩
            · simp [base,x_upd,x_look,A.under]
            · rw [if_neg hy0,show ((n:Int)+1-((u+1:Nat):Int)).toNat=r3 by omega,show ((u+1:Nat):Int)=(u:Int)+1 by omega];exact hbot
        · have hend:(if y=0 then c else botC a.rows b.rows y t ((n:Int)+1-u).toNat u c)=c:=by
            simp only [Bool.and_eq_false_iff,Bool.not_eq_false',decide_eq_false_iff_not,decide_eq_true_eq] at hc
            split
            · rfl
            · rename_i hy0
              have:((n:Int)+1-u).toNat=0:=by
                rcases hc with hc | hc
                · exact absurd hc hy0
                · omega
              rw [this,botC]
          rw [hend] at hbot
          rw [← hbot] at htop
          simp only [xq,reduceIte,qE,qA,qL,qD]
          refine W_reg ?_;simp only [xq,reduceIte,qE,qA,qL,qD,wt]
          refine ⟨n-(t+1),S2 (t+1) c,by omega,Co.keep _ (by simp [base,x_upd,x_look]),t+1,c,hlt2,rfl,rfl,hcok,?_⟩
          rw [show n-(t+1)=r2 by omega];exact htop
      · have hle:t=n:=by simp at hc;omega
        subst hle
        rw [Nat.sub_self,topC] at htop
        rw [← htop] at hby
        simp only [xq,reduceIte,qE,qA,qL,qD]
        refine W_reg ?_;simp only [xq,reduceIte,qE,qA,qL,qD,wy]
        refine ⟨((t:Int)-(y+1)).toNat,S1 (y+1) c,by omega,Co.keep _ (by simp [base,x_upd,x_look]),y+1,c,rfl,rfl,hcok,by omega,by omega,?_⟩
        rw [show ((t:Int)-(y+1)).toNat=r by omega];exact hby
    · have hge:¬ y<n:=of_decide_eq_false hc
      rw [show ((n:Int)-y).toNat=0 by omega,byC] at hby
      simp only [xq,reduceIte,qE,qA,qL,qD]
      exact ⟨_,Co.keep [(4,.ptr 2 1 0 0),(7,.ptr 3 1 0 0)] (by simp [x_upd,x_look]),by rw [hby]⟩
  rintro _ rfl
  have hfd:findV a b=if (bestC a.rows b.rows n).gain<2 then (⟨0,0,0,0,0,[]⟩,false) else (⟨2,(bestC a.rows b.rows n).top,0,(bestC a.rows b.rows n).by',(bestC a.rows b.rows n).bot,[]⟩,true):=by
    rw [findV,if_pos hk,← hn]
  rw [hfd]
  generalize bestC a.rows b.rows n=c
  refine W_seq ?_
  refine W_seq (W_reg ?_);simp only [xq,reduceIte,qE,qA,qL,qD,Hp,Cand.ds]
  have frz6:∀ (h:Heap) (p q r s t:Int) (z:Bool),FrzA 0 h (.tup [.agg [.int p,.int q,.int r,.int s,.int t,.nil],.bool z]) (fndA (⟨p,q,r,s,t,[]⟩,z)):=fun h p q r s t z=>by
    refine frzT2 (.agg rfl fun j y hj=>?_) (.same rfl)
    rcases j with _ | _ | _ | _ | _ | _ | j
    · cases hj;exact .same rfl
    · cases hj;exact .same rfl
    · cases hj;exact .same rfl
    · cases hj;exact .same rfl
    · cases hj;exact .same rfl
    · cases hj;exact .d (.nil _)
    · simp [Cg.ds] at hj
  refine W_cond rfl (fun hd=>?_) (fun hd=>W_skip ?_)
  · have hd:=of_decide_eq_true hd
    rw [if_pos hd]
    refine W_seq (W_reg ?_);simp only [xq,reduceIte,qE,qA,qL,qD,zc]
    refine W_ret ⟨.inr rfl,?_⟩
    simp only [readRs,readR,single,x_upd,reduceIte,qE,x_look,argS,xq,reduceIte,qE,qA,qL,qD,loadsTo]
    exact frz6 _ _ _ _ _ _ _
  · have hd:=of_decide_eq_false hd
    rw [if_neg hd]
    simp only [xq,reduceIte,qE,qA,qL,qD]
    refine W_seq (W_reg ?_);simp only [xq,reduceIte,qE,qA,qL,qD,zc,Cand.ds]
    refine W_ret ⟨.inr rfl,?_⟩
    simp only [readRs,readR,single,x_upd,reduceIte,qE,x_look,argS,xq,reduceIte,qE,qA,qL,qD,loadsTo]
    exact frz6 _ _ _ _ _ _ _
end Go.Proofs.YtigfbnglplbbpaaDoor.Nx

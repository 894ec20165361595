import Derived.Test.YtigfbnglplbbpaaDoorNxI20
import Derived.Test.YtigfbnglplbbpaaDoorNxDL
set_option linter.unusedSimpArgs false
set_option linter.unusedVariables false
set_option linter.unnecessarySimpa false
open List renaming getElem?_eq_getElem → zB, getD_eq_getElem?_getD → zC, getElem_mem → zi, replicate_zero → zr
open Bool renaming true_eq_false → zE
open Int renaming toNat_natCast → zQ
open Nat renaming reduceEqDiff → qE, reduceAdd → qA, reduceLT → qL, reduceLeDiff → qD
namespace Go.Proofs.YtigfbnglplbbpaaDoor.Nx
open Go
variable {P:Program} {N:Nat} {Γ:Tabs}
abbrev CostGOk (Γ:Tabs) (P:Program) (f:FuncId):Prop:=∀ l:List Cg,l.length≤1000000→(∀ c∈l,c.gl.length≤1000000)→FnP Γ P f [cgsA l] (.int (costG l))
theorem sumI_succ (f:Nat→Int) {l:List Nat} {j:Nat} (hj:j<l.length):sumI f (l.take (j+1))=sumI f (l.take j)+f l[j]:=by
  rw [List.take_add_one,zB hj,Option.toList_some,sumI_app,sumI,sumI,Int.add_zero]
theorem sumI_bnd {f:Nat→Int} {M:Nat} (h:∀ i,0≤f i∧f i≤M):∀ (l:List Nat),0≤sumI f l∧sumI f l≤l.length * M
  | []=>by simp [sumI]
  | i::l=>by
    have ih:=sumI_bnd h l
    have:=h i
    have e:(((i::l).length:Nat):Int) * M=(l.length:Int) * M+M:=by rw [List.length_cons];push_cast;rw [Int.add_mul];omega
    rw [sumI,e];omega
set_option maxHeartbeats 4000000 in
theorem costLaw20_fn {f fs fa fr fsp fk fd fc:FuncId} (H:FnIs P f N [.t 4] (x_law20_ViewdiffCost fs fa fr fsp fk fd fc)) (hN:2≤N) (Hs:SmallOk Γ P fs) (Ha:FnP Γ P fa [] (.bool true)) (Hr:Rows20Ok Γ P fr) (Hsp:SplOk Γ P fsp) (Hk:CostGOk Γ P fk) (Hd:DiffOk Γ P fd) (Hc:CostOk Γ P fc) (a b:Vw) :
    FnP Γ P f [vwA a,vwA b] (.bool true):=by
  refine .of_W H (by simpa using hN) ?_
  have hs:=Hs a b
  unfold x_law20_ViewdiffCost
  simp only [vwA,Vw.ds,List.map_cons,List.map_nil] at hs ⊢
  refine W_seq (W_reg ?_);simp only [xq,reduceIte,qE,qA,qL,qD]
  refine W_co (frz_boxes (a:=a) (b:=b) (t:=[]) (h:=[]) [] (by simp [x_upd,x_look]) (by simp [x_upd,x_look]) (by simp)) ?_
  obtain ⟨sl,hsl⟩:∃ s,s=smallV a b:=⟨_,rfl⟩
  rw [← hsl] at hs
  refine W_seq (W_cut (· = ⟨look [(2,.iptr a.ds),(3,.iptr b.ds),(27,.bool (!((sl&&decide (a.width=b.width))&&decide (a.height=b.height))))],[]⟩) (W_reg ?_) ?_)
  · refine run_take 5 fun K1 hK1=>?_
    simp only [xq,reduceIte,qE,qA,qL,qD,Vw.ds]
    refine c_fn (hs) rfl ?_;simp only [xq,reduceIte,qE,qA,qL,qD]
    refine hK1 _ ?_
    cases sl
    · simp only [xq,reduceIte,qE,qA,qL,qD,undefA,zE]
      exact ⟨_,Co.keep _ (by simp [x_upd,x_look,Vw.ds]),rfl⟩
    · cases e1:decide (a.width=b.width)
      · simp only [xq,reduceIte,qE,qA,qL,qD,e1,undefA,zE]
        exact ⟨_,Co.keep _ (by simp [x_upd,x_look,Vw.ds]),rfl⟩
      · simp only [xq,reduceIte,qE,qA,qL,qD,e1,undefA,zE]
        exact ⟨_,Co.keep _ (by simp [x_upd,x_look,Vw.ds]),rfl⟩
  rintro _ rfl
  refine W_cond rfl (fun hc=>?_) (fun hc=>W_skip ?_)
  · refine W_seq (W_reg ?_);simp only [xq,reduceIte,qE,qA,qL,qD]
    refine c_fn (Ha) rfl ?_;simp only [xq,reduceIte,qE,qA,qL,qD]
    refine W_ret (.tmp ?_ rfl)
    simp only [x_upd,reduceIte]
  rw [hsl] at hc
  obtain ⟨⟨hsm,hw⟩,hh⟩:(smallV a b=true∧a.width=b.width)∧a.height=b.height:=by simpa using hc
  obtain ⟨⟨sa,ra⟩,⟨sb,rb⟩,ha,hb⟩:=small20 hsm
  have la:=(viewC_zero.1 ha).1.len
  have lb:=(viewC_zero.1 hb).1.len
  have hd:=Hd a b sa sb
  have hr:=Hr a b (by omega) (by omega)
  have hcost:=Hc _ (diff_few sa sb (by omega))
  have hc1:=cost_alone ha hb hw hh
  have hc2:=alone_most a b
  have hal:aloneV a b=curCost a b+sumI (spCost a b) (rows20 a b):=rfl
  have hmo:mostV a b=curCost a b+sumI (fun i=>2+((a.rows.getD i []).length:Int)+(b.rows.getD i []).length) (rows20 a b):=rfl
  have hreq:=rows20_eq (a:=a) (b:=b) (by omega)
  have hmem:∀ i∈rows20 a b,i<b.rows.length:=by
    intro i hi
    rw [hreq] at hi
    exact List.mem_range.1 (List.mem_filter.1 hi).1
  have hrl:(rows20 a b).length≤b.rows.length:=by rw [hreq];exact filt_len
  obtain ⟨R,hR⟩:∃ R,R=rows20 a b:=⟨_,rfl⟩
  rw [← hR] at hr hal hmo hmem hrl
  have hf1:∀ i,0≤spCost a b i∧spCost a b i≤(282:Nat):=fun i=>by
    unfold spCost
    have h1:=(costG_bnd (l:=splicesV i (a.rows.getD i []) (b.rows.getD i [])) (n:=1000000) (fun c hc=>by have:=splices_gl hc;have:=getD_sm (i:=i) sb;omega)).1
    have h2:=splices_cost (row:=i) (a:=a.rows.getD i []) (b:=b.rows.getD i [])
    have h3:=trim_len (a.rows.getD i [])
    have h4:=trim_len (b.rows.getD i [])
    have h5:=getD_sm (i:=i) sa
    have h6:=getD_sm (i:=i) sb
    omega
  have hf2:∀ i,0≤(2+((a.rows.getD i []).length:Int)+(b.rows.getD i []).length)∧(2+((a.rows.getD i []).length:Int)+(b.rows.getD i []).length)≤(282:Nat):=fun i=>by
    have h5:=getD_sm (i:=i) sa
    have h6:=getD_sm (i:=i) sb
    omega
  obtain ⟨F1,hF1⟩:∃ F,F=spCost a b:=⟨_,rfl⟩
  obtain ⟨F2,hF2⟩:∃ F:Nat→Int,F=fun i=>2+((a.rows.getD i []).length:Int)+(b.rows.getD i []).length:=⟨_,rfl⟩
  have hb1:∀ j,0≤sumI F1 (R.take j)∧sumI F1 (R.take j)≤16920:=fun j=>by
    have:=sumI_bnd (f:=F1) (M:=282) (by rw [hF1];exact hf1) (R.take j)
    have h2:(R.take j).length≤60:=by rw [List.length_take];omega
    have h3:((R.take j).length:Int) * (282:Nat)≤60 * (282:Nat):=Int.mul_le_mul_of_nonneg_right (by omega) (by omega)
    omega
  have hb2:∀ j,0≤sumI F2 (R.take j)∧sumI F2 (R.take j)≤16920:=fun j=>by
    have:=sumI_bnd (f:=F2) (M:=282) (by rw [hF2];exact hf2) (R.take j)
    have h2:(R.take j).length≤60:=by rw [List.length_take];omega
    have h3:((R.take j).length:Int) * (282:Nat)≤60 * (282:Nat):=Int.mul_le_mul_of_nonneg_right (by omega) (by omega)
    omega
  rw [← hF1] at hal
  rw [← hF2] at hmo
  obtain ⟨k0,hk0⟩:∃ k,k=curCost a b:=⟨_,rfl⟩
  have hk1:0≤k0∧k0≤1:=by rw [hk0];unfold curCost;split<;>omega
  have hcur:curCost a b=if a.row=b.row∧a.col=b.col∧a.vis=b.vis then 0 else 1:=rfl
  simp only [vwA,Vw.ds,List.map_cons,List.map_nil] at hd hr
  simp only [xq,reduceIte,qE,qA,qL,qD]
  refine W_seq (W_reg ?_);simp only [xq,reduceIte,qE,qA,qL,qD]
  refine W_cut (· = ⟨look [(2,.iptr a.ds),(3,.iptr b.ds),(5,.int k0),(6,.int k0)],[]⟩) ?_ ?_
  · refine W_cut (· = ⟨look [(2,.iptr a.ds),(3,.iptr b.ds),(5,.int 0),(6,.int 0),(47,.bool (!((decide (a.row=b.row)&&decide (a.col=b.col))&&(a.vis == b.vis))))],[]⟩) (W_reg ?_) ?_
    · cases e1:decide (a.row=b.row)
      · simp only [xq,reduceIte,qE,qA,qL,qD,Vw.ds,e1,undefA,zE]
        exact ⟨_,Co.keep _ (by simp [x_upd,x_look,Vw.ds]),rfl⟩
      · cases e2:decide (a.col=b.col)
        · simp only [xq,reduceIte,qE,qA,qL,qD,Vw.ds,e1,e2,undefA,zE]
          exact ⟨_,Co.keep _ (by simp [x_upd,x_look,Vw.ds]),rfl⟩
        · simp only [xq,reduceIte,qE,qA,qL,qD,Vw.ds,e1,e2,undefA,zE]
          exact ⟨_,Co.keep _ (by simp [x_upd,x_look,Vw.ds,bne]),rfl⟩
    rintro _ rfl
    refine W_cond rfl (fun hd=>?_) (fun hd=>W_skip ?_)
    · have hz:k0=1:=by
        rw [hk0,hcur,if_neg]
        rintro ⟨h1,h2,h3⟩
        simp [h1,h2,h3] at hd
      refine W_reg ?_;simp only [xq,reduceIte,qE,qA,qL,qD]
      exact ⟨_,Co.keep _ (by simp [x_upd,x_look,hz]),rfl⟩
    · have hz:k0=0:=by
        rw [hk0,hcur,if_pos]
        simp only [Bool.not_eq_false',Bool.and_eq_true,decide_eq_true_eq,beq_iff_eq] at hd
        exact ⟨hd.1.1,hd.1.2,hd.2⟩
      exact ⟨rfl,_,Co.keep _ (by simp [x_look,hz]),rfl⟩
  rintro _ rfl
  refine W_seq ?_
  refine W_seq (W_reg ?_);simp only [xq,reduceIte,qE,qA,qL,qD,Vw.ds]
  refine c_fn (hr) rfl ?_;simp only [xq,reduceIte,qE,qA,qL,qD,inRows_len]
  refine W_block ?_
  let S:Nat→St:=fun j=>⟨look [(2,.iptr a.ds),(3,.iptr b.ds),(5,.int (k0+sumI F1 (R.take j))),(6,.int (k0+sumI F2 (R.take j))),(50,insA R),(51,.int R.length),(52,.int j)],[]⟩
  refine W_co (s':=S 0) (Co.keep _ (by simp [x_upd,x_look,Vw.ds,sumI])) ?_
  refine W_loop (fun m s=>∃ j,j≤R.length∧m=R.length-j∧s=S j) ⟨0,Nat.zero_le _,rfl,rfl⟩ ?_
  rintro m s ⟨j,hj,rfl,rfl⟩
  simp only [S]
  refine W_seq (W_reg ?_);simp only [xq,reduceIte,qE,qA,qL,qD]
  refine W_seq (W_cond rfl (fun hc=>W_skip ?_) (fun hc=>W_exit ?_))
  · have hlt:j<R.length:=by simpa using hc
    have w1:IntKind.i64.wrap ((j:Int)+1)=((j+1:Nat):Int):=by rw [i64_of (by omega)];omega
    have hs1:=sumI_succ F1 hlt
    have hs2:=sumI_succ F2 hlt
    have q1:=hb1 j
    have q2:=hb2 j
    have q3:=hb1 (j+1)
    have q4:=hb2 (j+1)
    have hget:=inRows_get hlt
    have hib:=hmem _ (zi hlt)
    obtain ⟨i,hid⟩:∃ i,i=R[j]:=⟨_,rfl⟩
    rw [← hid] at hs1 hs2 hget hib
    have hia:i<a.rows.length:=by omega
    have ga:a.rows.getD i []=a.rows[i]:=by rw [zC,zB hia];rfl
    have gb:b.rows.getD i []=b.rows[i]:=by rw [zC,zB hib];rfl
    have ba:=sa.row _ (zi hia)
    have bb:=sb.row _ (zi hib)
    have hS:=Hsp i a.rows[i] b.rows[i] (by omega) (by omega)
    have hsl:=splices_len (row:=i) (a:=a.rows[i]) (b:=b.rows[i]) (by omega) (by omega)
    have hF1i:F1 i=costG (splicesV i a.rows[i] b.rows[i]):=by rw [hF1,spCost,ga,gb]
    have hF2i:F2 i=2+(a.rows[i].length:Int)+b.rows[i].length:=by rw [hF2];simp only [ga,gb]
    have hK:=Hk (splicesV i a.rows[i] b.rows[i]) (by omega) (fun c hc=>by have:=splices_gl hc;omega)
    rw [← hF1i] at hK
    generalize splicesV i a.rows[i] b.rows[i]=sp at hS hK hsl
    have d1:decide ((i:Int)<0)=false:=decide_eq_false (by omega)
    have d2:decide (a.height≤(i:Int))=false:=decide_eq_false (by omega)
    have w2:IntKind.i64.wrap (k0+sumI F1 (R.take j)+F1 i)=k0+sumI F1 (R.take (j+1)):=by rw [i64_of (by omega)];omega
    have w3:IntKind.i64.wrap (2+(a.rows[i].length:Int))=2+(a.rows[i].length:Int):=i64_of (by omega)
    have w4:IntKind.i64.wrap (2+(a.rows[i].length:Int)+b.rows[i].length)=F2 i:=by rw [i64_of (by omega),hF2i]
    have w5:IntKind.i64.wrap (k0+sumI F2 (R.take j)+F2 i)=k0+sumI F2 (R.take (j+1)):=by rw [i64_of (by omega)];omega
    simp only [xq,reduceIte,qE,qA,qL,qD]
    refine W_cut (· = ⟨look [(2,.iptr a.ds),(3,.iptr b.ds),(5,.int (k0+sumI F1 (R.take (j+1)))),(6,.int (k0+sumI F2 (R.take (j+1)))),(50,insA R),(51,.int R.length),(52,.int j)],[]⟩) ?_ ?_
    · refine W_block ?_
      refine W_seq (W_reg ?_);simp only [xq,reduceIte,qE,qA,qL,qD,inRows_len,hget,zQ]
      refine ⟨by omega,by omega,?_⟩
      refine W_co (s':=⟨look [(2,.iptr a.ds),(3,.iptr b.ds),(5,.int (k0+sumI F1 (R.take j))),(6,.int (k0+sumI F2 (R.take j))),(8,.int i),(50,insA R),(51,.int R.length),(52,.int j)],[]⟩) (Co.keep _ (by simp [x_upd,x_look])) ?_
      refine W_seq ?_
      refine W_seq (W_reg ?_);simp only [xq,reduceIte,qE,qA,qL,qD,d1,Vw.ds,d2]
      refine W_cond rfl (fun hd=>by cases hd) (fun _=>W_skip ?_)
      simp only [xq,reduceIte,qE,qA,qL,qD]
      refine W_seq (W_drw (by simp) ?_);simp only [xq,reduceIte,qE,qA,qL,qD,zr,List.append_nil,Vw.ds,rwRows_len,rwRows_get hia,rwRows_get hib,zQ]
      refine ⟨by omega,by omega,by omega,by omega,?_⟩
      refine c_fn (hS) rfl ?_;simp only [xq,reduceIte,qE,qA,qL,qD]
      refine c_fn (hK) rfl ?_;simp only [xq,reduceIte,qE,qA,qL,qD,w2]
      refine W_co (s':=⟨look [(2,.iptr a.ds),(3,.iptr b.ds),(5,.int (k0+sumI F1 (R.take (j+1)))),(6,.int (k0+sumI F2 (R.take j))),(8,.int i),(50,insA R),(51,.int R.length),(52,.int j)],[]⟩) (Co.keep _ (by simp [x_upd,x_look,Vw.ds])) ?_
      refine W_drw (by simp) ?_
      simp only [xq,reduceIte,qE,qA,qL,qD,zr,List.append_nil,Vw.ds,rwRows_len,rwRows_get hia,rwRows_get hib,zQ,glRows_len,w3,w4,w5]
      refine ⟨by omega,by omega,by omega,by omega,?_⟩
      exact ⟨_,Co.keep _ (by simp [x_upd,x_look,Vw.ds]),rfl⟩
    rintro _ rfl
    refine W_reg ?_;simp only [xq,reduceIte,qE,qA,qL,qD,w1]
    exact ⟨R.length-(j+1),S (j+1),by omega,Co.keep _ (by simp [x_upd,x_look]),j+1,hlt,rfl,rfl⟩
  · have hle:j=R.length:=by simp at hc;omega
    subst hle
    have hlF1:sumI F1 (R.take R.length)=sumI F1 R:=by rw [List.take_length]
    have hlF2:sumI F2 (R.take R.length)=sumI F2 R:=by rw [List.take_length]
    rw [hlF1,hlF2]
    have d1:decide (cost20 (diffV a b)≤k0+sumI F1 R)=true:=decide_eq_true (by omega)
    have d2:decide (k0+sumI F1 R≤k0+sumI F2 R)=true:=decide_eq_true (by omega)
    simp only [xq,reduceIte,qE,qA,qL,qD]
    refine W_seq (W_reg ?_);simp only [xq,reduceIte,qE,qA,qL,qD,Vw.ds]
    refine c_fn (hd) rfl ?_;simp only [xq,reduceIte,qE,qA,qL,qD]
    refine c_fn (hcost) rfl ?_;simp only [xq,reduceIte,qE,qA,qL,qD]
    refine W_seq (W_reg ?_);simp only [xq,reduceIte,qE,qA,qL,qD,d1,d2]
    refine c_fn (Ha) rfl ?_;simp only [xq,reduceIte,qE,qA,qL,qD]
    refine W_ret (.tmp ?_ rfl)
    simp only [x_upd,reduceIte]
end Go.Proofs.YtigfbnglplbbpaaDoor.Nx

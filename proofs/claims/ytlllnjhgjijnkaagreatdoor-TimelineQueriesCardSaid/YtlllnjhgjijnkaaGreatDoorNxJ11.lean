import Derived.Test.YtlllnjhgjijnkaaGreatDoorNxJ9
import Derived.Test.YtlllnjhgjijnkaaGreatDoorNxEval
set_option linter.unusedSimpArgs false
set_option linter.unusedVariables false
set_option linter.unnecessarySimpa false
open List renaming not_mem_nil → zc, mem_cons → zp
open Nat renaming reduceEqDiff → qE, reduceAdd → qA, reduceLT → qL, reduceLeDiff → qD
namespace Go.Proofs.YtlllnjhgjijnkaaGreatDoor.Nx
open Go
variable {P:Program} {N:Nat} {Γ:Tabs}
def awA:Vw:=⟨3,1,[[]],0,0,false⟩
def awB:Vw:=⟨3,1,[[⟨⟨#[120]⟩,false,0⟩]],0,0,false⟩
set_option maxHeartbeats 2000000 in
theorem awake21_fn {f fn fa fw ft fl fe:FuncId} (H:FnIs P f N [.t 0] (x_law21_awake fn fa fw ft fl fe)) (Hn:TNewOk Γ P fn) (Ha:TAddOk Γ P fa) (Hw:TWhenOk Γ P fw) (Ht:TAtOk Γ P ft) (Hl:TLastOk Γ P fl) (He:SameOk Γ P fe)
  (ha:viewC awA=0) (hb:viewC awB=0):FnP Γ P f [] (.bool true):=by
 refine .of_W H (by simp) ?_
 unfold x_law21_awake
 have hne:¬ awA=awB:=by decide
 have sa:Sm awA 140:=⟨by simp [awA],by simp [awA]⟩
 have sb:Sm awB 140:=⟨by simp [awB],by intro r hr g hg;simp only [awB,zp,zc,or_false] at hr;subst hr;simp only [zp,zc,or_false] at hg;subst hg;decide⟩
 let m0:Mom:=⟨awA,5⟩
 let m1:Mom:=⟨awB,7⟩
 have k0:MomsOk m0 []:=⟨ha,by decide,by decide⟩
 have k1:MomsOk m0 [m1]:=⟨ha,by decide,by decide,hb,by decide,by decide⟩
 have s0:∀ x∈[m0],Sm x.view 140:=by simp [m0,sa]
 have s1:∀ x∈[m0,m1],Sm x.view 140:=by simp [m0,m1,sa,sb]
 have hn:FnP Γ P fn [vwA awA,.int 5] (tlA (tlOf 0 m0 [])):=by
  have:=Hn awA 5 (sa.mono (by omega))
  rw [newT,if_neg (by rw [ha];decide)] at this
  exact this
 have h1:FnP Γ P fa [tlA (tlOf 0 m0 []),vwA awB,.int 7] (tlE (tlOf 0 m0 [m1],0)):=by
  have:=Ha (tlOf 0 m0 []) awB 7 (tok_of k0 s0) sb sa
  rw [addT_of k0 (by decide) (by decide),if_neg (by rw [hb];decide),if_neg (by decide),if_neg (by decide),show (lastM m0 []).view=awA from rfl,if_neg hne,if_neg (by decide)] at this
  exact this
 have h2:FnP Γ P fa [tlA (tlOf 0 m0 [m1]),vwA awB,.int 9] (tlE (tlOf 0 m0 [m1],0)):=by
  have:=Ha (tlOf 0 m0 [m1]) awB 9 (tok_of k1 s1) sb (by show Sm (finV m0.view (stpsOf m0 [m1])) 140;rw [finV_of k1];exact sb)
  rw [addT_of k1 (by decide) (by decide),if_neg (by rw [hb];decide),if_neg (by decide),if_neg (by decide),show (lastM m0 [m1]).view=awB from rfl,if_pos rfl] at this
  exact this
 have h3:FnP Γ P fw [tlA (tlOf 0 m0 [m1]),.int 6] (.tup [.int 0,.int 0]):=by
  have:=Hw (tlOf 0 m0 [m1]) 6 (tok_of k1 s1)
  rw [whenT_of k1 (by decide) (by decide)] at this
  exact this
 have h4:FnP Γ P fw [tlA (tlOf 0 m0 [m1]),.int 8] (.tup [.int 1,.int 0]):=by
  have:=Hw (tlOf 0 m0 [m1]) 8 (tok_of k1 s1)
  rw [whenT_of k1 (by decide) (by decide)] at this
  exact this
 have h5:FnP Γ P ft [tlA (tlOf 0 m0 [m1]),.int 1] (vwE (awB,0)):=by
  have:=Ht (tlOf 0 m0 [m1]) 1 (tok_of k1 s1)
  rw [atT_of k1 (by decide) (by decide),if_pos (by decide)] at this
  exact this
 have h6:FnP Γ P fl [tlA (tlOf 0 m0 [m1])] (.int 1):=Hl (tlOf 0 m0 [m1]) (by decide) (by decide)
 have h7:=He awB awB
 rw [decide_eq_true rfl] at h7
 clear_value m0 m1
 generalize tlOf 0 m0 []=t0 at *
 generalize tlOf 0 m0 [m1]=t1 at *
 simp only [tlE,vwE,tlA,Tl.ds,vwA,Vw.ds,List.map_cons,List.map_nil] at hn h1 h2 h3 h4 h5 h6 h7
 refine wR ?_;simp only [xq,reduceIte,qE,qA,qL,qD]
 refine wR ?_;simp only [xq,reduceIte,qE,qA,qL,qD]
 refine wR ?_;simp only [xq,reduceIte,qE,qA,qL,qD]
 refine W_co (Co.frz [(1,.iptr awA.ds),(2,.iptr awB.ds)] 0 ?_ (Nat.zero_le _) (Nat.zero_le _) (by simp)) ?_
 ·intro p hp
  simp only [zp,zc,or_false] at hp
  rcases hp with rfl | rfl
  ·exact (frz_ok (dflt:=⟨3,32⟩) 10).1 _ _ rfl
  ·exact (frz_ok (dflt:=⟨3,32⟩) 10).1 _ _ rfl
 simp only [List.take_zero]
 refine wR ?_;simp only [xq,reduceIte,qE,qA,qL,qD,Vw.ds]
 refine c_fn (hn) rfl ?_;simp only [xq,reduceIte,qE,qA,qL,qD]
 refine wR ?_;simp only [xq,reduceIte,qE,qA,qL,qD,Vw.ds,Tl.ds]
 refine c_fn (h1) rfl ?_;simp only [xq,reduceIte,qE,qA,qL,qD]
 refine wR ?_;simp only [xq,reduceIte,qE,qA,qL,qD,Vw.ds,Tl.ds]
 refine c_fn (h2) rfl ?_;simp only [xq,reduceIte,qE,qA,qL,qD]
 refine wR ?_;simp only [xq,reduceIte,qE,qA,qL,qD,Tl.ds]
 refine c_fn (h3) rfl ?_;simp only [xq,reduceIte,qE,qA,qL,qD]
 refine wR ?_;simp only [xq,reduceIte,qE,qA,qL,qD,Tl.ds]
 refine c_fn (h4) rfl ?_;simp only [xq,reduceIte,qE,qA,qL,qD]
 refine wR ?_;simp only [xq,reduceIte,qE,qA,qL,qD,Tl.ds]
 refine c_fn (h5) rfl ?_;simp only [xq,reduceIte,qE,qA,qL,qD]
 have d0:decide ((0:Int)=0)=true:=by decide
 have d1:decide ((1:Int)=1)=true:=by decide
 refine W_sreg fun K hK=>?_
 have fin:∀ (sl:Nat→A) (h:Heap),sl 0 = .bool true→K ⟨sl,h⟩:=fun sl h h0=>hK _ (W_ret (.tmp h0 rfl))
 clear hK
 refine run_take 12 fun K1 hK1=>?_
 simp only [xq,reduceIte,qE,qA,qL,qD,d0,d1]
 refine hK1 _ ?_
 clear hK1 K1
 refine run_take 9 fun K1 hK1=>?_
 simp only [xq,reduceIte,qE,qA,qL,qD,d0,d1,Tl.ds]
 refine c_fn (h6) rfl ?_;simp only [xq,reduceIte,qE,qA,qL,qD,d0,d1]
 refine hK1 _ ?_
 clear hK1 K1
 refine run_take 10 fun K1 hK1=>?_
 simp only [xq,reduceIte,qE,qA,qL,qD,d0,d1]
 refine hK1 _ ?_
 clear hK1 K1
 simp only [xq,reduceIte,qE,qA,qL,qD,d0,d1,Vw.ds]
 refine c_fn (h7) rfl ?_;simp only [xq,reduceIte,qE,qA,qL,qD]
 exact fin _ _ rfl
end Go.Proofs.YtlllnjhgjijnkaaGreatDoor.Nx

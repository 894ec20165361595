import Derived.Test.YthhjkfilfhmakaaDoorNxC3
import Derived.Test.YthhjkfilfhmakaaDoorNxR1
set_option linter.unusedSimpArgs false
set_option linter.unusedVariables false
set_option linter.unnecessarySimpa false
open List renaming getElem?_eq_some_iff → zA, getElem?_eq_getElem → zB, getElem?_append_right → zG, append_assoc → zS, not_mem_nil → zc, length_map → zg, take_length → zh, mem_cons → zp
open Nat renaming zero_le → zI
open Bool renaming eq_iff_iff → ze
open Nat renaming reduceEqDiff → qE, reduceAdd → qA, reduceLT → qL, reduceLeDiff → qD
namespace Go.Proofs.YthhjkfilfhmakaaDoor.Nx
open Go
variable {P:Program} {N:Nat} {Γ:Tabs}
theorem decodeL_fn {f fl fv:FuncId} {Nl Nv:Nat} (H:FnIs P f N [.t 4,.t 5] (x_ref01_Decode fl fv)) (hN:2≤N) (Hl:FnIs P fl Nl [.t 2,.t 3,.t 4] x_ref01_limits) (hNl:1≤Nl) (Hv:FnIs P fv Nv [.t 2] x_ref01_value) (hNv:1≤Nv)
    (s:ByteArray) (hs:s.size≤2000000):FnP Γ P f [.str ⟨#[]⟩,.str s] (decA (toN s.data.toList)):=by
  refine .of_W H (by simpa using hN) ?_
  unfold x_ref01_Decode
  refine W_seq (W_reg ?_)
  simp only [xq,reduceIte,qE,qA,qL,qD]
  refine W_seq (W_reg ?_)
  have hsum:(⟨#[]⟩:ByteArray).size+s.size≤maxLen:=by
    have:(⟨#[]⟩:ByteArray).size=0:=rfl
    simp only [maxLen];omega
  simp only [xq,reduceIte,qE,qA,qL,qD,b_sadd hsum,empty_app]
  refine W_seq (W_reg ?_)
  simp only [xq,reduceIte,qE,qA,qL,qD]
  refine W_seq (W_reg ?_)
  simp only [xq,reduceIte,qE,qA,qL,qD]
  let S:Nat→List Int→List Nat→Nat→Heap→St:=fun i out kept j h=>⟨look [(6,.str s),(7,.ref 0 out.length 0 out.length true),(8,.ref j kept.length 0 kept.length true),(9,.int i)],h⟩
  refine W_seq (W_seq (W_reg ?_))
  simp only [xq,reduceIte,qE,qA,qL,qD]
  refine W_block ?_
  refine W_co (s':=S 0 [] [] 1 [oBc [],kB []]) (Co.keep _ (by simp [x_upd,x_look])) ?_
  have hn:=bytes_size s
  let I:Nat→St→Prop:=fun m s0=>∃ i out kept j h,i≤s.size∧m=2 * (s.size-i)+(if kept=[] then 0 else 1)∧s0=S i out kept j h∧((toN s.data.toList).drop i).foldl dstep (out,kept)=drun (toN s.data.toList)∧out.length+(if kept=[] then 0 else 1)≤i ∧
      (kept=[]∨kept.length<sizeN (kept.headD 0))∧(∀ b∈kept,b<256)∧j≠0∧h[0]? = some (oBc out)∧h[j]? = some (kB kept)
  refine W_loop I ⟨0,[],[],1,_,zI _,rfl,rfl,rfl,by simp,.inl rfl,by simp,by decide,rfl,rfl⟩ ?_
  rintro m s0 ⟨i,out,kept,j,h,hi,rfl,rfl,hrun,hlen,hksz,hk256,hj,h0,hkj⟩
  have hout:out.length≤2000000:=by omega
  have hpos:0<h.length:=(zA.1 h0).1
  have hjl:j<h.length:=(zA.1 hkj).1
  have fin:∀ (i':Nat) (out':List Int) (kept':List Nat) (j':Nat) (h':Heap) (sl:Nat→A),i'≤s.size→2 * (s.size-i')+(if kept'=[] then 0 else 1)<2 * (s.size-i)+(if kept=[] then 0 else 1)→sl 6 = .str s→sl 7 = .ref 0 out'.length 0 out'.length true→sl 8 = .ref j' kept'.length 0 kept'.length true →
      sl 9 = .int i'→((toN s.data.toList).drop i').foldl dstep (out',kept')=drun (toN s.data.toList)→out'.length+(if kept'=[] then 0 else 1)≤i'→(kept'=[]∨kept'.length<sizeN (kept'.headD 0))→(∀ b∈kept',b<256)→j'≠0→h'[0]? = some (oBc out')→h'[j']? = some (kB kept') →
      ∃ m' s',m'<2 * (s.size-i)+(if kept=[] then 0 else 1)∧Co 0 ⟨sl,h'⟩ s'∧I m' s':=fun i' out' kept' j' h' sl a1 a2 a3 a4 a5 a6 a7 a8 a9 a10 a11 a12 a13 =>
    ⟨_,S i' out' kept' j' h',a2,Co.keep _ (by simp [a3,a4,a5,a6]),i',out',kept',j',h',a1,rfl,rfl,a7,a8,a9,a10,a11,a12,a13⟩
  have e0:∀ t,(h++t)[0]? = some (oBc out):=fun t=>at0 h0
  have e1:∀ t X,(h++t).set 0 X=h.set 0 X++t:=fun t X=>set0 h0
  have e2:∀ t,(h++t)[j]? = some (kB kept):=fun t=>atj hkj
  have e3:∀ t X,(h++t).set j X=h.set j X++t:=fun t X=>set0 hkj
  have f1:IntKind.i64.wrap ((i:Int)+1)=((i+1:Nat):Int):=i64_of (by omega)
  refine W_seq (W_seq (W_reg ?_))
  simp only [S,xq,reduceIte,qE,qA,qL,qD]
  refine W_cond rfl (fun hc=>W_skip ?_) (fun hc=>W_exit ?_)
  · have hlt:i<s.size:=by simpa using hc
    simp only [xq,reduceIte,qE,qA,qL,qD]
    have hdrop:=toN_drop hlt
    have hb256:=nb_lt s.data.toList i
    refine W_block (W_seq (W_reg ?_))
    simp only [xq,reduceIte,qE,qA,qL,qD]
    refine ⟨by omega,by omega,?_⟩
    change W _ _ _ _ _ _ _ ⟨upd _ 10 (.sc (.int .u8 (nb s.data.toList i))),h⟩
    generalize nb s.data.toList i=b at hdrop hb256
    have g32:IntKind.i32.wrap (b:Int)=(b:Int):=i32_of (by omega)
    have g128:decide ((b:Int)<128)=decide (b<128):=by rw [ze];simp;omega
    rw [hdrop,List.foldl_cons] at hrun
    refine W_seq (W_seq (W_reg ?_))
    simp only [xq,reduceIte,qE,qA,qL,qD,hkj,kRows_len]
    refine W_cond rfl (fun hc2=>?_) (fun hc2=>W_skip ?_)
    · have hk:kept=[]:=by simpa using hc2
      subst hk
      simp only [dstep,dstart] at hrun
      refine W_seq (W_reg ?_)
      simp only [xq,reduceIte,qE,qA,qL,qD,f1]
      refine W_seq (W_reg ?_)
      simp only [xq,reduceIte,qE,qA,qL,qD]
      refine ce_fn (limits_fn Hl hNl (zI _) (h:=h++[kB [b]]) (id:=h.length) (p:=b) (t:=[]) (by simp)) ?_
      simp only [xq,reduceIte,qE,qA,qL,qD,limA,List.headD_cons]
      refine W_seq (W_block (W_seq (W_reg ?_)))
      simp only [xq,reduceIte,qE,qA,qL,qD,g128]
      refine W_cond rfl (fun hb=>W_reg ?_) (fun hb=>W_seq (W_reg ?_))
      · have hb:b<128:=by simpa using hb
        rw [if_pos hb] at hrun
        simp only [xq,reduceIte,qE,qA,qL,qD,g32,zS,hp_g1,e0,e1,oRows_len,oRows_snoc]
        refine ⟨by simp only [room];omega,by simp only [maxLen];omega,?_⟩
        refine W_exit ?_
        simp only [xq,reduceIte,qE,qA,qL,qD]
        refine fin (i+1) (out++[(b:Int)]) [] j _ _ hlt ?_ rfl ?_ rfl rfl hrun ?_ (.inl rfl) (by simp) hj (put_at h0) (put_ne (Ne.symm hj) hkj)
        · simp;omega
        · simp [x_upd]
        · simp at hlen ⊢; omega
      · have hb:¬ b<128:=by simpa using hb
        rw [if_neg hb] at hrun
        have gsz:decide ((0:Int)<(sizeN b:Int))=decide (0<sizeN b):=by rw [ze];simp
        simp only [xq,reduceIte,qE,qA,qL,qD,gsz]
        refine W_cond rfl (fun hz=>W_reg ?_) (fun hz=>W_reg ?_)
        · have hz:0<sizeN b:=by simpa using hz
          have hz2:2≤sizeN b:=by
            have:=sizeN_cases b
            omega
          rw [if_pos hz] at hrun
          simp only [xq,reduceIte,qE,qA,qL,qD,zS,hp_g1,e2,e3,kRows_len,kRows_snoc]
          refine ⟨by simp only [room];omega,by simp only [maxLen];omega,?_⟩
          refine W_exit ?_
          simp only [xq,reduceIte,qE,qA,qL,qD]
          refine fin (i+1) out [b] j _ _ hlt ?_ rfl rfl ?_ rfl hrun ?_ (.inr ?_) (by simpa using hb256) hj (put_ne hj h0) (put_at hkj)
          · simp;omega
          · simp [x_upd]
          · simp at hlen ⊢; omega
          · simp;omega
        · have hz:¬ 0<sizeN b:=by simpa using hz
          rw [if_neg hz] at hrun
          simp only [xq,reduceIte,qE,qA,qL,qD,zS,hp_g1,e0,e1,oRows_len,oRows_snoc]
          refine ⟨by simp only [room];omega,by simp only [maxLen];omega,?_⟩
          refine W_exit ?_
          simp only [xq,reduceIte,qE,qA,qL,qD]
          refine fin (i+1) (out++[65533]) [] j _ _ hlt ?_ rfl ?_ rfl rfl hrun ?_ (.inl rfl) (by simp) hj (put_at h0) (put_ne (Ne.symm hj) hkj)
          · simp;omega
          · simp [x_upd]
          · simp at hlen ⊢; omega
    · cases kept with
      | nil=>simp at hc2
      | cons p t =>
        have hsz:t.length+1<sizeN p:=by
          rcases hksz with h | h
          · cases h
          · simpa using h
        have hsz4:sizeN p≤4:=by
          have:=sizeN_cases p
          omega
        simp only [if_neg (List.cons_ne_nil p t)] at hlen fin
        simp only [xq,reduceIte,qE,qA,qL,qD]
        refine W_seq (W_reg ?_)
        simp only [xq,reduceIte,qE,qA,qL,qD]
        refine ce_fn (limits_fn Hl hNl (zI _) (h:=h) (id:=j) (p:=p) (t:=t) hkj) ?_
        simp only [xq,reduceIte,qE,qA,qL,qD,limA,List.headD_cons]
        have glo:decide ((b:Int)<(lowN (p::t):Int))=decide (b<lowN (p::t)):=by rw [ze];simp
        have ghi:decide ((highN (p::t):Int)<(b:Int))=decide (highN (p::t)<b):=by rw [ze];simp
        let U:Bool→St:=fun c=>⟨look [(6,.str s),(7,.ref 0 out.length 0 out.length true),(8,.ref j (t.length+1) 0 (t.length+1) true),(9,.int i),(10,.sc (.int .u8 (b:Int))),(16,.int (sizeN p)),(72,.bool c)],h⟩
        refine W_seq (W_cutX (· = U (decide (b<lowN (p::t))||decide (highN (p::t)<b))) rfl (fun K hK=>?_) ?_)
        · cases e:decide (b<lowN (p::t))<;>simp only [xq,reduceIte,qE,qA,qL,qD,glo,ghi,e]
          all_goals (refine hK _ _ (Co.keep _ ?_) rfl;simp [x_upd,x_look,e])
        rintro _ rfl
        refine W_cond rfl (fun hd=>?_) (fun hd=>W_skip ?_)
        · have hd:b<lowN (p::t)∨highN (p::t)<b:=by simpa using hd
          simp only [dstep,if_pos hd] at hrun
          refine W_seq (W_reg ?_)
          simp only [U,xq,reduceIte,qE,qA,qL,qD,hp_g0,e0,e1,oRows_len,oRows_snoc]
          refine ⟨by simp only [room];omega,by simp only [maxLen];omega,?_⟩
          refine W_seq (W_reg ?_)
          simp only [xq,reduceIte,qE,qA,qL,qD]
          refine W_exit ?_
          simp only [xq,reduceIte,qE,qA,qL,qD,zS]
          refine fin i (out++[65533]) [] _ _ _ hi ?_ rfl ?_ rfl rfl ?_ ?_ (.inl rfl) (by simp) ?_ (put_at h0) ?_
          · simp
          · simp [x_upd]
          · rw [hdrop,List.foldl_cons];exact hrun
          · simp;omega
          · simp
          · rw [zG (by simp)];simp;rfl
        · have hd:¬ (b<lowN (p::t)∨highN (p::t)<b):=by
            intro h
            rw [Bool.eq_false_iff] at hd
            exact hd (by simpa using h)
          simp only [dstep,if_neg hd] at hrun
          simp only [U,xq,reduceIte,qE,qA,qL,qD]
          refine W_seq (W_reg ?_)
          simp only [xq,reduceIte,qE,qA,qL,qD,f1]
          refine W_seq (W_reg ?_)
          simp only [xq,reduceIte,qE,qA,qL,qD,hp_g0,e2,e3,kRows_len,kRows_snoc]
          refine ⟨by simp only [room];omega,by simp only [maxLen];omega,?_⟩
          have hj2:∀ t',(h.set j (kB (p::(t++[b])))++t')[j]? = some (kB (p::(t++[b]))):=fun t'=>put_at hkj
          have h02:∀ t',(h.set j (kB (p::(t++[b])))++t')[0]? = some (oBc out):=fun t'=>put_ne hj h0
          have h0s:(h.set j (kB (p::(t++[b]))))[0]? = some (oBc out):=by
            have:=put_ne (t:=[]) (X:=kB (p::(t++[b]))) hj h0
            simpa using this
          have s02:∀ t' X,(h.set j (kB (p::(t++[b])))++t').set 0 X=(h.set j (kB (p::(t++[b])))).set 0 X++t':=fun t' X=>set0 h0s
          have hl2:(p::(t++[b])).length=t.length+1+1:=by simp
          have geq:decide (((t.length+1+1:Nat):Int)=(sizeN p:Int))=decide (t.length+1+1=sizeN p):=by rw [ze];simp;omega
          have hk2:∀ c∈p::(t++[b]),c<256:=by
            intro c hc
            simp only [zp,List.mem_append,zc,or_false] at hc
            rcases hc with rfl | hc | rfl
            · exact hk256 _ (by simp)
            · exact hk256 _ (by simp [hc])
            · exact hb256
          rw [List.cons_append,hl2] at hrun
          refine W_seq (W_reg ?_)
          simp only [xq,reduceIte,qE,qA,qL,qD,hj2,kRows_len,hl2,geq]
          refine W_cond rfl (fun hq=>?_) (fun hq=>W_skip ?_)
          · have hq:t.length+1+1=sizeN p:=by simpa using hq
            rw [if_pos hq] at hrun
            refine W_seq (W_reg ?_)
            simp only [xq,reduceIte,qE,qA,qL,qD]
            have hv:=value_fn (Γ:=Γ.ctx) Hv hNv (zI _) (id:=j) (l:=p::(t++[b])) (hj2 [kB [b]]) (by rw [hl2];omega) hk2
            rw [hl2] at hv
            refine ce_fn hv ?_
            have g2:∀ Y,(h.set j (kB (p::(t++[b])))++[kB [b],Y])[h.length+1]? = some Y:=fun Y=>by
              rw [zG (by simp)];simp
            simp only [xq,reduceIte,qE,qA,qL,qD,zS,List.length_set,g2,h02,s02,oRows_len,oRows_snoc]
            refine ⟨by simp only [room];omega,by simp only [maxLen];omega,?_⟩
            refine W_reg ?_
            simp only [xq,reduceIte,qE,qA,qL,qD,zS,List.length_set]
            refine fin (i+1) (out++[valN (p::(t++[b]))]) [] _ _ _ hlt ?_ rfl ?_ rfl rfl hrun ?_ (.inl rfl) (by simp) ?_ (put_at h0s) ?_
            · simp;omega
            · simp [x_upd]
            · simp;omega
            · simp
            · rw [zG (by simp)];simp;rfl
          · have hq:¬ t.length+1+1=sizeN p:=by simpa using hq
            rw [if_neg hq] at hrun
            simp only [xq,reduceIte,qE,qA,qL,qD]
            refine fin (i+1) out (p::(t++[b])) j _ _ hlt ?_ rfl rfl ?_ rfl hrun ?_ (.inr ?_) hk2 hj (h02 _) (hj2 _)
            · simp;omega
            · simp [x_upd,hl2]
            · simp;omega
            · rw [hl2];simp only [List.headD_cons];omega
  · have hii:i=s.size:=by simp at hc;omega
    subst hii
    have hd0:(toN s.data.toList).drop s.size=[]:=List.drop_eq_nil_of_le (by simp only [toN,zg];omega)
    rw [hd0,List.foldl_nil] at hrun
    simp only [xq,reduceIte,qE,qA,qL,qD]
    have hkl:kept.length≤4:=by
      rcases hksz with h | h
      · simp [h]
      · have:=sizeN_cases (kept.headD 0);omega
    refine W_seq (W_drw (by simp) ?_)
    have ht:(kRows kept).take kept.length=kRows kept:=List.take_of_length_le (by rw [kRows_len];exact Nat.le_refl _)
    simp only [xq,reduceIte,qE,qA,qL,qD,x_b2s,sliceRows_ref,hkj,kRows_len,ht,bs_r,kRows_bytes,bs_n]
    refine ⟨by simp only [zg,maxLen];omega,?_⟩
    refine W_ret ⟨.inr rfl,?_⟩
    simp only [readRs,readR,single,x_upd,reduceIte,qE]
    unfold decA
    rw [← hrun]
    refine .tup rfl fun k y hk=>?_
    cases k with
    | zero =>
      cases hk
      have:=frz_all (full:=true) (rows:=irRows out) (e:=eRu) (by rw [oRows_ir];exact h0)
      rw [irRows_len] at this
      exact this
    | succ k =>
      cases k with
      | zero=>cases hk;exact .same rfl
      | succ k=>simp at hk
theorem encodeL_fn {f:FuncId} (H:FnIs P f N [.t 2] x_ref01_Encode) (hN:1≤N) (l:List Int) (hl:l.length≤2000000):FnP Γ P f [.d (.sl eRu (irRows l))] (.str (numS (encL l))):=by
  refine .of_W H (by simpa using hN) ?_
  unfold x_ref01_Encode
  refine W_seq (W_reg ?_)
  simp only [xq,reduceIte,qE,qA,qL,qD]
  refine W_seq (W_reg ?_)
  simp only [xq,reduceIte,qE,qA,qL,qD]
  refine W_seq (W_seq (W_reg ?_))
  simp only [xq,reduceIte,qE,qA,qL,qD]
  refine W_block ?_
  let S:Nat→St:=fun i=>⟨look [(0,.d (.sl eRu (irRows l))),(3,.ref 0 (encL (l.take i)).length 0 (encL (l.take i)).length true),(4,.int i)],[kB (encL (l.take i))]⟩
  refine W_co (s':=S 0) (Co.keep _ (by simp [x_upd,x_look,encL])) ?_
  refine W_loop (fun m s=>∃ i,i≤l.length∧m=l.length-i∧s=S i) ⟨0,zI _,rfl,rfl⟩ ?_
  rintro m s ⟨i,hi,rfl,rfl⟩
  have hel:=encL_len (l.take i)
  rw [List.length_take] at hel
  refine W_seq (W_seq (W_reg ?_))
  simp only [S,xq,reduceIte,qE,qA,qL,qD,irRows_len]
  refine W_cond rfl (fun hc=>W_skip ?_) (fun hc=>W_exit ?_)
  · have hlt:i<l.length:=by simpa using hc
    have htk:encL (l.take (i+1))=encL (l.take i)++encN (san l[i]):=by
      rw [List.take_add_one,zB hlt,Option.toList_some,encL_snoc]
    simp only [xq,reduceIte,qE,qA,qL,qD]
    refine W_seq (W_block (W_seq (W_reg ?_)))
    simp only [xq,reduceIte,qE,qA,qL,qD,irRows_get hlt,irRows_len]
    refine ⟨by omega,by omega,?_⟩
    have hsc:=scalar_le (san_scalar l[i])
    generalize hn:l[i]=n at htk hsc
    generalize hr:san n=r at htk hsc
    generalize hE:encL (l.take i)=E at htk hel
    let T:List (Nat × A)→St:=fun t=>⟨look ((0,.d (.sl eRu (irRows l)))::(3,.ref 0 E.length 0 E.length true)::(4,.int i)::t),[kB E]⟩
    refine W_cut (· = T [(5,.sc (.int .i32 (r:Int)))]) ?_ ?_
    · refine W_cutX (· = T [(5,.sc (.int .i32 n)),(30,.bool ((decide (n<0)||decide (1114111<n))||(decide (55296≤n)&&decide (n≤57343))))]) rfl (fun K hK=>?_) ?_
      · cases e1:decide (n<0)<;>cases e2:decide (1114111<n)<;>cases e3:decide (55296≤n)<;>simp only [xq,reduceIte,qE,qA,qL,qD,e1,e2,e3]
        all_goals (refine hK _ _ (Co.keep _ ?_) rfl;simp [x_upd,x_look,e1,e2,e3])
      rintro _ rfl
      refine W_cond rfl (fun hd=>W_reg ?_) (fun hd=>W_skip ?_)
      · have hd:n<0∨1114111<n∨(55296≤n∧n≤57343):=by
          simp only [Bool.or_eq_true,Bool.and_eq_true,decide_eq_true_eq] at hd
          omega
        have:r=65533:=by rw [← hr,san,if_pos hd]
        simp only [T,xq,reduceIte,qE,qA,qL,qD]
        refine ⟨T [(5,.sc (.int .i32 (r:Int)))],Co.keep _ ?_,rfl⟩
        simp [x_upd,x_look,this]
      · have hd:¬ (n<0∨1114111<n∨(55296≤n∧n≤57343)):=by
          simp only [Bool.or_eq_false_iff,Bool.and_eq_false_iff,decide_eq_false_iff_not] at hd
          omega
        have:(r:Int)=n:=by
          rw [← hr,san,if_neg hd];omega
        simp only [T,xq,reduceIte,qE,qA,qL,qD]
        refine ⟨T [(5,.sc (.int .i32 (r:Int)))],Co.keep _ ?_,rfl⟩
        simp [x_upd,x_look,this]
    rintro _ rfl
    have g1:decide ((r:Int)<128)=decide (r<128):=by rw [ze];simp;omega
    have g2:decide ((r:Int)<2048)=decide (r<2048):=by rw [ze];simp;omega
    have g3:decide ((r:Int)<65536)=decide (r<65536):=by rw [ze];simp;omega
    have td:∀ (a k:Nat),((a:Int)).tdiv (k:Int)=((a / k:Nat):Int):=fun a k=>by rw [Int.tdiv_eq_ediv_of_nonneg (by omega)];rfl
    have tm:∀ (a k:Nat),((a:Int)).tmod (k:Int)=((a % k:Nat):Int):=fun a k=>by rw [Int.tmod_eq_emod_of_nonneg (by omega)];rfl
    have fin:∀ (sl:Nat→A) (h:Heap),sl 0 = .d (.sl eRu (irRows l))→sl 3 = .ref 0 (E++encN r).length 0 (E++encN r).length true→sl 4 = .int ((i+1:Nat):Int) →
        ∃ m' s',m'<l.length-i∧Co 0 ⟨sl,kB (E++encN r)::h⟩ s'∧∃ i,i≤l.length∧m'=l.length-i∧s'=S i:=fun sl h a0 a3 a4=>by
      refine ⟨l.length-(i+1),S (i+1),by omega,?_,i+1,hlt,rfl,rfl⟩
      simp only [S]
      rw [htk]
      refine Co.to _ 1 ?_ (zI _) (by simp) ?_
      · simp [a0,a3,a4,A.under]
      · intro B hB
        simp only [List.take_succ_cons,List.take_zero,zp,zc,or_false] at hB
        subst hB
        intro r0 hr0 x hx
        obtain ⟨b,_,rfl⟩:=List.mem_map.1 hr0
        simp only [kRow,zp,zc,or_false] at hx
        subst hx;rfl
    have f1:IntKind.i64.wrap ((i:Int)+1)=((i+1:Nat):Int):=i64_of (by omega)
    have hE4:E.length≤8000000:=by omega
    refine W_block (W_seq (W_reg ?_))
    simp only [T,xq,reduceIte,qE,qA,qL,qD,g1]
    refine W_cond rfl (fun h1=>W_reg ?_) (fun h1=>W_seq (W_reg ?_))
    · have h1:r<128:=by simpa using h1
      have he:encN r=[r]:=by rw [encN,if_pos h1]
      simp only [xq,reduceIte,qE,qA,qL,qD,u8_of (show 0≤(r:Int)∧(r:Int)≤255 by omega),kRows_len]
      refine ⟨by simp only [room];omega,by simp only [maxLen];omega,?_⟩
      refine W_reg ?_
      simp only [xq,reduceIte,qE,qA,qL,qD,f1]
      have:kRows E++[[A.sc (.int .u8 (r:Int))]]=kRows (E++encN r):=by rw [he,← kRows_app];rfl
      rw [this]
      refine fin _ _ rfl ?_ rfl
      simp [x_upd,he]
    have h1:¬ r<128:=by simpa using h1
    simp only [xq,reduceIte,qE,qA,qL,qD,g2]
    refine W_cond rfl (fun h2=>W_reg ?_) (fun h2=>W_seq (W_reg ?_))
    · have h2:r<2048:=by simpa using h2
      have he:encN r=[192+r / 64,128+r % 64]:=by rw [encN,if_neg h1,if_pos h2]
      have k1:IntKind.i32.wrap ((r:Int).tdiv 64)=((r / 64:Nat):Int):=by rw [show ((64:Int))=((64:Nat):Int) from rfl,td,i32_of (by omega)]
      have k2:IntKind.i32.wrap (192+((r / 64:Nat):Int))=((192+r / 64:Nat):Int):=by rw [i32_of (by omega)];omega
      have k3:(r:Int).tmod 64=((r % 64:Nat):Int):=tm r 64
      have k4:IntKind.i32.wrap (128+((r % 64:Nat):Int))=((128+r % 64:Nat):Int):=by rw [i32_of (by omega)];omega
      simp only [xq,reduceIte,qE,qA,qL,qD,b_quo (k:=.i32) (show (64:Int)≠0 by decide),b_rem (k:=.i32) (show (64:Int)≠0 by decide),k1,k2,k3,k4,u8_of (show 0≤((192+r / 64:Nat):Int)∧((192+r / 64:Nat):Int)≤255 by omega),u8_of (show 0≤((128+r % 64:Nat):Int)∧((128+r % 64:Nat):Int)≤255 by omega),kRows_len]
      refine ⟨by simp only [room];omega,by simp only [maxLen];omega,?_⟩
      refine W_reg ?_
      simp only [xq,reduceIte,qE,qA,qL,qD,f1]
      have:kRows E++[[A.sc (.int .u8 ((192+r / 64:Nat):Int))],[A.sc (.int .u8 ((128+r % 64:Nat):Int))]]=kRows (E++encN r):=by rw [he,← kRows_app];rfl
      rw [this]
      refine fin _ _ rfl ?_ rfl
      simp [x_upd,he]
    have h2:¬ r<2048:=by simpa using h2
    simp only [xq,reduceIte,qE,qA,qL,qD,g3]
    refine W_cond rfl (fun h3=>W_reg ?_) (fun h3=>W_reg ?_)
    · have h3:r<65536:=by simpa using h3
      have he:encN r=[224+r / 4096,128+r / 64 % 64,128+r % 64]:=by rw [encN,if_neg h1,if_neg h2,if_pos h3]
      have k0:IntKind.i32.wrap ((r:Int).tdiv 4096)=((r / 4096:Nat):Int):=by rw [show ((4096:Int))=((4096:Nat):Int) from rfl,td,i32_of (by omega)]
      have k1:IntKind.i32.wrap ((r:Int).tdiv 64)=((r / 64:Nat):Int):=by rw [show ((64:Int))=((64:Nat):Int) from rfl,td,i32_of (by omega)]
      have k2:IntKind.i32.wrap (224+((r / 4096:Nat):Int))=((224+r / 4096:Nat):Int):=by rw [i32_of (by omega)];omega
      have k3:(r:Int).tmod 64=((r % 64:Nat):Int):=tm r 64
      have k4:IntKind.i32.wrap (128+((r % 64:Nat):Int))=((128+r % 64:Nat):Int):=by rw [i32_of (by omega)];omega
      have k5:((r / 64:Nat):Int).tmod 64=((r / 64 % 64:Nat):Int):=tm (r / 64) 64
      have k6:IntKind.i32.wrap (128+((r / 64 % 64:Nat):Int))=((128+r / 64 % 64:Nat):Int):=by rw [i32_of (by omega)];omega
      simp only [xq,reduceIte,qE,qA,qL,qD,b_quo (k:=.i32) (show (64:Int)≠0 by decide),b_quo (k:=.i32) (show (4096:Int)≠0 by decide),b_rem (k:=.i32) (show (64:Int)≠0 by decide),k0,k1,k2,k3,k4,k5,k6,u8_of (show 0≤((224+r / 4096:Nat):Int)∧((224+r / 4096:Nat):Int)≤255 by omega),u8_of (show 0≤((128+r / 64 % 64:Nat):Int)∧((128+r / 64 % 64:Nat):Int)≤255 by omega),u8_of (show 0≤((128+r % 64:Nat):Int)∧((128+r % 64:Nat):Int)≤255 by omega),kRows_len]
      refine ⟨by simp only [room];omega,by simp only [maxLen];omega,?_⟩
      refine W_reg ?_
      simp only [xq,reduceIte,qE,qA,qL,qD,f1]
      have:kRows E++[[A.sc (.int .u8 ((224+r / 4096:Nat):Int))],[A.sc (.int .u8 ((128+r / 64 % 64:Nat):Int))],[A.sc (.int .u8 ((128+r % 64:Nat):Int))]]=kRows (E++encN r):=by rw [he,← kRows_app];rfl
      rw [this]
      refine fin _ _ rfl ?_ rfl
      simp [x_upd,he]
    · have h3:¬ r<65536:=by simpa using h3
      have he:encN r=[240+r / 262144,128+r / 4096 % 64,128+r / 64 % 64,128+r % 64]:=by rw [encN,if_neg h1,if_neg h2,if_neg h3]
      have k0:IntKind.i32.wrap ((r:Int).tdiv 4096)=((r / 4096:Nat):Int):=by rw [show ((4096:Int))=((4096:Nat):Int) from rfl,td,i32_of (by omega)]
      have k1:IntKind.i32.wrap ((r:Int).tdiv 64)=((r / 64:Nat):Int):=by rw [show ((64:Int))=((64:Nat):Int) from rfl,td,i32_of (by omega)]
      have k9:IntKind.i32.wrap ((r:Int).tdiv 262144)=((r / 262144:Nat):Int):=by rw [show ((262144:Int))=((262144:Nat):Int) from rfl,td,i32_of (by omega)]
      have k2:IntKind.i32.wrap (240+((r / 262144:Nat):Int))=((240+r / 262144:Nat):Int):=by rw [i32_of (by omega)];omega
      have k3:(r:Int).tmod 64=((r % 64:Nat):Int):=tm r 64
      have k4:IntKind.i32.wrap (128+((r % 64:Nat):Int))=((128+r % 64:Nat):Int):=by rw [i32_of (by omega)];omega
      have k5:((r / 64:Nat):Int).tmod 64=((r / 64 % 64:Nat):Int):=tm (r / 64) 64
      have k6:IntKind.i32.wrap (128+((r / 64 % 64:Nat):Int))=((128+r / 64 % 64:Nat):Int):=by rw [i32_of (by omega)];omega
      have k7:((r / 4096:Nat):Int).tmod 64=((r / 4096 % 64:Nat):Int):=tm (r / 4096) 64
      have k8:IntKind.i32.wrap (128+((r / 4096 % 64:Nat):Int))=((128+r / 4096 % 64:Nat):Int):=by rw [i32_of (by omega)];omega
      simp only [xq,reduceIte,qE,qA,qL,qD,b_quo (k:=.i32) (show (64:Int)≠0 by decide),b_quo (k:=.i32) (show (4096:Int)≠0 by decide),b_quo (k:=.i32) (show (262144:Int)≠0 by decide),b_rem (k:=.i32) (show (64:Int)≠0 by decide),k0,k1,k2,k3,k4,k5,k6,k7,k8,k9,u8_of (show 0≤((240+r / 262144:Nat):Int)∧((240+r / 262144:Nat):Int)≤255 by omega),u8_of (show 0≤((128+r / 4096 % 64:Nat):Int)∧((128+r / 4096 % 64:Nat):Int)≤255 by omega),u8_of (show 0≤((128+r / 64 % 64:Nat):Int)∧((128+r / 64 % 64:Nat):Int)≤255 by omega),u8_of (show 0≤((128+r % 64:Nat):Int)∧((128+r % 64:Nat):Int)≤255 by omega),kRows_len]
      refine ⟨by simp only [room];omega,by simp only [maxLen];omega,?_⟩
      refine W_reg ?_
      simp only [xq,reduceIte,qE,qA,qL,qD,f1]
      have:kRows E++[[A.sc (.int .u8 ((240+r / 262144:Nat):Int))],[A.sc (.int .u8 ((128+r / 4096 % 64:Nat):Int))],[A.sc (.int .u8 ((128+r / 64 % 64:Nat):Int))],[A.sc (.int .u8 ((128+r % 64:Nat):Int))]]=kRows (E++encN r):=by rw [he,← kRows_app];rfl
      rw [this]
      refine fin _ _ rfl ?_ rfl
      simp [x_upd,he]
  · have hii:i=l.length:=by simp at hc;omega
    subst hii
    rw [zh] at hel ⊢
    simp only [xq,reduceIte,qE,qA,qL,qD]
    refine W_seq (W_reg ?_)
    have ht:(kRows (encL l)).take (encL l).length=kRows (encL l):=List.take_of_length_le (by rw [kRows_len];exact Nat.le_refl _)
    simp only [xq,reduceIte,qE,qA,qL,qD,zh,x_b2s,sliceRows_ref,kRows_len,ht,bs_r,kRows_bytes,bs_n]
    refine ⟨by simp only [zg,maxLen];omega,?_⟩
    refine W_ret (.tmp ?_ rfl)
    simp only [x_upd,reduceIte];rfl
theorem refValidL_fn {f fd fe:FuncId} (H:FnIs P f N [.t 2] (x_ref01_Valid fd fe)) (hN:1≤N) (Hd:∀ s:ByteArray,s.size≤2000000→FnP Γ P fd [.str ⟨#[]⟩,.str s] (decA (toN s.data.toList))) (He:∀ l:List Int,l.length≤2000000→FnP Γ P fe [.d (.sl eRu (irRows l))] (.str (numS (encL l))))
    (s:ByteArray) (hs:s.size≤2000000):FnP Γ P f [.str s] (.bool (validS s)):=by
  have hv:validS s=(decide ((drun (toN s.data.toList)).2=[])&&decide (numS (encL (drun (toN s.data.toList)).1)=s)):=by
    rw [validS,← refValid_eq,refValid]
    congr 1
    rw [ze]
    simp only [decide_eq_true_eq,bytes_ext,numS_encL]
  have hl:=drun_len s
  rw [hv]
  refine .of_W H (by simpa using hN) ?_
  unfold x_ref01_Valid
  refine W_seq (W_reg ?_)
  simp only [xq,reduceIte,qE,qA,qL,qD]
  refine W_seq (W_reg ?_)
  simp only [xq,reduceIte,qE,qA,qL,qD]
  refine c_fn (Hd s hs) rfl ?_
  simp only [xq,reduceIte,qE,qA,qL,qD,decA]
  refine W_seq (W_reg ?_)
  generalize (drun (toN s.data.toList)).1=l at hl
  generalize (drun (toN s.data.toList)).2=k
  cases hk:decide (k=[]) with
  | true =>
    simp only [xq,reduceIte,qE,qA,qL,qD,numS_empty,hk]
    refine c_fn (He l (by omega)) rfl ?_
    simp only [xq,reduceIte,qE,qA,qL,qD]
    refine W_ret (.tmp ?_ rfl)
    simp only [x_upd,reduceIte,Bool.true_and]
  | false =>
    simp only [xq,reduceIte,qE,qA,qL,qD,numS_empty,hk]
    refine W_ret (.tmp ?_ rfl)
    simp only [x_upd,reduceIte,Bool.false_and]
theorem refCharsL_fn {f fd:FuncId} (H:FnIs P f N [.t 2] (x_ref03_Characters fd)) (hN:1≤N) (Hd:∀ s:ByteArray,s.size≤2000000→FnP Γ P fd [.str ⟨#[]⟩,.str s] (decA (toN s.data.toList))) (s:ByteArray) (hs:s.size≤2000000) (hv:validS s=true) :
    FnP Γ P f [.str s] (.d (.sl eRn (rnRows (runesOf s)))):=by
  have hr:irRows (drun (toN s.data.toList)).1=rnRows (runesOf s):=by
    rw [refRunes hv]
    simp only [irRows,rnRows,List.map_map];rfl
  refine .of_W H (by simpa using hN) ?_
  unfold x_ref03_Characters
  refine W_seq (W_reg ?_)
  simp only [xq,reduceIte,qE,qA,qL,qD]
  refine W_seq (W_reg ?_)
  simp only [xq,reduceIte,qE,qA,qL,qD]
  refine c_fn (Hd s hs) rfl ?_
  simp only [xq,reduceIte,qE,qA,qL,qD,decA,hr]
  refine W_seq (W_reg ?_)
  simp only [xq,reduceIte,qE,qA,qL,qD]
  refine W_ret (.tmp ?_ rfl)
  simp only [x_upd,reduceIte]
theorem check3L_fn {f fv fc fk fw:FuncId} (H:FnIs P f N [.t 2] (x_ref03_Check fv fc fk fw)) (hN:1≤N) (Hv:∀ s:ByteArray,s.size≤2000000→FnP Γ P fv [.str s] (.bool (validS s)))
    (Hc:∀ s:ByteArray,s.size≤2000000→validS s=true→FnP Γ P fc [.str s] (.d (.sl eRn (rnRows (runesOf s))))) (Hk:∀ r,FnP Γ P fk [.sc (.int .i32 r)] (.bool (markC r))) (Hw:∀ r,FnP Γ P fw [.sc (.int .i32 r)] (.int (widthC r)))
    (s:ByteArray) (hs:s.size≤2000000):FnP Γ P f [.str s] (.int (chkC s)):=by
  refine .of_W H (by simpa using hN) ?_
  unfold x_ref03_Check
  refine W_seq (W_reg ?_)
  simp only [xq,reduceIte,qE,qA,qL,qD]
  let S:Bool→St:=fun b=>⟨look [(0,.str s),(11,.bool b)],[]⟩
  have e0:decide (s=⟨#[]⟩)=decide (s.size=0):=by rw [ze];simp only [decide_eq_true_eq];exact bytes_empty
  refine W_seq (W_cutX (· = S (decide (s.size=0) || !validS s)) rfl (fun K hK=>?_) ?_)
  · cases h0:decide (s.size=0) with
    | true =>
      simp only [xq,reduceIte,qE,qA,qL,qD,e0,h0]
      exact hK _ (S true) (Co.keep _ (by simp [x_upd,x_look])) (by rw [h0,Bool.true_or])
    | false =>
      simp only [xq,reduceIte,qE,qA,qL,qD,e0,h0]
      refine c_fn (Hv s hs) rfl ?_
      simp only [xq,reduceIte,qE,qA,qL,qD]
      exact hK _ (S (!validS s)) (Co.keep _ (by simp [x_upd,x_look])) (by rw [h0,Bool.false_or])
  · rintro _ rfl
    refine W_cond rfl (fun hc=>?_) (fun hc=>W_skip ?_)
    · refine W_seq (W_reg ?_)
      simp only [S,xq,reduceIte,qE,qA,qL,qD]
      refine W_ret (.tmp ?_ rfl)
      have:s.size=0∨validS s=false:=by simpa using hc
      simp only [x_upd,reduceIte,chkC,this]
    · have hno:¬ (s.size=0∨validS s=false):=by
        intro h
        rw [Bool.eq_false_iff] at hc
        exact hc (by simpa using h)
      have hv:validS s=true:=by
        cases h:validS s with
        | true=>rfl
        | false=>exact absurd (.inr h) hno
      have hne:=runes_ne hv (by omega)
      have hlen:=runesOf_len s
      have hchk:chkC s=chkR (runesOf s):=by rw [chkC,if_neg hno]
      rw [hchk]
      have hC:=Hc s hs hv
      simp only [S,xq,reduceIte,qE,qA,qL,qD]
      refine W_seq (W_reg ?_)
      simp only [xq,reduceIte,qE,qA,qL,qD]
      refine c_fn hC rfl ?_
      generalize runesOf s=l at hne hlen
      cases l with
      | nil=>exact absurd rfl hne
      | cons r l =>
        have hr0:(rnRows (r::l)).getD 0 []=[.sc (.int .i32 r)]:=rfl
        have k2:(0:Int)<((l.length+1:Nat):Int):=by omega
        simp only [xq,reduceIte,qE,qA,qL,qD]
        let T:Bool→St:=fun b=>⟨look [(3,.d (.sl eRn (rnRows (r::l)))),(24,.bool b)],[]⟩
        refine W_seq (W_cutX (· = T (decide (widthC r<1))) rfl (fun K hK=>?_) ?_)
        · simp only [xq,reduceIte,qE,qA,qL,qD,rnRows_len,hr0,Int.le_refl,k2]
          refine c_fn (Hk _) rfl ?_
          cases h1:markC r with
          | true =>
            simp only [xq,reduceIte,qE,qA,qL,qD]
            exact hK _ (T true) (Co.keep _ (by simp [x_upd,x_look])) (by rw [decide_eq_true (widthC_mark h1)])
          | false =>
            simp only [xq,reduceIte,qE,qA,qL,qD,rnRows_len,hr0,Int.le_refl,k2]
            refine c_fn (Hw _) rfl ?_
            simp only [xq,reduceIte,qE,qA,qL,qD]
            exact hK _ (T (decide (widthC r<1))) (Co.keep _ (by simp [x_upd,x_look])) rfl
        · rintro _ rfl
          refine W_cond rfl (fun hd=>?_) (fun hd=>W_skip ?_)
          · refine W_seq (W_reg ?_)
            simp only [T,xq,reduceIte,qE,qA,qL,qD]
            refine W_ret (.tmp ?_ rfl)
            have:widthC r<1:=by simpa using hd
            simp only [x_upd,reduceIte,chkR,this,true_or]
          · have hw1:¬ widthC r<1:=by simpa using hd
            simp only [T,xq,reduceIte,qE,qA,qL,qD]
            refine W_seq (W_seq (W_reg ?_))
            simp only [xq,reduceIte,qE,qA,qL,qD]
            refine W_block ?_
            let U:Nat→St:=fun i=>⟨look [(3,.d (.sl eRn (rnRows (r::l)))),(4,.int ((i+1:Nat):Int))],[]⟩
            refine W_co (s':=U 0) (Co.keep _ (by simp [x_upd,x_look])) ?_
            refine W_loop (fun m s=>∃ i,i≤l.length∧m=l.length-i∧s=U i∧(l.take i).any (fun n => !markC n)=false) ⟨0,zI _,rfl,rfl,by simp⟩ ?_
            rintro m s0 ⟨i,hi,rfl,rfl,hpre⟩
            have gi:decide (((i+1:Nat):Int)<(((r::l).length:Nat):Int))=decide (i<l.length):=by rw [ze];simp
            simp only [List.length_cons] at gi
            refine W_seq (W_seq (W_reg ?_))
            simp only [U,xq,reduceIte,qE,qA,qL,qD,rnRows_len,gi]
            refine W_cond rfl (fun hc=>W_skip ?_) (fun hc=>W_exit ?_)
            · have hlt:i<l.length:=by simpa using hc
              have hri:(rnRows (r::l)).getD (i+1) []=[.sc (.int .i32 l[i])]:=by
                rw [rnRows_get (by simp;omega)];rfl
              simp only [xq,reduceIte,qE,qA,qL,qD]
              refine W_seq (W_block (W_seq (W_reg ?_)))
              simp only [xq,reduceIte,qE,qA,qL,qD,hri,rnRows_len]
              refine ⟨by omega,by omega,?_⟩
              refine c_fn (Hk _) rfl ?_
              simp only [xq,reduceIte,qE,qA,qL,qD]
              refine W_cond rfl (fun hd=>?_) (fun hd=>W_skip ?_)
              · refine W_seq (W_reg ?_)
                simp only [xq,reduceIte,qE,qA,qL,qD]
                refine W_ret ?_
                simp only [xq,reduceIte,qE,qA,qL,qD]
                refine .tmp ?_ rfl
                have:(l.all fun n=>markC n)=false:=by
                  rw [List.all_eq_false]
                  exact ⟨l[i],List.getElem_mem hlt,by simpa using hd⟩
                simp only [x_upd,reduceIte,chkR,this,or_true]
              · simp only [xq,reduceIte,qE,qA,qL,qD]
                refine W_reg ?_
                simp only [xq,reduceIte,qE,qA,qL,qD]
                refine ⟨l.length-(i+1),U (i+1),by omega,Co.keep _ ?_,i+1,hlt,rfl,rfl,any_take_succ hlt hpre hd⟩
                have:IntKind.i64.wrap ((i:Int)+1+1)=(i:Int)+1+1:=i64_of (by simp at hlen;omega)
                simp [x_upd,x_look,this]
            · have hle:i=l.length:=by simp at hc;omega
              subst hle
              rw [zh] at hpre
              have hall:(l.all fun n=>markC n)=true:=by
                rw [List.all_eq_true]
                intro n hn
                have h2:=List.any_eq_false.1 hpre n hn
                simpa using h2
              have hno2:¬ (widthC r<1∨(l.all fun n=>markC n)=false):=by
                rw [hall];simp;omega
              simp only [xq,reduceIte,qE,qA,qL,qD]
              refine W_seq (W_seq (W_reg ?_))
              simp only [xq,reduceIte,qE,qA,qL,qD,rnRows_len]
              refine W_cond rfl (fun h3=>?_) (fun h3=>W_skip ?_)
              · refine W_seq (W_reg ?_)
                simp only [xq,reduceIte,qE,qA,qL,qD]
                refine W_ret ?_
                simp only [xq,reduceIte,qE,qA,qL,qD]
                refine .tmp ?_ rfl
                have:3<l.length:=by simp at h3;omega
                simp only [x_upd,reduceIte,chkR,hno2,this]
              · simp only [xq,reduceIte,qE,qA,qL,qD]
                refine W_seq (W_reg ?_)
                simp only [xq,reduceIte,qE,qA,qL,qD]
                refine W_ret (.tmp ?_ rfl)
                have:¬ 3<l.length:=by simp at h3;omega
                simp only [x_upd,reduceIte,chkR,hno2,this]
theorem cwidth3L_fn {f fc fr fw:FuncId} (H:FnIs P f N [.t 2] (x_ref03_Width fc fr fw)) (hN:1≤N) (Hc:∀ s:ByteArray,s.size≤2000000→FnP Γ P fc [.str s] (.int (chkC s)))
    (Hr:∀ s:ByteArray,s.size≤2000000→validS s=true→FnP Γ P fr [.str s] (.d (.sl eRn (rnRows (runesOf s))))) (Hw:∀ r,FnP Γ P fw [.sc (.int .i32 r)] (.int (widthC r))) (s:ByteArray) (hs:s.size≤2000000) :
    FnP Γ P f [.str s] (.int (widC s)):=by
  refine .of_W H (by simpa using hN) ?_
  unfold x_ref03_Width
  refine W_seq (W_reg ?_)
  simp only [xq,reduceIte,qE,qA,qL,qD]
  refine W_seq (W_seq (W_reg ?_))
  simp only [xq,reduceIte,qE,qA,qL,qD]
  refine c_fn (Hc s hs) rfl ?_
  simp only [xq,reduceIte,qE,qA,qL,qD]
  refine W_cond rfl (fun hc=>?_) (fun hc=>W_skip ?_)
  · have hc:¬ chkC s=0:=by simpa using hc
    refine W_seq (W_reg ?_)
    simp only [xq,reduceIte,qE,qA,qL,qD]
    refine W_ret (.tmp ?_ rfl)
    simp only [x_upd,reduceIte,widC,runesC,if_neg hc]
  · have hc:chkC s=0:=by simpa using hc
    have hno:¬ (s.size=0∨validS s=false):=by
      intro h
      rw [chkC,if_pos h] at hc
      cases hc
    have hv:validS s=true:=by
      cases h:validS s with
      | true=>rfl
      | false=>exact absurd (.inr h) hno
    have hne:=runes_ne hv (by omega)
    have hR:=Hr s hs hv
    have hrc:runesC s=runesOf s:=by rw [runesC,if_pos hc]
    unfold widC
    rw [hrc]
    simp only [xq,reduceIte,qE,qA,qL,qD]
    refine W_seq (W_reg ?_)
    simp only [xq,reduceIte,qE,qA,qL,qD]
    refine c_fn hR rfl ?_
    generalize runesOf s=l at hne
    cases l with
    | nil=>exact absurd rfl hne
    | cons r l =>
      have hr0:(rnRows (r::l)).getD 0 []=[.sc (.int .i32 r)]:=rfl
      simp only [xq,reduceIte,qE,qA,qL,qD,rnRows_len,hr0]
      refine ⟨by decide,by simp,?_⟩
      refine c_fn (Hw _) rfl ?_
      simp only [xq,reduceIte,qE,qA,qL,qD]
      refine W_ret (.tmp ?_ rfl)
      simp only [x_upd,reduceIte]
set_option maxHeartbeats 400000 in
theorem refRowL_fn {f fc fw:FuncId} (H:FnIs P f N [.t 2] (x_ref07_Check fc fw)) (hN:1≤N) (Hc:∀ s:ByteArray,s.size≤2000000→FnP Γ P fc [.str s] (.int (chkC s))) (Hw:∀ s:ByteArray,s.size≤2000000→FnP Γ P fw [.str s] (.int (widC s)))
    (l:List Ce) (ht:∀ c∈l,c.text.size≤2000000):FnP Γ P f [.d (.sl eCe (ceRows l))] (.int (checkR l)):=by
  refine .of_W H (by simpa using hN) ?_
  unfold x_ref07_Check
  refine W_seq (W_reg ?_)
  simp only [xq,reduceIte,qE,qA,qL,qD]
  have g1:decide ((l.length:Int)<1)=decide (l.length<1):=by rw [ze];simp only [decide_eq_true_eq];omega
  have g2:decide ((132:Int)<(l.length:Int))=decide (132<l.length):=by rw [ze];simp only [decide_eq_true_eq];omega
  let S:Bool→St:=fun b=>⟨look [(0,.d (.sl eCe (ceRows l))),(12,.bool b)],[]⟩
  refine W_seq (W_cutX (· = S (decide (l.length<1)||decide (132<l.length))) rfl (fun K hK=>?_) ?_)
  · cases e:decide (l.length<1)<;>simp only [xq,reduceIte,qE,qA,qL,qD,ceRows_length,g1,g2,e]
    all_goals (refine hK _ _ (Co.keep _ ?_) rfl;generalize l.length=n at e ⊢; simp only [e,Bool.true_or,Bool.false_or];simp [x_upd,x_look])
  rintro _ rfl
  refine W_cond rfl (fun hc=>?_) (fun hc=>W_skip ?_)
  · have hc:l.length<1∨132<l.length:=by simpa using hc
    refine W_seq (W_reg ?_)
    simp only [S,xq,reduceIte,qE,qA,qL,qD]
    refine W_ret (.tmp ?_ rfl)
    simp only [x_upd,reduceIte,checkR,if_pos hc]
  have hno:¬ (l.length<1∨132<l.length):=by
    intro h
    rw [Bool.eq_false_iff] at hc
    exact hc (by simpa using h)
  have hck:checkR l=rowCk l:=by rw [checkR,if_neg hno]
  rw [hck]
  simp only [S,xq,reduceIte,qE,qA,qL,qD]
  refine W_seq (W_seq (W_reg ?_))
  simp only [xq,reduceIte,qE,qA,qL,qD]
  refine W_block ?_
  let T:Nat→St:=fun i=>⟨look [(0,.d (.sl eCe (ceRows l))),(3,.int i)],[]⟩
  refine W_co (s':=T 0) (Co.keep _ (by simp [x_upd,x_look])) ?_
  refine W_loop (fun m s=>∃ i,i≤l.length∧m=l.length-i∧s=T i∧rowCk (l.drop i)=rowCk l) ⟨0,zI _,rfl,rfl,by simp⟩ ?_
  rintro m s ⟨i,hi,rfl,rfl,hpre⟩
  refine W_seq (W_seq (W_reg ?_))
  simp only [T,xq,reduceIte,qE,qA,qL,qD,ceRows_length]
  refine W_cond rfl (fun hc=>W_skip ?_) (fun hc=>W_exit ?_)
  · have hlt:i<l.length:=by simpa using hc
    have htx:=ht _ (List.getElem_mem hlt)
    rw [rowCk_at hlt] at hpre
    have k1:(0:Int)≤(i:Int):=by omega
    have k2:((i:Int)<(l.length:Int)):=by omega
    simp only [xq,reduceIte,qE,qA,qL,qD]
    have hget:(ceRows l).getD i []=l[i].row:=ceRows_get hlt
    have hnext:∀ h:i+1<l.length,(ceRows l).getD (i+1) []=l[i+1].row:=fun h=>ceRows_get h
    generalize hci:l[i]=c at hpre htx hget
    refine W_seq (W_block (W_seq (W_reg ?_)))
    simp only [xq,reduceIte,qE,qA,qL,qD,hget,Ce.row,ceRows_length,k1,k2]
    let U:List (Nat × A)→St:=fun t=>⟨look ((0,.d (.sl eCe (ceRows l)))::(3,.int i)::(4,.int c.width)::t),[]⟩
    refine W_seq (W_cutX (· = U [(29,.bool (!decide (c.width=1) && !decide (c.width=2)))]) rfl (fun K hK=>?_) ?_)
    · cases e:decide (c.width=1)<;>simp only [xq,reduceIte,qE,qA,qL,qD,e]
      all_goals (refine hK _ _ (Co.keep _ ?_) rfl;simp only [Bool.not_true,Bool.not_false,Bool.true_and,Bool.false_and];simp [x_upd,x_look,e])
    rintro _ rfl
    refine W_cond rfl (fun hw=>?_) (fun hw=>W_skip ?_)
    · refine W_seq (W_reg ?_)
      simp only [U,xq,reduceIte,qE,qA,qL,qD]
      refine W_ret ?_
      simp only [xq,reduceIte,qE,qA,qL,qD]
      refine .tmp ?_ rfl
      have:¬ (c.width=1∨c.width=2):=by simpa using hw
      rw [if_pos this] at hpre
      simp only [x_upd,reduceIte,← hpre]
    have hw12:¬¬ (c.width=1∨c.width=2):=by
      intro h
      rw [Bool.eq_false_iff] at hw
      exact hw (by simpa using h)
    rw [if_neg hw12] at hpre
    have hw12:c.width=1∨c.width=2:=Decidable.not_not.1 hw12
    simp only [U,xq,reduceIte,qE,qA,qL,qD]
    refine W_seq (W_seq (W_reg ?_))
    simp only [xq,reduceIte,qE,qA,qL,qD,hget,Ce.row,ceRows_length,k1,k2]
    refine c_fn (Hc _ htx) rfl ?_
    simp only [xq,reduceIte,qE,qA,qL,qD]
    refine W_cond rfl (fun hk=>?_) (fun hk=>W_skip ?_)
    · have hk:¬ chkC c.text=0:=by simpa using hk
      rw [if_neg hk] at hpre
      refine W_seq (W_reg ?_)
      simp only [xq,reduceIte,qE,qA,qL,qD]
      refine W_ret ?_
      simp only [xq,reduceIte,qE,qA,qL,qD]
      refine .tmp ?_ rfl
      simp only [x_upd,reduceIte,← hpre]
    have hk:chkC c.text=0:=by simpa using hk
    rw [if_pos hk] at hpre
    simp only [xq,reduceIte,qE,qA,qL,qD]
    refine W_seq (W_seq (W_reg ?_))
    simp only [xq,reduceIte,qE,qA,qL,qD,hget,Ce.row,ceRows_length,k1,k2]
    refine c_fn (Hw _ htx) rfl ?_
    simp only [xq,reduceIte,qE,qA,qL,qD]
    refine W_cond rfl (fun hv=>?_) (fun hv=>W_skip ?_)
    · have hv:¬ widC c.text=c.width:=by simpa using hv
      rw [if_neg hv] at hpre
      refine W_seq (W_reg ?_)
      simp only [xq,reduceIte,qE,qA,qL,qD]
      refine W_ret ?_
      simp only [xq,reduceIte,qE,qA,qL,qD]
      refine .tmp ?_ rfl
      simp only [x_upd,reduceIte,← hpre]
    have hv:widC c.text=c.width:=by simpa using hv
    rw [if_pos hv] at hpre
    simp only [xq,reduceIte,qE,qA,qL,qD]
    refine W_co (s':=U []) (Co.keep _ (by simp [x_upd,x_look])) ?_
    have f1:IntKind.i64.wrap ((i:Int)+1)=((i+1:Nat):Int):=i64_of (by omega)
    have f2:IntKind.i64.wrap (((i+1:Nat):Int)+1)=((i+2:Nat):Int):=by rw [i64_of (by omega)];omega
    refine W_seq (W_seq (W_reg ?_))
    simp only [U,xq,reduceIte,qE,qA,qL,qD]
    refine W_cond rfl (fun h1=>W_exit ?_) (fun h1=>W_skip ?_)
    · have h1:c.width=1:=by simpa using h1
      rw [if_neg (by omega)] at hpre
      simp only [xq,reduceIte,qE,qA,qL,qD]
      refine W_reg ?_
      simp only [xq,reduceIte,qE,qA,qL,qD,f1]
      refine ⟨l.length-(i+1),T (i+1),by omega,Co.keep _ ?_,i+1,hlt,rfl,rfl,hpre⟩
      simp [x_upd,x_look]
    have h1:¬ c.width=1:=by simpa using h1
    have hw2:c.width=2:=by omega
    rw [if_pos hw2] at hpre
    simp only [xq,reduceIte,qE,qA,qL,qD]
    refine W_co (s':=U []) (Co.keep _ (by simp [x_upd,x_look])) ?_
    let B:Bool:=decide (i+1=l.length) || !decide (l[i+1]? = some (pairC c))
    refine W_seq (W_cut (· = U [(65,.bool B)]) (W_drw (by simp) ?_) ?_)
    · have fin:∀ sl b,sl 0 = .d (.sl eCe (ceRows l))→sl 3 = .int i→sl 4 = .int c.width→sl 65 = .bool b→b=B→∃ s1,Co 0 ⟨sl,[]⟩ s1∧s1=U [(65,.bool B)]:=fun sl b a0 a3 a4 a5 a6=>by
        subst a6
        exact ⟨U [(65,.bool B)],Co.keep _ (by simp [a0,a3,a4,a5]),rfl⟩
      by_cases hn:i+1<l.length
      · have g3:decide (((i+1:Nat):Int)=(l.length:Int))=false:=decide_eq_false (by omega)
        have g4:decide (i+1=l.length)=false:=decide_eq_false (by omega)
        refine run_take 6 fun K1 hK1=>?_
        simp only [U,xq,reduceIte,qE,qA,qL,qD,ceRows_length,f1,g3]
        refine hK1 _ ?_
        refine run_take 5 fun K1 hK1=>?_
        simp only [xq,reduceIte,qE,qA,qL,qD,ceRows_length,f1,hnext hn,Ce.row]
        refine ⟨by omega,by omega,hK1 _ ?_⟩
        refine run_take 5 fun K1 hK1=>?_
        simp only [xq,reduceIte,qE,qA,qL,qD,hget,Ce.row,ceRows_length,k1,k2]
        refine hK1 _ ?_
        have he:=ce_eq l[i+1] (pairC c)
        simp only [pairC] at he
        have e4:decide (l[i+1]? = some (pairC c))=decide (l[i+1]=pairC c):=by rw [zB hn];simp
        simp only [xq,reduceIte,qE,qA,qL,qD]
        refine fin _ _ rfl rfl rfl rfl ((congrArg (fun b => !b) he).trans ?_)
        simp only [B,g4,e4,Bool.false_or];rfl
      · have g3:decide (((i+1:Nat):Int)=(l.length:Int))=true:=decide_eq_true (by omega)
        have g4:decide (i+1=l.length)=true:=decide_eq_true (by omega)
        refine run_take 6 fun K1 hK1=>?_
        simp only [U,xq,reduceIte,qE,qA,qL,qD,ceRows_length,f1,g3]
        refine hK1 _ ?_
        refine run_take 7 fun K1 hK1=>?_
        simp only [xq,reduceIte,qE,qA,qL,qD]
        refine hK1 _ ?_
        simp only [xq,reduceIte,qE,qA,qL,qD]
        exact fin _ true rfl rfl rfl rfl (by simp only [B,g4,Bool.true_or])
    rintro _ rfl
    refine W_cond rfl (fun hB=>?_) (fun hB=>W_skip ?_)
    · refine W_seq (W_reg ?_)
      simp only [U,xq,reduceIte,qE,qA,qL,qD]
      refine W_ret ?_
      simp only [xq,reduceIte,qE,qA,qL,qD]
      refine .tmp ?_ rfl
      simp only [B,Bool.or_eq_true,decide_eq_true_eq,Bool.not_eq_true',decide_eq_false_iff_not] at hB
      by_cases hn:i+1<l.length
      · rw [dif_pos hn,if_neg] at hpre
        · simp only [x_upd,reduceIte,← hpre]
        · rcases hB with h | h
          · omega
          · rw [zB hn] at h
            exact fun h'=>h (by rw [h'])
      · rw [dif_neg hn] at hpre
        simp only [x_upd,reduceIte,← hpre]
    · have hB':i+1<l.length∧l[i+1]? = some (pairC c):=by
        simp only [B,Bool.or_eq_false_iff,decide_eq_false_iff_not,Bool.not_eq_false',decide_eq_true_eq] at hB
        exact ⟨by omega,hB.2⟩
      obtain ⟨hn,hq⟩:=hB'
      rw [zB hn] at hq
      rw [dif_pos hn,if_pos (Option.some.inj hq)] at hpre
      simp only [U,xq,reduceIte,qE,qA,qL,qD]
      refine W_reg ?_
      simp only [xq,reduceIte,qE,qA,qL,qD,f1]
      refine W_reg ?_
      simp only [xq,reduceIte,qE,qA,qL,qD,f2]
      refine ⟨l.length-(i+2),T (i+2),by omega,Co.keep _ ?_,i+2,hn,rfl,rfl,hpre⟩
      simp [x_upd,x_look]
  · have hle:i=l.length:=by simp at hc;omega
    subst hle
    rw [List.drop_length] at hpre
    simp only [xq,reduceIte,qE,qA,qL,qD]
    refine W_seq (W_reg ?_)
    simp only [xq,reduceIte,qE,qA,qL,qD]
    refine W_ret (.tmp ?_ rfl)
    simp only [x_upd,reduceIte,← hpre];rfl
end Go.Proofs.YthhjkfilfhmakaaDoor.Nx

import Derived.Test.YthhjkfilfhmakaaDoorNxLink
set_option linter.unusedSimpArgs false
set_option linter.unusedVariables false
set_option linter.unnecessarySimpa false
open List renaming getElem?_eq_some_iff → zA, getElem?_eq_getElem → zB, getD_eq_getElem?_getD → zC, getElem?_append_left → zF, getElem?_append_right → zG, getElem?_map → zK, mem_of_getElem? → zY, mem_cons_of_mem → zZ, getElem?_drop → zl, getElem?_take → zm
open Option renaming bind_eq_some_iff → zD, map_eq_some_iff → zT
open Option.some renaming injEq → zH
open Array renaming getD_eq_getD_getElem? → zR
namespace Go.Proofs.YthhjkfilfhmakaaDoor.Nx
open Go Go.ChangeShapes Go.WideShapes Go.RowKit
mutual
def WTB (B:Nat):Ty→List D→Prop
  | .int k,xs=>∃ n,xs=[.sc (.int k n)]∧k.min≤n∧n≤k.max
  | .bool,xs=>∃ b,xs=[.sc (.bool b)]
  | .str,xs=>∃ s,xs=[.sc (.string s)]∧s.size≤maxLen∧s.size≤B
  | .sl e t,xs=>∃ rows,xs=[.sl e rows]∧∀ r∈rows,WTB B t r
  | .st ts,xs=>WTsB B ts xs
def WTsB (B:Nat):List Ty→List D→Prop
  | [],xs=>xs=[]
  | t::ts,xs=>∃ a b,xs=a++b∧WTB B t a∧WTsB B ts b
end
def WTAllB (B:Nat):List Ty→List (List D)→Prop
  | [],[]=>True
  | t::ts,x::xs=>WTB B t x∧WTAllB B ts xs
  | _,_=>False
mutual
def dBulk {H:Type}:DataW H→Nat
  | .lit (.string bytes)=>bytes.length+1
  | .lit _=>1
  | .nil=>1
  | .ptr d=>dBulk d+1
  | .slice elems spare=>dBulkAll elems+dBulkAll spare+1
  | .agg parts=>dBulkAll parts+1
  | .iface _ d=>dBulk d+1
  | .map entries=>dBulkEntries entries+1
  | .held _=>1
def dBulkAll {H:Type}:List (DataW H)→Nat
  | []=>0
  | d::r=>dBulk d+dBulkAll r
def dBulkEntries {H:Type}:List (Lit × DataW H)→Nat
  | []=>0
  | x::r=>dBulkEntry x+dBulkEntries r
def dBulkEntry {H:Type}:Lit × DataW H→Nat
  | (.string bytes,d)=>bytes.length+dBulk d+1
  | (_,d)=>dBulk d+1
end
theorem dBulk_mem {H:Type} {d:DataW H}:∀ {l:List (DataW H)},d∈l→dBulk d≤dBulkAll l
  | [],h=>by cases h
  | x::l,h=>by
    simp only [dBulkAll]
    rcases List.mem_cons.1 h with rfl | h
    · omega
    · have:=dBulk_mem h;omega
variable {H:Type} {enc:TypeId × Value→H} {P:Program} {w:World} {X:Nat→Prop} {B:Nat}
def Rep1B {B:Nat} (P:Program) (w:World) (X:Nat→Prop) (t:TypeId) (ty:Ty) (cs:List Value):Prop :=
  ∃ xs:List D,WTB B ty xs∧xs.length=P.cellsOf t∧cs.length=xs.length∧∀ j x,xs[j]? = some x→RepD w X x (cs.getD j undef)
theorem fields_repB {rec:TypeId→Option Ty} {cs:List Value}:∀ (fs:List Go.Field) (off:Nat) (tys:List Ty) (en:Nat),tyFields P rec off fs=some (tys,en)→en≤cs.length →
    (∀ f∈fs,∀ ty,rec f.type=some ty→Rep1B (B:=B) P w X f.type ty ((cs.drop f.offset).take (P.cellsOf f.type))) →
    ∃ xs:List D,WTsB B tys xs∧off+xs.length=en∧∀ j x,xs[j]? = some x→RepD w X x (cs.getD (off+j) undef)
  | [],off,tys,en,h,_,_=>by
    simp only [tyFields,zH,Prod.mk.injEq] at h
    obtain ⟨rfl,rfl⟩:=h
    exact ⟨[],by simp [WTsB],rfl,fun j x hj=>by simp at hj⟩
  | f::fs,off,tys,en,h,hen,hf=>by
    simp only [tyFields] at h
    split at h
    · rename_i ho
      split at h
      · rename_i t ts en' h1 h2
        simp only [zH,Prod.mk.injEq] at h
        obtain ⟨rfl,rfl⟩:=h
        obtain ⟨b,hb1,hb2,hb3⟩:=fields_repB fs _ ts en' h2 hen fun g hg=>hf g (zZ _ hg)
        obtain ⟨a,ha1,ha2,ha3,ha4⟩:=hf f (List.mem_cons_self ..) t h1
        refine ⟨a++b,⟨a,b,rfl,ha1,hb1⟩,by simp [ha2];omega,fun j x hj=>?_⟩
        rcases Nat.lt_or_ge j a.length with hlt | hge
        · rw [zF hlt] at hj
          have:=ha4 j x hj
          simp only [zC] at this ⊢
          rw [zm,if_pos (by omega),zl,ho] at this
          exact this
        · rw [zG hge] at hj
          have:=hb3 (j-a.length) x hj
          have e:off+P.cellsOf f.type+(j-a.length)=off+j:=by omega
          rw [e] at this
          exact this
      · cases h
    · cases h
theorem array_repB {e:TypeId} {u:Ty} {cs:List Value}:∀ (n:Nat),n * P.cellsOf e≤cs.length→(∀ i,i<n→Rep1B (B:=B) P w X e u ((cs.drop (i * P.cellsOf e)).take (P.cellsOf e))) →
    ∃ xs:List D,WTsB B (List.replicate n u) xs∧xs.length=n * P.cellsOf e∧∀ j x,xs[j]? = some x→RepD w X x (cs.getD j undef):=by
  intro n
  induction n generalizing cs with
  | zero=>intro _ _;exact ⟨[],by simp [WTsB],by simp,fun j x hj=>by simp at hj⟩
  | succ n ih =>
    intro hn h
    obtain ⟨a,ha1,ha2,ha3,ha4⟩:=h 0 (Nat.zero_lt_succ n)
    have hn':P.cellsOf e+n * P.cellsOf e≤cs.length:=by rw [Nat.add_mul,Nat.one_mul] at hn;omega
    obtain ⟨b,hb1,hb2,hb3⟩:=ih (cs:=cs.drop (P.cellsOf e)) (by simp;omega) (fun i hi=>by
      have:=h (i+1) (by omega)
      rw [List.drop_drop]
      have e1:P.cellsOf e+i * P.cellsOf e=(i+1) * P.cellsOf e:=by rw [Nat.add_mul,Nat.one_mul];omega
      rw [e1];exact this)
    refine ⟨a++b,?_,by simp [ha2,hb2,Nat.add_mul];omega,fun j x hj=>?_⟩
    · rw [List.replicate_succ];exact ⟨a,b,rfl,ha1,hb1⟩
    · rcases Nat.lt_or_ge j a.length with hlt | hge
      · rw [zF hlt] at hj
        have:=ha4 j x hj
        simp only [Nat.zero_mul,List.drop_zero,zC] at this ⊢
        rw [zm,if_pos (by omega)] at this
        exact this
      · rw [zG hge] at hj
        have:=hb3 (j-a.length) x hj
        simp only [zC,zl] at this ⊢
        have e1:P.cellsOf e+(j-a.length)=j:=by omega
        rw [e1] at this
        exact this
theorem rep_of_trodB (hX:∀ b,¬ X b):∀ (m:Nat) (t:TypeId) (ty:Ty),tyOf P m t=some ty→∀ (n:Nat) (cs:List Value) (x:DataW H × List MemPlace),DataW.trod enc P w 0 (fun _=>true) true n t cs=some x→dBulk x.1≤B →
    (∀ k∈x.1.weights P t,k≤reachBytes)→Rep1B (B:=B) P w X t ty cs∧cs.length=P.cellsOf t:=by
  have one:∀ {t:TypeId} {ty:Ty} {cs:List Value},Rep1B (B:=B) P w X t ty cs→Rep1B (B:=B) P w X t ty cs∧cs.length=P.cellsOf t:=fun h=>⟨h,by obtain ⟨xs,_,h2,h3,_⟩:=h;omega⟩
  intro m
  induction m with
  | zero=>intro t ty h;simp [tyOf] at h
  | succ m ih =>
    intro t ty h n cs x hx hB hw
    simp only [tyOf] at h
    split at h
    · rename_i hu
      split at h<;>cases h
      rename_i sz1
      obtain ⟨b,rfl,rfl⟩:=DataW.trod_bool hu hx
      exact one ⟨[.sc (.bool b)],⟨b,rfl⟩,by simp [sz1],rfl,fun j x hj=>by cases j<;>simp at hj;subst hj;exact .sc trivial⟩
    · rename_i k hu
      split at h<;>cases h
      rename_i sz1
      obtain ⟨b,rfl,rfl,hb⟩:=DataW.trod_int hu hx
      simp only [Lit.wf,Bool.and_eq_true,decide_eq_true_eq] at hb
      exact one ⟨[.sc (.int k b)],⟨b,rfl,hb⟩,by simp [sz1],rfl,fun j x hj=>by cases j<;>simp at hj;subst hj;exact .sc hb⟩
    · rename_i hu
      split at h<;>cases h
      rename_i sz1
      obtain ⟨b,rfl,rfl,hb⟩:=DataW.trod_string hu hx
      exact one ⟨[.sc (.string b)],⟨b,rfl,hb,by simp only [dBulk,Array.length_toList] at hB;have:b.size=b.data.size:=rfl;omega⟩,by simp [sz1],rfl,fun j x hj=>by cases j<;>simp at hj;subst hj;exact .sc hb⟩
    · rename_i e hu
      split at h
      rotate_left
      · cases h
      rename_i sz1
      simp only [zT] at h
      obtain ⟨u,hu',rfl⟩:=h
      rcases DataW.trod_slice hu hx with ⟨rfl,rfl⟩ | ⟨a,len,cap,elems,rest,n',rfl,rfl,rfl,_,hlc,hcm,hel,hget,_,_⟩
      · exact one ⟨[.sl ⟨P.cellsOf e,P.bytesOf e⟩ []],⟨[],rfl,by simp⟩,by simp [sz1],rfl,fun j x hj=>by cases j<;>simp at hj;subst hj;exact .nil (Nat.zero_le _) (fun _=>rfl)⟩
      · have hrow:∀ i,i<len→∃ cs',w.cells? 0 (a.add (i * P.cellsOf e)) (P.cellsOf e)=some cs'∧Rep1B (B:=B) P w X e u cs':=by
          intro i hi
          have hg:=hget i hi
          obtain ⟨y,hy⟩:∃ y,elems[i]? = some y:=⟨_,zB (by omega)⟩
          rw [hy,zD] at hg
          obtain ⟨cs',h1,h2⟩:=hg
          refine ⟨cs',h1,(ih e u hu' n' cs' y h2 (by have:=dBulk_mem (List.mem_map.2 ⟨y,zY hy,rfl⟩:y.1∈elems.map (·.1));simp only [dBulk] at hB;omega) fun k hk=>hw k ?_).1⟩
          simp only [DataW.weights,hu]
          refine zZ _ (List.mem_append_left _ (weightsAll_mem hk ?_))
          exact List.mem_map.2 ⟨y,zY hy,rfl⟩
        have hex:∀ i,∃ xs:List D,i<len→WTB B u xs∧xs.length=P.cellsOf e∧∀ j d,xs[j]? = some d→∃ v,w.cell? (a.add (i * P.cellsOf e+j))=some v∧RepD w X d v:=by
          intro i
          by_cases hi:i<len
          · obtain ⟨cs',h1,xs,k1,k2,k3,k4⟩:=hrow i hi
            obtain ⟨c1,c2⟩:=cells_get h1
            refine ⟨xs,fun _=>⟨k1,k2,fun j d hj=>?_⟩⟩
            have hlt:=(zA.1 hj).1
            have:=c2 j (by omega)
            rw [addr_add] at this
            exact ⟨_,this,k4 j d hj⟩
          · exact ⟨[],fun h=>absurd h hi⟩
        let rows:List (List D):=(List.range len).map fun i=>(hex i).choose
        have hrows:∀ i r,rows[i]? = some r→i<len∧r=(hex i).choose:=by
          intro i r hr
          simp only [rows,zK,zT] at hr
          obtain ⟨i',hi',rfl⟩:=hr
          have hlt:=(zA.1 hi').1
          simp only [List.length_range] at hlt
          rw [List.getElem?_range hlt] at hi'
          cases hi'
          exact ⟨hlt,rfl⟩
        have hlen:rows.length=len:=by simp [rows]
        have hbytes:len * P.bytesOf e≤room:=by
          have:=hw ((elems.length+rest.length) * P.bytesOf e) (by simp [DataW.weights,hu])
          have h2:len * P.bytesOf e≤(elems.length+rest.length) * P.bytesOf e:=Nat.mul_le_mul_right _ (by omega)
          simp only [reachBytes] at this
          simp only [room]
          omega
        refine one ⟨[.sl ⟨P.cellsOf e,P.bytesOf e⟩ rows],⟨rows,rfl,fun r hr=>?_⟩,by simp [sz1],rfl,fun j x hj=>?_⟩
        · obtain ⟨i,hi⟩:=List.mem_iff_getElem?.1 hr
          obtain ⟨hlt,rfl⟩:=hrows i r hi
          exact ((hex i).choose_spec hlt).1
        · cases j with
          | succ j=>simp at hj
          | zero =>
            simp only [List.getElem?_cons_zero,zH] at hj
            subst hj
            simp only [zC,List.getElem?_cons_zero,Option.getD_some]
            have key:∀ i r j d,rows[i]? = some r→r[j]? = some d→∃ v,w.cell? (a.add (i * P.cellsOf e+j))=some v∧RepD w X d v:=by
              intro i r j d hi hj
              obtain ⟨hlt,rfl⟩:=hrows i r hi
              exact ((hex i).choose_spec hlt).2.2 j d hj
            rw [← hlen]
            refine .sl (fun i j=>(w.cell? (a.add (i * P.cellsOf e+j))).getD undef) (by omega) hcm (by rw [hlen];exact hbytes) (fun r hr=>?_) (fun i r j d hi hj=>?_) (fun i r j d hi hj=>?_)
            · obtain ⟨i,hi⟩:=List.mem_iff_getElem?.1 hr
              obtain ⟨hlt,rfl⟩:=hrows i r hi
              exact ((hex i).choose_spec hlt).2.1
            · obtain ⟨v,h1,h2⟩:=key i r j d hi hj
              exact ⟨by rw [h1];rfl,hX _⟩
            · obtain ⟨v,h1,h2⟩:=key i r j d hi hj
              rw [h1];exact h2
    · rename_i fs hu
      split at h
      · rename_i ts en hfs
        split at h
        · rename_i hen
          cases h
          obtain ⟨xs,n',rfl,rfl,hl,hxs,hget⟩:=DataW.trod_struct hu hx
          obtain ⟨ys,h1,h2,h3⟩:=fields_repB (w:=w) (X:=X) (cs:=cs) fs.toList 0 ts en hfs (by omega) (fun f hf ty hty=>by
            obtain ⟨i,hi⟩:=List.mem_iff_getElem?.1 hf
            have hi':fs[i]? = some f:=by simpa using hi
            have hlt:i<fs.size:=(Array.getElem?_eq_some_iff.1 hi').1
            have hg:=hget i f hi'
            obtain ⟨y,hy⟩:∃ y,xs[i]? = some y:=⟨_,zB (by omega)⟩
            rw [hy] at hg
            refine (ih f.type ty hty n' _ y hg (by have:=dBulk_mem (List.mem_map.2 ⟨y,zY hy,rfl⟩:y.1∈xs.map (·.1));simp only [dBulk] at hB;omega) fun k hk=>hw k ?_).1
            simp only [DataW.weights,hu]
            exact weightsEach_get i f y hi hy hk)
          exact one ⟨ys,h1,by omega,by omega,fun j x hj=>by simpa using h3 j x hj⟩
        · cases h
      · cases h
    · rename_i k e hu
      split at h
      · rename_i u hu'
        split at h
        · rename_i hc
          cases h
          obtain ⟨xs,n',rfl,rfl,hl,hp⟩:=trod_array hu hx
          obtain ⟨r1,r2⟩:=mapM_range hp
          obtain ⟨ys,h1,h2,h3⟩:=array_repB (P:=P) (w:=w) (X:=X) (cs:=cs) (e:=e) (u:=u) k (by omega) (fun i hi=>by
            have hy:xs[i]? = some xs[i]:=zB (by omega)
            refine (ih e u hu' n' _ _ (r2 i _ hy) (by have:=dBulk_mem (List.mem_map.2 ⟨_,zY hy,rfl⟩:xs[i].1∈xs.map (·.1));simp only [dBulk] at hB;omega) fun q hq=>hw q ?_).1
            simp only [DataW.weights,hu]
            exact weightsAll_mem hq (List.mem_map.2 ⟨_,zY hy,rfl⟩))
          exact one ⟨ys,h1,by omega,by omega,h3⟩
        · cases h
      · cases h
    · cases h
variable {W:World}
theorem arg_repB {b0:Nat} {t:TypeId} {ty:Ty} {v:Value} {d:DataW H} {ps:List MemPlace} (hty:tyOf P 20 t=some ty) (hd:DataW.Trod enc P W 0 (fun _=>true) true t v d ps) (hval:Value.okWide P W .any b0 t v)
    (hB:dBulk d≤B) (hw:∀ k∈d.weights P t,k≤reachBytes):∃ xs,WTB B ty xs∧RepA W (fun _=>False) [] [] (argA ty xs) v:=by
  obtain ⟨n,hn⟩:=hd
  obtain ⟨⟨xs,h1,h2,h3,h4⟩,h5⟩:=rep_of_trodB (X:=Own (fun _=>False) []) own_none 20 t ty hty n _ _ hn hB hw
  refine ⟨xs,h1,?_⟩
  -- a value of one cell
  have one:∀ (x:D),xs=[x]→(∀ ts,ty ≠ .st ts)→(∀ cs,v ≠ .agg cs)→RepA W (fun _=>False) [] [] (argA ty xs) v:=by
    intro x hx hst hv
    have hlen:v.cells.toList.length=1:=by rw [h3,hx];rfl
    have hcell:v.cells = #[v]:=by
      cases v<;>first | rfl | exact absurd rfl (hv _)
    have hrep:=h4 0 x (by rw [hx];rfl)
    rw [hcell] at hrep
    simp at hrep
    have e:argA ty xs = .d x:=by
      cases ty<;>first | (exact absurd rfl (hst _)) | (simp [argA,hx])
    rw [e]
    exact .d hrep
  have notAgg:(∀ fs,P.underlying t≠some (.struct fs))→(∀ n e,P.underlying t≠some (.array n e))→∀ cs,v ≠ .agg cs:=by
    rintro q1 q2 cs rfl
    unfold Value.okWide at hval
    split at hval
    · exact q1 _ ‹_›
    · exact q2 _ _ ‹_›
    · unfold Cell.okWide at hval
      split at hval
      all_goals first | contradiction | skip
      unfold Cell.ok at hval
      split at hval
      all_goals first | contradiction | exact hval.elim | skip
  have hun:=tyOf_under hty
  cases ty with
  | int k =>
    obtain ⟨m,hx,_⟩:=h1
    exact one _ hx (fun ts h=>by cases h) (notAgg hun.1 hun.2)
  | bool =>
    obtain ⟨m,hx⟩:=h1
    exact one _ hx (fun ts h=>by cases h) (notAgg hun.1 hun.2)
  | str =>
    obtain ⟨m,hx,_⟩:=h1
    exact one _ hx (fun ts h=>by cases h) (notAgg hun.1 hun.2)
  | sl e u =>
    obtain ⟨m,hx,_⟩:=h1
    exact one _ hx (fun ts h=>by cases h) (notAgg hun.1 hun.2)
  | st ts =>
    have hagg:∃ cs,v = .agg cs:=by
      rcases hun with ⟨fs,hu⟩ | ⟨n,e,hu⟩
      · simp only [Value.okWide,hu] at hval
        obtain ⟨cs,h,_⟩:=hval
        exact ⟨cs,h⟩
      · simp only [Value.okWide,hu] at hval
        obtain ⟨cs,h,_⟩:=hval
        exact ⟨cs,h⟩
    obtain ⟨cs,rfl⟩:=hagg
    refine .agg (by simpa [Value.cells] using h3) (fun u hu'=>?_) (fun j x hj=>?_)
    · obtain ⟨j,hj⟩:=List.mem_iff_getElem?.1 hu'
      have hlt:j<xs.length:=by
        have:=(zA.1 hj).1
        simp only [Value.cells] at h3;omega
      have:=(h4 j _ (zB hlt)).one
      simpa [Value.cells,hj] using this
    · simp only [zK,zT] at hj
      obtain ⟨x',hx',rfl⟩:=hj
      have:=h4 j x' hx'
      have e:cs.getD j undef=cs.toList.getD j undef:=by
        rw [zR,zC,Array.getElem?_toList]
      rw [e]
      exact .d this
theorem args_repB {b0:Nat}:∀ {ts:List TypeId} {tys:List Ty} {vs:List Value} {ds:List (DataW H)} {ps:List MemPlace},ts.mapM (tyOf P 20)=some tys→DataW.TrodAll enc P W 0 (fun _=>true) true ts vs ds ps →
    (∀ (j:Nat) t v,ts[j]? = some t→vs[j]? = some v→Value.okWide P W .any b0 t v)→dBulkAll ds≤B→(∀ k∈DataW.weightsEach P ts ds,k≤reachBytes) →
    ∃ xss,WTAllB B tys xss∧vs.length=(argsA tys xss).length∧∀ (j:Nat) (x:A),(argsA tys xss)[j]? = some x→RepA W (fun _=>False) [] [] x (vs.getD j undef)
  | [],tys,vs,ds,ps,hm,ht,_,_,_=>by
    simp at hm
    subst hm
    obtain ⟨rfl,rfl,rfl⟩:=trodAll_nil ht
    exact ⟨[],trivial,rfl,fun j x hj=>by simp [argsA] at hj⟩
  | t::ts,tys,vs,ds,ps,hm,ht,hval,hB,hw=>by
    simp only [List.mapM_cons,Option.bind_eq_bind,Option.pure_def,zD,zH] at hm
    obtain ⟨ty,hty,tys',htys,rfl⟩:=hm
    obtain ⟨v,vs,d,ds,p,q,rfl,rfl,rfl,h1,h2⟩:=trodAll_cons ht
    simp only [dBulkAll] at hB
    obtain ⟨x,k1,k2⟩:=arg_repB (B:=B) hty h1 (hval 0 t v rfl rfl) (by omega) (fun k hk=>hw k (by simp only [DataW.weightsEach,List.mem_append];exact .inl hk))
    obtain ⟨xss,q1,q2,q3⟩:=args_repB htys h2 (fun j t v ht hv=>hval (j+1) t v (by simpa using ht) (by simpa using hv)) (by omega) (fun k hk=>hw k (by simp only [DataW.weightsEach,List.mem_append];exact .inr hk))
    refine ⟨x::xss,⟨k1,q1⟩,by simp [argsA,q2],fun j y hj=>?_⟩
    cases j with
    | zero=>simp [argsA] at hj;subst hj;simpa using k2
    | succ j=>simp [argsA] at hj;simpa using q3 j y hj
theorem law_contractB {f:FuncId} {fn:Func} {s:ChangeSpec} {args:Array Value} {ds gs:List (DataW H)} {before:List MemPlace} {tb:TypeId} {base:Nat} {Γ:Tabs} {tys:List Ty} {laid:List (String × DataW Unit)}
    (hr:fn.resultTypes = #[tb]) (hb:P.underlying tb=some .bool) (hv:s.vars=[]) (hl:laidOutB P=true) (hrd:∀ t∈fn.params.toList,P.readableRec t=true∧t<P.types.size)
    (hs:∀ ds:List (DataW H),ds.length=fn.params.toList.length→s.fn H ds={ results:=[.lit (.bool true)],args:=ds }) (hty:fn.params.toList.mapM (tyOf P 20)=some tys) (hΓ:tabsOf P laid=some Γ)
    (law:∀ xss,WTAllB B tys xss→FnP Γ P f (argsA tys xss) (.bool true))
    (hval:∀ (j:Nat) t v,fn.params[j]? = some t→args[j]? = some v→Value.okWide P W .any base t v)
    (hB:dBulkAll ds≤B) (hW:DataW.Whole enc P fn.params.toList s.vars false W args.toList ds gs before) (hw:(DataW.weightsEach P fn.params.toList ds).all (· ≤ reachBytes)=true) (hL:laidMet P laid W) :
    Calls P f args W fun e W'=>∃ v,e = .returned v∧s.post enc P fn false true false false W args v W':=by
  have hW':=hW
  obtain ⟨p,q,hA, -, -, -, -⟩:=hW
  obtain ⟨xss,k1,k2,k3⟩:=args_repB hty hA (fun j t v ht hv=>hval j t v (by simpa using ht) (by simpa using hv)) hB (fun k hk=>by
    have:=List.all_eq_true.1 hw k hk
    simpa using this)
  refine ((law xss k1).run (fun _=>False) W args (fun _ h=>h.elim) (tabs_ok hΓ hL) ⟨by simpa using k2,fun j x hj=>?_⟩).mono fun e W1 ⟨v,he,hrep,g⟩=>?_
  · have:=k3 j x hj
    have e:args.getD j undef=args.toList.getD j undef:=by
      rw [zR,zC,Array.getElem?_toList]
    rw [e];exact this
  · have hvb:v = .bool true:=by
      cases hrep with
      | d hx=>cases hx;rfl
    subst hvb
    exact ⟨_,he,law_post hr hb hv hl hrd hs hW' g⟩
end Go.Proofs.YthhjkfilfhmakaaDoor.Nx

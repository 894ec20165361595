import Derived.Test.YthhjkfilfhmakaaDoorNxS1
import Derived.Test.YthhjkfilfhmakaaDoorNxEval
import Derived.Test.YthhjkfilfhmakaaDoorNxQ1
import Derived.Test.YthhjkfilfhmakaaDoorNxQ3
set_option linter.unusedSimpArgs false
set_option linter.unusedVariables false
set_option linter.unnecessarySimpa false
namespace Go.Proofs.YthhjkfilfhmakaaDoor.Nx
open Go
variable {P:Program} {N:Nat} {Γ:Tabs}
def intOf:Option A→Option Int
  | some (.d (.sc (.int .i64 n)))=>some n
  | _=>none
theorem intOf_ok {x:Option A} {n:Int} (h:intOf x=some n):x=some (.int n):=by
  unfold intOf at h
  split at h
  · cases h;rfl
  · cases h
def cellsOf:Option A→Option (List Ce)
  | some (.d x)=>crOf [x]
  | _=>none
theorem cellsOf_ok {x:Option A} {l:List Ce} (h:cellsOf x=some l):x=some (.d (.sl eCe (ceRows l))):=by
  unfold cellsOf at h
  split at h
  · have:=crOf_ok h
    simp only [List.cons.injEq,and_true] at this
    rw [this]
  · cases h
def extWindow (o:Orc) (fW fgc fck fbs:FuncId) (f:FuncId) (args:List A):Option A :=
  if f=fW then match args with
    | [.d (.sl e1 rb),.agg [.d (.sc (.int .i64 w)),.d (.sc (.int .i64 h)),.d (.sl e2 rg)],.d (.sc (.int .i64 back))] =>
      if e1=eRw∧e2=eRw then match rb.mapM crOf,rg.mapM crOf with
        | some b,some rows=>match intOf (o.pure fgc [gdA ⟨w,h,rows⟩]) with
          | some gc =>
            let chk:List Ce→Int:=fun r=>(intOf (o.pure fck [.d (.sl eCe (ceRows r))])).getD 0
            if (b.all fun r=>(intOf (o.pure fck [.d (.sl eCe (ceRows r))])).isSome&&decide (1≤r.length∧r.length≤132) &&
                (decide (w<r.length)||decide (cellsOf (o.pure fbs [.int (w-r.length),.int (-1)])=some (List.replicate (w-r.length).toNat (blankC (-1))))))=true∧b.length≤1000∧rows.length≤1000∧h=rows.length then
              some (gdE (winR b ⟨w,h,rows⟩ back gc chk (fun r=>fitR (chk r) r w)))
            else none
          | none=>none
        | _,_=>none
      else none
    | _=>none
    else none
theorem extWindow_ok {o:Orc} (O:OrcOk (.all Γ.ctx P) o) {fW fgc fv f1 fck fft fcl fbs fb:FuncId} {NW Nv N1 Nc Nf Nb:Nat} (H:FnIs P fW NW [.c 6 3 true,.c 7 1 false] (x_scrollback_Window fgc fv fck fft fcl)) (hN:3≤NW)
    (Hv:FnIs P fv Nv [.t 6] (x_scrollback_visible f1)) (hNv:3≤Nv) (H1:FnIs P f1 N1 [] x_scrollback_visible_1) (hN1:4≤N1) (Hc:FnIs P fcl Nc [.t 2] x_slices_Clone_750) (hNc:1≤Nc)
    (Hf:FnIs P fft Nf [.t 4] (x_cellrow_Fit fck fcl fbs fb)) (hNf:2≤Nf) (Hb:FnIs P fb Nb [.c 2 5 true] x_cellrow_blank) (hNb:1≤Nb) :
    ∀ f args r,extWindow o fW fgc fck fbs f args=some r→FnP Γ P f args r:=by
  intro f args r h
  unfold extWindow at h
  split at h
  · rename_i hf
    subst hf
    split at h
    · split at h
      · rename_i he
        obtain ⟨rfl,rfl⟩:=he
        split at h
        · rename_i b rows hb hr
          split at h
          · rename_i gc hgc
            dsimp only at h
            split at h
            · rename_i hall
              obtain ⟨hall,hbl,hrl,rfl⟩:=hall
              cases h
              rw [crOfs_ok hb,crOfs_ok hr]
              have hck:∀ r∈b,FnP Γ P fck [.d (.sl eCe (ceRows r))] (.int ((intOf (o.pure fck [.d (.sl eCe (ceRows r))])).getD 0)):=fun r hr=>by
                have:=List.all_eq_true.1 hall r hr
                simp only [Bool.and_eq_true,Option.isSome_iff_exists] at this
                obtain ⟨⟨⟨n,hn⟩,_⟩,_⟩:=this
                rw [hn]
                exact O.pure _ _ _ (intOf_ok hn)
              refine window_fn (f1:=f1) H hN b ⟨_,_,rows⟩ _ gc _ _ (by omega) (fun _=>⟨rfl,hrl⟩) (O.pure _ _ _ (intOf_ok hgc)) (visible_fn Hv hNv b _ _) (fun w rows bk hbk hrl=>visible1_gen H1 hN1 b w rows bk hbk (by omega) hrl)
                hck (fun r hr=>?_) (cloneC_fn Hc hNc)
              have:=List.all_eq_true.1 hall r hr
              simp only [Bool.and_eq_true,Bool.or_eq_true,decide_eq_true_eq] at this
              obtain ⟨⟨_,hl⟩,hbs⟩:=this
              refine fit_fn Hf hNf Hc hNc Hb hNb r _ _ (hck r hr) (fun _=>hl) fun n hn hn2=>?_
              rcases hbs with hbs | hbs
              · dsimp only at hn;omega
              · have e1:=(show _-(r.length:Int)=(n:Int) from Int.sub_eq_iff_eq_add.2 (hn.trans (Int.add_comm _ _)))
                rw [e1,Int.toNat_natCast] at hbs
                exact O.pure _ _ _ (cellsOf_ok hbs)
            · cases h
          · cases h
        · cases h
      · cases h
    · cases h
  · cases h
end Go.Proofs.YthhjkfilfhmakaaDoor.Nx

/- Layer 19: Check, Rows, Equal. -/
/- Layer 19: how long rows become; plain facts for the laws. -/
/- Layer 19: the reference's Great, Same, SameInts; the laws ChangeEqual, ChangeProper, ChangeSingle. -/
import Derived.Test.YtknmhbbmopnfjaaDoorNxE19
import Derived.Test.YtknmhbbmopnfjaaDoorNxDL
namespace Go.Proofs.YtknmhbbmopnfjaaDoor.Nx
set_option linter.unusedSimpArgs false
set_option linter.unusedVariables false
set_option linter.unnecessarySimpa false
open Go

variable {P : Program} {N : Nat} {Γ : Tabs}

def chkV (v : Vw) (c : Cg) : Int := if viewC v = 0 then chgC v c else 1
theorem change_check_fn {f fv fo fc : FuncId} (H : FnIs P f N [.t 4] (x_change_Check fv fo fc)) (hN : 2 ≤ N) (v : Vw) (c : Cg) (hs : Sm v 50000) (hc : ∀ g ∈ c.gl, g.text.size ≤ 1000) (Hv : FnP Γ P fv [vwA v] (.int (viewC v))) (Ho : OpenTOk Γ.ctx P fo)
    (Hc : ∀ {v : Vw} (c : Cg), Ed v → ∀ {m : Nat}, Sm v m → m ≤ 100000 → (∀ g ∈ c.gl, g.text.size ≤ 1000) → ∀ {h : Heap} {id k : Nat} {R : List (List A)}, EdIs h id v k R → FnD Γ.ctx P fc [.ptr id 1 0 0, cgA c] h (.int (chgC v c)) h) :
    FnP Γ P f [vwA v, cgA c] (.int (chkV v c)) := by
  refine .of_W H (by simpa using hN) ?_
  unfold x_change_Check
  have hv0 := Hv
  simp only [vwA, Vw.ds, cgA, Cg.ds, List.map_cons, List.map_nil] at hv0 ⊢
  refine W_seq (W_reg ?_); simp only [xq, reduceIte, Nat.reduceEqDiff, Nat.reduceAdd, Nat.reduceLT, Nat.reduceLeDiff]
  refine W_seq ?_
  refine W_seq (W_reg ?_); simp only [xq, reduceIte, Nat.reduceEqDiff, Nat.reduceAdd, Nat.reduceLT, Nat.reduceLeDiff]
  refine c_fn (hv0) rfl ?_; simp only [xq, reduceIte, Nat.reduceEqDiff, Nat.reduceAdd, Nat.reduceLT, Nat.reduceLeDiff]
  refine W_cond rfl (fun hk => ?_) (fun hk => W_skip ?_)
  · have hk : ¬ viewC v = 0 := by simpa using hk
    refine W_seq (W_reg ?_); simp only [xq, reduceIte, Nat.reduceEqDiff, Nat.reduceAdd, Nat.reduceLT, Nat.reduceLeDiff]
    refine W_ret ?_
    simp only [xq, reduceIte, Nat.reduceEqDiff, Nat.reduceAdd, Nat.reduceLT, Nat.reduceLeDiff]
    refine .tmp ?_ rfl
    simp only [x_upd, reduceIte, chkV, if_neg hk]
  have hk : viewC v = 0 := by simpa using hk
  obtain ⟨hed, _⟩ := viewC_zero.1 hk
  have hsz := szOk_iff.1 hed.sz
  have hlen := hed.len
  obtain ⟨t, id, k0, R0, hF, he0, hid, hle, hkeep⟩ := Ho v (by intro h; rw [h] at hlen; simp at hlen; omega) (by omega) [vwB v, cgB c]
  have hC := Hc c hed hs (by omega) hc he0
  have h1 : ([vwB v, cgB c] ++ t)[1]? = some (cgB c) := hkeep 1 eCg [c.ds.map .d] rfl rfl (by simp at hid; omega)
  simp only [vwA, Vw.ds, cgA, Cg.ds, List.map_cons, List.map_nil] at hF hC h1
  simp only [xq, reduceIte, Nat.reduceEqDiff, Nat.reduceAdd, Nat.reduceLT, Nat.reduceLeDiff]
  refine W_seq (W_drw (by simp) ?_); simp only [xq, reduceIte, Nat.reduceEqDiff, Nat.reduceAdd, Nat.reduceLT, Nat.reduceLeDiff, List.replicate_zero, List.append_nil]
  refine cr_fn hF ?_
  simp only [xq, reduceIte, Nat.reduceEqDiff, Nat.reduceAdd, Nat.reduceLT, Nat.reduceLeDiff, h1, Cg.ds]
  refine cr_fn (t := []) (by rw [List.append_nil]; exact hC) ?_
  simp only [xq, reduceIte, Nat.reduceEqDiff, Nat.reduceAdd, Nat.reduceLT, Nat.reduceLeDiff]
  refine W_ret (.tmp ?_ rfl)
  simp only [x_upd, reduceIte, chkV, if_pos hk]

/-! ### Rows -/
def inRows (l : List Nat) : List (List D) := l.map fun (n : Nat) => [.sc (.int .i64 (n : Int))]
theorem inRows_len {l : List Nat} : (inRows l).length = l.length := by simp [inRows]
theorem inRows_app {a b : List Nat} : inRows (a ++ b) = inRows a ++ inRows b := by simp [inRows]
abbrev insA (l : List Nat) : A := .d (.sl eInt (inRows l))
abbrev inLB (l : List Nat) : HB := .cells eInt ((inRows l).map fun r => r.map A.d)
def InsIs (h : Heap) (l : List Nat) (x : A) : Prop := (x = .nil ∧ l = []) ∨ ∃ q, x = .ref q l.length 0 l.length true ∧ h[q]? = some (inLB l) ∧ l ≠ []
theorem InsIs.frz {h : Heap} {l : List Nat} {x : A} (o : InsIs h l x) : FrzA 0 h x (insA l) := by
  rcases o with ⟨rfl, rfl⟩ | ⟨q, rfl, hq, _⟩
  · exact .d (.nil _)
  · have := frz_all (id := q) (full := true) (e := eInt) hq
    rw [inRows_len] at this
    exact this

/-- Row i of the new rows differs. -/
def difP (a b : List (List Gl)) (i : Nat) : Bool := decide (b.length ≤ i) || !decide (a.getD i [] = b.getD i [])
theorem rowsDiff_succ {a b : List (List Gl)} {i : Nat} : (List.range (i + 1)).filter (difP a b) = (List.range i).filter (difP a b) ++ (if difP a b i then [i] else []) := by
  rw [List.range_succ, List.filter_append]
  congr 1
  rw [List.filter_cons, List.filter_nil]
theorem filt_len {p : Nat → Bool} {n : Nat} : ((List.range n).filter p).length ≤ n := by
  have := List.length_filter_le p (List.range n)
  simpa using this

set_option maxHeartbeats 1000000 in
theorem rows19_fn {f fp fe : FuncId} (H : FnIs P f N [.t 4] (x_change_Rows fp fe)) (hN : 2 ≤ N) (v : Vw) (l : List Cg) (hrl : (applyV v l).1.rows.length ≤ 1000) (Hp : FnP Γ P fp [vwA v, cgsA l] (apA (applyV v l)))
    (He : ∀ a b : List Gl, FnP Γ P fe [.d (.sl eGl (glRows a)), .d (.sl eGl (glRows b))] (.bool (decide (a = b)))) : FnP Γ P f [vwA v, cgsA l] (insA (rowsV v l)) := by
  refine .of_W H (by simpa using hN) ?_
  obtain ⟨w, i0, er, hap⟩ : ∃ w i e, applyV v l = (w, i, e) := ⟨_, _, _, rfl⟩
  unfold rowsV
  rw [hap] at Hp hrl ⊢
  simp only at hrl ⊢
  unfold x_change_Rows
  simp only [apA, vwA, Vw.ds, List.map_cons, List.map_nil] at Hp ⊢
  refine W_seq (W_reg ?_); simp only [xq, reduceIte, Nat.reduceEqDiff, Nat.reduceAdd, Nat.reduceLT, Nat.reduceLeDiff]
  refine W_seq (W_reg ?_); simp only [xq, reduceIte, Nat.reduceEqDiff, Nat.reduceAdd, Nat.reduceLT, Nat.reduceLeDiff]
  refine c_fn (Hp) rfl ?_; simp only [xq, reduceIte, Nat.reduceEqDiff, Nat.reduceAdd, Nat.reduceLT, Nat.reduceLeDiff]
  refine W_seq ?_
  refine W_seq (W_reg ?_); simp only [xq, reduceIte, Nat.reduceEqDiff, Nat.reduceAdd, Nat.reduceLT, Nat.reduceLeDiff]
  refine W_cond rfl (fun hk => ?_) (fun hk => W_skip ?_)
  · have hk : ¬ er = 0 := by simpa using hk
    refine W_seq (W_reg ?_); simp only [xq, reduceIte, Nat.reduceEqDiff, Nat.reduceAdd, Nat.reduceLT, Nat.reduceLeDiff]
    refine W_ret ?_
    simp only [xq, reduceIte, Nat.reduceEqDiff, Nat.reduceAdd, Nat.reduceLT, Nat.reduceLeDiff]
    rw [if_neg hk]
    exact .frz (.d (.nil _))
  have hk : er = 0 := by simpa using hk
  subst hk
  rw [if_pos rfl]
  simp only [xq, reduceIte, Nat.reduceEqDiff, Nat.reduceAdd, Nat.reduceLT, Nat.reduceLeDiff]
  refine W_seq (W_reg ?_); simp only [xq, reduceIte, Nat.reduceEqDiff, Nat.reduceAdd, Nat.reduceLT, Nat.reduceLeDiff]
  refine W_seq ?_
  refine W_seq (W_reg ?_); simp only [xq, reduceIte, Nat.reduceEqDiff, Nat.reduceAdd, Nat.reduceLT, Nat.reduceLeDiff, rwRows_len]
  refine W_block ?_
  let S : A → Heap → Nat → St := fun x t i => ⟨look [(2, .ptr 0 1 0 0), (8, x), (21, .d (.sl eRw (rwRows w.rows))), (22, .int w.rows.length), (23, .int i)], vwB v :: vwB w :: t⟩
  refine W_co (s' := S .nil [] 0) (Co.keep _ (by simp [x_upd, x_look])) ?_
  refine W_loop (fun m s => ∃ i x t, i ≤ w.rows.length ∧ m = w.rows.length - i ∧ s = S x t i ∧ InsIs (vwB v :: vwB w :: t) ((List.range i).filter (difP w.rows v.rows)) x) ⟨0, .nil, [], Nat.zero_le _, rfl, rfl, .inl ⟨rfl, rfl⟩⟩ ?_
  rintro m s ⟨i, x, t, hi, rfl, rfl, ho⟩
  simp only [S]
  refine W_seq (W_reg ?_); simp only [xq, reduceIte, Nat.reduceEqDiff, Nat.reduceAdd, Nat.reduceLT, Nat.reduceLeDiff]
  refine W_seq (W_cond rfl (fun hc => W_skip ?_) (fun hc => W_exit ?_))
  · have hlt : i < w.rows.length := by simpa using hc
    have w1 : IntKind.i64.wrap ((i : Int) + 1) = ((i + 1 : Nat) : Int) := by rw [i64_of (by omega)]; omega
    have ga : w.rows.getD i [] = w.rows[i] := by rw [List.getD_eq_getElem?_getD, List.getElem?_eq_getElem hlt]; rfl
    simp only [xq, reduceIte, Nat.reduceEqDiff, Nat.reduceAdd, Nat.reduceLT, Nat.reduceLeDiff]
    refine W_seq (W_block ?_)
    refine W_seq (W_reg ?_); simp only [xq, reduceIte, Nat.reduceEqDiff, Nat.reduceAdd, Nat.reduceLT, Nat.reduceLeDiff, rwRows_len, rwRows_get hlt, Int.toNat_natCast]
    refine ⟨by omega, by omega, ?_⟩
    refine W_cut (· = ⟨look [(2, .ptr 0 1 0 0), (8, x), (9, .int i), (21, .d (.sl eRw (rwRows w.rows))), (22, .int w.rows.length), (23, .int i), (42, .bool (difP w.rows v.rows i))], vwB v :: vwB w :: t⟩) (W_reg ?_) ?_
    · by_cases hle : v.rows.length ≤ i
      · have e1 : decide ((v.rows.length : Int) ≤ (i : Int)) = true := decide_eq_true (by omega)
        simp only [xq, reduceIte, Nat.reduceEqDiff, Nat.reduceAdd, Nat.reduceLT, Nat.reduceLeDiff, Vw.ds, rwRows_len, e1, undefA, Bool.true_eq_false]
        refine ⟨_, Co.keep _ ?_, rfl⟩
        simp [x_upd, x_look, difP, hle]
      · have e1 : decide ((v.rows.length : Int) ≤ (i : Int)) = false := decide_eq_false (by omega)
        have hlv : i < v.rows.length := by omega
        have gb : v.rows.getD i [] = v.rows[i] := by rw [List.getD_eq_getElem?_getD, List.getElem?_eq_getElem hlv]; rfl
        simp only [xq, reduceIte, Nat.reduceEqDiff, Nat.reduceAdd, Nat.reduceLT, Nat.reduceLeDiff, Vw.ds, rwRows_len, rwRows_get hlv, e1, Int.toNat_natCast]
        refine ⟨by omega, by omega, ?_⟩
        refine c_fn (He w.rows[i] v.rows[i]) rfl ?_; simp only [xq, reduceIte, Nat.reduceEqDiff, Nat.reduceAdd, Nat.reduceLT, Nat.reduceLeDiff]
        refine ⟨_, Co.keep _ ?_, rfl⟩
        simp only [difP, decide_eq_false hle, Bool.false_or, ga, gb]
        simp [x_upd, x_look]
    rintro _ rfl
    have hsu := rowsDiff_succ (a := w.rows) (b := v.rows) (i := i)
    obtain ⟨o, hod⟩ : ∃ o, o = (List.range i).filter (difP w.rows v.rows) := ⟨_, rfl⟩
    have hol : o.length ≤ i := by rw [hod]; exact filt_len
    rw [← hod] at ho hsu
    refine W_cond rfl (fun hd => ?_) (fun hd => W_skip ?_)
    · rw [hd, if_pos rfl] at hsu
      rcases ho with ⟨rfl, hnil⟩ | ⟨q, rfl, hq, hne⟩
      · rw [hnil] at hsu
        refine W_reg ?_; simp only [xq, reduceIte, Nat.reduceEqDiff, Nat.reduceAdd, Nat.reduceLT, Nat.reduceLeDiff, List.append_assoc, hp_g0, hp_g1]
        rw [if_neg (by simp)]
        refine ⟨by decide, by decide, ?_⟩
        refine W_reg ?_; simp only [xq, reduceIte, Nat.reduceEqDiff, Nat.reduceAdd, Nat.reduceLT, Nat.reduceLeDiff, w1]
        refine ⟨w.rows.length - (i + 1), S (.ref (t.length + 3) 1 0 1 true) (t ++ [inLB [i], inLB [i]]) (i + 1), by omega, Co.keep _ (by simp [x_upd, x_look]), i + 1, _, _, hlt, rfl, rfl, .inr ⟨t.length + 3, by rw [hsu]; rfl, ?_, by rw [hsu]; simp⟩⟩
        rw [hsu]
        show (vwB v :: vwB w :: t ++ [inLB [i], inLB [i]])[(vwB v :: vwB w :: t).length + 1]? = _
        rw [hp_g1]; rfl
      · obtain ⟨k, rfl⟩ : ∃ k, q = k + 2 := by
          rcases q with _ | _ | k
          · simp at hq
          · simp at hq
          · exact ⟨k, rfl⟩
        have hq' : t[k]? = some (inLB o) := by simpa using hq
        have hql := (List.getElem?_eq_some_iff.1 hq').1
        have gq : ∀ t' : Heap, (t ++ t')[k]? = some (inLB o) := fun t' => hp_gl hq'
        have sq : ∀ (t' : Heap) X, (t ++ t').set k X = t.set k X ++ t' := fun t' X => List.set_append_left _ _ hql
        refine W_reg ?_; simp only [xq, reduceIte, Nat.reduceEqDiff, Nat.reduceAdd, Nat.reduceLT, Nat.reduceLeDiff, List.append_assoc, hp_g0, gq, sq, inRows_len]
        refine ⟨by simp only [room]; omega, by simp only [maxLen]; omega, ?_⟩
        refine W_reg ?_; simp only [xq, reduceIte, Nat.reduceEqDiff, Nat.reduceAdd, Nat.reduceLT, Nat.reduceLeDiff, w1]
        refine ⟨w.rows.length - (i + 1), S (.ref (k + 2) (o.length + 1) 0 (o.length + 1) true) (t.set k (inLB (o ++ [i])) ++ [inLB [i]]) (i + 1), by omega, ?_, i + 1, _, _, hlt, rfl, rfl, .inr ⟨k + 2, by rw [hsu, List.length_append]; rfl, ?_, by rw [hsu]; simp⟩⟩
        · have : inLB (o ++ [i]) = .cells eInt ((inRows o).map (fun r => r.map A.d) ++ [[.int i]]) := by simp only [inLB, inRows_app, List.map_append]; rfl
          rw [this]
          exact Co.keep _ (by simp [x_upd, x_look])
        · rw [hsu]
          show (t.set k (inLB (o ++ [i])) ++ [inLB [i]])[k]? = _
          rw [List.getElem?_append_left (by simpa using hql), List.getElem?_set_self hql]
    · rw [hd, if_neg (by simp), List.append_nil] at hsu
      simp only [xq, reduceIte, Nat.reduceEqDiff, Nat.reduceAdd, Nat.reduceLT, Nat.reduceLeDiff]
      refine W_reg ?_; simp only [xq, reduceIte, Nat.reduceEqDiff, Nat.reduceAdd, Nat.reduceLT, Nat.reduceLeDiff, w1]
      exact ⟨w.rows.length - (i + 1), S x t (i + 1), by omega, Co.keep _ (by simp [x_upd, x_look]), i + 1, x, t, hlt, rfl, rfl, by rw [hsu]; exact ho⟩
  · have hle : i = w.rows.length := by simp at hc; omega
    subst hle
    simp only [xq, reduceIte, Nat.reduceEqDiff, Nat.reduceAdd, Nat.reduceLT, Nat.reduceLeDiff]
    refine W_seq (W_reg ?_); simp only [xq, reduceIte, Nat.reduceEqDiff, Nat.reduceAdd, Nat.reduceLT, Nat.reduceLeDiff]
    refine W_ret (.frz ?_)
    simp only [xq, reduceIte, Nat.reduceEqDiff, Nat.reduceAdd, Nat.reduceLT, Nat.reduceLeDiff]
    exact ho.frz

/-! ### Equal -/
theorem cg_eq {a b : Cg} : (((((decide (a.kind = b.kind) && decide (a.row = b.row)) && decide (a.col = b.col)) && decide (a.count = b.count)) && decide (a.upto = b.upto)) && decide (a.gl = b.gl)) = decide (a = b) := by
  rw [Bool.eq_iff_iff]
  cases a; cases b
  simp [and_assoc]

theorem equal1_fn {f fe : FuncId} (H : FnIs P f N [.t 4] (x_change_Equal_1 fe)) (hN : 2 ≤ N) (He : ∀ a b : List Gl, FnP Γ P fe [.d (.sl eGl (glRows a)), .d (.sl eGl (glRows b))] (.bool (decide (a = b)))) (a b : Cg) : FnP Γ P f [cgA a, cgA b] (.bool (decide (a = b))) := by
  refine .of_W H (by simpa using hN) ?_
  rw [← cg_eq]
  generalize hz : (((((decide (a.kind = b.kind) && decide (a.row = b.row)) && decide (a.col = b.col)) && decide (a.count = b.count)) && decide (a.upto = b.upto)) && decide (a.gl = b.gl)) = z
  unfold x_change_Equal_1
  refine W_seq (W_reg ?_)
  simp only [cgA, Cg.ds, List.map_cons, List.map_nil, xq, reduceIte, Nat.reduceEqDiff, Nat.reduceAdd, Nat.reduceLT, Nat.reduceLeDiff]
  let S : Nat → Bool → St := fun n b' => ⟨look [(2, .ptr 0 1 0 0), (3, .ptr 1 1 0 0), (n, .bool b')], [cgB a, cgB b]⟩
  refine W_sregC fun K hK => ?_
  refine runC_cut 6 (· = S 10 (decide (a.kind = b.kind))) rfl (by intro h; cases h) (fun K1 hK1 => ?_) ?_
  · simp only [xq, reduceIte, Nat.reduceEqDiff, Nat.reduceAdd, Nat.reduceLT, Nat.reduceLeDiff]
    exact hK1 _ (S 10 (decide (a.kind = b.kind))) (Co.keep _ (by simp [x_upd])) rfl
  rintro _ rfl
  generalize decide (a.kind = b.kind) = b0 at hz ⊢
  refine runC_cut 7 (· = S 17 (b0 && decide (a.row = b.row))) rfl (by intro h; cases h) (fun K1 hK1 => ?_) ?_
  · cases b0 <;> simp only [S, cgB, Cg.ds, xq, reduceIte, Nat.reduceEqDiff, Nat.reduceAdd, Nat.reduceLT, Nat.reduceLeDiff, Bool.false_and]
    all_goals (refine hK1 _ _ (Co.keep _ ?_) rfl; simp [x_upd, x_look])
  rintro _ rfl
  generalize (b0 && decide (a.row = b.row)) = b1 at hz ⊢
  refine runC_cut 7 (· = S 24 (b1 && decide (a.col = b.col))) rfl (by intro h; cases h) (fun K1 hK1 => ?_) ?_
  · cases b1 <;> simp only [S, cgB, Cg.ds, xq, reduceIte, Nat.reduceEqDiff, Nat.reduceAdd, Nat.reduceLT, Nat.reduceLeDiff, Bool.false_and]
    all_goals (refine hK1 _ _ (Co.keep _ ?_) rfl; simp [x_upd, x_look])
  rintro _ rfl
  generalize (b1 && decide (a.col = b.col)) = b2 at hz ⊢
  refine runC_cut 7 (· = S 31 (b2 && decide (a.count = b.count))) rfl (by intro h; cases h) (fun K1 hK1 => ?_) ?_
  · cases b2 <;> simp only [S, cgB, Cg.ds, xq, reduceIte, Nat.reduceEqDiff, Nat.reduceAdd, Nat.reduceLT, Nat.reduceLeDiff, Bool.false_and]
    all_goals (refine hK1 _ _ (Co.keep _ ?_) rfl; simp [x_upd, x_look])
  rintro _ rfl
  generalize (b2 && decide (a.count = b.count)) = b3 at hz ⊢
  refine runC_cut 7 (· = S 38 (b3 && decide (a.upto = b.upto))) rfl (by intro h; cases h) (fun K1 hK1 => ?_) ?_
  · cases b3 <;> simp only [S, cgB, Cg.ds, xq, reduceIte, Nat.reduceEqDiff, Nat.reduceAdd, Nat.reduceLT, Nat.reduceLeDiff, Bool.false_and]
    all_goals (refine hK1 _ _ (Co.keep _ ?_) rfl; simp [x_upd, x_look])
  rintro _ rfl
  generalize (b3 && decide (a.upto = b.upto)) = b4 at hz ⊢
  refine runC_end rfl ?_
  cases b4
  · simp only [S, cgB, Cg.ds, xq, reduceIte, Nat.reduceEqDiff, Nat.reduceAdd, Nat.reduceLT, Nat.reduceLeDiff, Bool.false_and]
    refine hK _ (W_ret (.tmp ?_ rfl))
    simp only [x_upd, reduceIte, ← hz, Bool.false_and]
  · simp only [S, cgB, Cg.ds, xq, reduceIte, Nat.reduceEqDiff, Nat.reduceAdd, Nat.reduceLT, Nat.reduceLeDiff]
    refine c_fn (He a.gl b.gl) rfl ?_; simp only [xq, reduceIte, Nat.reduceEqDiff, Nat.reduceAdd, Nat.reduceLT, Nat.reduceLeDiff]
    refine hK _ (W_ret (.tmp ?_ rfl))
    simp only [x_upd, reduceIte, ← hz, Bool.true_and]

theorem equalFunc19_fn {f f1 : FuncId} (H : FnIs P f N [.t 6] x_slices_EqualFunc_49) (hN : 3 ≤ N) (H1 : ∀ a b : Cg, FnP Γ P f1 [cgA a, cgA b] (.bool (decide (a = b)))) (a b : List Cg) : FnP Γ P f [cgsA a, cgsA b, .fn f1 []] (.bool (decide (a = b))) := by
  refine .of_W H (by simpa using hN) (W_sl 0 rfl fun ⟨_, hroom, _⟩ => ?_)
  have hlr : a.length ≤ room := le_of_mul (by rw [cgRows_len] at hroom; exact hroom)
  unfold x_slices_EqualFunc_49
  refine W_seq (W_reg ?_); simp only [xq, reduceIte, Nat.reduceEqDiff, Nat.reduceAdd, Nat.reduceLT, Nat.reduceLeDiff]
  refine W_seq ?_
  refine W_seq (W_reg ?_); simp only [xq, reduceIte, Nat.reduceEqDiff, Nat.reduceAdd, Nat.reduceLT, Nat.reduceLeDiff, cgRows_len]
  refine W_cond rfl (fun hc => ?_) (fun hc => W_skip ?_)
  · refine W_seq (W_reg ?_); simp only [xq, reduceIte, Nat.reduceEqDiff, Nat.reduceAdd, Nat.reduceLT, Nat.reduceLeDiff]
    have hne : a ≠ b := by rintro rfl; simp at hc
    refine W_ret (.tmp ?_ rfl)
    simp [x_upd, hne]
  · have hlen : a.length = b.length := by simp at hc; omega
    simp only [xq, reduceIte, Nat.reduceEqDiff, Nat.reduceAdd, Nat.reduceLT, Nat.reduceLeDiff]
    refine W_seq ?_
    refine W_seq (W_reg ?_); simp only [xq, reduceIte, Nat.reduceEqDiff, Nat.reduceAdd, Nat.reduceLT, Nat.reduceLeDiff, cgRows_len]
    refine W_block ?_
    let S : Nat → St := fun i => ⟨look [(1, cgsA b), (2, .fn f1 []), (15, cgsA a), (16, .int a.length), (17, .int i)], []⟩
    refine W_co (s' := S 0) (Co.keep _ (by simp [x_upd, x_look])) ?_
    refine W_loop (fun m s => ∃ i, i ≤ a.length ∧ m = a.length - i ∧ s = S i ∧ a.take i = b.take i) ⟨0, Nat.zero_le _, rfl, rfl, by simp⟩ ?_
    rintro m s ⟨i, hi, rfl, rfl, hpre⟩
    simp only [S]
    refine W_seq (W_reg ?_); simp only [xq, reduceIte, Nat.reduceEqDiff, Nat.reduceAdd, Nat.reduceLT, Nat.reduceLeDiff]
    refine W_seq (W_cond rfl (fun hc => W_skip ?_) (fun hc => W_exit ?_))
    · have hlt : i < a.length := by simpa using hc
      have hltb : i < b.length := by omega
      have h1 := H1 a[i] b[i]
      simp only [cgA, Cg.ds, List.map_cons, List.map_nil] at h1
      simp only [xq, reduceIte, Nat.reduceEqDiff, Nat.reduceAdd, Nat.reduceLT, Nat.reduceLeDiff]
      refine W_seq (W_block ?_)
      refine W_seq (W_reg ?_); simp only [xq, reduceIte, Nat.reduceEqDiff, Nat.reduceAdd, Nat.reduceLT, Nat.reduceLeDiff, cgRows_get hlt, cgRows_len, Cg.ds, Int.toNat_natCast]
      refine ⟨by omega, by omega, ?_⟩
      refine W_seq (W_reg ?_); simp only [xq, reduceIte, Nat.reduceEqDiff, Nat.reduceAdd, Nat.reduceLT, Nat.reduceLeDiff, cgRows_get hltb, cgRows_len, Cg.ds, Int.toNat_natCast]
      refine ⟨by omega, by omega, ?_⟩
      refine W_seq (W_reg ?_); simp only [xq, reduceIte, Nat.reduceEqDiff, Nat.reduceAdd, Nat.reduceLT, Nat.reduceLeDiff]
      refine c_fn (h1) rfl ?_; simp only [xq, reduceIte, Nat.reduceEqDiff, Nat.reduceAdd, Nat.reduceLT, Nat.reduceLeDiff]
      refine W_cond rfl (fun hd => ?_) (fun hd => W_skip ?_)
      · refine W_seq (W_reg ?_); simp only [xq, reduceIte, Nat.reduceEqDiff, Nat.reduceAdd, Nat.reduceLT, Nat.reduceLeDiff]
        have hne : a ≠ b := by
          rintro rfl
          simp at hd
        refine W_ret ?_
        simp only [xq, reduceIte, Nat.reduceEqDiff, Nat.reduceAdd, Nat.reduceLT, Nat.reduceLeDiff]
        refine .tmp ?_ rfl
        simp [x_upd, hne]
      · have he : a[i] = b[i] := by simpa using hd
        simp only [xq, reduceIte, Nat.reduceEqDiff, Nat.reduceAdd, Nat.reduceLT, Nat.reduceLeDiff]
        refine W_reg ?_; simp only [xq, reduceIte, Nat.reduceEqDiff, Nat.reduceAdd, Nat.reduceLT, Nat.reduceLeDiff]
        refine ⟨a.length - (i + 1), S (i + 1), by omega, Co.to _ 0 ?_ (Nat.zero_le _) (Nat.zero_le _) u0, i + 1, hlt, rfl, rfl, take_eq_succ hlt hltb hpre he⟩
        simp [x_upd, x_look, i64_succ hlt hlr, A.under, A.underL]
    · have hle : i = a.length := by simp at hc; omega
      have heq : a = b := by
        subst hle
        rw [List.take_length, hlen, List.take_length] at hpre
        exact hpre
      simp only [xq, reduceIte, Nat.reduceEqDiff, Nat.reduceAdd, Nat.reduceLT, Nat.reduceLeDiff]
      refine W_seq (W_reg ?_); simp only [xq, reduceIte, Nat.reduceEqDiff, Nat.reduceAdd, Nat.reduceLT, Nat.reduceLeDiff]
      refine W_ret (.tmp ?_ rfl)
      simp [x_upd, heq]

theorem equal19_fn {f ff f1 : FuncId} (H : FnIs P f N [.t 4] (x_change_Equal ff f1)) (hN : 2 ≤ N) (a b : List Cg) (Hf : FnP Γ P ff [cgsA a, cgsA b, .fn f1 []] (.bool (decide (a = b)))) : FnP Γ P f [cgsA a, cgsA b] (.bool (decide (a = b))) := by
  refine .of_W H (by simpa using hN) ?_
  unfold x_change_Equal
  refine W_seq (W_reg ?_); simp only [xq, reduceIte, Nat.reduceEqDiff, Nat.reduceAdd, Nat.reduceLT, Nat.reduceLeDiff]
  refine W_seq (W_reg ?_); simp only [xq, reduceIte, Nat.reduceEqDiff, Nat.reduceAdd, Nat.reduceLT, Nat.reduceLeDiff]
  refine c_fn (Hf) rfl ?_; simp only [xq, reduceIte, Nat.reduceEqDiff, Nat.reduceAdd, Nat.reduceLT, Nat.reduceLeDiff]
  refine W_ret (.tmp ?_ rfl)
  simp [x_upd]

end Go.Proofs.YtknmhbbmopnfjaaDoor.Nx

namespace Go.Proofs.YtknmhbbmopnfjaaDoor.Nx
set_option linter.unusedSimpArgs false
set_option linter.unusedVariables false
set_option linter.unnecessarySimpa false
open Go

theorem greatRow_small {l : List Gl} (h : greatRow l = false) : l.length ≤ 140 ∧ ∀ g ∈ l, g.text.size ≤ 40 := by
  simp only [greatRow, Bool.or_eq_false_iff, decide_eq_false_iff_not, List.any_eq_false, decide_eq_true_eq] at h
  exact ⟨by omega, fun g hg => by have := h.2 g hg; omega⟩

structure CgSm (c : Cg) : Prop where
  len : c.gl.length ≤ 140
  txt : ∀ g ∈ c.gl, g.text.size ≤ 40
theorem CgSm.ok {c : Cg} (h : CgSm c) : CgOk c := ⟨by have := h.len; omega, fun g hg => by have := h.txt g hg; omega⟩
theorem Sm.mono {v : Vw} {m n : Nat} (h : Sm v m) (hm : m ≤ n) : Sm v n := ⟨fun r hr => Nat.le_trans (h.row r hr) hm, h.txt⟩
theorem space_size : spaceGl.text.size = 1 := by decide +kernel

theorem cutW_len {w : Int} {l : List Gl} : (cutW w l).length ≤ l.length := by
  obtain ⟨n, hn⟩ := cutW_pre w l
  rw [hn, List.length_take]; omega
theorem sizeR_len {w : Int} {l : List Gl} : (sizeR w l).length ≤ l.length := Nat.le_trans (trim_len _) cutW_len
theorem spliceR_len {l g : List Gl} {a b : Nat} : (spliceR l a b g).length ≤ max l.length a + g.length := by
  have := trim_len ((padR l a).take a ++ g ++ (padR l a).drop (a + b))
  have hp := padR_len (l := l) (n := a)
  simp only [List.length_append, List.length_take, List.length_drop, hp] at this
  unfold spliceR
  omega
theorem rowAt_len {rows : List (List Gl)} {m : Int} {n : Nat} (h : ∀ r ∈ rows, r.length ≤ n) : (rowAt rows m).length ≤ n := by
  unfold rowAt
  rcases getD_mem (rows := rows) (n := m.toNat) with h1 | h1
  · rw [h1]; exact Nat.zero_le _
  · exact h _ h1
theorem rowAt_txt {rows : List (List Gl)} {m : Int} (h : ∀ r ∈ rows, ∀ g ∈ r, g.text.size ≤ 1000) : ∀ g ∈ rowAt rows m, g.text.size ≤ 1000 := by
  unfold rowAt
  rcases getD_mem (rows := rows) (n := m.toNat) with h1 | h1
  · rw [h1]; simp
  · exact h _ h1

theorem Sm.step {v : Vw} {n k : Nat} (h : Sm v n) {c : Cg} (hc : chgC v c = 0) (hl : c.gl.length ≤ k) (ht : ∀ g ∈ c.gl, g.text.size ≤ 1000) : Sm (stepV v c) (n + (264 + k)) := by
  obtain ⟨h1, h2, h3, h4⟩ := chgC_zero hc
  unfold stepV
  split
  · refine ⟨fun r hr => ?_, fun r hr g hg => ?_⟩
    · obtain ⟨l, hl', rfl⟩ := sizeV_rows hr
      have := sizeR_len (w := c.col) (l := l)
      rcases hl' with rfl | hl'
      · rw [List.length_nil] at this; omega
      · have := h.row l hl'; omega
    · obtain ⟨l, hl', rfl⟩ := sizeV_rows hr
      have := sizeR_mem hg
      rcases hl' with rfl | hl'
      · simp at this
      · exact h.txt l hl' g this
  · rename_i hk1
    split
    · refine ⟨fun r hr => ?_, fun r hr g hg => ?_⟩
      · rcases scrollL_mem hr with rfl | hr
        · exact Nat.zero_le _
        · have := h.row r hr; omega
      · rcases scrollL_mem hr with rfl | hr
        · simp at hg
        · exact h.txt r hr g hg
    · rename_i hk2
      split
      · rename_i hk3
        rw [rangeG, if_neg hk1, if_neg hk2, if_pos hk3] at h3
        simp only [Bool.and_eq_true, btw_iff] at h3
        refine ⟨fun r hr => ?_, fun r hr g hg => ?_⟩
        · rcases List.mem_or_eq_of_mem_set hr with hr | rfl
          · have := h.row r hr; omega
          · have h5 := spliceR_len (l := rowAt v.rows c.row) (g := c.gl) (a := c.col.toNat) (b := c.count.toNat)
            have h6 := rowAt_len (m := c.row) h.row
            omega
        · rcases List.mem_or_eq_of_mem_set hr with hr | rfl
          · exact h.txt r hr g hg
          · rcases spliceR_mem hg with hg | hg | rfl
            · exact rowAt_txt h.txt g hg
            · exact ht g hg
            · rw [space_size]; decide
      · exact ⟨fun r hr => by have := h.row r hr; omega, h.txt⟩

theorem runOk_of : ∀ {l : List Cg} {v : Vw} {n : Nat}, Sm v n → (∀ c ∈ l, CgSm c) → n + 404 * l.length ≤ 50000 → RunOk v l
  | [], v, n, hv, _, hb => hv.mono (by simp at hb; exact hb)
  | c :: l, v, n, hv, hc, hb => by
    rw [List.length_cons] at hb
    refine ⟨hv.mono (by omega), fun hk => ?_⟩
    have h1 := hc c (List.mem_cons_self ..)
    exact runOk_of (hv.step hk h1.len fun g hg => by have := h1.txt g hg; omega) (fun d hd => hc d (List.mem_cons_of_mem _ hd)) (by omega)
theorem runV_sm : ∀ {l : List Cg} {v : Vw} {n : Nat} {i : Int}, Sm v n → (∀ c ∈ l, CgSm c) → (runV v i l).2.2 = 0 → Sm (runV v i l).1 (n + 404 * l.length)
  | [], v, n, i, hv, _, h => by
    rw [runV] at h ⊢
    split at h
    · cases h
    · rename_i hw; rw [if_neg hw]; exact hv.mono (by simp)
  | c :: l, v, n, i, hv, hc, h => by
    rw [runV] at h ⊢
    split at h
    · rename_i hk
      rw [if_pos hk, List.length_cons]
      have h1 := hc c (List.mem_cons_self ..)
      exact (runV_sm (hv.step hk h1.len fun g hg => by have := h1.txt g hg; omega) (fun d hd => hc d (List.mem_cons_of_mem _ hd)) h).mono (by omega)
    · rename_i hk; exact absurd h hk
theorem applyV_sm {l : List Cg} {v : Vw} {n : Nat} (hv : Sm v n) (hc : ∀ c ∈ l, CgSm c) (h : (applyV v l).2.2 = 0) : Sm (applyV v l).1 (n + 404 * l.length) := by
  unfold applyV at h ⊢
  split at h
  · rename_i hk; rw [if_pos hk]; exact runV_sm hv hc h
  · cases h

/-- Neither the view nor the changes are greater than the statements examine. -/
def greatL (l : List Cg) : Bool := decide (30 < l.length) || l.any fun c => greatRow c.gl
theorem greatL_small {l : List Cg} (h : greatL l = false) : l.length ≤ 30 ∧ ∀ c ∈ l, CgSm c := by
  simp only [greatL, Bool.or_eq_false_iff, decide_eq_false_iff_not, List.any_eq_false] at h
  refine ⟨by omega, fun c hc => ?_⟩
  have := greatRow_small (by simpa using h.2 c hc)
  exact ⟨this.1, this.2⟩
theorem greatV_sm {v : Vw} (h : greatV v = false) : Sm v 140 ∧ v.rows.length ≤ 12 := by
  have h0 := h
  simp only [greatV, Bool.or_eq_false_iff, decide_eq_false_iff_not, List.any_eq_false] at h
  refine ⟨⟨fun r hr => (greatRow_small (by simpa using h.2 r hr)).1, fun r hr g hg => greatV_small h0 r hr g hg⟩, by have := h.1.1; omega⟩

/-! ### The rows while the changes are undone -/
theorem runOk_cgs {A B : List Gl} (hA : endsBlank A = false) (hB : endsBlank B = false) (hBl : B.length ≤ 264) (hAl : A.length ≤ 20000) (hg : ∀ g ∈ B, glyphC g = 0) (hgB : ∀ g ∈ B, g.text.size ≤ 1000) (hgA : ∀ g ∈ A, g.text.size ≤ 1000) (row : Nat) : ∀ (es : List Edt) (i j : Nat) (m : Int) (v : Vw) (tail : List Cg), row < v.rows.length → (v.rows.length : Int) = v.height →
    v.rows[row]? = some (B.take j ++ A.drop i) → m = (j : Int) - i → okE A B i j es → Sm v 50000 → RunOk { v with rows := v.rows.set row B } tail → RunOk v (cgsE row m es ++ tail) := by
  intro es
  induction es with
  | nil =>
    intro i j m v tail hrow hh hr hm hok hs ht
    rw [okE] at hok
    rw [hok] at hr
    have : v.rows.set row B = v.rows := by
      apply List.ext_getElem?
      intro q
      rw [List.getElem?_set]
      split
      · rename_i h; subst h; rw [hr]
      · rfl
    rw [this] at ht
    simpa [cgsE] using ht
  | cons e es ih =>
    intro i j m v tail hrow hh hr hm hok hs ht
    rw [okE] at hok
    obtain ⟨j1, h1, h2, h3, h4, h5, h6, h7, h8⟩ := hok
    have hRr : v.rows[row] = B.take j1 ++ A.drop e.at' := by
      rw [List.getElem?_eq_getElem hrow] at hr
      rw [← h1]; exact Option.some.inj hr
    have hcol : (e.at' : Int) + m = (j1 : Int) := by omega
    have htl : (B.take j1).length = j1 := by rw [List.length_take]; omega
    have hRl : v.rows[row].length = j1 + (A.length - e.at') := by rw [hRr, List.length_append, htl, List.length_drop]
    have hins : ∀ g ∈ e.ins, glyphC g = 0 := fun g hg' => hg g (by rw [h5] at hg'; exact List.mem_of_mem_drop (List.mem_of_mem_take hg'))
    obtain ⟨s1, s2⟩ := splice_step (v := v) (row := row) (col := j1) (cnt := e.del) (ins := e.ins) hrow hh (by omega) (by omega) hins
    have hnew : v.rows[row].take j1 ++ e.ins ++ v.rows[row].drop (j1 + e.del) = B.take (j1 + e.ins.length) ++ A.drop (e.at' + e.del) := by
      rw [hRr, List.take_left' htl, List.drop_append, htl, List.drop_eq_nil_of_le (by rw [htl]; omega), List.nil_append, show j1 + e.del - j1 = e.del by omega, List.drop_drop, List.take_add]
      rw [← h5]
    have htr : endsBlank (B.take (j1 + e.ins.length) ++ A.drop (e.at' + e.del)) = false := by
      rcases h7 with rfl | h7
      · rw [okE] at h8; rw [h8]; exact hB
      · exact ends_drop hA h7 _
    rw [hnew, trim_id htr] at s2
    rw [cgsE, hcol, List.cons_append]
    refine ⟨hs, fun _ => ?_⟩
    rw [s2]
    refine ih (e.at' + e.del) (j1 + e.ins.length) (m + e.ins.length - e.del) { v with rows := v.rows.set row (B.take (j1 + e.ins.length) ++ A.drop (e.at' + e.del)) } tail (by simpa using hrow) (by simpa using hh) (by simp [List.getElem?_set, hrow]) (by omega) h8 ⟨fun r hr' => ?_, fun r hr' g hg' => ?_⟩ (by simp only [List.set_set]; exact ht)
    · rcases List.mem_or_eq_of_mem_set hr' with hr' | rfl
      · exact hs.row r hr'
      · simp only [List.length_append, List.length_take, List.length_drop]; omega
    · rcases List.mem_or_eq_of_mem_set hr' with hr' | rfl
      · exact hs.txt r hr' g hg'
      · rcases List.mem_append.1 hg' with hg' | hg'
        · exact hgB g (List.mem_of_mem_take hg')
        · exact hgA g (List.mem_of_mem_drop hg')

theorem runOk_splices {v : Vw} {row : Nat} {A B : List Gl} (hrow : row < v.rows.length) (hh : (v.rows.length : Int) = v.height) (hr : v.rows[row]? = some A) (hA : endsBlank A = false) (hB : endsBlank B = false) (hBl : B.length ≤ 264) (hAl : A.length ≤ 20000) (hg : ∀ g ∈ B, glyphC g = 0)
    (hgB : ∀ g ∈ B, g.text.size ≤ 1000) (hs : Sm v 50000) (tail : List Cg) (ht : RunOk { v with rows := v.rows.set row B } tail) : RunOk v (splicesV row A B ++ tail) := by
  have hok := script_ok (A := A) (B := B) _ A B 0 0 none (Nat.le_refl _) rfl rfl (Nat.zero_le _) (Nat.zero_le _) trivial
  unfold splicesV
  rw [trim_id hA, trim_id hB]
  simp only
  have hAm : A ∈ v.rows := List.mem_of_getElem? hr
  split
  · have hRr : v.rows[row] = A := by
      rw [List.getElem?_eq_getElem hrow] at hr; exact Option.some.inj hr
    obtain ⟨s1, s2⟩ := splice_step (v := v) (row := row) (col := 0) (cnt := A.length) (ins := B) hrow hh (by omega) (by rw [hRr]; omega) hg
    rw [hRr, List.take_zero, List.nil_append, Nat.zero_add, List.drop_length, List.append_nil, trim_id hB] at s2
    have : wholeG row A B = ⟨3, row, (0 : Nat), A.length, 0, B⟩ := by unfold wholeG; rw [trim_id hA, trim_id hB]; rfl
    rw [this, List.singleton_append]
    exact ⟨hs, fun _ => by rw [s2]; exact ht⟩
  · exact runOk_cgs hA hB hBl hAl hg hgB (hs.txt A hAm) row _ 0 0 0 v tail hrow hh (by simpa using hr) (by simp) hok hs ht

theorem sm_mix {x b : Vw} {n m : Nat} (hx : Sm x m) (hb : Sm b m) : Sm { x with rows := b.rows.take n ++ x.rows.drop n } m := by
  refine ⟨fun r hr => ?_, fun r hr => ?_⟩
  · rcases List.mem_append.1 hr with hr | hr
    · exact hb.row r (List.mem_of_mem_take hr)
    · exact hx.row r (List.mem_of_mem_drop hr)
  · rcases List.mem_append.1 hr with hr | hr
    · exact hb.txt r (List.mem_of_mem_take hr)
    · exact hx.txt r (List.mem_of_mem_drop hr)

theorem runOk_splicesTo {x b : Vw} (ex : Ed x) (hb : viewC b = 0) (hh : x.height = b.height) (sx : Sm x 20000) (sb : Sm b 20000) : ∀ (n : Nat), n ≤ b.rows.length → ∀ (tail : List Cg), RunOk { x with rows := b.rows.take n ++ x.rows.drop n } tail → RunOk x (splicesTo x b n ++ tail) := by
  obtain ⟨eb, hw⟩ := viewC_zero.1 hb
  have hlx := ex.len
  have hlb := eb.len
  have hsb := szOk_iff.1 eb.sz
  intro n
  induction n with
  | zero => intro _ tail ht; simpa [splicesTo] using ht
  | succ n ih =>
    intro hn tail ht
    have hnb : n < b.rows.length := hn
    have hnx : n < x.rows.length := by omega
    rw [splicesTo, List.append_assoc]
    refine ih (by omega) _ ?_
    have gx : x.rows.getD n [] = x.rows[n] := by rw [List.getD_eq_getElem?_getD, List.getElem?_eq_getElem hnx]; rfl
    have gb : b.rows.getD n [] = b.rows[n] := by rw [List.getD_eq_getElem?_getD, List.getElem?_eq_getElem hnb]; rfl
    rw [gx, gb]
    have hmx : x.rows[n] ∈ x.rows := List.getElem_mem hnx
    have hmb : b.rows[n] ∈ b.rows := List.getElem_mem hnb
    have htl : (b.rows.take n).length = n := by rw [List.length_take]; omega
    have hwid := wide_row hw hmb
    have hrl := row_len (r := b.rows[n])
    have hget : (b.rows.take n ++ x.rows.drop n)[n]? = some x.rows[n] := by
      rw [List.getElem?_append_right (by omega), htl, Nat.sub_self, List.getElem?_drop, Nat.add_zero, List.getElem?_eq_getElem hnx]
    refine runOk_splices (v := { x with rows := b.rows.take n ++ x.rows.drop n }) (row := n) (A := x.rows[n]) (B := b.rows[n])
      (by simp only [List.length_append, htl, List.length_drop]; omega) (by simp only [List.length_append, htl, List.length_drop]; omega) hget (ex.tr _ hmx) (eb.tr _ hmb) (by omega) (sx.row _ hmx) (eb.gl _ hmb) (sb.txt _ hmb) (sm_mix (sx.mono (by omega)) (sb.mono (by omega))) tail ?_
    have e : (b.rows.take n ++ x.rows.drop n).set n b.rows[n] = b.rows.take (n + 1) ++ x.rows.drop (n + 1) := by
      rw [List.set_append_right _ _ (by omega), htl, Nat.sub_self, List.drop_eq_getElem_cons hnx, List.set_cons_zero, List.take_add_one, List.getElem?_eq_getElem hnb, Option.toList_some, List.append_assoc]
      rfl
    simp only
    rw [e]; exact ht

theorem runOk_rest {x b : Vw} (ex : Ed x) (hb : viewC b = 0) (hh : x.height = b.height) (sx : Sm x 20000) (sb : Sm b 20000) : RunOk x (restV x b) := by
  obtain ⟨eb, hwb⟩ := viewC_zero.1 hb
  have hlx := ex.len
  have hlb := eb.len
  unfold restV
  refine runOk_splicesTo ex hb hh sx sb b.rows.length (Nat.le_refl _) _ ?_
  rw [List.take_length, List.drop_eq_nil_of_le (by omega), List.append_nil]
  have sm : Sm { x with rows := b.rows } 50000 := ⟨(sb.mono (by omega : 20000 ≤ 50000)).row, sb.txt⟩
  unfold cursorV
  split
  · exact sm
  · refine ⟨sm, fun _ => ?_⟩
    show Sm _ _
    simp only [stepV, if_neg (show ¬ (4 : Int) = 1 by decide), if_neg (show ¬ (4 : Int) = 2 by decide), if_neg (show ¬ (4 : Int) = 3 by decide)]
    exact ⟨sm.row, sm.txt⟩

theorem sizeV_sm {v : Vw} {h w : Int} {n : Nat} (s : Sm v n) : Sm (sizeV v h w) n := by
  refine ⟨fun r hr => ?_, fun r hr g hg => ?_⟩
  · obtain ⟨l, hl', rfl⟩ := sizeV_rows hr
    have := sizeR_len (w := w) (l := l)
    rcases hl' with rfl | hl'
    · rw [List.length_nil] at this; omega
    · have := s.row l hl'; omega
  · obtain ⟨l, hl', rfl⟩ := sizeV_rows hr
    have := sizeR_mem hg
    rcases hl' with rfl | hl'
    · simp at this
    · exact s.txt l hl' g this
theorem runOk_inv {w v : Vw} (hw : viewC w = 0) (hv : viewC v = 0) (sw : Sm w 20000) (sv : Sm v 20000) : RunOk w (invL w v) := by
  obtain ⟨ew, _⟩ := viewC_zero.1 hw
  obtain ⟨ev, _⟩ := viewC_zero.1 hv
  unfold invL
  split
  · rename_i h
    exact runOk_rest ew hv h.2 sw sv
  · refine ⟨sw.mono (by omega), fun hc => ?_⟩
    have e := ew.step hc
    have he : stepV w (sizeCg v) = sizeV w v.height v.width := by simp [stepV, sizeCg]
    rw [he] at e ⊢
    exact runOk_rest e hv rfl (sizeV_sm sw) sv

theorem splices_mem {row : Int} {a b : List Gl} {c : Cg} (h : c ∈ splicesV row a b) : ∀ g ∈ c.gl, g ∈ b := by
  have hok := script_ok (A := trimGl a) (B := trimGl b) _ _ _ 0 0 none (Nat.le_refl _) rfl rfl (Nat.zero_le _) (Nat.zero_le _) trivial
  have hin : ∀ {A B : List Gl} {es : List Edt} {i j : Nat}, okE A B i j es → ∀ e ∈ es, ∀ g ∈ e.ins, g ∈ B := by
    intro A B es
    induction es with
    | nil => intro i j _ e he; simp at he
    | cons e0 es ih =>
      intro i j h e he g hg
      rw [okE] at h
      obtain ⟨j1, h1, h2, h3, h4, h5, h6, h7, h8⟩ := h
      rcases List.mem_cons.1 he with rfl | he
      · rw [h5] at hg; exact List.mem_of_mem_drop (List.mem_of_mem_take hg)
      · exact ih h8 e he g hg
  unfold splicesV at h
  simp only at h
  split at h
  · simp only [List.mem_singleton] at h
    subst h
    intro g hg
    exact trim_mem (trim_mem hg)
  · obtain ⟨e, he, hc⟩ := cgsE_gl h
    rw [hc]
    intro g hg
    exact trim_mem (hin hok e he g hg)
theorem splices_gl {row : Int} {a b : List Gl} {c : Cg} (h : c ∈ splicesV row a b) : c.gl.length ≤ b.length := by
  have hok := script_ok (A := trimGl a) (B := trimGl b) _ _ _ 0 0 none (Nat.le_refl _) rfl rfl (Nat.zero_le _) (Nat.zero_le _) trivial
  have hb := trim_len b
  unfold splicesV at h
  simp only at h
  split at h
  · simp only [List.mem_singleton] at h
    subst h
    have := trim_len (trimGl b)
    show (trimGl (trimGl b)).length ≤ _
    omega
  · obtain ⟨e, he, hc⟩ := cgsE_gl h
    have := (okE_mem hok e he).2
    rw [hc]; omega
theorem splicesTo_mem {x b : Vw} {c : Cg} : ∀ {n : Nat}, c ∈ splicesTo x b n → ∃ i < n, c ∈ splicesV i (x.rows.getD i []) (b.rows.getD i [])
  | 0, h => by simp [splicesTo] at h
  | n + 1, h => by
    rw [splicesTo, List.mem_append] at h
    rcases h with h | h
    · obtain ⟨i, h1, h2⟩ := splicesTo_mem h
      exact ⟨i, by omega, h2⟩
    · exact ⟨n, by omega, h⟩
theorem inv_ok {w v : Vw} (sv : Sm v 140) : ∀ c ∈ invL w v, CgOk c := by
  have rest : ∀ x : Vw, ∀ c ∈ restV x v, CgOk c := by
    intro x c hc
    unfold restV at hc
    rcases List.mem_append.1 hc with hc | hc
    · obtain ⟨i, _, hc⟩ := splicesTo_mem hc
      have h1 := splices_gl hc
      have h2 := splices_mem hc
      rcases getD_mem (rows := v.rows) (n := i) with h3 | h3
      · rw [h3] at h1 h2
        exact ⟨by rw [List.length_nil] at h1; omega, fun g hg => by have := h2 g hg; simp at this⟩
      · exact ⟨by have := sv.row _ h3; omega, fun g hg => sv.txt _ h3 g (h2 g hg)⟩
    · unfold cursorV at hc
      split at hc
      · simp at hc
      · simp only [List.mem_singleton] at hc
        subst hc
        exact ⟨by simp, by simp⟩
  intro c hc
  unfold invL at hc
  split at hc
  · exact rest _ c hc
  · rcases List.mem_cons.1 hc with rfl | hc
    · exact ⟨by simp [sizeCg], by simp [sizeCg]⟩
    · exact rest _ c hc

end Go.Proofs.YtknmhbbmopnfjaaDoor.Nx

namespace Go.Proofs.YtknmhbbmopnfjaaDoor.Nx
set_option linter.unusedSimpArgs false
set_option linter.unusedVariables false
set_option linter.unnecessarySimpa false
open Go

variable {P : Program} {N : Nat} {Γ : Tabs}

theorem great19_fn {f fg : FuncId} (H : FnIs P f N [.t 2] (x_ref19_Great fg)) (hN : 1 ≤ N) (Hg : ∀ l : List Gl, FnP Γ P fg [.d (.sl eGl (glRows l))] (.bool (greatRow l))) (l : List Cg) : FnP Γ P f [cgsA l] (.bool (greatL l)) := by
  refine .of_W H (by simpa using hN) ?_
  unfold x_ref19_Great
  refine W_seq (W_reg ?_); simp only [xq, reduceIte, Nat.reduceEqDiff, Nat.reduceAdd, Nat.reduceLT, Nat.reduceLeDiff]
  refine W_seq ?_
  refine W_seq (W_reg ?_); simp only [xq, reduceIte, Nat.reduceEqDiff, Nat.reduceAdd, Nat.reduceLT, Nat.reduceLeDiff, cgRows_len]
  refine W_cond rfl (fun hk => ?_) (fun hk => W_skip ?_)
  · refine W_seq (W_reg ?_); simp only [xq, reduceIte, Nat.reduceEqDiff, Nat.reduceAdd, Nat.reduceLT, Nat.reduceLeDiff]
    refine W_ret (.tmp ?_ rfl)
    have hk : 30 < l.length := by simp at hk; omega
    simp only [x_upd, reduceIte, greatL, decide_eq_true hk, Bool.true_or]
  have hk : ¬ 30 < l.length := by simp at hk; omega
  simp only [xq, reduceIte, Nat.reduceEqDiff, Nat.reduceAdd, Nat.reduceLT, Nat.reduceLeDiff]
  refine W_seq ?_
  refine W_seq (W_reg ?_); simp only [xq, reduceIte, Nat.reduceEqDiff, Nat.reduceAdd, Nat.reduceLT, Nat.reduceLeDiff]
  refine W_block ?_
  let S : Nat → St := fun i => ⟨look [(0, cgsA l), (3, .int i)], []⟩
  refine W_co (s' := S 0) (Co.keep _ (by simp [x_upd, x_look])) ?_
  refine W_loop (fun m s => ∃ i, i ≤ l.length ∧ m = l.length - i ∧ s = S i ∧ ((l.take i).any fun c => greatRow c.gl) = false) ⟨0, Nat.zero_le _, rfl, rfl, by simp⟩ ?_
  rintro m s ⟨i, hi, rfl, rfl, hpre⟩
  simp only [S]
  refine W_seq (W_seq ?_)
  refine W_reg ?_; simp only [xq, reduceIte, Nat.reduceEqDiff, Nat.reduceAdd, Nat.reduceLT, Nat.reduceLeDiff, cgRows_len]
  refine W_cond rfl (fun hc => W_skip ?_) (fun hc => W_exit ?_)
  · have hlt : i < l.length := by simpa using hc
    simp only [xq, reduceIte, Nat.reduceEqDiff, Nat.reduceAdd, Nat.reduceLT, Nat.reduceLeDiff]
    refine W_seq (W_block ?_)
    refine W_seq (W_reg ?_); simp only [xq, reduceIte, Nat.reduceEqDiff, Nat.reduceAdd, Nat.reduceLT, Nat.reduceLeDiff, cgRows_len, cgRows_get hlt, Cg.ds, Int.toNat_natCast]
    refine ⟨by omega, by omega, ?_⟩
    refine c_fn (Hg l[i].gl) rfl ?_; simp only [xq, reduceIte, Nat.reduceEqDiff, Nat.reduceAdd, Nat.reduceLT, Nat.reduceLeDiff]
    refine W_cond rfl (fun hd => ?_) (fun hd => W_skip ?_)
    · refine W_seq (W_reg ?_); simp only [xq, reduceIte, Nat.reduceEqDiff, Nat.reduceAdd, Nat.reduceLT, Nat.reduceLeDiff]
      refine W_ret ?_
      simp only [xq, reduceIte, Nat.reduceEqDiff, Nat.reduceAdd, Nat.reduceLT, Nat.reduceLeDiff]
      refine .tmp ?_ rfl
      have : (l.any fun c => greatRow c.gl) = true := List.any_eq_true.2 ⟨_, List.getElem_mem hlt, hd⟩
      simp only [x_upd, reduceIte, greatL, this, Bool.or_true]
    · simp only [xq, reduceIte, Nat.reduceEqDiff, Nat.reduceAdd, Nat.reduceLT, Nat.reduceLeDiff]
      refine W_reg ?_; simp only [xq, reduceIte, Nat.reduceEqDiff, Nat.reduceAdd, Nat.reduceLT, Nat.reduceLeDiff, i64_succ hlt (show l.length ≤ room by simp only [room]; omega)]
      exact ⟨l.length - (i + 1), S (i + 1), by omega, Co.keep _ (by simp [x_upd, x_look]), i + 1, hlt, rfl, rfl, any_take_succ hlt hpre hd⟩
  · have hle : i = l.length := by simp at hc; omega
    subst hle
    rw [List.take_length] at hpre
    simp only [xq, reduceIte, Nat.reduceEqDiff, Nat.reduceAdd, Nat.reduceLT, Nat.reduceLeDiff]
    refine W_seq (W_reg ?_); simp only [xq, reduceIte, Nat.reduceEqDiff, Nat.reduceAdd, Nat.reduceLT, Nat.reduceLeDiff]
    refine W_ret (.tmp ?_ rfl)
    simp only [x_upd, reduceIte, greatL, hpre, decide_eq_false hk, Bool.or_false]

theorem grt_fn {f fv fl : FuncId} (H : FnIs P f N [.t 4] (x_law19_great fv fl)) (hN : 2 ≤ N) (v : Vw) (l : List Cg) (Hv : FnP Γ P fv [vwA v] (.bool (greatV v))) (Hl : FnP Γ P fl [cgsA l] (.bool (greatL l))) : FnP Γ P f [vwA v, cgsA l] (.bool (greatV v || greatL l)) := by
  refine .of_W H (by simpa using hN) ?_
  unfold x_law19_great
  simp only [vwA, Vw.ds, List.map_cons, List.map_nil] at Hv ⊢
  refine W_seq (W_reg ?_); simp only [xq, reduceIte, Nat.reduceEqDiff, Nat.reduceAdd, Nat.reduceLT, Nat.reduceLeDiff]
  refine W_seq (W_reg ?_); simp only [xq, reduceIte, Nat.reduceEqDiff, Nat.reduceAdd, Nat.reduceLT, Nat.reduceLeDiff]
  refine c_fn (Hv) rfl ?_; simp only [xq, reduceIte, Nat.reduceEqDiff, Nat.reduceAdd, Nat.reduceLT, Nat.reduceLeDiff]
  cases greatV v
  · simp only [xq, reduceIte, Nat.reduceEqDiff, Nat.reduceAdd, Nat.reduceLT, Nat.reduceLeDiff]
    refine c_fn (Hl) rfl ?_; simp only [xq, reduceIte, Nat.reduceEqDiff, Nat.reduceAdd, Nat.reduceLT, Nat.reduceLeDiff]
    refine W_ret (.tmp ?_ rfl)
    simp only [x_upd, reduceIte, Bool.false_or]
  · simp only [xq, reduceIte, Nat.reduceEqDiff, Nat.reduceAdd, Nat.reduceLT, Nat.reduceLeDiff, Bool.true_eq_false, undefA]
    refine W_ret (.tmp ?_ rfl)
    simp only [x_upd, reduceIte, Bool.true_or]

/-! ### Arguments that are nil -/
theorem FnP.weak {f : FuncId} {args args' : List A} {r : A} (hf : FnP Γ P f args' r) (hl : Lent [] args args') : FnP Γ P f args r :=
  ⟨hf.ent, fun M w vs bnd T hargs => hf.run M w vs bnd T (hl.rep (ρ := []) ⟨rfl, fun id e rows hh => by simp at hh, fun id o hh => by simp at hh, fun id hh => by simp at hh, fun i j b p q hi => by simp at hi⟩ hargs)⟩
theorem weak_same {x : A} (h : x.under 0 = true) : FrzA 0 [] x x := .same h
theorem weak_zero : FrzA 0 [] (.agg [.int 0, .int 0, .nil, .int 0, .int 0, .bool false]) (vwA zeroV) := frz_zero
theorem weak_cgs : FrzA 0 [] .nil (cgsA []) := .d (.nil _)

abbrev GrtOk (Γ : Tabs) (P : Program) (f : FuncId) : Prop := ∀ (v : Vw) (l : List Cg), FnP Γ P f [vwA v, cgsA l] (.bool (greatV v || greatL l))
abbrev ApOk (Γ : Tabs) (P : Program) (f : FuncId) : Prop := ∀ (v : Vw) (l : List Cg), RunOk v l → (∀ c ∈ l, CgOk c) → FnP Γ P f [vwA v, cgsA l] (apA (applyV v l))
abbrev InvOk (Γ : Tabs) (P : Program) (f : FuncId) : Prop := ∀ (v : Vw) (l : List Cg), RunOk v l → (∀ c ∈ l, CgOk c) → ((applyV v l).2.2 = 0 → Sm (applyV v l).1 50000) → FnP Γ P f [vwA v, cgsA l] (iv2 (invV v l))
abbrev ChkOk (Γ : Tabs) (P : Program) (f : FuncId) : Prop := ∀ (v : Vw) (c : Cg), Sm v 50000 → (∀ g ∈ c.gl, g.text.size ≤ 1000) → FnP Γ P f [vwA v, cgA c] (.int (chkV v c))
abbrev VchkOk (Γ : Tabs) (P : Program) (f : FuncId) : Prop := ∀ v : Vw, Sm v 50000 → FnP Γ P f [vwA v] (.int (viewC v))
abbrev SameOk (Γ : Tabs) (P : Program) (f : FuncId) : Prop := ∀ v u : Vw, FnP Γ P f [vwA v, vwA u] (.bool (decide (v = u)))

theorem small_of {v : Vw} {l : List Cg} (h : (greatV v || greatL l) = false) : Sm v 140 ∧ v.rows.length ≤ 12 ∧ l.length ≤ 30 ∧ (∀ c ∈ l, CgSm c) ∧ RunOk v l ∧ ((applyV v l).2.2 = 0 → Sm (applyV v l).1 20000) := by
  rw [Bool.or_eq_false_iff] at h
  obtain ⟨h1, h2⟩ := greatV_sm h.1
  obtain ⟨h3, h4⟩ := greatL_small h.2
  exact ⟨h1, h2, h3, h4, runOk_of h1 h4 (by omega), fun h5 => (applyV_sm h1 h4 h5).mono (by omega)⟩

set_option maxHeartbeats 1000000 in
theorem properLaw19_fn {f fg fa fp fs fv : FuncId} (H : FnIs P f N [.t 4] (x_law19_ChangeProper fg fa fp fs fv)) (hN : 2 ≤ N) (Hg : GrtOk Γ P fg) (Ha : FnP Γ P fa [] (.bool true)) (Hp : ApOk Γ P fp) (Hs : SameOk Γ P fs) (Hv : VchkOk Γ P fv) (v : Vw) (l : List Cg) :
    FnP Γ P f [vwA v, cgsA l] (.bool true) := by
  refine .of_W H (by simpa using hN) ?_
  have hg := Hg v l
  unfold x_law19_ChangeProper
  simp only [vwA, Vw.ds, List.map_cons, List.map_nil] at hg ⊢
  refine W_seq (W_reg ?_); simp only [xq, reduceIte, Nat.reduceEqDiff, Nat.reduceAdd, Nat.reduceLT, Nat.reduceLeDiff]
  refine W_seq ?_
  refine W_seq (W_reg ?_); simp only [xq, reduceIte, Nat.reduceEqDiff, Nat.reduceAdd, Nat.reduceLT, Nat.reduceLeDiff]
  refine c_fn (hg) rfl ?_; simp only [xq, reduceIte, Nat.reduceEqDiff, Nat.reduceAdd, Nat.reduceLT, Nat.reduceLeDiff]
  refine W_cond rfl (fun hc => ?_) (fun hc => W_skip ?_)
  · refine W_seq (W_reg ?_); simp only [xq, reduceIte, Nat.reduceEqDiff, Nat.reduceAdd, Nat.reduceLT, Nat.reduceLeDiff]
    refine c_fn (Ha) rfl ?_; simp only [xq, reduceIte, Nat.reduceEqDiff, Nat.reduceAdd, Nat.reduceLT, Nat.reduceLeDiff]
    refine W_ret (.tmp ?_ rfl)
    simp only [x_upd, reduceIte]
  obtain ⟨h1, h2, h3, h4, h5, h6⟩ := small_of hc
  have hp := Hp v l h5 fun c hc => (h4 c hc).ok
  have he := applyV_ends v l
  obtain ⟨w, i, e, hap⟩ : ∃ w i e, applyV v l = (w, i, e) := ⟨_, _, _, rfl⟩
  rw [hap] at hp he h6
  simp only [apA, vwA, Vw.ds, List.map_cons, List.map_nil] at hp
  simp only at he h6
  simp only [xq, reduceIte, Nat.reduceEqDiff, Nat.reduceAdd, Nat.reduceLT, Nat.reduceLeDiff]
  refine W_seq (W_reg ?_); simp only [xq, reduceIte, Nat.reduceEqDiff, Nat.reduceAdd, Nat.reduceLT, Nat.reduceLeDiff]
  refine c_fn (hp) rfl ?_; simp only [xq, reduceIte, Nat.reduceEqDiff, Nat.reduceAdd, Nat.reduceLT, Nat.reduceLeDiff]
  refine W_seq ?_
  refine W_seq (W_reg ?_); simp only [xq, reduceIte, Nat.reduceEqDiff, Nat.reduceAdd, Nat.reduceLT, Nat.reduceLeDiff]
  refine W_cond rfl (fun hk => ?_) (fun hk => W_skip ?_)
  · have hk : ¬ e = 0 := by simpa using hk
    obtain ⟨rfl, e2, e3⟩ := he.2 hk
    have hsm : FnP Γ P fs [vwA zeroV, .agg [.int 0, .int 0, .nil, .int 0, .int 0, .bool false]] (.bool true) := by
      have := (Hs zeroV zeroV).weak (.cons (weak_same (x := vwA zeroV) rfl) (.cons weak_zero .nil))
      rwa [decide_eq_true rfl] at this
    simp only [vwA, Vw.ds, List.map_cons, List.map_nil] at hsm
    refine W_seq (W_reg ?_); simp only [xq, reduceIte, Nat.reduceEqDiff, Nat.reduceAdd, Nat.reduceLT, Nat.reduceLeDiff]
    refine c_fn (hsm) rfl ?_; simp only [xq, reduceIte, Nat.reduceEqDiff, Nat.reduceAdd, Nat.reduceLT, Nat.reduceLeDiff, decide_eq_true e2, decide_eq_true e3, cgRows_len]
    refine c_fn (Ha) rfl ?_; simp only [xq, reduceIte, Nat.reduceEqDiff, Nat.reduceAdd, Nat.reduceLT, Nat.reduceLeDiff]
    refine W_ret (.tmp ?_ rfl)
    simp only [x_upd, reduceIte]
  · have hk : e = 0 := by simpa using hk
    subst hk
    obtain ⟨q1, q2, q3⟩ := he.1 rfl
    have hv1 := Hv v (h1.mono (by omega))
    have hv2 := Hv w ((h6 rfl).mono (by omega))
    rw [q1] at hv1
    rw [q3] at hv2
    simp only [vwA, Vw.ds, List.map_cons, List.map_nil] at hv1 hv2
    simp only [xq, reduceIte, Nat.reduceEqDiff, Nat.reduceAdd, Nat.reduceLT, Nat.reduceLeDiff]
    refine W_seq (W_reg ?_); simp only [xq, reduceIte, Nat.reduceEqDiff, Nat.reduceAdd, Nat.reduceLT, Nat.reduceLeDiff]
    refine c_fn (hv1) rfl ?_; simp only [xq, reduceIte, Nat.reduceEqDiff, Nat.reduceAdd, Nat.reduceLT, Nat.reduceLeDiff]
    refine c_fn (hv2) rfl ?_; simp only [xq, reduceIte, Nat.reduceEqDiff, Nat.reduceAdd, Nat.reduceLT, Nat.reduceLeDiff, q2]
    refine c_fn (Ha) rfl ?_; simp only [xq, reduceIte, Nat.reduceEqDiff, Nat.reduceAdd, Nat.reduceLT, Nat.reduceLeDiff]
    refine W_ret (.tmp ?_ rfl)
    simp only [x_upd, reduceIte]

end Go.Proofs.YtknmhbbmopnfjaaDoor.Nx


/- The evaluator is sound: code and functions. -/
import Derived.Test.YtichmemhahbhnaaV14
import Derived.LoopN
set_option linter.unusedVariables false
set_option linter.unusedSimpArgs false
namespace Go.VC
open Go.RowKit

def chkCode (P : Program) (N : Nat) : Code → SC → Bool
  | .skip, .skip => true
  | .label _, .skip => true
  | .region _ ops draw, .region sos => chkOps P N ops (List.range ops.size) sos && (!draw || (P.follows .mixedOrders && chkOrder ops sos))
  | .seq a b, .seq a' b' => chkCode P N a a' && chkCode P N b b'
  | .cond c a b, .cond c' a' b' => chkSA c c' && chkCode P N a a' && chkCode P N b b'
  | .block i a, .block j a' => i == j && chkCode P N a a'
  | .loop a, .loop a' => chkCode P N a a'
  | c, .forget _ a' => chkCode P N c a'
  | .exit i, .exit j => i == j
  | .ret, .ret => true
  | _, .bad => true
  | _, _ => false
def AX.out : AX → Exit
  | .n => .normal
  | .e id => .exit id
  | .r => .ret

section
variable {P : Program} {S0 : Nat → Prop} {w0 : World} {N : Nat} {sp : Spec}

theorem number_spec : ∀ (i : Nat) (l : List SOper) (x : Nat × SOper), x ∈ number i l ↔ ∃ j, l[j]? = some x.2 ∧ x.1 = i + j
  | i, [], x => by simp [number]
  | i, a :: l, x => by
    simp only [number, List.mem_cons, number_spec (i + 1) l x]
    constructor
    · rintro (rfl | ⟨j, h1, h2⟩)
      · exact ⟨0, rfl, rfl⟩
      · exact ⟨j + 1, by simpa using h1, by omega⟩
    · rintro ⟨j, h1, h2⟩
      cases j with
      | zero => simp at h1; left; cases x; simp at h1 h2 ⊢; exact ⟨h2, h1.symm⟩
      | succ j => right; exact ⟨j, by simpa using h1, by omega⟩
theorem number_map : ∀ (i : Nat) (l : List SOper), (number i l).map (·.2) = l
  | i, [] => rfl
  | i, a :: l => by simp [number, number_map (i + 1) l]
theorem number_length : ∀ (i : Nat) (l : List SOper), (number i l).length = l.length
  | i, [] => rfl
  | i, a :: l => by simp [number, number_length (i + 1) l]
theorem number_sorted : ∀ (i : Nat) (l : List SOper), ((number i l).map (·.1)).Pairwise (· < ·)
  | i, [] => List.Pairwise.nil
  | i, a :: l => by
    simp only [number, List.map_cons, List.pairwise_cons]
    refine ⟨fun x hx => ?_, number_sorted (i + 1) l⟩
    obtain ⟨y, hy, rfl⟩ := List.mem_map.1 hx
    obtain ⟨j, _, h⟩ := (number_spec (i + 1) l y).1 hy
    omega
theorem chkOps_range {ops : Array Oper} : ∀ (is : List Nat) (sos : List SOper), chkOps P N ops is sos = true → is.length = sos.length ∧ ∀ (j i : Nat) (so : SOper), is[j]? = some i → sos[j]? = some so → ∃ o, ops[i]? = some o ∧ chkOper P N ops o so = true
  | [], [], _ => ⟨rfl, fun j i so h _ => by simp at h⟩
  | [], _ :: _, h => by cases h
  | _ :: _, [], h => by cases h
  | i :: is, so :: sos, h => by
    simp only [chkOps, Bool.and_eq_true] at h
    obtain ⟨h1, h2⟩ := h
    obtain ⟨h3, h4⟩ := chkOps_range is sos h2
    refine ⟨by simp [h3], fun j i' so' hj hs => ?_⟩
    cases j with
    | zero =>
      simp at hj hs
      subst hj hs
      split at h1
      · rename_i o ho; exact ⟨o, ho, h1⟩
      · cases h1
    | succ j => exact h4 j i' so' (by simpa using hj) (by simpa using hs)

theorem region_sound {id : Nat} {ops : Array Oper} {draw : Bool} {sos : List SOper} {Q : Exit → Act → World → Prop} {μ : Nat → Nat} {s sn : St} {a : Act} {w : World} (hS0 : ∀ b, S0 b → b < w0.heap.size) (hsp : SpecOk P sp)
    (hc : chkCode P N (.region id ops draw) (.region sos) = true) (R : Rel S0 w0 N μ s a w) (he : absOps sp sos s = some sn) (hQ : ∀ μ' a' w', Rel S0 w0 N μ' sn a' w' → Q .normal a' w') : (Code.region id ops draw).wp P Q a w := by
  simp only [chkCode, Bool.and_eq_true] at hc
  obtain ⟨h1, h2⟩ := hc
  cases draw with
  | false => exact wp_region (ops_sound hS0 hsp hQ _ _ h1 R he)
  | true =>
    simp only [Bool.not_true, Bool.false_or, Bool.and_eq_true, chkOrder] at h2
    obtain ⟨hm, hp, hl⟩ := h2
    obtain ⟨hlen, hrange⟩ := chkOps_range _ _ h1
    rw [List.length_range] at hlen
    refine wp_region_any hm ?_
    refine any_sound hS0 hsp hQ _ rfl (fun j o ho k hk => ?_) ops.size (number 0 sos) (Array.replicate ops.size false) ?_ (fun x hx => ?_) (fun i o ho _ => ?_) (fun x hx => ?_) (by simp) (number_sorted 0 sos) hp (fun j o ho hj => ?_) R.drew (by rw [number_map]; exact he)
    · have := List.all_eq_true.1 hl (o, j) (by
        have : ops.toList[j]? = some o := by simpa using ho
        exact List.mk_mem_zipIdx_iff_getElem?.2 this)
      have := List.all_eq_true.1 this k hk
      simpa using this
    · rw [number_length]; exact hlen.symm
    · obtain ⟨j, h3, h4⟩ := (number_spec 0 sos x).1 hx
      have hj : j < sos.length := by
        rcases Nat.lt_or_ge j sos.length with h | h
        · exact h
        · rw [List.getElem?_eq_none h] at h3; cases h3
      have := hrange j j x.2 (by rw [List.getElem?_range (by omega)]) h3
      rw [h4, Nat.zero_add]
      exact this
    · have hi : i < sos.length := by rw [← hlen]; exact (Array.getElem?_eq_some_iff.1 ho).1
      exact ⟨sos[i], (number_spec 0 sos _).2 ⟨i, List.getElem?_eq_getElem hi, by simp⟩⟩
    · obtain ⟨j, h3, h4⟩ := (number_spec 0 sos x).1 hx
      have hj : j < sos.length := by
        rcases Nat.lt_or_ge j sos.length with h | h
        · exact h
        · rw [List.getElem?_eq_none h] at h3; cases h3
      have hx1 : x.1 < ops.size := by omega
      simp [hx1]
    · exfalso
      have hjs : j < ops.size := (Array.getElem?_eq_some_iff.1 ho).1
      simp [hjs] at hj

theorem code_sound (hS0 : ∀ b, S0 b → b < w0.heap.size) (hsp : SpecOk P sp) (k : Nat) : ∀ (sc : SC) (c : Code), chkCode P N c sc = true → ∀ {Q : Exit → Act → World → Prop} {μ : Nat → Nat} {s s' : St} {ax : AX} {a : Act} {w : World},
    Rel S0 w0 N μ s a w → absCode sp k sc s = some (ax, s') → (∀ μ' a' w', Rel S0 w0 N μ' s' a' w' → Q ax.out a' w') → c.wp P Q a w := by
  intro sc
  induction sc with
  | skip =>
    intro c hc Q μ s s' ax a w R he hQ
    simp only [absCode, Option.some.injEq, Prod.mk.injEq] at he
    obtain ⟨rfl, rfl⟩ := he
    cases c <;> simp only [chkCode, Bool.false_eq_true] at hc
    · exact wp_skip (hQ _ _ _ R)
    · exact wp_label (hQ _ _ _ R)
  | region sos =>
    intro c hc Q μ s s' ax a w R he hQ
    simp only [absCode] at he
    split at he
    · rename_i s1 h1
      simp only [Option.some.injEq, Prod.mk.injEq] at he
      obtain ⟨rfl, rfl⟩ := he
      cases c
      case region id ops draw => exact region_sound hS0 hsp hc R h1 hQ
      all_goals (simp only [chkCode, Bool.false_eq_true] at hc)
    · cases he
  | seq x y ihx ihy =>
    intro c hc Q μ s s' ax a w R he hQ
    cases c
    case seq cx cy =>
      simp only [chkCode, Bool.and_eq_true] at hc
      simp only [absCode] at he
      split at he
      · rename_i s1 h1
        refine wp_seq (ihx cx hc.1 R h1 (fun μ' a' w' R' => ?_))
        exact ihy cy hc.2 R' he hQ
      · rename_i z hz
        refine wp_seq (ihx cx hc.1 R he (fun μ' a' w' R' => ?_))
        have := hQ μ' a' w' R'
        cases ax with
        | n => exact absurd he (hz s')
        | e id => exact this
        | r => exact this
    all_goals (simp only [chkCode, Bool.false_eq_true] at hc)
  | cond c' x y ihx ihy =>
    intro c hc Q μ s s' ax a w R he hQ
    cases c
    case cond c0 cx cy =>
      simp only [chkCode, Bool.and_eq_true] at hc
      simp only [absCode] at he
      split at he
      · rename_i t ht
        refine wp_cond (t := t) (R.val hc.1.1 ht).1 ?_
        cases t with
        | true => exact ihx cx hc.1.2 R (by simpa using he) hQ
        | false => exact ihy cy hc.2 R (by simpa using he) hQ
      · cases he
    all_goals (simp only [chkCode, Bool.false_eq_true] at hc)
  | block id x ih =>
    intro c hc Q μ s s' ax a w R he hQ
    cases c
    case block i cx =>
      simp only [chkCode, Bool.and_eq_true, beq_iff_eq] at hc
      obtain ⟨rfl, hc⟩ := hc
      simp only [absCode] at he
      split at he
      · rename_i j s1 h1
        refine wp_block (ih cx hc R h1 (fun μ' a' w' R' => ?_))
        show Exit.inBlock i Q (.exit j) a' w'
        simp only [Exit.inBlock]
        split at he
        · rename_i hji
          cases he
          rw [if_pos hji]
          exact hQ _ _ _ R'
        · rename_i hji
          cases he
          rw [if_neg hji]
          exact hQ _ _ _ R'
      · rename_i z hz
        refine wp_block (ih cx hc R he (fun μ' a' w' R' => ?_))
        have := hQ μ' a' w' R'
        cases ax with
        | n => exact this
        | e j => exact absurd he (hz j s')
        | r => exact this
    all_goals (simp only [chkCode, Bool.false_eq_true] at hc)
  | loop x ih =>
    intro c hc Q μ s s' ax a w R he hQ
    cases c
    case loop cx =>
      simp only [chkCode] at hc
      simp only [absCode] at he
      have key : ∀ (m : Nat) {μ : Nat → Nat} {s : St} {a : Act} {w : World}, Rel S0 w0 N μ s a w → iter (absCode sp k x) m s = some (ax, s') → Code.rounds P cx Q m a w := by
        intro m
        induction m with
        | zero => intro μ s a w R he; cases he
        | succ m ihm =>
          intro μ s a w R he
          rw [rounds_succ]
          simp only [iter] at he
          split at he
          · rename_i s1 h1
            exact ih cx hc R h1 (fun μ' a' w' R' => ihm R' he)
          · rename_i z hz
            refine ih cx hc R he (fun μ' a' w' R' => ?_)
            have := hQ μ' a' w' R'
            cases ax with
            | n => exact absurd he (hz s')
            | e j => exact this
            | r => exact this
      exact wp_loop_rounds k (key k R he)
    all_goals (simp only [chkCode, Bool.false_eq_true] at hc)
  | forget ns x ih =>
    intro c hc Q μ s s' ax a w R he hQ
    simp only [absCode] at he
    exact ih c (by cases c <;> simpa only [chkCode] using hc) (R.drop ns) he hQ
  | exit id =>
    intro c hc Q μ s s' ax a w R he hQ
    simp only [absCode, Option.some.injEq, Prod.mk.injEq] at he
    obtain ⟨rfl, rfl⟩ := he
    cases c
    case exit i =>
      simp only [chkCode, beq_iff_eq] at hc
      subst hc
      exact wp_exit (hQ _ _ _ R)
    all_goals (simp only [chkCode, Bool.false_eq_true] at hc)
  | ret =>
    intro c hc Q μ s s' ax a w R he hQ
    simp only [absCode, Option.some.injEq, Prod.mk.injEq] at he
    obtain ⟨rfl, rfl⟩ := he
    cases c
    case ret => exact wp_ret (hQ _ _ _ R)
    all_goals (simp only [chkCode, Bool.false_eq_true] at hc)
  | bad => intro c hc Q μ s s' ax a w R he hQ; cases he

/-! ### A function -/
def chkRes (P : Program) : List ResultVar → List SR → Bool
  | [], [] => true
  | .tmp t :: rs, .t n :: ss => t == n && chkRes P rs ss
  | .cell x t :: rs, .c n agg size :: ss => x == n && rowP P t == some agg && sizeP P t == some size && chkRes P rs ss
  | _, _ => false
def chkFn (P : Program) (fn : Func) (f : SF) : Bool :=
  fn.ntmps == f.ntmps && chkRes P fn.results.toList f.res && (match fn.body with | some c => chkCode P f.ntmps c f.code | none => false)

def resOne (a : Act) : ResultVar → Sem Value
  | .tmp t => pure (a.tmps.getD t undef)
  | .cell x t => do loadVar t (← asAddr (a.tmps.getD x undef))
theorem results_eq (fn : Func) (a : Act) : results fn a.tmps = (do let vs ← fn.results.mapM (resOne a); pure (if h : vs.size = 1 then vs[0] else .tuple vs)) := by
  unfold results
  congr 1
theorem res_sound {μ : Nat → Nat} {s : St} {a : Act} {w : World} (R : Rel S0 w0 N μ s a w) : ∀ (rs : List ResultVar) (ss : List SR) {l : List AP}, chkRes P rs ss = true → absRes s ss = some l →
    ∃ vs : List Value, (rs.mapM (resOne a)).run P w = .ok vs w ∧ repP (own S0 μ s.mem) w l vs
  | [], [], l, _, he => by
    simp only [absRes, Option.some.injEq] at he
    subst he
    exact ⟨[], by simp, trivial⟩
  | [], _ :: _, _, h, _ => by cases h
  | .tmp _ :: _, [], _, h, _ => by cases h
  | .cell _ _ :: _, [], _, h, _ => by cases h
  | .tmp t :: rs, .t n :: ss, l, h, he => by
    simp only [chkRes, Bool.and_eq_true, beq_iff_eq] at h
    obtain ⟨rfl, h⟩ := h
    simp only [absRes] at he
    split at he
    · rename_i ap as hap has
      cases he
      obtain ⟨vs, h1, h2⟩ := res_sound R rs ss h has
      refine ⟨a.tmps.getD t undef :: vs, ?_, ⟨?_, h2⟩⟩
      · rw [List.mapM_cons]
        simp only [resOne, Sem.run_bind, Sem.run_pure, Result.andThen_ok, h1]
      · have := R.tmp t
        unfold AV.part at hap
        split at hap
        · rename_i z hz; cases hap; rw [hz] at this; exact this
        · cases hap
    · cases he
  | .cell x t :: rs, .c n agg size :: ss, l, h, he => by
    simp only [chkRes, Bool.and_eq_true, beq_iff_eq] at h
    obtain ⟨⟨⟨rfl, hrow⟩, hsize⟩, h⟩ := h
    simp only [absRes] at he
    split at he
    · rename_i m as hm has
      obtain ⟨vs, h1, h2⟩ := res_sound R rs ss h has
      have hp : a.tmps.getD x undef = .pointer (some ⟨μ m, 0, none⟩) := by
        have := R.tmp x
        unfold AV.ptr at hm
        split at hm
        · rename_i z1 z2 hz; cases hm; rw [hz] at this; exact this.2
        · cases hm
      split at he
      · rename_i cs hcs
        obtain ⟨_, ys, zs, T, hb, hr⟩ := R.mem m cs hcs
        have hl := repL_length hr
        split at he
        · rename_i hsz
          cases agg with
          | true =>
            simp only [if_true, Option.some.injEq] at he
            subst he
            have hu : ∃ d, P.underlying t = some d ∧ d.isRow = true := by
              unfold rowP at hrow
              cases hu : P.underlying t with
              | none => simp [hu] at hrow
              | some d => exact ⟨d, rfl, by simpa [hu] using hrow⟩
            obtain ⟨d, hu, hd⟩ := hu
            refine ⟨.agg ys.toArray :: vs, ?_, ⟨⟨ys, rfl, hr⟩, h2⟩⟩
            have hrange : w.rangeAt (μ m) 0 ys := by
              have := range_of hb 0 ys.length
              simpa using this
            rw [List.mapM_cons]
            simp only [resOne, Sem.run_bind, Sem.run_pure, Result.andThen_ok, hp, asAddr, run_loadVar_mid w (μ m) 0 t ys d hrange hu hd (by rw [← hl, hsz]; exact hsize), h1]
          | false =>
            simp only [Bool.false_eq_true, if_false] at he
            split at he
            · rename_i c1
              simp only [Option.some.injEq] at he
              subst he
              cases ys with
              | nil => exact hr.elim
              | cons y ys =>
                cases ys with
                | cons _ _ => exact hr.2.elim
                | nil =>
                  refine ⟨y :: vs, ?_, ⟨hr.1, h2⟩⟩
                  have hcell : w.cell? ⟨μ m, 0, none⟩ = some y := cell_own hb rfl
                  rw [List.mapM_cons]
                  simp only [resOne, Sem.run_bind, Sem.run_pure, Result.andThen_ok, hp, asAddr, loadVar, run_isAggP hrow, Bool.false_eq_true, if_false, run_load, hcell, h1]
            · cases he
        · cases he
      · cases he
    · cases he
  | .tmp _ :: _, .c _ _ _ :: _, _, h, _ => by cases h
  | .cell _ _ :: _, .t _ :: _, _, h, _ => by cases h

theorem meets_of {f : Nat} {fn : Func} {sf : SF} {as : List AP} {r : AV} (k : Nat) (hf : P.funcs[f]? = some fn) (hchk : chkFn P fn sf = true) (hsp : SpecOk P sp) (hlen : as.length ≤ sf.ntmps) (he : absFn sp k sf as = some r) : Meets P f as r := by
  intro S w vs hS hrep
  simp only [chkFn, Bool.and_eq_true, beq_iff_eq] at hchk
  obtain ⟨⟨hn, hres⟩, hbody⟩ := hchk
  split at hbody
  · rename_i c hc
    have hvl : vs.length = as.length := by
      have : ∀ {as : List AP} {vs : List Value}, repP ⟨S, fun _ => 0, fun _ => False⟩ w as vs → as.length = vs.length := by
        intro as
        induction as with
        | nil => intro vs h; cases vs with | nil => rfl | cons _ _ => exact h.elim
        | cons x xs ih => intro vs h; cases vs with | nil => exact h.elim | cons y ys => simp [ih h.2]
      exact (this hrep).symm
    have hext : Ext ⟨S, fun _ => 0, fun _ => False⟩ w (own S (fun _ => 0) (st0 as).mem) w := ⟨fun n h => h.elim, fun b h _ => ⟨rfl, fun h' => by
      rcases h' with h' | ⟨n, hn', _⟩
      · exact h h'
      · exact hn' rfl⟩, Nat.le_refl _, fun n h => h.elim⟩
    have R : Rel S w sf.ntmps (fun _ => 0) (st0 as) { tmps := vs.toArray ++ Array.replicate (fn.ntmps - vs.toArray.size) undef, defers := [] } w := by
      refine { tmp := fun t => ?_, mem := fun n cs h => (by cases h), inj := fun n m h => absurd rfl h, below := Below.refl _ _, defers := rfl, size := by simp; omega }
      show (match as[t]? with | some a => AV.o a | none => .o (.c .u)).rep _ _ _
      cases ht : as[t]? with
      | none => trivial
      | some a =>
        obtain ⟨y, hy, hr⟩ := repP_get t hrep ht
        have hlt : t < vs.length := by
          rcases Nat.lt_or_ge t vs.length with h | h
          · exact h
          · rw [List.getElem?_eq_none h] at hy; cases hy
        have e : (vs.toArray ++ Array.replicate (fn.ntmps - vs.toArray.size) undef).getD t undef = y := by
          rw [Array.getD_eq_getD_getElem?, Array.getElem?_append_left (by simpa using hlt)]
          simp [hy]
        rw [e]
        exact AP.rep_ext hext hr
    unfold absFn at he
    have fin : ∀ {s : St} {l : List AP}, absRes s sf.res = some l → l.all (·.free) = true → r = wrapRes (l.map AP.wk) → ∀ {μ' : Nat → Nat} {a' : Act} {w' : World}, Rel S w sf.ntmps μ' s a' w' →
        a'.defers = [] ∧ ∃ v, (results fn a'.tmps).run P w' = .ok v w' ∧ (∃ v', Ending.returned v = .returned v' ∧ r.rep ⟨S, fun _ => 0, fun _ => False⟩ w' v' ∧ Below w.heap.size w w') := by
      intro s l hl hfree hr μ' a' w' R'
      obtain ⟨us, h1, h2⟩ := res_sound (P := P) R' fn.results.toList sf.res hres hl
      have h3 := freePs_rep hfree h2
      have h4' : repP ⟨S, fun _ => 0, fun _ => False⟩ w' l us := repP_ext (L := ⟨(own S μ' s.mem).S, fun _ => 0, fun _ => False⟩) ⟨fun n h => h.elim, fun b h _ => ⟨rfl, fun h' => h (.inl h')⟩, Nat.le_refl _, fun n h => h.elim⟩ h3
      have h4 := wkP_rep h4'
      refine ⟨R'.defers, (if h : us.toArray.size = 1 then us.toArray[0] else .tuple us.toArray), ?_, _, rfl, ?_, R'.below⟩
      · rw [results_eq fn a', Array.mapM_eq_mapM_toList]
        simp only [Sem.run_bind, Sem.run_map]
        rw [h1]
        simp
      · rw [hr]
        generalize l.map AP.wk = l at h4
        match l, us, h4 with
        | [], [], _ => exact ⟨[], by simp, trivial⟩
        | [x], [y], h => exact h.1
        | [x], [], h => exact h.elim
        | [x], _ :: _ :: _, h => exact h.2.elim
        | x :: x' :: l, [], h => exact h.elim
        | x :: x' :: l, [y], h => exact h.2.elim
        | x :: x' :: l, y :: y' :: us, h => exact ⟨y :: y' :: us, by simp, h⟩
        | [], _ :: _, h => exact h.elim
    split at he
    · cases he
    · rename_i ax s hax hcode
      split at he
      · rename_i l0 hl0
        split at he
        · rename_i l hl
          split at he
          · rename_i hfree
            have hr : r = wrapRes (l.map AP.wk) := by cases he; rfl
            refine calls_of_wp hf hc ?_
            refine code_sound hS hsp k sf.code c hbody R hcode (fun μ' a' w' R' => ?_)
            have := fin hl hfree hr (R'.rels hS (rowsP l0))
            cases ax with
            | n => exact this
            | e id => exact absurd rfl (hax id)
            | r => exact this
          · cases he
        · cases he
      · cases he
    · cases he
  · cases hbody
end
end Go.VC

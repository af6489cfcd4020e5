/- The evaluator is sound: operations in the order of the text. -/
import Derived.Test.YtichmemhahbhnaaV12
set_option linter.unusedVariables false
set_option linter.unusedSimpArgs false
namespace Go.VC
open Go.RowKit
section
variable {P : Program} {S0 : Nat → Prop} {w0 : World} {N : Nat} {μ : Nat → Nat} {s s' : St} {a : Act} {w : World} {sp : Spec} {v : AV} {Q : Exit → Act → World → Prop}

theorem op_sound {o : Oper} {so : SOp} (hS0 : ∀ b, S0 b → b < w0.heap.size) (hsp : SpecOk P sp) (R : Rel S0 w0 N μ s a w) (hc : chkOp P o.op so = true) {d : Option Nat} (he : absOp sp d so s = some (v, s')) : Sound P S0 w0 N o s' v a w := by
  cases hop : o.op <;> cases so <;> rw [hop] at hc <;> simp only [chkOp, Bool.and_eq_true, beq_iff_eq, decide_eq_true_eq, Bool.false_eq_true] at hc
  case move.mv x y => exact sound_mv R (.inl hop) hc he
  case assign.mv x y => exact sound_mv R (.inr hop) hc he
  case pick.pick => exact sound_pick R hop hc.1.1 hc.1.2 hc.2 he
  case alloc.alloc => exact sound_alloc hS0 R hop hc he
  case box.box => exact sound_box hS0 R hop hc he
  case build.build => exact sound_build R hop hc.1.2 hc.2 hc.1.1 he
  case load.load => exact sound_load R hop hc.1.1.1 hc.1.1.2 (by simpa using hc.1.2) hc.2 he
  case store.store => exact sound_store R hop hc.1.1 hc.1.2 hc.2 he
  case fieldAddr.fld => exact sound_fld R hop hc.1 hc.2 he
  case field.part => exact sound_part R hop hc.1 hc.2 he
  case binOp.bin => obtain ⟨⟨rfl, h1⟩, h2⟩ := hc; exact sound_bin R hop h1 h2 he
  case binOp.eqb => exact sound_eqb R hop hc.1.1.1 hc.1.1.2 hc.1.2 hc.2 he
  case binOp.eqs => exact sound_eqs R hop hc.1.1.1.1.1 hc.1.1.1.1.2 (by simpa using hc.1.1.1.2) hc.1.1.2 hc.1.2 hc.2 he
  case unOp.not op _ _ _ =>
    cases op <;> simp only [chkOp, Bool.false_eq_true] at hc
    exact sound_not R hop hc he
  case unOp.neg op _ _ _ =>
    cases op <;> simp only [chkOp, Bool.false_eq_true] at hc
    exact sound_neg R hop hc he
  case convert.cvt => exact sound_cvt R hop hc.1.1 hc.1.2 hc.2 he
  case extract.ext => obtain ⟨rfl, h1⟩ := hc; exact sound_ext R hop h1 he
  case call.call c f args =>
    obtain ⟨h1, h2⟩ := hc
    split at h1
    · rename_i g hcal
      have : g = f := by simpa using h1
      subst this
      exact sound_call hS0 hsp R hop hcal h2 he
    · cases h1
  case call.len c y =>
    obtain ⟨h1, h2⟩ := hc
    split at h1
    · rename_i hcal
      split at h2
      · rename_i x t hx ht
        simp only [Bool.and_eq_true] at h2
        exact sound_len R hop hcal (by apply Array.ext'; simpa using hx) ht h2.1 h2.2 he
      · cases h2
    · cases h1
  case indexAddr.idx =>
    obtain ⟨⟨h1, h2⟩, h3⟩ := hc
    split at h1
    · rename_i el hel
      simp only [beq_iff_eq] at h1
      exact sound_idx R hop hel h1 h2 h3 he
    · cases h1
  case slice.sl t x lo hi mx y lo' hi' =>
    cases mx with
    | some _ => simp [chkOp] at hc
    | none =>
      simp only [chkOp, Bool.and_eq_true] at hc
      obtain ⟨⟨⟨h1, h2⟩, h3⟩, h4⟩ := hc
      split at h1
      · rename_i el hel
        simp only [beq_iff_eq] at h1
        exact sound_sl R hop hel h1 h2 h3 h4 he
      · cases h1
  case call.min c x y =>
    obtain ⟨h1, h2⟩ := hc
    split at h1
    · rename_i hcal
      exact sound_min R hop hcal h2 he
    · cases h1
  case convert.str =>
    obtain ⟨⟨h1, h2⟩, h3⟩ := hc
    split at h1
    · rename_i el hel
      simp only [beq_iff_eq] at h1
      exact sound_str R hop hel h1 h2 h3 he
    · cases h1
  case binOp.eqt => exact sound_eqt R hop hc.1.1.2 hc.1.2 hc.2 he
  case makeSlice.mkS => exact sound_mkS hS0 R hop hc.1.1.1.1 hc.1.1.1.2 hc.1.1.2 hc.1.2 hc.2 he
  case buildSlice.bldS =>
    obtain ⟨⟨⟨⟨h1, h2⟩, h3⟩, h4⟩, h5⟩ := hc
    subst h2
    exact sound_bldS hS0 R hop h1 h3 h4 h5 he
  case call.app c t x y =>
    obtain ⟨⟨h1, h2⟩, h3⟩ := hc
    split at h1
    · rename_i hcal
      split at h2
      · rename_i t1 t2 hty
        simp only [Bool.and_eq_true, beq_iff_eq] at h2
        obtain ⟨rfl, h2⟩ := h2
        exact sound_app hS0 R hop hcal (by apply Array.ext'; simpa using hty) h2 h3 he
      · cases h2
    · cases h1
  case call.callR c f args =>
    obtain ⟨h1, h2⟩ := hc
    split at h1
    · rename_i g hcal
      have : g = f := by simpa using h1
      subst this
      exact sound_callR hS0 hsp R hop hcal h2 he
    · cases h1
  case call.callF c f args =>
    obtain ⟨h1, h2⟩ := hc
    split at h1
    · rename_i g hcal
      have : g = f := by simpa using h1
      subst this
      exact sound_callF hS0 hsp R hop hcal h2 he
    · cases h1

/-! ### An operation with its slot and its guard -/
def chkOper (P : Program) (N : Nat) (ops : Array Oper) (o : Oper) (so : SOper) : Bool :=
  chkOp P o.op so.op && decide (o.dst = so.dst) && (match o.dst with | some d => decide (d < N) | none => true) &&
  (match o.guard, so.guard with
   | none, none => true
   | some (j, w), some (g, w') => w == w' && decide ((ops[j]?).bind (·.dst) = some g)
   | _, _ => false)

theorem oper_sound {ops : Array Oper} {o : Oper} {so : SOper} (hS0 : ∀ b, S0 b → b < w0.heap.size) (hsp : SpecOk P sp) (R : Rel S0 w0 N μ s a w) (hc : chkOper P N ops o so = true) (he : absOper sp so s = some s')
    {K : Act → World → Prop} (hK : ∀ μ' a' w', Rel S0 w0 N μ' s' a' w' → K a' w') :
    if Region.wanted o (yielded ops a.tmps) then o.wp P a w K Q ∨ (o.asks P a w ∧ LetsOut Q) else K (a.put o.dst undef) w := by
  simp only [chkOper, Bool.and_eq_true, decide_eq_true_eq] at hc
  obtain ⟨⟨⟨h1, h2⟩, h3⟩, h4⟩ := hc
  have hd : ∀ n, o.dst = some n → n < N := fun n hn => by rw [hn] at h3; simpa using h3
  have run : ∀ {v : AV} {s1 : St}, absOp sp so.dst so.op s = some (v, s1) → (∀ μ' a' w', Rel S0 w0 N μ' (s1.put so.dst v) a' w' → K a' w') → o.wp P a w K Q := fun h1' hK' => by
    refine op_sound hS0 hsp R h1 h1' K Q (fun μ' y w' R' hv => ?_)
    have := R'.put (d := o.dst) hv hd
    rw [h2] at this ⊢
    exact hK' _ _ _ this
  unfold absOper at he
  split at h4
  · rename_i hg1 hg2
    rw [hg2] at he
    simp only at he
    have hw : Region.wanted o (yielded ops a.tmps) = true := by simp [Region.wanted, hg1]
    rw [if_pos hw]
    split at he
    · rename_i v s1 h5
      cases he
      exact .inl (run h5 hK)
    · cases he
  · rename_i j wt g wt' hg1 hg2
    simp only [Bool.and_eq_true, beq_iff_eq, decide_eq_true_eq] at h4
    obtain ⟨rfl, hj⟩ := h4
    rw [hg2] at he
    simp only at he
    have skip : Region.wanted o (yielded ops a.tmps) = false → s.put so.dst (.t []) = s' → (if Region.wanted o (yielded ops a.tmps) then o.wp P a w K Q ∨ (o.asks P a w ∧ LetsOut Q) else K (a.put o.dst undef) w) := by
      intro hw hs
      rw [hw]
      refine hK μ _ _ ?_
      have := R.put (d := o.dst) (v := .t []) (y := undef) ⟨[], rfl, trivial⟩ hd
      rw [← hs, ← h2]
      exact this
    split at he
    · rename_i b hb
      have hval : a.tmps.getD g undef = .bool b := by
        have := R.tmp g
        rw [hb] at this
        exact this.1
      have hy : yielded ops a.tmps j = some b := by
        unfold yielded
        rw [hj]
        simp only [Option.bind_some]
        cases hq : a.tmps[g]? with
        | none => rw [Array.getD_eq_getD_getElem?, hq] at hval; cases hval
        | some z => rw [Array.getD_eq_getD_getElem?, hq] at hval; simp only [Option.getD_some] at hval; subst hval; rfl
      by_cases hbw : b = wt
      · subst hbw
        rw [if_pos rfl] at he
        have hw : Region.wanted o (yielded ops a.tmps) = true := by simp [Region.wanted, hg1, hy]
        rw [if_pos hw]
        split at he
        · rename_i v s1 h5
          cases he
          exact .inl (run h5 hK)
        · cases he
      · rw [if_neg hbw] at he
        have hw : Region.wanted o (yielded ops a.tmps) = false := by simp [Region.wanted, hg1, hy, hbw]
        exact skip hw (by simpa using he)
    · rename_i l hb
      have hval : ∃ ys : List Value, a.tmps.getD g undef = .tuple ys.toArray := by
        have := R.tmp g
        rw [hb] at this
        obtain ⟨ys, h, _⟩ := this
        exact ⟨ys, h⟩
      obtain ⟨ys, hval⟩ := hval
      have hy : yielded ops a.tmps j = none := by
        unfold yielded
        rw [hj]
        simp only [Option.bind_some]
        cases hq : a.tmps[g]? with
        | none => rfl
        | some z => rw [Array.getD_eq_getD_getElem?, hq] at hval; simp only [Option.getD_some] at hval; subst hval; rfl
      have hw : Region.wanted o (yielded ops a.tmps) = false := by simp [Region.wanted, hg1, hy]
      exact skip hw (by simpa using he)
    · cases he
  · cases h4

/-! ### A region in the text's order -/
def chkOps (P : Program) (N : Nat) (ops : Array Oper) : List Nat → List SOper → Bool
  | [], [] => true
  | i :: is, so :: sos => (match ops[i]? with | some o => chkOper P N ops o so | none => false) && chkOps P N ops is sos
  | _, _ => false
theorem ops_sound {ops : Array Oper} (hS0 : ∀ b, S0 b → b < w0.heap.size) (hsp : SpecOk P sp) {sn : St} (hQ : ∀ μ' a' w', Rel S0 w0 N μ' sn a' w' → Q .normal a' w') :
    ∀ (is : List Nat) (sos : List SOper) {μ : Nat → Nat} {s : St} {a : Act} {w : World}, chkOps P N ops is sos = true → Rel S0 w0 N μ s a w → absOps sp sos s = some sn → wpOps P ops Q is a w
  | [], [], μ, s, a, w, _, R, he => by
    simp only [absOps, Option.some.injEq] at he
    subst he
    exact hQ _ _ _ R
  | [], _ :: _, _, _, _, _, h, _, _ => by cases h
  | _ :: _, [], _, _, _, _, h, _, _ => by cases h
  | i :: is, so :: sos, μ, s, a, w, h, R, he => by
    simp only [chkOps, Bool.and_eq_true] at h
    obtain ⟨h1, h2⟩ := h
    simp only [absOps] at he
    split at he
    · rename_i s1 h3
      split at h1
      · rename_i o ho
        have := oper_sound (Q := Q) hS0 hsp R h1 h3 (K := wpOps P ops Q is) (fun μ' a' w' R' => ops_sound hS0 hsp hQ is sos h2 R' he)
        simp only [wpOps, ho]
        exact this
      · cases h1
    · cases he
end
end Go.VC

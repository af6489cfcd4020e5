/- Division of Limbs. -/
import Derived.Test.YtichmemhahbhnaaK5
set_option linter.unusedVariables false
set_option linter.unusedSimpArgs false
namespace Go.Proofs.Ytichmemhahbhnaa.E
open Go.VC Go.RowKit

def sShort : List AP → Option AV
  | [a, b, .c (.v (.int .u64 d))] => match dL a, dL b with
    | some h, some l => if h < d ∧ d < 18446744073709551616 then some (.t [lb ((h * 340282366920938463463374607431768211456 + l) / d), lb ((h * 340282366920938463463374607431768211456 + l) % d)]) else none
    | _, _ => none
  | _ => none
theorem okShort : Ok Try.prog 54 sShort := ok_of' Try.func54 limb_short.ent limb_short.chk (specOk_cons okDiv64 specOk_nil) fun av r h => by
  unfold sShort at h
  split at h
  · split at h
    · rename_i a b d x1 x2 h0 l hx hy
      split at h
      · rename_i hd
        cases h
        obtain ⟨rfl, hx0, hx1⟩ := dL_some hx
        obtain ⟨rfl, hy0, hy1⟩ := dL_some hy
        obtain ⟨hd0, hd1⟩ := hd
        refine ⟨by simp [limb_short.c], 0, ?_⟩
        have e1 : h0 % 18446744073709551616 = h0 := by omega
        have l0 : 0 ≤ l / 18446744073709551616 := by omega
        have l1 : l / 18446744073709551616 < 18446744073709551616 := by omega
        have m0 : 0 ≤ (h0 * 18446744073709551616 + l / 18446744073709551616) % d := Int.emod_nonneg _ (by omega)
        have m1 : (h0 * 18446744073709551616 + l / 18446744073709551616) % d < d := Int.emod_lt_of_pos _ (by omega)
        have m2 := Int.mul_ediv_add_emod (h0 * 18446744073709551616 + l / 18446744073709551616) d
        have q0 : 0 ≤ (h0 * 18446744073709551616 + l / 18446744073709551616) / d := Int.ediv_nonneg (by omega) (by omega)
        have q1 : (h0 * 18446744073709551616 + l / 18446744073709551616) / d < 18446744073709551616 := Int.ediv_lt_of_lt_mul (by omega) (by omega)
        simp [limb_short.c, lb, sDiv64, e1, em0, em1, hx0, hd0, hd1, l0, l1, m0, m1]
        generalize hqd : (h0 * 18446744073709551616 + l / 18446744073709551616) / d = q at *
        generalize hrd : (h0 * 18446744073709551616 + l / 18446744073709551616) % d = r at *
        have n2 := Int.mul_ediv_add_emod (r * 18446744073709551616 + l % 18446744073709551616) d
        have n0 : 0 ≤ (r * 18446744073709551616 + l % 18446744073709551616) % d := Int.emod_nonneg _ (by omega)
        have n1 : (r * 18446744073709551616 + l % 18446744073709551616) % d < d := Int.emod_lt_of_pos _ (by omega)
        have p0 : 0 ≤ (r * 18446744073709551616 + l % 18446744073709551616) / d := Int.ediv_nonneg (by omega) (by omega)
        have p1 : (r * 18446744073709551616 + l % 18446744073709551616) / d < 18446744073709551616 := Int.ediv_lt_of_lt_mul (by omega) (by omega)
        generalize hpd : (r * 18446744073709551616 + l % 18446744073709551616) / d = p at *
        generalize htd : (r * 18446744073709551616 + l % 18446744073709551616) % d = t at *
        have hN : h0 * 340282366920938463463374607431768211456 + l = (q * 18446744073709551616 + p) * d + t := by
          have : (q * 18446744073709551616 + p) * d = d * q * 18446744073709551616 + d * p := by grind
          rw [this]; omega
        have hN1 : (h0 * 340282366920938463463374607431768211456 + l) / d = q * 18446744073709551616 + p := by
          rw [hN, Int.add_comm, Int.add_mul_ediv_right _ _ (by omega), Int.ediv_eq_zero_of_lt n0 n1, Int.zero_add]
        have hN2 : (h0 * 340282366920938463463374607431768211456 + l) % d = t := by
          rw [hN, Int.add_comm, Int.add_mul_emod_self_right]; exact Int.emod_eq_of_lt n0 n1
        rw [hN1, hN2]
        omega
      · cases h
    · cases h
  · cases h

def sLimbDiv : List AP → Option AV
  | [a, b, c] => match dL a, dL b, dL c with
    | some h, some l, some d => if h < d then some (.t [lb ((h * 340282366920938463463374607431768211456 + l) / d), lb ((h * 340282366920938463463374607431768211456 + l) % d), bv true]) else some (.t [lb 0, lb 0, bv false])
    | _, _, _ => none
  | _ => none
abbrev spLimbDiv : List (Nat × (List AP → Option AV)) := [(31, sLimbCmp), (55, sDouble), (27, sLimbSub), (54, sShort)]
theorem okSpLimbDiv : SpecOk Try.prog (spOf spLimbDiv) := specOk_cons okLimbCmp (specOk_cons okDouble (specOk_cons okLimbSub (specOk_cons okShort specOk_nil)))
theorem cmpI_ge {x y : Int} : (0 ≤ cmpI x y) ↔ y ≤ x := by unfold cmpI; split <;> (try split) <;> omega

abbrev lc (x : Int) : List AC := [.v (.int .u64 (x / 18446744073709551616)), .v (.int .u64 (x % 18446744073709551616))]
/-- Ahead of round i. -/
def DivI (N d : Int) (i : Nat) (s : St) : Prop :=
  s.tm 4 = .o (.c (.p 4 0)) ∧ s.tm 5 = .o (.c (.p 5 0)) ∧ s.tm 6 = .o (.c (.p 6 0)) ∧ s.tm 7 = .o (.c (.p 7 0)) ∧ s.tm 30 = .o (iv .i64 i) ∧
  ∃ q r lo p : Int, s.mem 4 = some (lc lo) ∧ s.mem 5 = some (lc d) ∧ s.mem 6 = some (lc q) ∧ s.mem 7 = some (lc r) ∧
    N * p = (q * d + r) * 340282366920938463463374607431768211456 + lo ∧ 0 ≤ r ∧ r < d ∧ 0 ≤ q ∧ q < p ∧ 0 ≤ lo ∧ lo < 340282366920938463463374607431768211456 ∧ p = (2 : Int) ^ i

theorem pow_le (i : Nat) (h : i ≤ 127) : (2 : Int) ^ i ≤ 170141183460469231731687303715884105728 := by
  have h1 : (2 : Nat) ^ i ≤ 2 ^ 127 := Nat.pow_le_pow_right (by decide) h
  have e1 : (2 : Nat) ^ 127 = 170141183460469231731687303715884105728 := by decide
  rw [e1] at h1
  have e2 : ((2 ^ i : Nat) : Int) = (2 : Int) ^ i := by push_cast; rfl
  rw [← e2]
  exact Int.ofNat_le.2 h1

theorem div_step (K : Nat) (N d : Int) (hd0 : 0 ≤ d) (hd1 : d < 340282366920938463463374607431768211456) (i : Nat) (s : St) (hi : i < 128) (hI : DivI N d i s) :
    EndsIn (absCode (spOf spLimbDiv) K limb_Div.l1 s) (fun ax s' => match ax with | .n => DivI N d (i + 1) s' | ax => False) := by
  obtain ⟨t4, t5, t6, t7, t30, q, r, lo, p, m4, m5, m6, m7, e, r0, r1, q0, q1, l0, l1, hp⟩ := hI
  have dd := dL_lb hd0 hd1
  have dr := dL_lb r0 (show r < 340282366920938463463374607431768211456 by omega)
  have dlo := dL_lb l0 l1
  have hple := pow_le i (by omega)
  rw [← hp] at hple
  have dq := dL_lb q0 (show q < 340282366920938463463374607431768211456 by omega)
  have hi1 : (i : Int) < 128 := by omega
  have wi : IntKind.i64.wrap ((i : Int) + 1) = (i : Int) + 1 := wrap_i64_in (by omega) (by omega)
  have fl : (lo / 18446744073709551616).fdiv 9223372036854775808 = lo / 18446744073709551616 / 9223372036854775808 := fdiv_pos (by decide)
  have hqov : ¬ 340282366920938463463374607431768211456 ≤ 2 * q := by omega
  have dq2 := dL_lb (show 0 ≤ 2 * q by omega) (show 2 * q < 340282366920938463463374607431768211456 by omega)
  have hor : bitsV .or .u64 (2 * q % 18446744073709551616) 1 = 2 * q % 18446744073709551616 + 1 := or_u64_add 1 (by decide) (by omega) (by omega) (by omega) (by omega) (by decide) (by omega)
  by_cases cb : 340282366920938463463374607431768211456 ≤ 2 * lo
  · have fb : lo / 18446744073709551616 / 9223372036854775808 = 1 := by omega
    have dlo2 := dL_lb (show 0 ≤ 2 * lo - 340282366920938463463374607431768211456 by omega) (show 2 * lo - 340282366920938463463374607431768211456 < 340282366920938463463374607431768211456 by omega)
    by_cases c1 : 340282366920938463463374607431768211456 ≤ 2 * r
    · have c2 : 2 * r + 1 - 340282366920938463463374607431768211456 < d := by omega
      have d2 := dL_lb (show 0 ≤ 2 * r + 1 - 340282366920938463463374607431768211456 by omega) (show 2 * r + 1 - 340282366920938463463374607431768211456 < 340282366920938463463374607431768211456 by omega)
      simp [limb_Div.l1, t4, t5, t6, t7, t30, m4, m5, m6, m7, hi1, wi, lb, sDouble, sLimbCmp, sLimbSub, dd, dr, dlo, dq, dlo2, dq2, d2, fl, fb, cb, c1, c2, hqov, hor]
      refine ⟨by simp [t4], by simp [t5], by simp [t6], by simp [t7], by simp, 2 * q + 1, 2 * r + 1 - d, 2 * lo - 340282366920938463463374607431768211456, 2 * p, by simp, by simp [m5], ?_, ?_, ?_, by omega, by omega, by omega, by omega, by omega, by omega, ?_⟩
      · simp; omega
      · simp; omega
      · have : (2 * q + 1) * d = 2 * (q * d) + d := by grind
        have h2 : N * (2 * p) = 2 * (N * p) := by grind
        rw [this, h2, e]; omega
      · rw [hp, Int.pow_succ]; omega
    · by_cases c3 : d ≤ 2 * r + 1
      · have c2 : 0 ≤ cmpI (2 * r + 1) d := by rw [cmpI_ge]; omega
        have c4 : ¬ 2 * r + 1 < d := by omega
        have d2 := dL_lb (show 0 ≤ 2 * r + 1 by omega) (show 2 * r + 1 < 340282366920938463463374607431768211456 by omega)
        simp [limb_Div.l1, t4, t5, t6, t7, t30, m4, m5, m6, m7, hi1, wi, lb, sDouble, sLimbCmp, sLimbSub, dd, dr, dlo, dq, dlo2, dq2, d2, fl, fb, cb, c1, c2, c4, hqov, hor]
        refine ⟨by simp [t4], by simp [t5], by simp [t6], by simp [t7], by simp, 2 * q + 1, 2 * r + 1 - d, 2 * lo - 340282366920938463463374607431768211456, 2 * p, by simp, by simp [m5], ?_, ?_, ?_, by omega, by omega, by omega, by omega, by omega, by omega, ?_⟩
        · simp; omega
        · simp
        · have : (2 * q + 1) * d = 2 * (q * d) + d := by grind
          have h2 : N * (2 * p) = 2 * (N * p) := by grind
          rw [this, h2, e]; omega
        · rw [hp, Int.pow_succ]; omega
      · have c2 : ¬ 0 ≤ cmpI (2 * r + 1) d := by rw [cmpI_ge]; omega
        have d2 := dL_lb (show 0 ≤ 2 * r + 1 by omega) (show 2 * r + 1 < 340282366920938463463374607431768211456 by omega)
        simp [limb_Div.l1, t4, t5, t6, t7, t30, m4, m5, m6, m7, hi1, wi, lb, sDouble, sLimbCmp, sLimbSub, dd, dr, dlo, dq, dlo2, dq2, d2, fl, fb, cb, c1, c2, hqov, hor]
        refine ⟨by simp [t4], by simp [t5], by simp [t6], by simp [t7], by simp, 2 * q, 2 * r + 1, 2 * lo - 340282366920938463463374607431768211456, 2 * p, by simp, by simp [m5], by simp, by simp, ?_, by omega, by omega, by omega, by omega, by omega, by omega, ?_⟩
        · have : (2 * q) * d = 2 * (q * d) := by grind
          have h2 : N * (2 * p) = 2 * (N * p) := by grind
          rw [this, h2, e]; omega
        · rw [hp, Int.pow_succ]; omega
  · have fb : lo / 18446744073709551616 / 9223372036854775808 = 0 := by omega
    have dlo2 := dL_lb (show 0 ≤ 2 * lo by omega) (show 2 * lo < 340282366920938463463374607431768211456 by omega)
    by_cases c1 : 340282366920938463463374607431768211456 ≤ 2 * r
    · have c2 : 2 * r - 340282366920938463463374607431768211456 < d := by omega
      have d2 := dL_lb (show 0 ≤ 2 * r - 340282366920938463463374607431768211456 by omega) (show 2 * r - 340282366920938463463374607431768211456 < 340282366920938463463374607431768211456 by omega)
      simp [limb_Div.l1, t4, t5, t6, t7, t30, m4, m5, m6, m7, hi1, wi, lb, sDouble, sLimbCmp, sLimbSub, dd, dr, dlo, dq, dlo2, dq2, d2, fl, fb, cb, c1, c2, hqov, hor]
      refine ⟨by simp [t4], by simp [t5], by simp [t6], by simp [t7], by simp, 2 * q + 1, 2 * r - d, 2 * lo, 2 * p, by simp, by simp [m5], ?_, ?_, ?_, by omega, by omega, by omega, by omega, by omega, by omega, ?_⟩
      · simp; omega
      · simp; omega
      · have : (2 * q + 1) * d = 2 * (q * d) + d := by grind
        have h2 : N * (2 * p) = 2 * (N * p) := by grind
        rw [this, h2, e]; omega
      · rw [hp, Int.pow_succ]; omega
    · by_cases c3 : d ≤ 2 * r
      · have c2 : 0 ≤ cmpI (2 * r) d := by rw [cmpI_ge]; omega
        have c4 : ¬ 2 * r < d := by omega
        have d2 := dL_lb (show 0 ≤ 2 * r by omega) (show 2 * r < 340282366920938463463374607431768211456 by omega)
        simp [limb_Div.l1, t4, t5, t6, t7, t30, m4, m5, m6, m7, hi1, wi, lb, sDouble, sLimbCmp, sLimbSub, dd, dr, dlo, dq, dlo2, dq2, d2, fl, fb, cb, c1, c2, c4, hqov, hor]
        refine ⟨by simp [t4], by simp [t5], by simp [t6], by simp [t7], by simp, 2 * q + 1, 2 * r - d, 2 * lo, 2 * p, by simp, by simp [m5], ?_, ?_, ?_, by omega, by omega, by omega, by omega, by omega, by omega, ?_⟩
        · simp; omega
        · simp
        · have : (2 * q + 1) * d = 2 * (q * d) + d := by grind
          have h2 : N * (2 * p) = 2 * (N * p) := by grind
          rw [this, h2, e]; omega
        · rw [hp, Int.pow_succ]; omega
      · have c2 : ¬ 0 ≤ cmpI (2 * r) d := by rw [cmpI_ge]; omega
        have d2 := dL_lb (show 0 ≤ 2 * r by omega) (show 2 * r < 340282366920938463463374607431768211456 by omega)
        simp [limb_Div.l1, t4, t5, t6, t7, t30, m4, m5, m6, m7, hi1, wi, lb, sDouble, sLimbCmp, sLimbSub, dd, dr, dlo, dq, dlo2, dq2, d2, fl, fb, cb, c1, c2, hqov, hor]
        refine ⟨by simp [t4], by simp [t5], by simp [t6], by simp [t7], by simp, 2 * q, 2 * r, 2 * lo, 2 * p, by simp, by simp [m5], by simp, by simp, ?_, by omega, by omega, by omega, by omega, by omega, by omega, ?_⟩
        · have : (2 * q) * d = 2 * (q * d) := by grind
          have h2 : N * (2 * p) = 2 * (N * p) := by grind
          rw [this, h2, e]; omega
        · rw [hp, Int.pow_succ]; omega

theorem okLimbDiv : Ok Try.prog 23 sLimbDiv := ok_of' Try.func23 limb_Div.ent limb_Div.chk okSpLimbDiv fun av r h => by
  unfold sLimbDiv at h
  split at h
  · split at h
    · rename_i a b c x1 x2 x3 h0 l d hx hy hz
      obtain ⟨rfl, hx0, hx1⟩ := dL_some hx
      obtain ⟨rfl, hy0, hy1⟩ := dL_some hy
      obtain ⟨rfl, hz0, hz1⟩ := dL_some hz
      have dx := dL_lb hx0 hx1
      have dy := dL_lb hy0 hy1
      have dz := dL_lb hz0 hz1
      split at h
      · rename_i hd
        cases h
        refine ⟨by simp [limb_Div.c], 129, ?_⟩
        have hc : ¬ 0 ≤ cmpI h0 d := by rw [cmpI_ge]; omega
        by_cases hd0 : d / 18446744073709551616 = 0
        · have hdm : d % 18446744073709551616 = d := by omega
          have hdw : d < 18446744073709551616 := by omega
          have dz0 := dz
          rw [hd0, hdm] at dz0
          simp [limb_Div.c, lb, sLimbCmp, sShort, dx, dy, dz0, hc, hd0, hdm, hd, hdw]
        · simp [limb_Div.c, lb, sLimbCmp, dx, dy, dz, hc, hd0]
          refine ends_iter (DivI (h0 * 340282366920938463463374607431768211456 + l) d) 128 (fun i s hi hI => (div_step _ _ _ hz0 hz1 i s hi hI).mono (fun ax s' hh => ?_)) (fun s hI => ?_) 129 0 _ (by decide) (by decide) ⟨by simp, by simp, by simp, by simp, by simp, 0, h0, l, 1, by simp, by simp, by simp, by simp, by omega, hx0, hd, by decide, by decide, hy0, hy1, by decide⟩
          · cases ax with
            | n => exact hh
            | e _ => exact hh.elim
            | r => exact hh.elim
          · obtain ⟨t4, t5, t6, t7, t30, q, r, lo, p, m4, m5, m6, m7, e, r0, r1, q0, q1, l0, l1, hp⟩ := hI
            have hp2 : p = 340282366920938463463374607431768211456 := hp
            subst hp2
            have e2 : h0 * 340282366920938463463374607431768211456 + l = q * d + r := by omega
            have hN1 : (h0 * 340282366920938463463374607431768211456 + l) / d = q := by
              rw [e2, Int.add_comm, Int.add_mul_ediv_right _ _ (by omega), Int.ediv_eq_zero_of_lt r0 r1, Int.zero_add]
            have hN2 : (h0 * 340282366920938463463374607431768211456 + l) % d = r := by
              rw [e2, Int.add_comm, Int.add_mul_emod_self_right]; exact Int.emod_eq_of_lt r0 r1
            rw [hN1, hN2]
            simp [limb_Div.l1, t4, t5, t6, t7, t30, m4, m5, m6, m7, lb]
      · cases h
        rename_i hd
        have hc : 0 ≤ cmpI h0 d := by rw [cmpI_ge]; omega
        refine ⟨by simp [limb_Div.c], 0, ?_⟩
        simp [limb_Div.c, lb, sLimbCmp, dx, dy, dz, hc]
    · cases h
  · cases h
end Go.Proofs.Ytichmemhahbhnaa.E

/- What wide.Mul, wide.MulDiv and wide.Div do. -/
import Derived.Test.YtichmemhahbhnaaW2
set_option linter.unusedVariables false
set_option linter.unusedSimpArgs false
namespace Go.Proofs.Ytichmemhahbhnaa.E
open Go.VC Go.RowKit

def sWMul : List AP → Option AV
  | [a, b] => match dW a, dW b with
    | some x, some y => some (fitW (x * y))
    | _, _ => none
  | _ => none
theorem okWMul : Ok Try.prog 41 sWMul := ok_of' Try.func41 wide_Mul.ent wide_Mul.chk (specOk_cons okWSize (specOk_cons okLimbMul (specOk_cons okWSigned specOk_nil))) fun av r h => by
  unfold sWMul at h
  split at h
  · split at h
    · rename_i a b x1 x2 x y hx hy
      cases h
      obtain ⟨rfl, hx0, hx1⟩ := dW_some hx
      obtain ⟨rfl, hy0, hy1⟩ := dW_some hy
      have dx := dW_wd hx0 hx1
      have dy := dW_wd hy0 hy1
      refine ⟨by simp [wide_Mul.c], 0, ?_⟩
      by_cases hxn : x < 0
      · by_cases hyn : y < 0
        · have hxs : x / 18446744073709551616 < 0 := by omega
          have hys : y / 18446744073709551616 < 0 := by omega
          have d1 := dL_lb (show 0 ≤ -x by omega) (show -x < 340282366920938463463374607431768211456 by omega)
          have d2 := dL_lb (show 0 ≤ -y by omega) (show -y < 340282366920938463463374607431768211456 by omega)
          obtain ⟨Q, hQ⟩ : ∃ Q, Q = (-x) * (-y) := ⟨_, rfl⟩
          have hQ0 : 0 ≤ Q := by rw [hQ]; exact Int.mul_nonneg (by omega) (by omega)
          have hQ1 : Q ≤ 170141183460469231731687303715884105728 * 170141183460469231731687303715884105728 := by rw [hQ]; exact Int.mul_le_mul (by omega) (by omega) (by omega) (by decide)
          have hxy : x * y = Q := by rw [hQ] <;> grind
          have hQs : -x * -y = Q := hQ.symm
          clear hQ
          by_cases hM : Q < 340282366920938463463374607431768211456
          · have z1 : Q / 340282366920938463463374607431768211456 = 0 := by omega
            have z2 : Q % 340282366920938463463374607431768211456 = Q := by omega
            have z3 := dL_lb hQ0 hM
            by_cases hf : Q < 170141183460469231731687303715884105728
            · have hf2 : -170141183460469231731687303715884105728 ≤ Q := by omega
              simp [wide_Mul.c, wd, lb, sWSize, sLimbMul, sWSigned, fitW, dx, dy, d1, d2, hxn, hyn, hxs, hys, hQs, hxy, z1, z2, z3, hf, hf2]
            · simp [wide_Mul.c, wd, lb, sWSize, sLimbMul, sWSigned, fitW, dx, dy, d1, d2, hxn, hyn, hxs, hys, hQs, hxy, z1, z2, z3, hf]
          · have hf : ¬ Q < 170141183460469231731687303715884105728 := by omega
            by_cases z1 : Q / 340282366920938463463374607431768211456 / 18446744073709551616 = 0
            · have z2 : ¬ Q / 340282366920938463463374607431768211456 % 18446744073709551616 = 0 := by omega
              simp [wide_Mul.c, wd, lb, sWSize, sLimbMul, sWSigned, fitW, dx, dy, d1, d2, hxn, hyn, hxs, hys, hQs, hxy, z1, z2, hf] <;> omega
            · simp [wide_Mul.c, wd, lb, sWSize, sLimbMul, sWSigned, fitW, dx, dy, d1, d2, hxn, hyn, hxs, hys, hQs, hxy, z1, hf] <;> omega
        · have hxs : x / 18446744073709551616 < 0 := by omega
          have hys : ¬ y / 18446744073709551616 < 0 := by omega
          have d1 := dL_lb (show 0 ≤ -x by omega) (show -x < 340282366920938463463374607431768211456 by omega)
          have d2 := dL_lb (show 0 ≤ y by omega) (show y < 340282366920938463463374607431768211456 by omega)
          obtain ⟨Q, hQ⟩ : ∃ Q, Q = (-x) * y := ⟨_, rfl⟩
          have hQ0 : 0 ≤ Q := by rw [hQ]; exact Int.mul_nonneg (by omega) (by omega)
          have hQ1 : Q ≤ 170141183460469231731687303715884105728 * 170141183460469231731687303715884105728 := by rw [hQ]; exact Int.mul_le_mul (by omega) (by omega) (by omega) (by decide)
          have hxy : x * y = -Q := by rw [hQ] <;> grind
          have hQs : -x * y = Q := hQ.symm
          clear hQ
          by_cases hM : Q < 340282366920938463463374607431768211456
          · have z1 : Q / 340282366920938463463374607431768211456 = 0 := by omega
            have z2 : Q % 340282366920938463463374607431768211456 = Q := by omega
            have z3 := dL_lb hQ0 hM
            by_cases hf : Q ≤ 170141183460469231731687303715884105728
            · have hf2 : -170141183460469231731687303715884105728 ≤ -Q ∧ -Q < 170141183460469231731687303715884105728 := by omega
              simp [wide_Mul.c, wd, lb, sWSize, sLimbMul, sWSigned, fitW, dx, dy, d1, d2, hxn, hyn, hxs, hys, hQs, hxy, z1, z2, z3, hf, hf2]
            · have hf2 : ¬ (-170141183460469231731687303715884105728 ≤ -Q ∧ -Q < 170141183460469231731687303715884105728) := by omega
              simp [wide_Mul.c, wd, lb, sWSize, sLimbMul, sWSigned, fitW, dx, dy, d1, d2, hxn, hyn, hxs, hys, hQs, hxy, z1, z2, z3, hf, hf2]
          · have hf : ¬ (-170141183460469231731687303715884105728 ≤ -Q ∧ -Q < 170141183460469231731687303715884105728) := by omega
            by_cases z1 : Q / 340282366920938463463374607431768211456 / 18446744073709551616 = 0
            · have z2 : ¬ Q / 340282366920938463463374607431768211456 % 18446744073709551616 = 0 := by omega
              simp [wide_Mul.c, wd, lb, sWSize, sLimbMul, sWSigned, fitW, dx, dy, d1, d2, hxn, hyn, hxs, hys, hQs, hxy, z1, z2, hf] <;> omega
            · simp [wide_Mul.c, wd, lb, sWSize, sLimbMul, sWSigned, fitW, dx, dy, d1, d2, hxn, hyn, hxs, hys, hQs, hxy, z1, hf] <;> omega
      · by_cases hyn : y < 0
        · have hxs : ¬ x / 18446744073709551616 < 0 := by omega
          have hys : y / 18446744073709551616 < 0 := by omega
          have d1 := dL_lb (show 0 ≤ x by omega) (show x < 340282366920938463463374607431768211456 by omega)
          have d2 := dL_lb (show 0 ≤ -y by omega) (show -y < 340282366920938463463374607431768211456 by omega)
          obtain ⟨Q, hQ⟩ : ∃ Q, Q = x * (-y) := ⟨_, rfl⟩
          have hQ0 : 0 ≤ Q := by rw [hQ]; exact Int.mul_nonneg (by omega) (by omega)
          have hQ1 : Q ≤ 170141183460469231731687303715884105728 * 170141183460469231731687303715884105728 := by rw [hQ]; exact Int.mul_le_mul (by omega) (by omega) (by omega) (by decide)
          have hxy : x * y = -Q := by rw [hQ] <;> grind
          have hQs : x * -y = Q := hQ.symm
          clear hQ
          by_cases hM : Q < 340282366920938463463374607431768211456
          · have z1 : Q / 340282366920938463463374607431768211456 = 0 := by omega
            have z2 : Q % 340282366920938463463374607431768211456 = Q := by omega
            have z3 := dL_lb hQ0 hM
            by_cases hf : Q ≤ 170141183460469231731687303715884105728
            · have hf2 : -170141183460469231731687303715884105728 ≤ -Q ∧ -Q < 170141183460469231731687303715884105728 := by omega
              simp [wide_Mul.c, wd, lb, sWSize, sLimbMul, sWSigned, fitW, dx, dy, d1, d2, hxn, hyn, hxs, hys, hQs, hxy, z1, z2, z3, hf, hf2]
            · have hf2 : ¬ (-170141183460469231731687303715884105728 ≤ -Q ∧ -Q < 170141183460469231731687303715884105728) := by omega
              simp [wide_Mul.c, wd, lb, sWSize, sLimbMul, sWSigned, fitW, dx, dy, d1, d2, hxn, hyn, hxs, hys, hQs, hxy, z1, z2, z3, hf, hf2]
          · have hf : ¬ (-170141183460469231731687303715884105728 ≤ -Q ∧ -Q < 170141183460469231731687303715884105728) := by omega
            by_cases z1 : Q / 340282366920938463463374607431768211456 / 18446744073709551616 = 0
            · have z2 : ¬ Q / 340282366920938463463374607431768211456 % 18446744073709551616 = 0 := by omega
              simp [wide_Mul.c, wd, lb, sWSize, sLimbMul, sWSigned, fitW, dx, dy, d1, d2, hxn, hyn, hxs, hys, hQs, hxy, z1, z2, hf] <;> omega
            · simp [wide_Mul.c, wd, lb, sWSize, sLimbMul, sWSigned, fitW, dx, dy, d1, d2, hxn, hyn, hxs, hys, hQs, hxy, z1, hf] <;> omega
        · have hxs : ¬ x / 18446744073709551616 < 0 := by omega
          have hys : ¬ y / 18446744073709551616 < 0 := by omega
          have d1 := dL_lb (show 0 ≤ x by omega) (show x < 340282366920938463463374607431768211456 by omega)
          have d2 := dL_lb (show 0 ≤ y by omega) (show y < 340282366920938463463374607431768211456 by omega)
          obtain ⟨Q, hQ⟩ : ∃ Q, Q = x * y := ⟨_, rfl⟩
          have hQ0 : 0 ≤ Q := by rw [hQ]; exact Int.mul_nonneg (by omega) (by omega)
          have hQ1 : Q ≤ 170141183460469231731687303715884105728 * 170141183460469231731687303715884105728 := by rw [hQ]; exact Int.mul_le_mul (by omega) (by omega) (by omega) (by decide)
          have hxy : x * y = Q := by rw [hQ] <;> grind
          have hQs : x * y = Q := hQ.symm
          clear hQ
          by_cases hM : Q < 340282366920938463463374607431768211456
          · have z1 : Q / 340282366920938463463374607431768211456 = 0 := by omega
            have z2 : Q % 340282366920938463463374607431768211456 = Q := by omega
            have z3 := dL_lb hQ0 hM
            by_cases hf : Q < 170141183460469231731687303715884105728
            · have hf2 : -170141183460469231731687303715884105728 ≤ Q := by omega
              simp [wide_Mul.c, wd, lb, sWSize, sLimbMul, sWSigned, fitW, dx, dy, d1, d2, hxn, hyn, hxs, hys, hQs, hxy, z1, z2, z3, hf, hf2]
            · simp [wide_Mul.c, wd, lb, sWSize, sLimbMul, sWSigned, fitW, dx, dy, d1, d2, hxn, hyn, hxs, hys, hQs, hxy, z1, z2, z3, hf]
          · have hf : ¬ Q < 170141183460469231731687303715884105728 := by omega
            by_cases z1 : Q / 340282366920938463463374607431768211456 / 18446744073709551616 = 0
            · have z2 : ¬ Q / 340282366920938463463374607431768211456 % 18446744073709551616 = 0 := by omega
              simp [wide_Mul.c, wd, lb, sWSize, sLimbMul, sWSigned, fitW, dx, dy, d1, d2, hxn, hyn, hxs, hys, hQs, hxy, z1, z2, hf] <;> omega
            · simp [wide_Mul.c, wd, lb, sWSize, sLimbMul, sWSigned, fitW, dx, dy, d1, d2, hxn, hyn, hxs, hys, hQs, hxy, z1, hf] <;> omega
    · cases h
  · cases h

/-- A quotient and what is left; whether it fits. -/
def divW (P d : Int) : AV := if d ≤ 0 then .t [wd 0, wd 0, iv .i64 3] else if -170141183460469231731687303715884105728 ≤ P / d ∧ P / d < 170141183460469231731687303715884105728 then .t [wd (P / d), wd (P % d), iv .i64 0] else .t [wd 0, wd 0, iv .i64 2]
def sWMulDiv : List AP → Option AV
  | [a, b, c] => match dW a, dW b, dW c with
    | some x, some y, some d => some (divW (x * y) d)
    | _, _, _ => none
  | _ => none
abbrev spMD : List (Nat × (List AP → Option AV)) := [(62, sWAbove), (63, sWSize), (17, sLimbMul), (64, sWBits), (23, sLimbDiv), (65, sWSigned), (66, sWFrom), (67, sWLeast), (33, sWOf), (43, sWSub), (27, sLimbSub)]
theorem okSpMD : SpecOk Try.prog (spOf spMD) := specOk_cons okWAbove (specOk_cons okWSize (specOk_cons okLimbMul (specOk_cons okWBits (specOk_cons okLimbDiv (specOk_cons okWSigned (specOk_cons okWFrom (specOk_cons okWLeast (specOk_cons okWOf (specOk_cons okWSub (specOk_cons okLimbSub specOk_nil))))))))))
theorem dL00 : dL (.g [.v (.int .u64 0), .v (.int .u64 0)]) = some 0 := by decide
theorem dLh : dL (.g [.v (.int .u64 9223372036854775808), .v (.int .u64 0)]) = some 170141183460469231731687303715884105728 := by decide
theorem dW1 : dW (.g [.v (.int .i64 0), .v (.int .u64 1)]) = some 1 := by decide
theorem dWm : dW (.g [.v (.int .i64 (-9223372036854775808)), .v (.int .u64 0)]) = some (-170141183460469231731687303715884105728) := by decide
theorem okWMulDiv : Ok Try.prog 39 sWMulDiv := ok_of' Try.func39 wide_MulDiv.ent wide_MulDiv.chk okSpMD fun av r h => by
  unfold sWMulDiv at h
  split at h
  · split at h
    · rename_i a b c x1 x2 x3 x y d hx hy hz
      cases h
      obtain ⟨rfl, hx0, hx1⟩ := dW_some hx
      obtain ⟨rfl, hy0, hy1⟩ := dW_some hy
      obtain ⟨rfl, hd0, hd1⟩ := dW_some hz
      have dx := dW_wd hx0 hx1
      have dy := dW_wd hy0 hy1
      have dd := dW_wd hd0 hd1
      refine ⟨by simp [wide_MulDiv.c], 0, ?_⟩
      unfold divW
      by_cases hd : 0 < d
      · have hdn : ¬ d < 0 := by omega
        have hdl : ¬ d ≤ 0 := by omega
        rw [if_neg hdl]
        have dD := dL_lb (show 0 ≤ d by omega) (show d < 340282366920938463463374607431768211456 by omega)
        by_cases hxn : x < 0
        · by_cases hyn : y < 0
          · have hxs : x / 18446744073709551616 < 0 := by omega
            have hys : y / 18446744073709551616 < 0 := by omega
            have d1 := dL_lb (show 0 ≤ -x by omega) (show -x < 340282366920938463463374607431768211456 by omega)
            have d2 := dL_lb (show 0 ≤ -y by omega) (show -y < 340282366920938463463374607431768211456 by omega)
            obtain ⟨Q, hQ⟩ : ∃ Q, Q = (-x) * (-y) := ⟨_, rfl⟩
            have hQ0 : 0 ≤ Q := by rw [hQ]; exact Int.mul_nonneg (by omega) (by omega)
            have hQ1 : Q ≤ 170141183460469231731687303715884105728 * 170141183460469231731687303715884105728 := by rw [hQ]; exact Int.mul_le_mul (by omega) (by omega) (by omega) (by decide)
            have hxy : x * y = Q := by rw [hQ] <;> grind
            have hQs : -x * -y = Q := hQ.symm
            clear hQ
            have dhi := dL_lb (show 0 ≤ Q / 340282366920938463463374607431768211456 by omega) (show Q / 340282366920938463463374607431768211456 < 340282366920938463463374607431768211456 by omega)
            have dlo := dL_lb (show 0 ≤ Q % 340282366920938463463374607431768211456 by omega) (show Q % 340282366920938463463374607431768211456 < 340282366920938463463374607431768211456 by omega)
            rw [show Q % 340282366920938463463374607431768211456 % 18446744073709551616 = Q % 18446744073709551616 by omega] at dlo
            have hN : Q / 340282366920938463463374607431768211456 * 340282366920938463463374607431768211456 + Q % 340282366920938463463374607431768211456 = Q := by omega
            have n2 := Int.mul_ediv_add_emod Q d
            have n0 : 0 ≤ Q / d := Int.ediv_nonneg hQ0 (by omega)
            have l0 : 0 ≤ Q % d := Int.emod_nonneg _ (by omega)
            have l1 : Q % d < d := Int.emod_lt_of_pos _ (by omega)
            by_cases hk : Q / 340282366920938463463374607431768211456 < d
            · have n1 : Q / d < 340282366920938463463374607431768211456 := Int.ediv_lt_of_lt_mul (by omega) (by omega)
              generalize hnd : Q / d = n at *
              generalize hld : Q % d = t at *
              have dn := dL_lb n0 n1
              have dt := dL_lb l0 (show t < 340282366920938463463374607431768211456 by omega)
              have ht : t < 170141183460469231731687303715884105728 := by omega
              by_cases hf : n < 170141183460469231731687303715884105728
              · have hf2 : -170141183460469231731687303715884105728 ≤ n := by omega
                simp [wide_MulDiv.c, wd, lb, sWAbove, sWSize, sLimbMul, sWBits, sLimbDiv, sWSigned, sWFrom, sWLeast, sWOf, sWSub, sLimbSub, fitW, dx, dy, dd, dD, hd, hdn, d1, d2, hxn, hyn, hxs, hys, hQs, hxy, dhi, dlo, hN, dL00, dLh, hk, hnd, hld, dn, dt, ht, hf, hf2]
              · simp [wide_MulDiv.c, wd, lb, sWAbove, sWSize, sLimbMul, sWBits, sLimbDiv, sWSigned, sWFrom, sWLeast, sWOf, sWSub, sLimbSub, fitW, dx, dy, dd, dD, hd, hdn, d1, d2, hxn, hyn, hxs, hys, hQs, hxy, dhi, dlo, hN, dL00, dLh, hk, hnd, hld, dn, dt, hf]
            · have hf : ¬ Q / d < 170141183460469231731687303715884105728 := by
                intro h
                have h2 : (Q / d + 1) * d ≤ 170141183460469231731687303715884105728 * d := Int.mul_le_mul_of_nonneg_right (by omega) (by omega)
                have h3 : Q < (Q / d + 1) * d := by rw [Int.add_mul, Int.one_mul, Int.mul_comm]; omega
                omega
              simp [wide_MulDiv.c, wd, lb, sWAbove, sWSize, sLimbMul, sWBits, sLimbDiv, sWSigned, sWFrom, sWLeast, sWOf, sWSub, sLimbSub, fitW, dx, dy, dd, dD, hd, hdn, d1, d2, hxn, hyn, hxs, hys, hQs, hxy, dhi, dlo, hN, dL00, dLh, hk, hf]
          · have hxs : x / 18446744073709551616 < 0 := by omega
            have hys : ¬ y / 18446744073709551616 < 0 := by omega
            have d1 := dL_lb (show 0 ≤ -x by omega) (show -x < 340282366920938463463374607431768211456 by omega)
            have d2 := dL_lb (show 0 ≤ y by omega) (show y < 340282366920938463463374607431768211456 by omega)
            obtain ⟨Q, hQ⟩ : ∃ Q, Q = (-x) * y := ⟨_, rfl⟩
            have hQ0 : 0 ≤ Q := by rw [hQ]; exact Int.mul_nonneg (by omega) (by omega)
            have hQ1 : Q ≤ 170141183460469231731687303715884105728 * 170141183460469231731687303715884105728 := by rw [hQ]; exact Int.mul_le_mul (by omega) (by omega) (by omega) (by decide)
            have hxy : x * y = -Q := by rw [hQ] <;> grind
            have hQs : -x * y = Q := hQ.symm
            clear hQ
            have dhi := dL_lb (show 0 ≤ Q / 340282366920938463463374607431768211456 by omega) (show Q / 340282366920938463463374607431768211456 < 340282366920938463463374607431768211456 by omega)
            have dlo := dL_lb (show 0 ≤ Q % 340282366920938463463374607431768211456 by omega) (show Q % 340282366920938463463374607431768211456 < 340282366920938463463374607431768211456 by omega)
            rw [show Q % 340282366920938463463374607431768211456 % 18446744073709551616 = Q % 18446744073709551616 by omega] at dlo
            have hN : Q / 340282366920938463463374607431768211456 * 340282366920938463463374607431768211456 + Q % 340282366920938463463374607431768211456 = Q := by omega
            have n2 := Int.mul_ediv_add_emod Q d
            have n0 : 0 ≤ Q / d := Int.ediv_nonneg hQ0 (by omega)
            have l0 : 0 ≤ Q % d := Int.emod_nonneg _ (by omega)
            have l1 : Q % d < d := Int.emod_lt_of_pos _ (by omega)
            have hdiv : -Q / d = (if Q % d = 0 then -(Q / d) else -(Q / d) - 1) ∧ -Q % d = (if Q % d = 0 then 0 else d - Q % d) := by
              rw [Int.ediv_emod_unique (by omega)]
              split
              · refine ⟨?_, by omega, by omega⟩; rw [Int.mul_neg]; omega
              · refine ⟨?_, by omega, by omega⟩; rw [Int.mul_sub, Int.mul_neg, Int.mul_one]; omega
            by_cases hk : Q / 340282366920938463463374607431768211456 < d
            · have n1 : Q / d < 340282366920938463463374607431768211456 := Int.ediv_lt_of_lt_mul (by omega) (by omega)
              obtain ⟨hdv, hdm⟩ := hdiv
              generalize hnd : Q / d = n at *
              generalize hld : Q % d = t at *
              have dn := dL_lb n0 n1
              have dt := dL_lb l0 (show t < 340282366920938463463374607431768211456 by omega)
              have ht : t < 170141183460469231731687303715884105728 := by omega
              by_cases ht0 : t = 0
              · rw [if_pos ht0] at hdv hdm
                subst ht0
                by_cases hf : n ≤ 170141183460469231731687303715884105728
                · have hf2 : -170141183460469231731687303715884105728 ≤ -n ∧ -n < 170141183460469231731687303715884105728 := by omega
                  simp [wide_MulDiv.c, wd, lb, sWAbove, sWSize, sLimbMul, sWBits, sLimbDiv, sWSigned, sWFrom, sWLeast, sWOf, sWSub, sLimbSub, fitW, dx, dy, dd, dD, hd, hdn, d1, d2, hxn, hyn, hxs, hys, hQs, hxy, dhi, dlo, hN, dL00, dLh, hk, hnd, hld, dn, dt, ht, hf, hf2, hdv, hdm]
                · have hf2 : ¬ (-170141183460469231731687303715884105728 ≤ -n ∧ -n < 170141183460469231731687303715884105728) := by omega
                  simp [wide_MulDiv.c, wd, lb, sWAbove, sWSize, sLimbMul, sWBits, sLimbDiv, sWSigned, sWFrom, sWLeast, sWOf, sWSub, sLimbSub, fitW, dx, dy, dd, dD, hd, hdn, d1, d2, hxn, hyn, hxs, hys, hQs, hxy, dhi, dlo, hN, dL00, dLh, hk, hnd, hld, dn, dt, hf, hf2, hdv, hdm]
              · rw [if_neg ht0] at hdv hdm
                by_cases hf : n ≤ 170141183460469231731687303715884105728
                · have dqn := dW_wd (show -170141183460469231731687303715884105728 ≤ -n by omega) (show -n < 170141183460469231731687303715884105728 by omega)
                  by_cases hl : n = 170141183460469231731687303715884105728
                  · subst hl
                    by_cases z1 : t / 18446744073709551616 = 0
                    · have z2 : ¬ t % 18446744073709551616 = 0 := by omega
                      simp [wide_MulDiv.c, wd, lb, sWAbove, sWSize, sLimbMul, sWBits, sLimbDiv, sWSigned, sWFrom, sWLeast, sWOf, sWSub, sLimbSub, fitW, dx, dy, dd, dD, hd, hdn, d1, d2, hxn, hyn, hxs, hys, hQs, hxy, dhi, dlo, hN, dL00, dLh, hk, hnd, hld, dn, dt, ht0, hf, hdv, hdm, z1, z2, dWm]
                    · simp [wide_MulDiv.c, wd, lb, sWAbove, sWSize, sLimbMul, sWBits, sLimbDiv, sWSigned, sWFrom, sWLeast, sWOf, sWSub, sLimbSub, fitW, dx, dy, dd, dD, hd, hdn, d1, d2, hxn, hyn, hxs, hys, hQs, hxy, dhi, dlo, hN, dL00, dLh, hk, hnd, hld, dn, dt, ht0, hf, hdv, hdm, z1, dWm]
                  · have hl2 : ¬ -n = -170141183460469231731687303715884105728 := by omega
                    have hf2 : -170141183460469231731687303715884105728 ≤ -n - 1 ∧ -n - 1 < 170141183460469231731687303715884105728 := by omega
                    have hs : ¬ d < t := by omega
                    have dr := dL_lb (show 0 ≤ d - t by omega) (show d - t < 340282366920938463463374607431768211456 by omega)
                    have hr : d - t < 170141183460469231731687303715884105728 := by omega
                    by_cases z1 : t / 18446744073709551616 = 0
                    · have z2 : ¬ t % 18446744073709551616 = 0 := by omega
                      have dt0 := dt
                      rw [z1] at dt0
                      simp [wide_MulDiv.c, wd, lb, sWAbove, sWSize, sLimbMul, sWBits, sLimbDiv, sWSigned, sWFrom, sWLeast, sWOf, sWSub, sLimbSub, fitW, dx, dy, dd, dD, hd, hdn, d1, d2, hxn, hyn, hxs, hys, hQs, hxy, dhi, dlo, hN, dL00, dLh, hk, hnd, hld, dn, dt0, ht, ht0, hf, hdv, hdm, z1, z2, dqn, hl, hl2, hf2, dW1, hs, dr, hr]
                    · simp [wide_MulDiv.c, wd, lb, sWAbove, sWSize, sLimbMul, sWBits, sLimbDiv, sWSigned, sWFrom, sWLeast, sWOf, sWSub, sLimbSub, fitW, dx, dy, dd, dD, hd, hdn, d1, d2, hxn, hyn, hxs, hys, hQs, hxy, dhi, dlo, hN, dL00, dLh, hk, hnd, hld, dn, dt, ht, ht0, hf, hdv, hdm, z1, dqn, hl, hl2, hf2, dW1, hs, dr, hr]
                · have hf2 : ¬ (-170141183460469231731687303715884105728 ≤ -n - 1 ∧ -n - 1 < 170141183460469231731687303715884105728) := by omega
                  simp [wide_MulDiv.c, wd, lb, sWAbove, sWSize, sLimbMul, sWBits, sLimbDiv, sWSigned, sWFrom, sWLeast, sWOf, sWSub, sLimbSub, fitW, dx, dy, dd, dD, hd, hdn, d1, d2, hxn, hyn, hxs, hys, hQs, hxy, dhi, dlo, hN, dL00, dLh, hk, hnd, hld, dn, dt, hf, hf2, hdv, hdm]
            · have hf : ¬ (-170141183460469231731687303715884105728 ≤ -Q / d ∧ -Q / d < 170141183460469231731687303715884105728) := by
                intro h
                have h1 := hdiv.1
                have h4 : Q / d ≤ 170141183460469231731687303715884105728 := by split at h1 <;> omega
                have h2 : (Q / d + 1) * d ≤ (170141183460469231731687303715884105728 + 1) * d := Int.mul_le_mul_of_nonneg_right (by omega) (by omega)
                have h3 : Q < (Q / d + 1) * d := by rw [Int.add_mul, Int.one_mul, Int.mul_comm]; omega
                omega
              simp [wide_MulDiv.c, wd, lb, sWAbove, sWSize, sLimbMul, sWBits, sLimbDiv, sWSigned, sWFrom, sWLeast, sWOf, sWSub, sLimbSub, fitW, dx, dy, dd, dD, hd, hdn, d1, d2, hxn, hyn, hxs, hys, hQs, hxy, dhi, dlo, hN, dL00, dLh, hk, hf]
        · by_cases hyn : y < 0
          · have hxs : ¬ x / 18446744073709551616 < 0 := by omega
            have hys : y / 18446744073709551616 < 0 := by omega
            have d1 := dL_lb (show 0 ≤ x by omega) (show x < 340282366920938463463374607431768211456 by omega)
            have d2 := dL_lb (show 0 ≤ -y by omega) (show -y < 340282366920938463463374607431768211456 by omega)
            obtain ⟨Q, hQ⟩ : ∃ Q, Q = x * (-y) := ⟨_, rfl⟩
            have hQ0 : 0 ≤ Q := by rw [hQ]; exact Int.mul_nonneg (by omega) (by omega)
            have hQ1 : Q ≤ 170141183460469231731687303715884105728 * 170141183460469231731687303715884105728 := by rw [hQ]; exact Int.mul_le_mul (by omega) (by omega) (by omega) (by decide)
            have hxy : x * y = -Q := by rw [hQ] <;> grind
            have hQs : x * -y = Q := hQ.symm
            clear hQ
            have dhi := dL_lb (show 0 ≤ Q / 340282366920938463463374607431768211456 by omega) (show Q / 340282366920938463463374607431768211456 < 340282366920938463463374607431768211456 by omega)
            have dlo := dL_lb (show 0 ≤ Q % 340282366920938463463374607431768211456 by omega) (show Q % 340282366920938463463374607431768211456 < 340282366920938463463374607431768211456 by omega)
            rw [show Q % 340282366920938463463374607431768211456 % 18446744073709551616 = Q % 18446744073709551616 by omega] at dlo
            have hN : Q / 340282366920938463463374607431768211456 * 340282366920938463463374607431768211456 + Q % 340282366920938463463374607431768211456 = Q := by omega
            have n2 := Int.mul_ediv_add_emod Q d
            have n0 : 0 ≤ Q / d := Int.ediv_nonneg hQ0 (by omega)
            have l0 : 0 ≤ Q % d := Int.emod_nonneg _ (by omega)
            have l1 : Q % d < d := Int.emod_lt_of_pos _ (by omega)
            have hdiv : -Q / d = (if Q % d = 0 then -(Q / d) else -(Q / d) - 1) ∧ -Q % d = (if Q % d = 0 then 0 else d - Q % d) := by
              rw [Int.ediv_emod_unique (by omega)]
              split
              · refine ⟨?_, by omega, by omega⟩; rw [Int.mul_neg]; omega
              · refine ⟨?_, by omega, by omega⟩; rw [Int.mul_sub, Int.mul_neg, Int.mul_one]; omega
            by_cases hk : Q / 340282366920938463463374607431768211456 < d
            · have n1 : Q / d < 340282366920938463463374607431768211456 := Int.ediv_lt_of_lt_mul (by omega) (by omega)
              obtain ⟨hdv, hdm⟩ := hdiv
              generalize hnd : Q / d = n at *
              generalize hld : Q % d = t at *
              have dn := dL_lb n0 n1
              have dt := dL_lb l0 (show t < 340282366920938463463374607431768211456 by omega)
              have ht : t < 170141183460469231731687303715884105728 := by omega
              by_cases ht0 : t = 0
              · rw [if_pos ht0] at hdv hdm
                subst ht0
                by_cases hf : n ≤ 170141183460469231731687303715884105728
                · have hf2 : -170141183460469231731687303715884105728 ≤ -n ∧ -n < 170141183460469231731687303715884105728 := by omega
                  simp [wide_MulDiv.c, wd, lb, sWAbove, sWSize, sLimbMul, sWBits, sLimbDiv, sWSigned, sWFrom, sWLeast, sWOf, sWSub, sLimbSub, fitW, dx, dy, dd, dD, hd, hdn, d1, d2, hxn, hyn, hxs, hys, hQs, hxy, dhi, dlo, hN, dL00, dLh, hk, hnd, hld, dn, dt, ht, hf, hf2, hdv, hdm]
                · have hf2 : ¬ (-170141183460469231731687303715884105728 ≤ -n ∧ -n < 170141183460469231731687303715884105728) := by omega
                  simp [wide_MulDiv.c, wd, lb, sWAbove, sWSize, sLimbMul, sWBits, sLimbDiv, sWSigned, sWFrom, sWLeast, sWOf, sWSub, sLimbSub, fitW, dx, dy, dd, dD, hd, hdn, d1, d2, hxn, hyn, hxs, hys, hQs, hxy, dhi, dlo, hN, dL00, dLh, hk, hnd, hld, dn, dt, hf, hf2, hdv, hdm]
              · rw [if_neg ht0] at hdv hdm
                by_cases hf : n ≤ 170141183460469231731687303715884105728
                · have dqn := dW_wd (show -170141183460469231731687303715884105728 ≤ -n by omega) (show -n < 170141183460469231731687303715884105728 by omega)
                  by_cases hl : n = 170141183460469231731687303715884105728
                  · subst hl
                    by_cases z1 : t / 18446744073709551616 = 0
                    · have z2 : ¬ t % 18446744073709551616 = 0 := by omega
                      simp [wide_MulDiv.c, wd, lb, sWAbove, sWSize, sLimbMul, sWBits, sLimbDiv, sWSigned, sWFrom, sWLeast, sWOf, sWSub, sLimbSub, fitW, dx, dy, dd, dD, hd, hdn, d1, d2, hxn, hyn, hxs, hys, hQs, hxy, dhi, dlo, hN, dL00, dLh, hk, hnd, hld, dn, dt, ht0, hf, hdv, hdm, z1, z2, dWm]
                    · simp [wide_MulDiv.c, wd, lb, sWAbove, sWSize, sLimbMul, sWBits, sLimbDiv, sWSigned, sWFrom, sWLeast, sWOf, sWSub, sLimbSub, fitW, dx, dy, dd, dD, hd, hdn, d1, d2, hxn, hyn, hxs, hys, hQs, hxy, dhi, dlo, hN, dL00, dLh, hk, hnd, hld, dn, dt, ht0, hf, hdv, hdm, z1, dWm]
                  · have hl2 : ¬ -n = -170141183460469231731687303715884105728 := by omega
                    have hf2 : -170141183460469231731687303715884105728 ≤ -n - 1 ∧ -n - 1 < 170141183460469231731687303715884105728 := by omega
                    have hs : ¬ d < t := by omega
                    have dr := dL_lb (show 0 ≤ d - t by omega) (show d - t < 340282366920938463463374607431768211456 by omega)
                    have hr : d - t < 170141183460469231731687303715884105728 := by omega
                    by_cases z1 : t / 18446744073709551616 = 0
                    · have z2 : ¬ t % 18446744073709551616 = 0 := by omega
                      have dt0 := dt
                      rw [z1] at dt0
                      simp [wide_MulDiv.c, wd, lb, sWAbove, sWSize, sLimbMul, sWBits, sLimbDiv, sWSigned, sWFrom, sWLeast, sWOf, sWSub, sLimbSub, fitW, dx, dy, dd, dD, hd, hdn, d1, d2, hxn, hyn, hxs, hys, hQs, hxy, dhi, dlo, hN, dL00, dLh, hk, hnd, hld, dn, dt0, ht, ht0, hf, hdv, hdm, z1, z2, dqn, hl, hl2, hf2, dW1, hs, dr, hr]
                    · simp [wide_MulDiv.c, wd, lb, sWAbove, sWSize, sLimbMul, sWBits, sLimbDiv, sWSigned, sWFrom, sWLeast, sWOf, sWSub, sLimbSub, fitW, dx, dy, dd, dD, hd, hdn, d1, d2, hxn, hyn, hxs, hys, hQs, hxy, dhi, dlo, hN, dL00, dLh, hk, hnd, hld, dn, dt, ht, ht0, hf, hdv, hdm, z1, dqn, hl, hl2, hf2, dW1, hs, dr, hr]
                · have hf2 : ¬ (-170141183460469231731687303715884105728 ≤ -n - 1 ∧ -n - 1 < 170141183460469231731687303715884105728) := by omega
                  simp [wide_MulDiv.c, wd, lb, sWAbove, sWSize, sLimbMul, sWBits, sLimbDiv, sWSigned, sWFrom, sWLeast, sWOf, sWSub, sLimbSub, fitW, dx, dy, dd, dD, hd, hdn, d1, d2, hxn, hyn, hxs, hys, hQs, hxy, dhi, dlo, hN, dL00, dLh, hk, hnd, hld, dn, dt, hf, hf2, hdv, hdm]
            · have hf : ¬ (-170141183460469231731687303715884105728 ≤ -Q / d ∧ -Q / d < 170141183460469231731687303715884105728) := by
                intro h
                have h1 := hdiv.1
                have h4 : Q / d ≤ 170141183460469231731687303715884105728 := by split at h1 <;> omega
                have h2 : (Q / d + 1) * d ≤ (170141183460469231731687303715884105728 + 1) * d := Int.mul_le_mul_of_nonneg_right (by omega) (by omega)
                have h3 : Q < (Q / d + 1) * d := by rw [Int.add_mul, Int.one_mul, Int.mul_comm]; omega
                omega
              simp [wide_MulDiv.c, wd, lb, sWAbove, sWSize, sLimbMul, sWBits, sLimbDiv, sWSigned, sWFrom, sWLeast, sWOf, sWSub, sLimbSub, fitW, dx, dy, dd, dD, hd, hdn, d1, d2, hxn, hyn, hxs, hys, hQs, hxy, dhi, dlo, hN, dL00, dLh, hk, hf]
          · have hxs : ¬ x / 18446744073709551616 < 0 := by omega
            have hys : ¬ y / 18446744073709551616 < 0 := by omega
            have d1 := dL_lb (show 0 ≤ x by omega) (show x < 340282366920938463463374607431768211456 by omega)
            have d2 := dL_lb (show 0 ≤ y by omega) (show y < 340282366920938463463374607431768211456 by omega)
            obtain ⟨Q, hQ⟩ : ∃ Q, Q = x * y := ⟨_, rfl⟩
            have hQ0 : 0 ≤ Q := by rw [hQ]; exact Int.mul_nonneg (by omega) (by omega)
            have hQ1 : Q ≤ 170141183460469231731687303715884105728 * 170141183460469231731687303715884105728 := by rw [hQ]; exact Int.mul_le_mul (by omega) (by omega) (by omega) (by decide)
            have hxy : x * y = Q := by rw [hQ] <;> grind
            have hQs : x * y = Q := hQ.symm
            clear hQ
            have dhi := dL_lb (show 0 ≤ Q / 340282366920938463463374607431768211456 by omega) (show Q / 340282366920938463463374607431768211456 < 340282366920938463463374607431768211456 by omega)
            have dlo := dL_lb (show 0 ≤ Q % 340282366920938463463374607431768211456 by omega) (show Q % 340282366920938463463374607431768211456 < 340282366920938463463374607431768211456 by omega)
            rw [show Q % 340282366920938463463374607431768211456 % 18446744073709551616 = Q % 18446744073709551616 by omega] at dlo
            have hN : Q / 340282366920938463463374607431768211456 * 340282366920938463463374607431768211456 + Q % 340282366920938463463374607431768211456 = Q := by omega
            have n2 := Int.mul_ediv_add_emod Q d
            have n0 : 0 ≤ Q / d := Int.ediv_nonneg hQ0 (by omega)
            have l0 : 0 ≤ Q % d := Int.emod_nonneg _ (by omega)
            have l1 : Q % d < d := Int.emod_lt_of_pos _ (by omega)
            by_cases hk : Q / 340282366920938463463374607431768211456 < d
            · have n1 : Q / d < 340282366920938463463374607431768211456 := Int.ediv_lt_of_lt_mul (by omega) (by omega)
              generalize hnd : Q / d = n at *
              generalize hld : Q % d = t at *
              have dn := dL_lb n0 n1
              have dt := dL_lb l0 (show t < 340282366920938463463374607431768211456 by omega)
              have ht : t < 170141183460469231731687303715884105728 := by omega
              by_cases hf : n < 170141183460469231731687303715884105728
              · have hf2 : -170141183460469231731687303715884105728 ≤ n := by omega
                simp [wide_MulDiv.c, wd, lb, sWAbove, sWSize, sLimbMul, sWBits, sLimbDiv, sWSigned, sWFrom, sWLeast, sWOf, sWSub, sLimbSub, fitW, dx, dy, dd, dD, hd, hdn, d1, d2, hxn, hyn, hxs, hys, hQs, hxy, dhi, dlo, hN, dL00, dLh, hk, hnd, hld, dn, dt, ht, hf, hf2]
              · simp [wide_MulDiv.c, wd, lb, sWAbove, sWSize, sLimbMul, sWBits, sLimbDiv, sWSigned, sWFrom, sWLeast, sWOf, sWSub, sLimbSub, fitW, dx, dy, dd, dD, hd, hdn, d1, d2, hxn, hyn, hxs, hys, hQs, hxy, dhi, dlo, hN, dL00, dLh, hk, hnd, hld, dn, dt, hf]
            · have hf : ¬ Q / d < 170141183460469231731687303715884105728 := by
                intro h
                have h2 : (Q / d + 1) * d ≤ 170141183460469231731687303715884105728 * d := Int.mul_le_mul_of_nonneg_right (by omega) (by omega)
                have h3 : Q < (Q / d + 1) * d := by rw [Int.add_mul, Int.one_mul, Int.mul_comm]; omega
                omega
              simp [wide_MulDiv.c, wd, lb, sWAbove, sWSize, sLimbMul, sWBits, sLimbDiv, sWSigned, sWFrom, sWLeast, sWOf, sWSub, sLimbSub, fitW, dx, dy, dd, dD, hd, hdn, d1, d2, hxn, hyn, hxs, hys, hQs, hxy, dhi, dlo, hN, dL00, dLh, hk, hf]
      · have hdl : d ≤ 0 := by omega
        rw [if_pos hdl]
        simp [wide_MulDiv.c, wd, sWAbove, dd, hd]
    · cases h
  · cases h

def sWDiv : List AP → Option AV
  | [a, b] => match dW a, dW b with
    | some x, some d => some (divW x d)
    | _, _ => none
  | _ => none
theorem okWDiv : Ok Try.prog 38 sWDiv := ok_of' Try.func38 wide_Div.ent wide_Div.chk (specOk_cons okWOf (specOk_cons okWMulDiv specOk_nil)) fun av r h => by
  unfold sWDiv at h
  split at h
  · split at h
    · rename_i a b x1 x2 x d hx hd
      cases h
      obtain ⟨rfl, hx0, hx1⟩ := dW_some hx
      obtain ⟨rfl, hd0, hd1⟩ := dW_some hd
      have dx := dW_wd hx0 hx1
      have dd := dW_wd hd0 hd1
      refine ⟨by simp [wide_Div.c], 0, ?_⟩
      by_cases c1 : d ≤ 0
      · simp [wide_Div.c, wd, sWOf, sWMulDiv, divW, dx, dd, dW1, c1]
      · by_cases c2 : -170141183460469231731687303715884105728 ≤ x / d ∧ x / d < 170141183460469231731687303715884105728
        · simp [wide_Div.c, wd, sWOf, sWMulDiv, divW, dx, dd, dW1, c1, c2]
        · simp [wide_Div.c, wd, sWOf, sWMulDiv, divW, dx, dd, dW1, c1, c2]
    · cases h
  · cases h
end Go.Proofs.Ytichmemhahbhnaa.E

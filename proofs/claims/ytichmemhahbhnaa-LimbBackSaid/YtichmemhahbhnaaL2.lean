/- The law LimbBack: what the code of the law answers. -/
import Derived.Test.YtichmemhahbhnaaL1
set_option linter.unusedVariables false
set_option linter.unusedSimpArgs false
namespace Go.Proofs.Ytichmemhahbhnaa.E
open Go.VC Go.RowKit

/-- A law of three Limbs holds. -/
def sLaw3 : List AP → Option AV
  | [a, b, c] => match dL a, dL b, dL c with
    | some _, some _, some _ => some (.o (bv true))
    | _, _, _ => none
  | _ => none
theorem mLimbBack : MeetsAll Try.prog 6 sLaw3 := meets_all Try.func6 epactlaw01_LimbBack.chk (specOk_cons okAnswers01 okSpLimb) fun av r h => by
  unfold sLaw3 at h
  split at h
  · split at h
    · rename_i a b c x1 x2 x3 x d m hx hd hm
      cases h
      obtain ⟨rfl, hx0, hx1⟩ := dL_some hx
      obtain ⟨rfl, hd0, hd1⟩ := dL_some hd
      obtain ⟨rfl, hm0, hm1⟩ := dL_some hm
      have dx := dL_lb hx0 hx1
      have dd := dL_lb hd0 hd1
      have dm := dL_lb hm0 hm1
      refine ⟨by simp [epactlaw01_LimbBack.c], 5, ?_⟩
      by_cases hc : d ≤ m
      · have h1 : 0 ≤ cmpI m d := by rw [cmpI_ge]; omega
        simp [epactlaw01_LimbBack.c, lb, sTrue, sLimbCmp, dd, dm, h1]
      · have h1 : ¬ 0 ≤ cmpI m d := by rw [cmpI_ge]; omega
        have hP0 : 0 ≤ x * d := Int.mul_nonneg hx0 hd0
        have hP1 : x * d + m < 340282366920938463463374607431768211456 * d := by
          have := Int.mul_le_mul_of_nonneg_right (show x + 1 ≤ 340282366920938463463374607431768211456 by omega) hd0
          rw [Int.add_mul, Int.one_mul] at this
          omega
        have hq : (x * d + m) / d = x := by rw [Int.add_comm, Int.add_mul_ediv_right _ _ (by omega), Int.ediv_eq_zero_of_lt hm0 (by omega), Int.zero_add]
        have hr : (x * d + m) % d = m := by rw [Int.add_comm, Int.add_mul_emod_self_right]; exact Int.emod_eq_of_lt hm0 (by omega)
        generalize hPd : x * d = P at *
        have dhi := dL_lb (show 0 ≤ P / 340282366920938463463374607431768211456 by omega) (show P / 340282366920938463463374607431768211456 < 340282366920938463463374607431768211456 by omega)
        have dlo := dL_lb (show 0 ≤ P % 340282366920938463463374607431768211456 by omega) (show P % 340282366920938463463374607431768211456 < 340282366920938463463374607431768211456 by omega)
        rw [show P % 340282366920938463463374607431768211456 % 18446744073709551616 = P % 18446744073709551616 by omega] at dlo
        by_cases ho : 340282366920938463463374607431768211456 ≤ P % 340282366920938463463374607431768211456 + m
        · have e1 : dL (.g [.v (.int .u64 0), .v (.int .u64 1)]) = some 1 := by decide
          have h2 : ¬ 340282366920938463463374607431768211456 ≤ P / 340282366920938463463374607431768211456 + 1 := by omega
          have dh2 := dL_lb (show 0 ≤ P / 340282366920938463463374607431768211456 + 1 by omega) (show P / 340282366920938463463374607431768211456 + 1 < 340282366920938463463374607431768211456 by omega)
          have dl2 := dL_lb (show 0 ≤ P % 340282366920938463463374607431768211456 + m - 340282366920938463463374607431768211456 by omega) (show P % 340282366920938463463374607431768211456 + m - 340282366920938463463374607431768211456 < 340282366920938463463374607431768211456 by omega)
          have h3 : P / 340282366920938463463374607431768211456 + 1 < d := by omega
          have e2 : (P / 340282366920938463463374607431768211456 + 1) * 340282366920938463463374607431768211456 + (P % 340282366920938463463374607431768211456 + m - 340282366920938463463374607431768211456) = P + m := by omega
          simp [epactlaw01_LimbBack.c, lb, sTrue, sLimbCmp, sLimbMul, sLimbAdd, sLimbDiv, dx, dd, dm, h1, hPd, dhi, dlo, ho, e1, h2, dh2, dl2, h3, e2, hq, hr]
        · have dl2 := dL_lb (show 0 ≤ P % 340282366920938463463374607431768211456 + m by omega) (show P % 340282366920938463463374607431768211456 + m < 340282366920938463463374607431768211456 by omega)
          have h3 : P / 340282366920938463463374607431768211456 < d := by omega
          have e2 : P / 340282366920938463463374607431768211456 * 340282366920938463463374607431768211456 + (P % 340282366920938463463374607431768211456 + m) = P + m := by omega
          simp [epactlaw01_LimbBack.c, lb, sTrue, sLimbCmp, sLimbMul, sLimbAdd, sLimbDiv, dx, dd, dm, h1, hPd, dhi, dlo, ho, dl2, h3, e2, hq, hr]
    · cases h
  · cases h
end Go.Proofs.Ytichmemhahbhnaa.E

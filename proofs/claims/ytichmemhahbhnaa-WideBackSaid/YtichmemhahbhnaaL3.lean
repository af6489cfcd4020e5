/- The law WideBack: what the code of the law answers. -/
import Derived.Test.YtichmemhahbhnaaW3
set_option linter.unusedVariables false
set_option linter.unusedSimpArgs false
namespace Go.Proofs.Ytichmemhahbhnaa.E
open Go.VC Go.RowKit

def sTrue2 : List AP → Option AV
  | [] => some (.o (bv true))
  | _ => none
abbrev spWide : List (Nat × (List AP → Option AV)) := [(33, sWOf), (32, sWInt), (37, sWCmp), (44, sWNeg), (42, sWAdd), (43, sWSub), (41, sWMul), (38, sWDiv), (39, sWMulDiv)]
theorem okSpWide : SpecOk Try.prog (spOf spWide) := specOk_cons okWOf (specOk_cons okWInt (specOk_cons okWCmp (specOk_cons okWNeg (specOk_cons okWAdd (specOk_cons okWSub (specOk_cons okWMul (specOk_cons okWDiv (specOk_cons okWMulDiv specOk_nil))))))))
theorem okAnswers02 : Ok Try.prog 36 sTrue2 := ok_of Try.func36 epactlaw02_answers.ent epactlaw02_answers.chk okSpWide fun av r h => by
  unfold sTrue2 at h
  split at h
  · cases h
    exact ⟨Nat.zero_le _, 5, by kernel_rfl⟩
  · cases h

/-- A law of three Wides holds. -/
def sLawW3 : List AP → Option AV
  | [a, b, c] => match dW a, dW b, dW c with
    | some _, some _, some _ => some (.o (bv true))
    | _, _, _ => none
  | _ => none
theorem div_fits {x d : Int} (h0 : -170141183460469231731687303715884105728 ≤ x) (h1 : x < 170141183460469231731687303715884105728) (hd : 0 < d) : -170141183460469231731687303715884105728 ≤ x / d ∧ x / d < 170141183460469231731687303715884105728 := by
  constructor
  · refine Int.le_ediv_of_mul_le hd ?_
    have : -170141183460469231731687303715884105728 * d ≤ -170141183460469231731687303715884105728 * 1 := by rw [Int.neg_mul, Int.neg_mul]; have : 170141183460469231731687303715884105728 * 1 ≤ 170141183460469231731687303715884105728 * d := Int.mul_le_mul_of_nonneg_left (by omega) (by decide); omega
    omega
  · refine Int.ediv_lt_of_lt_mul hd ?_
    have : 170141183460469231731687303715884105728 * 1 ≤ 170141183460469231731687303715884105728 * d := Int.mul_le_mul_of_nonneg_left (by omega) (by decide)
    omega
theorem mWideBack : MeetsAll Try.prog 13 sLawW3 := meets_all Try.func13 epactlaw02_WideBack.chk (specOk_cons okAnswers02 okSpWide) fun av r h => by
  unfold sLawW3 at h
  split at h
  · split at h
    · rename_i a b c x1 x2 x3 x y d hx hy hd
      cases h
      obtain ⟨rfl, hx0, hx1⟩ := dW_some hx
      obtain ⟨rfl, hy0, hy1⟩ := dW_some hy
      obtain ⟨rfl, hd0, hd1⟩ := dW_some hd
      have dx := dW_wd hx0 hx1
      have dy := dW_wd hy0 hy1
      have dd := dW_wd hd0 hd1
      refine ⟨by simp [epactlaw02_WideBack.c], 5, ?_⟩
      have hxf : -170141183460469231731687303715884105728 ≤ x ∧ x < 170141183460469231731687303715884105728 := ⟨hx0, hx1⟩
      by_cases cd : d ≤ 0
      · have c2 : cmpI d 0 ≤ 0 := cmpI_le.2 cd
        by_cases cf : -170141183460469231731687303715884105728 ≤ x + y ∧ x + y < 170141183460469231731687303715884105728
        · have ds := dW_wd cf.1 cf.2
          simp [epactlaw02_WideBack.c, wd, sTrue2, sWAdd, sWSub, sWDiv, sWMul, sWCmp, fitW, divW, dx, dy, dd, cf, ds, hxf, cd, c2, dW0]
        · simp [epactlaw02_WideBack.c, wd, sTrue2, sWAdd, sWSub, sWDiv, sWMul, sWCmp, fitW, divW, dx, dy, dd, cf, hxf, cd, c2, dW0]
      · have hdp : 0 < d := by omega
        have hq := div_fits hx0 hx1 hdp
        have dq := dW_wd hq.1 hq.2
        have r0 : 0 ≤ x % d := Int.emod_nonneg _ (by omega)
        have r1 : x % d < d := Int.emod_lt_of_pos _ hdp
        have hm := Int.mul_ediv_add_emod x d
        rw [Int.mul_comm] at hm
        have dr := dW_wd (show -170141183460469231731687303715884105728 ≤ x % d by omega) (show x % d < 170141183460469231731687303715884105728 by omega)
        have c3 : cmpI (x % d) d < 0 := cmpI_lt.2 r1
        have c4 : 0 ≤ x % d / 18446744073709551616 := by omega
        generalize hqd : x / d = q at *
        generalize hrd : x % d = t at *
        generalize hPd : q * d = P at *
        by_cases cp : -170141183460469231731687303715884105728 ≤ P ∧ P < 170141183460469231731687303715884105728
        · have dp := dW_wd cp.1 cp.2
          by_cases cf : -170141183460469231731687303715884105728 ≤ x + y ∧ x + y < 170141183460469231731687303715884105728
          · have ds := dW_wd cf.1 cf.2
            simp [epactlaw02_WideBack.c, wd, sTrue2, sWAdd, sWSub, sWDiv, sWMul, sWCmp, fitW, divW, dx, dy, dd, cf, ds, hxf, cd, hqd, hrd, hPd, hq, dq, dr, dp, cp, hm, c3, c4, dW0]
          · simp [epactlaw02_WideBack.c, wd, sTrue2, sWAdd, sWSub, sWDiv, sWMul, sWCmp, fitW, divW, dx, dy, dd, cf, hxf, cd, hqd, hrd, hPd, hq, dq, dr, dp, cp, hm, c3, c4, dW0]
        · have c5 : cmpI x 0 < 0 := cmpI_lt.2 (by omega)
          by_cases cf : -170141183460469231731687303715884105728 ≤ x + y ∧ x + y < 170141183460469231731687303715884105728
          · have ds := dW_wd cf.1 cf.2
            simp [epactlaw02_WideBack.c, wd, sTrue2, sWAdd, sWSub, sWDiv, sWMul, sWCmp, fitW, divW, dx, dy, dd, cf, ds, hxf, cd, hqd, hrd, hPd, hq, dq, dr, cp, hm, c5, dW0]
          · simp [epactlaw02_WideBack.c, wd, sTrue2, sWAdd, sWSub, sWDiv, sWMul, sWCmp, fitW, divW, dx, dy, dd, cf, hxf, cd, hqd, hrd, hPd, hq, dq, dr, cp, hm, c5, dW0]
    · cases h
  · cases h
end Go.Proofs.Ytichmemhahbhnaa.E

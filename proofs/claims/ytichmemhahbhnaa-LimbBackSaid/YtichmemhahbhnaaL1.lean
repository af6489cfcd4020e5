/- The laws LimbTurns and LimbBack: what the code of the law answers. -/
import Derived.Test.YtichmemhahbhnaaK6
set_option linter.unusedVariables false
set_option linter.unusedSimpArgs false
namespace Go.Proofs.Ytichmemhahbhnaa.E
open Go.VC Go.RowKit

def sTrue : List AP → Option AV
  | [] => some (.o (bv true))
  | _ => none
abbrev spLimb : List (Nat × (List AP → Option AV)) := [(31, sLimbCmp), (26, sLimbAdd), (27, sLimbSub), (17, sLimbMul), (23, sLimbDiv)]
theorem okSpLimb : SpecOk Try.prog (spOf spLimb) := specOk_cons okLimbCmp (specOk_cons okLimbAdd (specOk_cons okLimbSub (specOk_cons okLimbMul (specOk_cons okLimbDiv specOk_nil))))
theorem okAnswers01 : Ok Try.prog 18 sTrue := ok_of Try.func18 epactlaw01_answers.ent epactlaw01_answers.chk okSpLimb fun av r h => by
  unfold sTrue at h
  split at h
  · cases h
    exact ⟨Nat.zero_le _, 5, by kernel_rfl⟩
  · cases h

/-- A law of two Limbs holds. -/
def sLaw2 : List AP → Option AV
  | [a, b] => match dL a, dL b with
    | some _, some _ => some (.o (bv true))
    | _, _ => none
  | _ => none
theorem mLimbTurns : MeetsAll Try.prog 7 sLaw2 := meets_all Try.func7 epactlaw01_LimbTurns.chk (specOk_cons okAnswers01 okSpLimb) fun av r h => by
  unfold sLaw2 at h
  split at h
  · split at h
    · rename_i a b x1 x2 x y hx hy
      cases h
      obtain ⟨rfl, hx0, hx1⟩ := dL_some hx
      obtain ⟨rfl, hy0, hy1⟩ := dL_some hy
      have dx := dL_lb hx0 hx1
      have dy := dL_lb hy0 hy1
      refine ⟨by simp [epactlaw01_LimbTurns.c], 5, ?_⟩
      have hw : IntKind.i64.wrap (0 - cmpI y x) = cmpI x y := by
        unfold cmpI
        split <;> split <;> (try split) <;> (try split) <;> first | omega | rfl
      have hw' : IntKind.i64.wrap (- cmpI y x) = cmpI x y := by rw [← hw]; simp
      have e : y + x = x + y := Int.add_comm _ _
      by_cases hov : 340282366920938463463374607431768211456 ≤ x + y
      · have ds := dL_lb (show 0 ≤ x + y - 340282366920938463463374607431768211456 by omega) (show x + y - 340282366920938463463374607431768211456 < 340282366920938463463374607431768211456 by omega)
        have hb : x + y - 340282366920938463463374607431768211456 < y := by omega
        have e1 : x + y - 340282366920938463463374607431768211456 - y + 340282366920938463463374607431768211456 = x := by omega
        simp [epactlaw01_LimbTurns.c, lb, sTrue, sLimbAdd, sLimbSub, sLimbCmp, dx, dy, e, hov, ds, hb, e1, hw, hw']
      · have ds := dL_lb (show 0 ≤ x + y by omega) (show x + y < 340282366920938463463374607431768211456 by omega)
        have hb : ¬ x + y < y := by omega
        have e1 : x + y - y = x := by omega
        simp [epactlaw01_LimbTurns.c, lb, sTrue, sLimbAdd, sLimbSub, sLimbCmp, dx, dy, e, hov, ds, hb, e1, hw, hw']
    · cases h
  · cases h
end Go.Proofs.Ytichmemhahbhnaa.E

/- What the functions of the package wide do that reckon. -/
import Derived.Test.YtichmemhahbhnaaW1
set_option linter.unusedVariables false
set_option linter.unusedSimpArgs false
namespace Go.Proofs.Ytichmemhahbhnaa.E
open Go.VC Go.RowKit

def fitW (z : Int) : AV := if -170141183460469231731687303715884105728 ≤ z ∧ z < 170141183460469231731687303715884105728 then .t [wd z, iv .i64 0] else .t [wd 0, iv .i64 2]
theorem wz : ∀ x : Int, (x / 18446744073709551616).fdiv 9223372036854775808 = x / 18446744073709551616 / 9223372036854775808 := fun x => fdiv_pos (by decide)
def sWNeg : List AP → Option AV
  | [a] => match dW a with
    | some x => some (fitW (-x))
    | _ => none
  | _ => none
theorem okWNeg : Ok Try.prog 44 sWNeg := ok_of' Try.func44 wide_Neg.ent wide_Neg.chk (specOk_cons okWSize (specOk_cons okWSigned specOk_nil)) fun av r h => by
  unfold sWNeg at h
  split at h
  · split at h
    · rename_i a x1 x hx
      cases h
      obtain ⟨rfl, hx0, hx1⟩ := dW_some hx
      have dx := dW_wd hx0 hx1
      refine ⟨by simp [wide_Neg.c], 0, ?_⟩
      by_cases hc : x < 0
      · have h1 : ¬ 0 ≤ x / 18446744073709551616 := by omega
        have d1 := dL_lb (show 0 ≤ -x by omega) (show -x < 340282366920938463463374607431768211456 by omega)
        by_cases h2 : -x < 170141183460469231731687303715884105728
        · have h3 : -170141183460469231731687303715884105728 ≤ -x := by omega
          simp [wide_Neg.c, wd, lb, sWSize, sWSigned, fitW, dx, d1, h1, hc, h2, h3]
        · simp [wide_Neg.c, wd, lb, sWSize, sWSigned, fitW, dx, d1, h1, hc, h2]
      · have h1 : 0 ≤ x / 18446744073709551616 := by omega
        have d1 := dL_lb (show 0 ≤ x by omega) (show x < 340282366920938463463374607431768211456 by omega)
        have h2 : x ≤ 170141183460469231731687303715884105728 := by omega
        have h3 : -170141183460469231731687303715884105728 ≤ -x ∧ -x < 170141183460469231731687303715884105728 := by omega
        simp [wide_Neg.c, wd, lb, sWSize, sWSigned, fitW, dx, d1, h1, hc, h2, h3]
    · cases h
  · cases h

def sWAbove : List AP → Option AV
  | [a] => match dW a with
    | some x => some (.o (bv (decide (0 < x))))
    | _ => none
  | _ => none
theorem dW0 : dW (.g [.v (.int .i64 0), .v (.int .u64 0)]) = some 0 := by decide
theorem okWAbove : Ok Try.prog 62 sWAbove := ok_of' Try.func62 wide_above.ent wide_above.chk (specOk_cons okWCmp specOk_nil) fun av r h => by
  unfold sWAbove at h
  split at h
  · split at h
    · rename_i a x1 x hx
      cases h
      obtain ⟨rfl, hx0, hx1⟩ := dW_some hx
      have dx := dW_wd hx0 hx1
      refine ⟨by simp [wide_above.c], 0, ?_⟩
      simp [wide_above.c, wd, sWCmp, dx, dW0, cmpI_gt]
    · cases h
  · cases h

def sWLeast : List AP → Option AV
  | [a] => match dW a with
    | some x => some (.o (bv (decide (x = -170141183460469231731687303715884105728))))
    | _ => none
  | _ => none
theorem okWLeast : Ok Try.prog 67 sWLeast := ok_of' Try.func67 wide_least.ent wide_least.chk specOk_nil fun av r h => by
  unfold sWLeast at h
  split at h
  · split at h
    · rename_i a x1 x hx
      cases h
      obtain ⟨rfl, hx0, hx1⟩ := dW_some hx
      refine ⟨by simp [wide_least.c], 0, ?_⟩
      by_cases hc : x = -170141183460469231731687303715884105728
      · subst hc
        simp [wide_least.c, wd]
      · by_cases h1 : x / 18446744073709551616 = -9223372036854775808
        · have h2 : ¬ x % 18446744073709551616 = 0 := by omega
          simp [wide_least.c, wd, hc, h1, h2]
        · simp [wide_least.c, wd, hc, h1]
    · cases h
  · cases h

def sWAdd : List AP → Option AV
  | [a, b] => match dW a, dW b with
    | some x, some y => some (fitW (x + y))
    | _, _ => none
  | _ => none
theorem okWAdd : Ok Try.prog 42 sWAdd := ok_of' Try.func42 wide_Add.ent wide_Add.chk (specOk_cons okWBits (specOk_cons okWFrom (specOk_cons okLimbAdd specOk_nil))) fun av r h => by
  unfold sWAdd at h
  split at h
  · split at h
    · rename_i a b x1 x2 x y hx hy
      cases h
      obtain ⟨rfl, hx0, hx1⟩ := dW_some hx
      obtain ⟨rfl, hy0, hy1⟩ := dW_some hy
      have dx := dW_wd hx0 hx1
      have dy := dW_wd hy0 hy1
      refine ⟨by simp [wide_Add.c], 0, ?_⟩
      by_cases hxn : x < 0
      · by_cases hyn : y < 0
        · skip
          have hxs : x / 18446744073709551616 / 9223372036854775808 = -1 := by omega
          have hys : y / 18446744073709551616 / 9223372036854775808 = -1 := by omega
          have d1 := dL_lb (show 0 ≤ x + 340282366920938463463374607431768211456 by omega) (show x + 340282366920938463463374607431768211456 < 340282366920938463463374607431768211456 by omega)
          have d2 := dL_lb (show 0 ≤ y + 340282366920938463463374607431768211456 by omega) (show y + 340282366920938463463374607431768211456 < 340282366920938463463374607431768211456 by omega)
          by_cases ho : 340282366920938463463374607431768211456 ≤ x + 340282366920938463463374607431768211456 + (y + 340282366920938463463374607431768211456)
          · have e : x + 340282366920938463463374607431768211456 + (y + 340282366920938463463374607431768211456) - 340282366920938463463374607431768211456 = x + 340282366920938463463374607431768211456 + (y + 340282366920938463463374607431768211456) - 340282366920938463463374607431768211456 := rfl
            have d3 := dL_lb (show 0 ≤ x + 340282366920938463463374607431768211456 + (y + 340282366920938463463374607431768211456) - 340282366920938463463374607431768211456 by omega) (show x + 340282366920938463463374607431768211456 + (y + 340282366920938463463374607431768211456) - 340282366920938463463374607431768211456 < 340282366920938463463374607431768211456 by omega)
            by_cases hh : x + 340282366920938463463374607431768211456 + (y + 340282366920938463463374607431768211456) - 340282366920938463463374607431768211456 < 170141183460469231731687303715884105728
            · have hs : (x + 340282366920938463463374607431768211456 + (y + 340282366920938463463374607431768211456) - 340282366920938463463374607431768211456) / 18446744073709551616 / 9223372036854775808 = 0 := by omega
              by_cases hf : -170141183460469231731687303715884105728 ≤ x + y ∧ x + y < 170141183460469231731687303715884105728
              · simp [wide_Add.c, wd, lb, sWBits, sWFrom, sLimbAdd, fitW, dx, dy, d1, d2, d3, hxn, hyn, ho, hh, wz, hxs, hys, hs, hf] <;> omega
              · simp [wide_Add.c, wd, lb, sWBits, sWFrom, sLimbAdd, fitW, dx, dy, d1, d2, d3, hxn, hyn, ho, hh, wz, hxs, hys, hs, hf] <;> omega
            · have hs : (x + 340282366920938463463374607431768211456 + (y + 340282366920938463463374607431768211456) - 340282366920938463463374607431768211456 - 340282366920938463463374607431768211456) / 18446744073709551616 / 9223372036854775808 = -1 := by omega
              by_cases hf : -170141183460469231731687303715884105728 ≤ x + y ∧ x + y < 170141183460469231731687303715884105728
              · simp [wide_Add.c, wd, lb, sWBits, sWFrom, sLimbAdd, fitW, dx, dy, d1, d2, d3, hxn, hyn, ho, hh, wz, hxs, hys, hs, hf] <;> omega
              · simp [wide_Add.c, wd, lb, sWBits, sWFrom, sLimbAdd, fitW, dx, dy, d1, d2, d3, hxn, hyn, ho, hh, wz, hxs, hys, hs, hf] <;> omega
          · have e : x + 340282366920938463463374607431768211456 + (y + 340282366920938463463374607431768211456) = x + 340282366920938463463374607431768211456 + (y + 340282366920938463463374607431768211456) := rfl
            have d3 := dL_lb (show 0 ≤ x + 340282366920938463463374607431768211456 + (y + 340282366920938463463374607431768211456) by omega) (show x + 340282366920938463463374607431768211456 + (y + 340282366920938463463374607431768211456) < 340282366920938463463374607431768211456 by omega)
            by_cases hh : x + 340282366920938463463374607431768211456 + (y + 340282366920938463463374607431768211456) < 170141183460469231731687303715884105728
            · have hs : (x + 340282366920938463463374607431768211456 + (y + 340282366920938463463374607431768211456)) / 18446744073709551616 / 9223372036854775808 = 0 := by omega
              by_cases hf : -170141183460469231731687303715884105728 ≤ x + y ∧ x + y < 170141183460469231731687303715884105728
              · simp [wide_Add.c, wd, lb, sWBits, sWFrom, sLimbAdd, fitW, dx, dy, d1, d2, d3, hxn, hyn, ho, hh, wz, hxs, hys, hs, hf] <;> omega
              · simp [wide_Add.c, wd, lb, sWBits, sWFrom, sLimbAdd, fitW, dx, dy, d1, d2, d3, hxn, hyn, ho, hh, wz, hxs, hys, hs, hf] <;> omega
            · have hs : (x + 340282366920938463463374607431768211456 + (y + 340282366920938463463374607431768211456) - 340282366920938463463374607431768211456) / 18446744073709551616 / 9223372036854775808 = -1 := by omega
              by_cases hf : -170141183460469231731687303715884105728 ≤ x + y ∧ x + y < 170141183460469231731687303715884105728
              · simp [wide_Add.c, wd, lb, sWBits, sWFrom, sLimbAdd, fitW, dx, dy, d1, d2, d3, hxn, hyn, ho, hh, wz, hxs, hys, hs, hf] <;> omega
              · simp [wide_Add.c, wd, lb, sWBits, sWFrom, sLimbAdd, fitW, dx, dy, d1, d2, d3, hxn, hyn, ho, hh, wz, hxs, hys, hs, hf] <;> omega
        · skip
          have hxs : x / 18446744073709551616 / 9223372036854775808 = -1 := by omega
          have hys : y / 18446744073709551616 / 9223372036854775808 = 0 := by omega
          have d1 := dL_lb (show 0 ≤ x + 340282366920938463463374607431768211456 by omega) (show x + 340282366920938463463374607431768211456 < 340282366920938463463374607431768211456 by omega)
          have d2 := dL_lb (show 0 ≤ y by omega) (show y < 340282366920938463463374607431768211456 by omega)
          by_cases ho : 340282366920938463463374607431768211456 ≤ x + 340282366920938463463374607431768211456 + y
          · have e : x + 340282366920938463463374607431768211456 + y - 340282366920938463463374607431768211456 = x + 340282366920938463463374607431768211456 + y - 340282366920938463463374607431768211456 := rfl
            have d3 := dL_lb (show 0 ≤ x + 340282366920938463463374607431768211456 + y - 340282366920938463463374607431768211456 by omega) (show x + 340282366920938463463374607431768211456 + y - 340282366920938463463374607431768211456 < 340282366920938463463374607431768211456 by omega)
            by_cases hh : x + 340282366920938463463374607431768211456 + y - 340282366920938463463374607431768211456 < 170141183460469231731687303715884105728
            · have hs : (x + 340282366920938463463374607431768211456 + y - 340282366920938463463374607431768211456) / 18446744073709551616 / 9223372036854775808 = 0 := by omega
              by_cases hf : -170141183460469231731687303715884105728 ≤ x + y ∧ x + y < 170141183460469231731687303715884105728
              · simp [wide_Add.c, wd, lb, sWBits, sWFrom, sLimbAdd, fitW, dx, dy, d1, d2, d3, hxn, hyn, ho, hh, wz, hxs, hys, hs, hf] <;> omega
              · simp [wide_Add.c, wd, lb, sWBits, sWFrom, sLimbAdd, fitW, dx, dy, d1, d2, d3, hxn, hyn, ho, hh, wz, hxs, hys, hs, hf] <;> omega
            · have hs : (x + 340282366920938463463374607431768211456 + y - 340282366920938463463374607431768211456 - 340282366920938463463374607431768211456) / 18446744073709551616 / 9223372036854775808 = -1 := by omega
              by_cases hf : -170141183460469231731687303715884105728 ≤ x + y ∧ x + y < 170141183460469231731687303715884105728
              · simp [wide_Add.c, wd, lb, sWBits, sWFrom, sLimbAdd, fitW, dx, dy, d1, d2, d3, hxn, hyn, ho, hh, wz, hxs, hys, hs, hf] <;> omega
              · simp [wide_Add.c, wd, lb, sWBits, sWFrom, sLimbAdd, fitW, dx, dy, d1, d2, d3, hxn, hyn, ho, hh, wz, hxs, hys, hs, hf] <;> omega
          · have e : x + 340282366920938463463374607431768211456 + y = x + 340282366920938463463374607431768211456 + y := rfl
            have d3 := dL_lb (show 0 ≤ x + 340282366920938463463374607431768211456 + y by omega) (show x + 340282366920938463463374607431768211456 + y < 340282366920938463463374607431768211456 by omega)
            by_cases hh : x + 340282366920938463463374607431768211456 + y < 170141183460469231731687303715884105728
            · have hs : (x + 340282366920938463463374607431768211456 + y) / 18446744073709551616 / 9223372036854775808 = 0 := by omega
              by_cases hf : -170141183460469231731687303715884105728 ≤ x + y ∧ x + y < 170141183460469231731687303715884105728
              · simp [wide_Add.c, wd, lb, sWBits, sWFrom, sLimbAdd, fitW, dx, dy, d1, d2, d3, hxn, hyn, ho, hh, wz, hxs, hys, hs, hf] <;> omega
              · simp [wide_Add.c, wd, lb, sWBits, sWFrom, sLimbAdd, fitW, dx, dy, d1, d2, d3, hxn, hyn, ho, hh, wz, hxs, hys, hs, hf] <;> omega
            · have hs : (x + 340282366920938463463374607431768211456 + y - 340282366920938463463374607431768211456) / 18446744073709551616 / 9223372036854775808 = -1 := by omega
              by_cases hf : -170141183460469231731687303715884105728 ≤ x + y ∧ x + y < 170141183460469231731687303715884105728
              · simp [wide_Add.c, wd, lb, sWBits, sWFrom, sLimbAdd, fitW, dx, dy, d1, d2, d3, hxn, hyn, ho, hh, wz, hxs, hys, hs, hf] <;> omega
              · simp [wide_Add.c, wd, lb, sWBits, sWFrom, sLimbAdd, fitW, dx, dy, d1, d2, d3, hxn, hyn, ho, hh, wz, hxs, hys, hs, hf] <;> omega
      · by_cases hyn : y < 0
        · skip
          have hxs : x / 18446744073709551616 / 9223372036854775808 = 0 := by omega
          have hys : y / 18446744073709551616 / 9223372036854775808 = -1 := by omega
          have d1 := dL_lb (show 0 ≤ x by omega) (show x < 340282366920938463463374607431768211456 by omega)
          have d2 := dL_lb (show 0 ≤ y + 340282366920938463463374607431768211456 by omega) (show y + 340282366920938463463374607431768211456 < 340282366920938463463374607431768211456 by omega)
          by_cases ho : 340282366920938463463374607431768211456 ≤ x + (y + 340282366920938463463374607431768211456)
          · have e : x + (y + 340282366920938463463374607431768211456) - 340282366920938463463374607431768211456 = x + (y + 340282366920938463463374607431768211456) - 340282366920938463463374607431768211456 := rfl
            have d3 := dL_lb (show 0 ≤ x + (y + 340282366920938463463374607431768211456) - 340282366920938463463374607431768211456 by omega) (show x + (y + 340282366920938463463374607431768211456) - 340282366920938463463374607431768211456 < 340282366920938463463374607431768211456 by omega)
            by_cases hh : x + (y + 340282366920938463463374607431768211456) - 340282366920938463463374607431768211456 < 170141183460469231731687303715884105728
            · have hs : (x + (y + 340282366920938463463374607431768211456) - 340282366920938463463374607431768211456) / 18446744073709551616 / 9223372036854775808 = 0 := by omega
              by_cases hf : -170141183460469231731687303715884105728 ≤ x + y ∧ x + y < 170141183460469231731687303715884105728
              · simp [wide_Add.c, wd, lb, sWBits, sWFrom, sLimbAdd, fitW, dx, dy, d1, d2, d3, hxn, hyn, ho, hh, wz, hxs, hys, hs, hf] <;> omega
              · simp [wide_Add.c, wd, lb, sWBits, sWFrom, sLimbAdd, fitW, dx, dy, d1, d2, d3, hxn, hyn, ho, hh, wz, hxs, hys, hs, hf] <;> omega
            · have hs : (x + (y + 340282366920938463463374607431768211456) - 340282366920938463463374607431768211456 - 340282366920938463463374607431768211456) / 18446744073709551616 / 9223372036854775808 = -1 := by omega
              by_cases hf : -170141183460469231731687303715884105728 ≤ x + y ∧ x + y < 170141183460469231731687303715884105728
              · simp [wide_Add.c, wd, lb, sWBits, sWFrom, sLimbAdd, fitW, dx, dy, d1, d2, d3, hxn, hyn, ho, hh, wz, hxs, hys, hs, hf] <;> omega
              · simp [wide_Add.c, wd, lb, sWBits, sWFrom, sLimbAdd, fitW, dx, dy, d1, d2, d3, hxn, hyn, ho, hh, wz, hxs, hys, hs, hf] <;> omega
          · have e : x + (y + 340282366920938463463374607431768211456) = x + (y + 340282366920938463463374607431768211456) := rfl
            have d3 := dL_lb (show 0 ≤ x + (y + 340282366920938463463374607431768211456) by omega) (show x + (y + 340282366920938463463374607431768211456) < 340282366920938463463374607431768211456 by omega)
            by_cases hh : x + (y + 340282366920938463463374607431768211456) < 170141183460469231731687303715884105728
            · have hs : (x + (y + 340282366920938463463374607431768211456)) / 18446744073709551616 / 9223372036854775808 = 0 := by omega
              by_cases hf : -170141183460469231731687303715884105728 ≤ x + y ∧ x + y < 170141183460469231731687303715884105728
              · simp [wide_Add.c, wd, lb, sWBits, sWFrom, sLimbAdd, fitW, dx, dy, d1, d2, d3, hxn, hyn, ho, hh, wz, hxs, hys, hs, hf] <;> omega
              · simp [wide_Add.c, wd, lb, sWBits, sWFrom, sLimbAdd, fitW, dx, dy, d1, d2, d3, hxn, hyn, ho, hh, wz, hxs, hys, hs, hf] <;> omega
            · have hs : (x + (y + 340282366920938463463374607431768211456) - 340282366920938463463374607431768211456) / 18446744073709551616 / 9223372036854775808 = -1 := by omega
              by_cases hf : -170141183460469231731687303715884105728 ≤ x + y ∧ x + y < 170141183460469231731687303715884105728
              · simp [wide_Add.c, wd, lb, sWBits, sWFrom, sLimbAdd, fitW, dx, dy, d1, d2, d3, hxn, hyn, ho, hh, wz, hxs, hys, hs, hf] <;> omega
              · simp [wide_Add.c, wd, lb, sWBits, sWFrom, sLimbAdd, fitW, dx, dy, d1, d2, d3, hxn, hyn, ho, hh, wz, hxs, hys, hs, hf] <;> omega
        · skip
          have hxs : x / 18446744073709551616 / 9223372036854775808 = 0 := by omega
          have hys : y / 18446744073709551616 / 9223372036854775808 = 0 := by omega
          have d1 := dL_lb (show 0 ≤ x by omega) (show x < 340282366920938463463374607431768211456 by omega)
          have d2 := dL_lb (show 0 ≤ y by omega) (show y < 340282366920938463463374607431768211456 by omega)
          by_cases ho : 340282366920938463463374607431768211456 ≤ x + y
          · have e : x + y - 340282366920938463463374607431768211456 = x + y - 340282366920938463463374607431768211456 := rfl
            have d3 := dL_lb (show 0 ≤ x + y - 340282366920938463463374607431768211456 by omega) (show x + y - 340282366920938463463374607431768211456 < 340282366920938463463374607431768211456 by omega)
            by_cases hh : x + y - 340282366920938463463374607431768211456 < 170141183460469231731687303715884105728
            · have hs : (x + y - 340282366920938463463374607431768211456) / 18446744073709551616 / 9223372036854775808 = 0 := by omega
              by_cases hf : -170141183460469231731687303715884105728 ≤ x + y ∧ x + y < 170141183460469231731687303715884105728
              · simp [wide_Add.c, wd, lb, sWBits, sWFrom, sLimbAdd, fitW, dx, dy, d1, d2, d3, hxn, hyn, ho, hh, wz, hxs, hys, hs, hf] <;> omega
              · simp [wide_Add.c, wd, lb, sWBits, sWFrom, sLimbAdd, fitW, dx, dy, d1, d2, d3, hxn, hyn, ho, hh, wz, hxs, hys, hs, hf] <;> omega
            · have hs : (x + y - 340282366920938463463374607431768211456 - 340282366920938463463374607431768211456) / 18446744073709551616 / 9223372036854775808 = -1 := by omega
              by_cases hf : -170141183460469231731687303715884105728 ≤ x + y ∧ x + y < 170141183460469231731687303715884105728
              · simp [wide_Add.c, wd, lb, sWBits, sWFrom, sLimbAdd, fitW, dx, dy, d1, d2, d3, hxn, hyn, ho, hh, wz, hxs, hys, hs, hf] <;> omega
              · simp [wide_Add.c, wd, lb, sWBits, sWFrom, sLimbAdd, fitW, dx, dy, d1, d2, d3, hxn, hyn, ho, hh, wz, hxs, hys, hs, hf] <;> omega
          · have e : x + y = x + y := rfl
            have d3 := dL_lb (show 0 ≤ x + y by omega) (show x + y < 340282366920938463463374607431768211456 by omega)
            by_cases hh : x + y < 170141183460469231731687303715884105728
            · have hs : (x + y) / 18446744073709551616 / 9223372036854775808 = 0 := by omega
              by_cases hf : -170141183460469231731687303715884105728 ≤ x + y ∧ x + y < 170141183460469231731687303715884105728
              · simp [wide_Add.c, wd, lb, sWBits, sWFrom, sLimbAdd, fitW, dx, dy, d1, d2, d3, hxn, hyn, ho, hh, wz, hxs, hys, hs, hf] <;> omega
              · simp [wide_Add.c, wd, lb, sWBits, sWFrom, sLimbAdd, fitW, dx, dy, d1, d2, d3, hxn, hyn, ho, hh, wz, hxs, hys, hs, hf] <;> omega
            · have hs : (x + y - 340282366920938463463374607431768211456) / 18446744073709551616 / 9223372036854775808 = -1 := by omega
              by_cases hf : -170141183460469231731687303715884105728 ≤ x + y ∧ x + y < 170141183460469231731687303715884105728
              · simp [wide_Add.c, wd, lb, sWBits, sWFrom, sLimbAdd, fitW, dx, dy, d1, d2, d3, hxn, hyn, ho, hh, wz, hxs, hys, hs, hf] <;> omega
              · simp [wide_Add.c, wd, lb, sWBits, sWFrom, sLimbAdd, fitW, dx, dy, d1, d2, d3, hxn, hyn, ho, hh, wz, hxs, hys, hs, hf] <;> omega
    · cases h
  · cases h

def sWSub : List AP → Option AV
  | [a, b] => match dW a, dW b with
    | some x, some y => some (fitW (x - y))
    | _, _ => none
  | _ => none
theorem okWSub : Ok Try.prog 43 sWSub := ok_of' Try.func43 wide_Sub.ent wide_Sub.chk (specOk_cons okWBits (specOk_cons okWFrom (specOk_cons okLimbSub specOk_nil))) fun av r h => by
  unfold sWSub at h
  split at h
  · split at h
    · rename_i a b x1 x2 x y hx hy
      cases h
      obtain ⟨rfl, hx0, hx1⟩ := dW_some hx
      obtain ⟨rfl, hy0, hy1⟩ := dW_some hy
      have dx := dW_wd hx0 hx1
      have dy := dW_wd hy0 hy1
      refine ⟨by simp [wide_Sub.c], 0, ?_⟩
      by_cases hxn : x < 0
      · by_cases hyn : y < 0
        · skip
          have hxs : x / 18446744073709551616 / 9223372036854775808 = -1 := by omega
          have hys : y / 18446744073709551616 / 9223372036854775808 = -1 := by omega
          have d1 := dL_lb (show 0 ≤ x + 340282366920938463463374607431768211456 by omega) (show x + 340282366920938463463374607431768211456 < 340282366920938463463374607431768211456 by omega)
          have d2 := dL_lb (show 0 ≤ y + 340282366920938463463374607431768211456 by omega) (show y + 340282366920938463463374607431768211456 < 340282366920938463463374607431768211456 by omega)
          by_cases ho : x + 340282366920938463463374607431768211456 < y + 340282366920938463463374607431768211456
          · have e : x + 340282366920938463463374607431768211456 - (y + 340282366920938463463374607431768211456) + 340282366920938463463374607431768211456 = x + 340282366920938463463374607431768211456 - (y + 340282366920938463463374607431768211456) + 340282366920938463463374607431768211456 := rfl
            have d3 := dL_lb (show 0 ≤ x + 340282366920938463463374607431768211456 - (y + 340282366920938463463374607431768211456) + 340282366920938463463374607431768211456 by omega) (show x + 340282366920938463463374607431768211456 - (y + 340282366920938463463374607431768211456) + 340282366920938463463374607431768211456 < 340282366920938463463374607431768211456 by omega)
            by_cases hh : x + 340282366920938463463374607431768211456 - (y + 340282366920938463463374607431768211456) + 340282366920938463463374607431768211456 < 170141183460469231731687303715884105728
            · have hs : (x + 340282366920938463463374607431768211456 - (y + 340282366920938463463374607431768211456) + 340282366920938463463374607431768211456) / 18446744073709551616 / 9223372036854775808 = 0 := by omega
              by_cases hf : -170141183460469231731687303715884105728 ≤ x - y ∧ x - y < 170141183460469231731687303715884105728
              · simp [wide_Sub.c, wd, lb, sWBits, sWFrom, sLimbSub, fitW, dx, dy, d1, d2, d3, hxn, hyn, ho, hh, wz, hxs, hys, hs, hf] <;> omega
              · simp [wide_Sub.c, wd, lb, sWBits, sWFrom, sLimbSub, fitW, dx, dy, d1, d2, d3, hxn, hyn, ho, hh, wz, hxs, hys, hs, hf] <;> omega
            · have hs : (x + 340282366920938463463374607431768211456 - (y + 340282366920938463463374607431768211456) + 340282366920938463463374607431768211456 - 340282366920938463463374607431768211456) / 18446744073709551616 / 9223372036854775808 = -1 := by omega
              by_cases hf : -170141183460469231731687303715884105728 ≤ x - y ∧ x - y < 170141183460469231731687303715884105728
              · simp [wide_Sub.c, wd, lb, sWBits, sWFrom, sLimbSub, fitW, dx, dy, d1, d2, d3, hxn, hyn, ho, hh, wz, hxs, hys, hs, hf] <;> omega
              · simp [wide_Sub.c, wd, lb, sWBits, sWFrom, sLimbSub, fitW, dx, dy, d1, d2, d3, hxn, hyn, ho, hh, wz, hxs, hys, hs, hf] <;> omega
          · have e : x + 340282366920938463463374607431768211456 - (y + 340282366920938463463374607431768211456) = x + 340282366920938463463374607431768211456 - (y + 340282366920938463463374607431768211456) := rfl
            have d3 := dL_lb (show 0 ≤ x + 340282366920938463463374607431768211456 - (y + 340282366920938463463374607431768211456) by omega) (show x + 340282366920938463463374607431768211456 - (y + 340282366920938463463374607431768211456) < 340282366920938463463374607431768211456 by omega)
            by_cases hh : x + 340282366920938463463374607431768211456 - (y + 340282366920938463463374607431768211456) < 170141183460469231731687303715884105728
            · have hs : (x + 340282366920938463463374607431768211456 - (y + 340282366920938463463374607431768211456)) / 18446744073709551616 / 9223372036854775808 = 0 := by omega
              by_cases hf : -170141183460469231731687303715884105728 ≤ x - y ∧ x - y < 170141183460469231731687303715884105728
              · simp [wide_Sub.c, wd, lb, sWBits, sWFrom, sLimbSub, fitW, dx, dy, d1, d2, d3, hxn, hyn, ho, hh, wz, hxs, hys, hs, hf] <;> omega
              · simp [wide_Sub.c, wd, lb, sWBits, sWFrom, sLimbSub, fitW, dx, dy, d1, d2, d3, hxn, hyn, ho, hh, wz, hxs, hys, hs, hf] <;> omega
            · have hs : (x + 340282366920938463463374607431768211456 - (y + 340282366920938463463374607431768211456) - 340282366920938463463374607431768211456) / 18446744073709551616 / 9223372036854775808 = -1 := by omega
              by_cases hf : -170141183460469231731687303715884105728 ≤ x - y ∧ x - y < 170141183460469231731687303715884105728
              · simp [wide_Sub.c, wd, lb, sWBits, sWFrom, sLimbSub, fitW, dx, dy, d1, d2, d3, hxn, hyn, ho, hh, wz, hxs, hys, hs, hf] <;> omega
              · simp [wide_Sub.c, wd, lb, sWBits, sWFrom, sLimbSub, fitW, dx, dy, d1, d2, d3, hxn, hyn, ho, hh, wz, hxs, hys, hs, hf] <;> omega
        · skip
          have hxs : x / 18446744073709551616 / 9223372036854775808 = -1 := by omega
          have hys : y / 18446744073709551616 / 9223372036854775808 = 0 := by omega
          have d1 := dL_lb (show 0 ≤ x + 340282366920938463463374607431768211456 by omega) (show x + 340282366920938463463374607431768211456 < 340282366920938463463374607431768211456 by omega)
          have d2 := dL_lb (show 0 ≤ y by omega) (show y < 340282366920938463463374607431768211456 by omega)
          by_cases ho : x + 340282366920938463463374607431768211456 < y
          · have e : x + 340282366920938463463374607431768211456 - y + 340282366920938463463374607431768211456 = x + 340282366920938463463374607431768211456 - y + 340282366920938463463374607431768211456 := rfl
            have d3 := dL_lb (show 0 ≤ x + 340282366920938463463374607431768211456 - y + 340282366920938463463374607431768211456 by omega) (show x + 340282366920938463463374607431768211456 - y + 340282366920938463463374607431768211456 < 340282366920938463463374607431768211456 by omega)
            by_cases hh : x + 340282366920938463463374607431768211456 - y + 340282366920938463463374607431768211456 < 170141183460469231731687303715884105728
            · have hs : (x + 340282366920938463463374607431768211456 - y + 340282366920938463463374607431768211456) / 18446744073709551616 / 9223372036854775808 = 0 := by omega
              by_cases hf : -170141183460469231731687303715884105728 ≤ x - y ∧ x - y < 170141183460469231731687303715884105728
              · simp [wide_Sub.c, wd, lb, sWBits, sWFrom, sLimbSub, fitW, dx, dy, d1, d2, d3, hxn, hyn, ho, hh, wz, hxs, hys, hs, hf] <;> omega
              · simp [wide_Sub.c, wd, lb, sWBits, sWFrom, sLimbSub, fitW, dx, dy, d1, d2, d3, hxn, hyn, ho, hh, wz, hxs, hys, hs, hf] <;> omega
            · have hs : (x + 340282366920938463463374607431768211456 - y + 340282366920938463463374607431768211456 - 340282366920938463463374607431768211456) / 18446744073709551616 / 9223372036854775808 = -1 := by omega
              by_cases hf : -170141183460469231731687303715884105728 ≤ x - y ∧ x - y < 170141183460469231731687303715884105728
              · simp [wide_Sub.c, wd, lb, sWBits, sWFrom, sLimbSub, fitW, dx, dy, d1, d2, d3, hxn, hyn, ho, hh, wz, hxs, hys, hs, hf] <;> omega
              · simp [wide_Sub.c, wd, lb, sWBits, sWFrom, sLimbSub, fitW, dx, dy, d1, d2, d3, hxn, hyn, ho, hh, wz, hxs, hys, hs, hf] <;> omega
          · have e : x + 340282366920938463463374607431768211456 - y = x + 340282366920938463463374607431768211456 - y := rfl
            have d3 := dL_lb (show 0 ≤ x + 340282366920938463463374607431768211456 - y by omega) (show x + 340282366920938463463374607431768211456 - y < 340282366920938463463374607431768211456 by omega)
            by_cases hh : x + 340282366920938463463374607431768211456 - y < 170141183460469231731687303715884105728
            · have hs : (x + 340282366920938463463374607431768211456 - y) / 18446744073709551616 / 9223372036854775808 = 0 := by omega
              by_cases hf : -170141183460469231731687303715884105728 ≤ x - y ∧ x - y < 170141183460469231731687303715884105728
              · simp [wide_Sub.c, wd, lb, sWBits, sWFrom, sLimbSub, fitW, dx, dy, d1, d2, d3, hxn, hyn, ho, hh, wz, hxs, hys, hs, hf] <;> omega
              · simp [wide_Sub.c, wd, lb, sWBits, sWFrom, sLimbSub, fitW, dx, dy, d1, d2, d3, hxn, hyn, ho, hh, wz, hxs, hys, hs, hf] <;> omega
            · have hs : (x + 340282366920938463463374607431768211456 - y - 340282366920938463463374607431768211456) / 18446744073709551616 / 9223372036854775808 = -1 := by omega
              by_cases hf : -170141183460469231731687303715884105728 ≤ x - y ∧ x - y < 170141183460469231731687303715884105728
              · simp [wide_Sub.c, wd, lb, sWBits, sWFrom, sLimbSub, fitW, dx, dy, d1, d2, d3, hxn, hyn, ho, hh, wz, hxs, hys, hs, hf] <;> omega
              · simp [wide_Sub.c, wd, lb, sWBits, sWFrom, sLimbSub, fitW, dx, dy, d1, d2, d3, hxn, hyn, ho, hh, wz, hxs, hys, hs, hf] <;> omega
      · by_cases hyn : y < 0
        · skip
          have hxs : x / 18446744073709551616 / 9223372036854775808 = 0 := by omega
          have hys : y / 18446744073709551616 / 9223372036854775808 = -1 := by omega
          have d1 := dL_lb (show 0 ≤ x by omega) (show x < 340282366920938463463374607431768211456 by omega)
          have d2 := dL_lb (show 0 ≤ y + 340282366920938463463374607431768211456 by omega) (show y + 340282366920938463463374607431768211456 < 340282366920938463463374607431768211456 by omega)
          by_cases ho : x < y + 340282366920938463463374607431768211456
          · have e : x - (y + 340282366920938463463374607431768211456) + 340282366920938463463374607431768211456 = x - (y + 340282366920938463463374607431768211456) + 340282366920938463463374607431768211456 := rfl
            have d3 := dL_lb (show 0 ≤ x - (y + 340282366920938463463374607431768211456) + 340282366920938463463374607431768211456 by omega) (show x - (y + 340282366920938463463374607431768211456) + 340282366920938463463374607431768211456 < 340282366920938463463374607431768211456 by omega)
            by_cases hh : x - (y + 340282366920938463463374607431768211456) + 340282366920938463463374607431768211456 < 170141183460469231731687303715884105728
            · have hs : (x - (y + 340282366920938463463374607431768211456) + 340282366920938463463374607431768211456) / 18446744073709551616 / 9223372036854775808 = 0 := by omega
              by_cases hf : -170141183460469231731687303715884105728 ≤ x - y ∧ x - y < 170141183460469231731687303715884105728
              · simp [wide_Sub.c, wd, lb, sWBits, sWFrom, sLimbSub, fitW, dx, dy, d1, d2, d3, hxn, hyn, ho, hh, wz, hxs, hys, hs, hf] <;> omega
              · simp [wide_Sub.c, wd, lb, sWBits, sWFrom, sLimbSub, fitW, dx, dy, d1, d2, d3, hxn, hyn, ho, hh, wz, hxs, hys, hs, hf] <;> omega
            · have hs : (x - (y + 340282366920938463463374607431768211456) + 340282366920938463463374607431768211456 - 340282366920938463463374607431768211456) / 18446744073709551616 / 9223372036854775808 = -1 := by omega
              by_cases hf : -170141183460469231731687303715884105728 ≤ x - y ∧ x - y < 170141183460469231731687303715884105728
              · simp [wide_Sub.c, wd, lb, sWBits, sWFrom, sLimbSub, fitW, dx, dy, d1, d2, d3, hxn, hyn, ho, hh, wz, hxs, hys, hs, hf] <;> omega
              · simp [wide_Sub.c, wd, lb, sWBits, sWFrom, sLimbSub, fitW, dx, dy, d1, d2, d3, hxn, hyn, ho, hh, wz, hxs, hys, hs, hf] <;> omega
          · have e : x - (y + 340282366920938463463374607431768211456) = x - (y + 340282366920938463463374607431768211456) := rfl
            have d3 := dL_lb (show 0 ≤ x - (y + 340282366920938463463374607431768211456) by omega) (show x - (y + 340282366920938463463374607431768211456) < 340282366920938463463374607431768211456 by omega)
            by_cases hh : x - (y + 340282366920938463463374607431768211456) < 170141183460469231731687303715884105728
            · have hs : (x - (y + 340282366920938463463374607431768211456)) / 18446744073709551616 / 9223372036854775808 = 0 := by omega
              by_cases hf : -170141183460469231731687303715884105728 ≤ x - y ∧ x - y < 170141183460469231731687303715884105728
              · simp [wide_Sub.c, wd, lb, sWBits, sWFrom, sLimbSub, fitW, dx, dy, d1, d2, d3, hxn, hyn, ho, hh, wz, hxs, hys, hs, hf] <;> omega
              · simp [wide_Sub.c, wd, lb, sWBits, sWFrom, sLimbSub, fitW, dx, dy, d1, d2, d3, hxn, hyn, ho, hh, wz, hxs, hys, hs, hf] <;> omega
            · have hs : (x - (y + 340282366920938463463374607431768211456) - 340282366920938463463374607431768211456) / 18446744073709551616 / 9223372036854775808 = -1 := by omega
              by_cases hf : -170141183460469231731687303715884105728 ≤ x - y ∧ x - y < 170141183460469231731687303715884105728
              · simp [wide_Sub.c, wd, lb, sWBits, sWFrom, sLimbSub, fitW, dx, dy, d1, d2, d3, hxn, hyn, ho, hh, wz, hxs, hys, hs, hf] <;> omega
              · simp [wide_Sub.c, wd, lb, sWBits, sWFrom, sLimbSub, fitW, dx, dy, d1, d2, d3, hxn, hyn, ho, hh, wz, hxs, hys, hs, hf] <;> omega
        · skip
          have hxs : x / 18446744073709551616 / 9223372036854775808 = 0 := by omega
          have hys : y / 18446744073709551616 / 9223372036854775808 = 0 := by omega
          have d1 := dL_lb (show 0 ≤ x by omega) (show x < 340282366920938463463374607431768211456 by omega)
          have d2 := dL_lb (show 0 ≤ y by omega) (show y < 340282366920938463463374607431768211456 by omega)
          by_cases ho : x < y
          · have e : x - y + 340282366920938463463374607431768211456 = x - y + 340282366920938463463374607431768211456 := rfl
            have d3 := dL_lb (show 0 ≤ x - y + 340282366920938463463374607431768211456 by omega) (show x - y + 340282366920938463463374607431768211456 < 340282366920938463463374607431768211456 by omega)
            by_cases hh : x - y + 340282366920938463463374607431768211456 < 170141183460469231731687303715884105728
            · have hs : (x - y + 340282366920938463463374607431768211456) / 18446744073709551616 / 9223372036854775808 = 0 := by omega
              by_cases hf : -170141183460469231731687303715884105728 ≤ x - y ∧ x - y < 170141183460469231731687303715884105728
              · simp [wide_Sub.c, wd, lb, sWBits, sWFrom, sLimbSub, fitW, dx, dy, d1, d2, d3, hxn, hyn, ho, hh, wz, hxs, hys, hs, hf] <;> omega
              · simp [wide_Sub.c, wd, lb, sWBits, sWFrom, sLimbSub, fitW, dx, dy, d1, d2, d3, hxn, hyn, ho, hh, wz, hxs, hys, hs, hf] <;> omega
            · have hs : (x - y + 340282366920938463463374607431768211456 - 340282366920938463463374607431768211456) / 18446744073709551616 / 9223372036854775808 = -1 := by omega
              by_cases hf : -170141183460469231731687303715884105728 ≤ x - y ∧ x - y < 170141183460469231731687303715884105728
              · simp [wide_Sub.c, wd, lb, sWBits, sWFrom, sLimbSub, fitW, dx, dy, d1, d2, d3, hxn, hyn, ho, hh, wz, hxs, hys, hs, hf] <;> omega
              · simp [wide_Sub.c, wd, lb, sWBits, sWFrom, sLimbSub, fitW, dx, dy, d1, d2, d3, hxn, hyn, ho, hh, wz, hxs, hys, hs, hf] <;> omega
          · have e : x - y = x - y := rfl
            have d3 := dL_lb (show 0 ≤ x - y by omega) (show x - y < 340282366920938463463374607431768211456 by omega)
            by_cases hh : x - y < 170141183460469231731687303715884105728
            · have hs : (x - y) / 18446744073709551616 / 9223372036854775808 = 0 := by omega
              by_cases hf : -170141183460469231731687303715884105728 ≤ x - y ∧ x - y < 170141183460469231731687303715884105728
              · simp [wide_Sub.c, wd, lb, sWBits, sWFrom, sLimbSub, fitW, dx, dy, d1, d2, d3, hxn, hyn, ho, hh, wz, hxs, hys, hs, hf] <;> omega
              · simp [wide_Sub.c, wd, lb, sWBits, sWFrom, sLimbSub, fitW, dx, dy, d1, d2, d3, hxn, hyn, ho, hh, wz, hxs, hys, hs, hf] <;> omega
            · have hs : (x - y - 340282366920938463463374607431768211456) / 18446744073709551616 / 9223372036854775808 = -1 := by omega
              by_cases hf : -170141183460469231731687303715884105728 ≤ x - y ∧ x - y < 170141183460469231731687303715884105728
              · simp [wide_Sub.c, wd, lb, sWBits, sWFrom, sLimbSub, fitW, dx, dy, d1, d2, d3, hxn, hyn, ho, hh, wz, hxs, hys, hs, hf] <;> omega
              · simp [wide_Sub.c, wd, lb, sWBits, sWFrom, sLimbSub, fitW, dx, dy, d1, d2, d3, hxn, hyn, ho, hh, wz, hxs, hys, hs, hf] <;> omega
    · cases h
  · cases h
end Go.Proofs.Ytichmemhahbhnaa.E


/- What the smaller functions of the package wide do. -/
import Derived.Test.YtichmemhahbhnaaK6
set_option linter.unusedVariables false
set_option linter.unusedSimpArgs false
namespace Go.Proofs.Ytichmemhahbhnaa.E
open Go.VC Go.RowKit

def sWOf : List AP → Option AV
  | [.c (.v (.int .i64 n))] => if -9223372036854775808 ≤ n ∧ n < 9223372036854775808 then some (.o (wd n)) else none
  | _ => none
theorem okWOf : Ok Try.prog 33 sWOf := ok_of' Try.func33 wide_Of.ent wide_Of.chk specOk_nil fun av r h => by
  unfold sWOf at h
  split at h
  · split at h
    · cases h
      refine ⟨by simp [wide_Of.c], 0, ?_⟩
      simp [wide_Of.c, wd, fdiv_pos, wrap_u64_eq]
      omega
    · cases h
  · cases h

def sWInt : List AP → Option AV
  | [a] => match dW a with
    | some x => some (.t [iv .i64 (if -9223372036854775808 ≤ x ∧ x < 9223372036854775808 then x else 0), iv .i64 (if -9223372036854775808 ≤ x ∧ x < 9223372036854775808 then 0 else 2)])
    | _ => none
  | _ => none
theorem okWInt : Ok Try.prog 32 sWInt := ok_of' Try.func32 wide_Int.ent wide_Int.chk (specOk_cons okWOf specOk_nil) fun av r h => by
  unfold sWInt at h
  split at h
  · split at h
    · rename_i a x1 x hx
      cases h
      obtain ⟨rfl, hx0, hx1⟩ := dW_some hx
      refine ⟨by simp [wide_Int.c], 0, ?_⟩
      have w0 : -9223372036854775808 ≤ IntKind.i64.wrap (x % 18446744073709551616) ∧ IntKind.i64.wrap (x % 18446744073709551616) < 9223372036854775808 := by rw [IntKind.wrap_i64]; omega
      have e1 : IntKind.i64.wrap (x % 18446744073709551616) % 18446744073709551616 = x % 18446744073709551616 := by rw [IntKind.wrap_i64]; omega
      by_cases hc : -9223372036854775808 ≤ x ∧ x < 9223372036854775808
      · have e2 : IntKind.i64.wrap (x % 18446744073709551616) = x := by rw [IntKind.wrap_i64]; omega
        have e3 : x / 18446744073709551616 = x / 18446744073709551616 := rfl
        simp [wide_Int.c, wd, sWOf, w0.1, w0.2, e1, e2, hc]
      · have e2 : ¬ IntKind.i64.wrap (x % 18446744073709551616) / 18446744073709551616 = x / 18446744073709551616 := by rw [IntKind.wrap_i64]; omega
        simp [wide_Int.c, wd, sWOf, w0.1, w0.2, e1, e2, hc]
    · cases h
  · cases h

def sWCmp : List AP → Option AV
  | [a, b] => match dW a, dW b with
    | some x, some y => some (.o (iv .i64 (cmpI x y)))
    | _, _ => none
  | _ => none
theorem okWCmp : Ok Try.prog 37 sWCmp := ok_of' Try.func37 wide_Cmp.ent wide_Cmp.chk specOk_nil fun av r h => by
  unfold sWCmp at h
  split at h
  · split at h
    · rename_i x y hx hy
      cases h
      obtain ⟨rfl, hx0, hx1⟩ := dW_some hx
      obtain ⟨rfl, hy0, hy1⟩ := dW_some hy
      refine ⟨by simp [wide_Cmp.c], 0, ?_⟩
      rcases Int.lt_trichotomy (x / 18446744073709551616) (y / 18446744073709551616) with h1 | h1 | h1
      · have e : cmpI x y = -1 := by unfold cmpI; rw [if_neg (by omega), if_pos (by omega)]
        have h2 : ¬ x / 18446744073709551616 = y / 18446744073709551616 := by omega
        simp [wide_Cmp.c, wd, h1, h2, e]
      · rcases Int.lt_trichotomy (x % 18446744073709551616) (y % 18446744073709551616) with h3 | h3 | h3
        · have e : cmpI x y = -1 := by unfold cmpI; rw [if_neg (by omega), if_pos (by omega)]
          have h4 : ¬ x % 18446744073709551616 = y % 18446744073709551616 := by omega
          simp [wide_Cmp.c, wd, h1, h3, h4, e]
        · have e : cmpI x y = 0 := by unfold cmpI; rw [if_pos (by omega)]
          simp [wide_Cmp.c, wd, h1, h3, e]
        · have e : cmpI x y = 1 := by unfold cmpI; rw [if_neg (by omega), if_neg (by omega)]
          have h4 : ¬ x % 18446744073709551616 = y % 18446744073709551616 := by omega
          have h5 : ¬ x % 18446744073709551616 < y % 18446744073709551616 := by omega
          simp [wide_Cmp.c, wd, h1, h4, h5, e]
      · have e : cmpI x y = 1 := by unfold cmpI; rw [if_neg (by omega), if_neg (by omega)]
        have h2 : ¬ x / 18446744073709551616 = y / 18446744073709551616 := by omega
        have h3 : ¬ x / 18446744073709551616 < y / 18446744073709551616 := by omega
        simp [wide_Cmp.c, wd, h2, h3, e]
    · cases h
  · cases h

def sWBits : List AP → Option AV
  | [a] => match dW a with
    | some x => some (.o (lb (if x < 0 then x + 340282366920938463463374607431768211456 else x)))
    | _ => none
  | _ => none
theorem okWBits : Ok Try.prog 64 sWBits := ok_of' Try.func64 wide_bits.ent wide_bits.chk specOk_nil fun av r h => by
  unfold sWBits at h
  split at h
  · split at h
    · rename_i a x1 x hx
      cases h
      obtain ⟨rfl, hx0, hx1⟩ := dW_some hx
      refine ⟨by simp [wide_bits.c], 0, ?_⟩
      by_cases hc : x < 0
      · simp [wide_bits.c, wd, lb, wrap_u64_eq, hc]; omega
      · simp [wide_bits.c, wd, lb, wrap_u64_eq, hc]; omega
    · cases h
  · cases h

def sWFrom : List AP → Option AV
  | [a] => match dL a with
    | some x => some (.o (wd (if x < 170141183460469231731687303715884105728 then x else x - 340282366920938463463374607431768211456)))
    | _ => none
  | _ => none
theorem okWFrom : Ok Try.prog 66 sWFrom := ok_of' Try.func66 wide_from.ent wide_from.chk specOk_nil fun av r h => by
  unfold sWFrom at h
  split at h
  · split at h
    · rename_i a x1 x hx
      cases h
      obtain ⟨rfl, hx0, hx1⟩ := dL_some hx
      refine ⟨by simp [wide_from.c], 0, ?_⟩
      by_cases hc : x < 170141183460469231731687303715884105728
      · simp [wide_from.c, wd, lb, IntKind.wrap_i64, hc]; omega
      · simp [wide_from.c, wd, lb, IntKind.wrap_i64, hc]; omega
    · cases h
  · cases h

def sWSize : List AP → Option AV
  | [a] => match dW a with
    | some x => some (.o (lb (if x < 0 then -x else x)))
    | _ => none
  | _ => none
theorem okWSize : Ok Try.prog 63 sWSize := ok_of' Try.func63 wide_size.ent wide_size.chk (specOk_cons okWBits (specOk_cons okLimbSub specOk_nil)) fun av r h => by
  unfold sWSize at h
  split at h
  · split at h
    · rename_i a x1 x hx
      cases h
      obtain ⟨rfl, hx0, hx1⟩ := dW_some hx
      have dx := dW_wd hx0 hx1
      refine ⟨by simp [wide_size.c], 0, ?_⟩
      by_cases hc : x < 0
      · have h1 : ¬ 0 ≤ x / 18446744073709551616 := by omega
        have d0 : dL (.g [.v (.int .u64 0), .v (.int .u64 0)]) = some 0 := by decide
        have d1 := dL_lb (show 0 ≤ x + 340282366920938463463374607431768211456 by omega) (show x + 340282366920938463463374607431768211456 < 340282366920938463463374607431768211456 by omega)
        have h2 : 0 < x + 340282366920938463463374607431768211456 := by omega
        have e : 0 - (x + 340282366920938463463374607431768211456) + 340282366920938463463374607431768211456 = -x := by omega
        simp [wide_size.c, wd, lb, sWBits, sLimbSub, dx, d0, d1, h1, hc, h2, e]
        omega
      · have h1 : 0 ≤ x / 18446744073709551616 := by omega
        simp [wide_size.c, wd, lb, sWBits, sLimbSub, dx, h1, hc]
    · cases h
  · cases h

def sWSigned : List AP → Option AV
  | [a, .c (.v (.bool b))] => match dL a with
    | some n => if b then (if n ≤ 170141183460469231731687303715884105728 then some (.t [wd (-n), iv .i64 0]) else some (.t [wd 0, iv .i64 2])) else (if n < 170141183460469231731687303715884105728 then some (.t [wd n, iv .i64 0]) else some (.t [wd 0, iv .i64 2]))
    | _ => none
  | _ => none
theorem cmpI_le {x y : Int} : (cmpI x y ≤ 0) ↔ x ≤ y := by unfold cmpI; split <;> (try split) <;> omega
theorem cmpI_lt {x y : Int} : (cmpI x y < 0) ↔ x < y := by unfold cmpI; split <;> (try split) <;> omega
theorem cmpI_gt {x y : Int} : (0 < cmpI x y) ↔ y < x := by unfold cmpI; split <;> (try split) <;> omega
theorem okWSigned : Ok Try.prog 65 sWSigned := ok_of' Try.func65 wide_signed.ent wide_signed.chk (specOk_cons okWFrom (specOk_cons okLimbSub (specOk_cons okLimbCmp specOk_nil))) fun av r h => by
  unfold sWSigned at h
  split at h
  · split at h
    · rename_i a b x1 x hx
      obtain ⟨rfl, hx0, hx1⟩ := dL_some hx
      have dx := dL_lb hx0 hx1
      have d0 : dL (.g [.v (.int .u64 0), .v (.int .u64 0)]) = some 0 := by decide
      have dh : dL (.g [.v (.int .u64 9223372036854775808), .v (.int .u64 0)]) = some 170141183460469231731687303715884105728 := by decide
      refine ⟨by simp [wide_signed.c], 0, ?_⟩
      cases b with
      | true =>
        simp only [if_true] at h
        by_cases hc : x ≤ 170141183460469231731687303715884105728
        · rw [if_pos hc] at h
          cases h
          have h1 : cmpI x 170141183460469231731687303715884105728 ≤ 0 := cmpI_le.2 hc
          by_cases hz : 0 < x
          · have d1 := dL_lb (show 0 ≤ -x + 340282366920938463463374607431768211456 by omega) (show -x + 340282366920938463463374607431768211456 < 340282366920938463463374607431768211456 by omega)
            have h2 : ¬ -x + 340282366920938463463374607431768211456 < 170141183460469231731687303715884105728 := by omega
            have e : -x + 340282366920938463463374607431768211456 - 340282366920938463463374607431768211456 = -x := by omega
            simp [wide_signed.c, wd, lb, sWFrom, sLimbSub, sLimbCmp, dx, d0, dh, h1, hz, d1, h2, e]
          · have hx : x = 0 := by omega
            subst hx
            simp [wide_signed.c, wd, lb, sWFrom, sLimbSub, sLimbCmp, d0, dh, h1]
        · rw [if_neg hc] at h
          cases h
          have h1 : ¬ cmpI x 170141183460469231731687303715884105728 ≤ 0 := by rw [cmpI_le]; exact hc
          simp [wide_signed.c, wd, lb, sWFrom, sLimbSub, sLimbCmp, dx, d0, dh, h1]
      | false =>
        simp only [Bool.false_eq_true, if_false] at h
        by_cases hc : x < 170141183460469231731687303715884105728
        · rw [if_pos hc] at h
          cases h
          have h1 : cmpI x 170141183460469231731687303715884105728 < 0 := cmpI_lt.2 hc
          simp [wide_signed.c, wd, lb, sWFrom, sLimbSub, sLimbCmp, dx, d0, dh, h1, hc]
        · rw [if_neg hc] at h
          cases h
          have h1 : ¬ cmpI x 170141183460469231731687303715884105728 < 0 := by rw [cmpI_lt]; exact hc
          simp [wide_signed.c, wd, lb, sWFrom, sLimbSub, sLimbCmp, dx, d0, dh, h1]
    · cases h
  · cases h
end Go.Proofs.Ytichmemhahbhnaa.E

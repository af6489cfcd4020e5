/- What the functions of the package limb do. -/
import Derived.Test.YtichmemhahbhnaaK1
set_option linter.unusedVariables false
set_option linter.unusedSimpArgs false
namespace Go.Proofs.Ytichmemhahbhnaa.E
open Go.VC Go.RowKit

abbrev spBits : List (Nat × (List AP → Option AV)) := [(59, sAdd64), (60, sSub64)]
theorem okSpBits : SpecOk Try.prog (spOf spBits) := specOk_cons okAdd64 (specOk_cons okSub64 specOk_nil)
theorem em0 (x : Int) : 0 ≤ x % 18446744073709551616 := by omega
theorem em1 (x : Int) : x % 18446744073709551616 < 18446744073709551616 := by omega
theorem bb {a b : Int} {p : Prop} [Decidable p] (h : a = b ↔ p) : (a == b) = decide p := by
  rw [Bool.eq_iff_iff]; simpa using h

def sLimbAdd : List AP → Option AV
  | [a, b] => match dL a, dL b with
    | some x, some y => some (.t [lb (if 340282366920938463463374607431768211456 ≤ x + y then x + y - 340282366920938463463374607431768211456 else x + y), bv (decide (340282366920938463463374607431768211456 ≤ x + y))])
    | _, _ => none
  | _ => none
theorem okLimbAdd : Ok Try.prog 26 sLimbAdd := ok_of' Try.func26 limb_Add.ent limb_Add.chk okSpBits fun av r h => by
  unfold sLimbAdd at h
  split at h
  · split at h
    · rename_i x y hx hy
      cases h
      obtain ⟨rfl, hx0, hx1⟩ := dL_some hx
      obtain ⟨rfl, hy0, hy1⟩ := dL_some hy
      refine ⟨by simp [limb_Add.c], 0, ?_⟩
      have c0 : 0 ≤ (x % 18446744073709551616 + y % 18446744073709551616) / 18446744073709551616 := by omega
      have c1 : (x % 18446744073709551616 + y % 18446744073709551616) / 18446744073709551616 ≤ 1 := by omega
      have x0 : 0 ≤ x / 18446744073709551616 := by omega
      have y0 : 0 ≤ y / 18446744073709551616 := by omega
      by_cases hov : 340282366920938463463374607431768211456 ≤ x + y
      · simp [limb_Add.c, lb, sAdd64, em0, c0, c1, x0, y0, hov]
        omega
      · simp [limb_Add.c, lb, sAdd64, em0, c0, c1, x0, y0, hov]
        omega
    · cases h
  · cases h

def sLimbSub : List AP → Option AV
  | [a, b] => match dL a, dL b with
    | some x, some y => some (.t [lb (if x < y then x - y + 340282366920938463463374607431768211456 else x - y), bv (decide (x < y))])
    | _, _ => none
  | _ => none
theorem okLimbSub : Ok Try.prog 27 sLimbSub := ok_of' Try.func27 limb_Sub.ent limb_Sub.chk okSpBits fun av r h => by
  unfold sLimbSub at h
  split at h
  · split at h
    · rename_i x y hx hy
      cases h
      obtain ⟨rfl, hx0, hx1⟩ := dL_some hx
      obtain ⟨rfl, hy0, hy1⟩ := dL_some hy
      refine ⟨by simp [limb_Sub.c], 0, ?_⟩
      have x0 : 0 ≤ x / 18446744073709551616 := by omega
      have y0 : 0 ≤ y / 18446744073709551616 := by omega
      have y1 : y / 18446744073709551616 < 18446744073709551616 := by omega
      by_cases hlt : x < y <;> by_cases hlo : x % 18446744073709551616 < y % 18446744073709551616
      · have hq : x / 18446744073709551616 < y / 18446744073709551616 + 1 := by omega
        simp [limb_Sub.c, lb, sSub64, em0, em1, x0, y0, y1, hlo, hlt, hq]
        omega
      · have hq : x / 18446744073709551616 < y / 18446744073709551616 := by omega
        simp [limb_Sub.c, lb, sSub64, em0, em1, x0, y0, y1, hlo, hlt, hq]
        omega
      · have hq : ¬ x / 18446744073709551616 < y / 18446744073709551616 + 1 := by omega
        simp [limb_Sub.c, lb, sSub64, em0, em1, x0, y0, y1, hlo, hlt, hq]
        omega
      · have hq : ¬ x / 18446744073709551616 < y / 18446744073709551616 := by omega
        simp [limb_Sub.c, lb, sSub64, em0, em1, x0, y0, y1, hlo, hlt, hq]
        omega
    · cases h
  · cases h

/-- Which one is greater. -/
def cmpI (x y : Int) : Int := if x = y then 0 else if x < y then -1 else 1
def sLimbCmp : List AP → Option AV
  | [a, b] => match dL a, dL b with
    | some x, some y => some (.o (iv .i64 (cmpI x y)))
    | _, _ => none
  | _ => none
theorem okLimbCmp : Ok Try.prog 31 sLimbCmp := ok_of' Try.func31 limb_Cmp.ent limb_Cmp.chk specOk_nil fun av r h => by
  unfold sLimbCmp at h
  split at h
  · split at h
    · rename_i x y hx hy
      cases h
      obtain ⟨rfl, hx0, hx1⟩ := dL_some hx
      obtain ⟨rfl, hy0, hy1⟩ := dL_some hy
      refine ⟨by simp [limb_Cmp.c], 0, ?_⟩
      rcases Int.lt_trichotomy (x / 18446744073709551616) (y / 18446744073709551616) with h1 | h1 | h1
      · have e : cmpI x y = -1 := by unfold cmpI; rw [if_neg (by omega), if_pos (by omega)]
        have h2 : ¬ x / 18446744073709551616 = y / 18446744073709551616 := by omega
        simp [limb_Cmp.c, lb, h1, h2, e]
      · rcases Int.lt_trichotomy (x % 18446744073709551616) (y % 18446744073709551616) with h3 | h3 | h3
        · have e : cmpI x y = -1 := by unfold cmpI; rw [if_neg (by omega), if_pos (by omega)]
          have h4 : ¬ x % 18446744073709551616 = y % 18446744073709551616 := by omega
          simp [limb_Cmp.c, lb, h1, h3, h4, e]
        · have e : cmpI x y = 0 := by unfold cmpI; rw [if_pos (by omega)]
          simp [limb_Cmp.c, lb, h1, h3, e]
        · have e : cmpI x y = 1 := by unfold cmpI; rw [if_neg (by omega), if_neg (by omega)]
          have h4 : ¬ x % 18446744073709551616 = y % 18446744073709551616 := by omega
          have h5 : ¬ x % 18446744073709551616 < y % 18446744073709551616 := by omega
          simp [limb_Cmp.c, lb, h1, h4, h5, e]
      · have e : cmpI x y = 1 := by unfold cmpI; rw [if_neg (by omega), if_neg (by omega)]
        have h2 : ¬ x / 18446744073709551616 = y / 18446744073709551616 := by omega
        have h3 : ¬ x / 18446744073709551616 < y / 18446744073709551616 := by omega
        simp [limb_Cmp.c, lb, h2, h3, e]
    · cases h
  · cases h
end Go.Proofs.Ytichmemhahbhnaa.E

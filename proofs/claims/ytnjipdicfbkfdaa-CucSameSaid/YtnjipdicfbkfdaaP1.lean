/- What the package pivot does. -/
import Derived.Test.YtnjipdicfbkfdaaP0
set_option linter.unusedVariables false
set_option linter.unusedSimpArgs false
set_option maxHeartbeats 2000000
set_option maxRecDepth 100000
namespace Go.Proofs.Ytnjipdicfbkfdaa.E
open Go.VC Go.RowKit

abbrev tFold := s2 coW coW Tt2 fun n era => if era ≤ 0 then .t [wd 0, iv .i64 3] else .t [wd (n % era), iv .i64 0]
theorem okFold : Ok Try.prog 67 tFold := ok2 (code_mk Try.func67 pivot_Fold.ent pivot_Fold.chk okSpW) (by simp [pivot_Fold.c]) fun x y hx hy _ => by
  simp at hx hy
  refine ⟨0, ?_⟩
  by_cases h : 0 < y
  · have hq := div_fits hx.1 hx.2 h
    have r0 := Int.emod_nonneg x (show y ≠ 0 by omega)
    have r1 := Int.emod_lt_of_pos x h
    simp [pivot_Fold.c, hx, hy, h, Int.not_le.2 h, hq]
  · simp [pivot_Fold.c, hx, hy, h, Int.not_lt.1 h]
abbrev tNear := s3 coW coW coW Tt3 fun f n p => if n ≤ 0 then .t [wd 0, iv .i64 3] else if f < 0 ∨ n ≤ f then .t [wd 0, iv .i64 1] else if p - n / 2 < -170141183460469231731687303715884105728 then .t [wd 0, iv .i64 2] else fitW (p - n / 2 + (f - (p - n / 2)) % n)
theorem okNear : Ok Try.prog 75 tNear := ok3 (code_mk Try.func75 pivot_Near.ent pivot_Near.chk (specOk_cons okFold okSpW)) (by simp [pivot_Near.c]) fun x y z hx hy hz _ => by
  simp at hx hy hz
  refine ⟨0, ?_⟩
  by_cases h : 0 < y
  · have h' := Int.not_le.2 h
    by_cases ha : 0 ≤ x
    · have ha' := Int.not_lt.2 ha
      by_cases hb : x < y
      · have hb' := Int.not_le.2 hb
        have f1 : -170141183460469231731687303715884105728 ≤ y / 2 ∧ y / 2 < 170141183460469231731687303715884105728 := by omega
        have f2 : z - y / 2 < 170141183460469231731687303715884105728 := by omega
        by_cases hl : -170141183460469231731687303715884105728 ≤ z - y / 2
        · have hl' := Int.not_lt.2 hl
          have r0 := Int.emod_nonneg (z - y / 2) (show y ≠ 0 by omega)
          have r1 := Int.emod_lt_of_pos (z - y / 2) h
          have f3 : -170141183460469231731687303715884105728 ≤ (z - y / 2) % y ∧ (z - y / 2) % y < 170141183460469231731687303715884105728 := by omega
          have f4 : -170141183460469231731687303715884105728 ≤ x - (z - y / 2) % y ∧ x - (z - y / 2) % y < 170141183460469231731687303715884105728 := by omega
          have e0 : (x - (z - y / 2)) % y = (x - (z - y / 2) % y) % y := by rw [Int.sub_emod_emod]
          by_cases hs : x - (z - y / 2) % y < 0
          · have e : (x - (z - y / 2)) % y = x - (z - y / 2) % y + y := by
              rw [e0, ← Int.add_emod_right]
              exact Int.emod_eq_of_lt (by omega) (by omega)
            have f5 : -170141183460469231731687303715884105728 ≤ x - (z - y / 2) % y + y ∧ x - (z - y / 2) % y + y < 170141183460469231731687303715884105728 := by omega
            simp [pivot_Near.c, hx, hy, hz, h, h', ha, ha', hb, hb', hl, hl', f1, f2, f3, f4, f5, hs, e]
          · have hs' := Int.not_lt.1 hs
            have e : (x - (z - y / 2)) % y = x - (z - y / 2) % y := by
              rw [e0]
              exact Int.emod_eq_of_lt (by omega) (by omega)
            simp [pivot_Near.c, hx, hy, hz, h, h', ha, ha', hb, hb', hl, hl', f1, f2, f3, f4, hs, hs', e]
        · have hl' := Int.not_le.1 hl
          simp [pivot_Near.c, hx, hy, hz, h, h', ha, ha', hb, hb', hl, hl', f1, f2]
      · have hb' := Int.not_lt.1 hb
        simp [pivot_Near.c, hx, hy, hz, h, h', ha, ha', hb, hb']
    · have ha' := Int.not_le.1 ha
      simp [pivot_Near.c, hx, hy, hz, h, h', ha, ha']
  · have h' := Int.not_lt.1 h
    simp [pivot_Near.c, hx, hy, h, h']
end Go.Proofs.Ytnjipdicfbkfdaa.E

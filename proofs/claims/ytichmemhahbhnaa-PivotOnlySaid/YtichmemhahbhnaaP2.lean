/- The laws of the chapter 18: what their code answers. -/
import Derived.Test.YtichmemhahbhnaaP0
import Derived.Test.YtichmemhahbhnaaP1
set_option linter.unusedVariables false
set_option linter.unusedSimpArgs false
set_option maxHeartbeats 2000000
set_option maxRecDepth 100000
namespace Go.Proofs.Ytichmemhahbhnaa.E
open Go.VC Go.RowKit

abbrev tRNear := s3 coB coB coB (fun f n p => md f ∧ md n ∧ md p ∧ 0 < n) fun f n p => .o (mkB (p - n / 2 + (f - (p - n / 2)) % n))
theorem okRNear : Ok Try.prog 50 tRNear := ok3 (code_mk Try.func50 epactref15_Near.ent epactref15_Near.chk okSpRef) (by simp [epactref15_Near.c]) fun f n p _ _ _ hg => by
  obtain ⟨g1, g2, g3, g4⟩ := hg
  refine ⟨0, ?_⟩
  have s1 := md_sm g1
  have s2 := md_sm g2
  have s3 := md_sm g3
  have s4 : smB 2 := by decide
  unfold md at g1 g2 g3
  have r0 := Int.emod_nonneg (f - (p - n / 2)) (show n ≠ 0 by omega)
  have r1 := Int.emod_lt_of_pos (f - (p - n / 2)) g4
  have s5 : smB (n / 2) := by unfold smB; omega
  have s6 : smB (p - n / 2) := by unfold smB; omega
  have s7 : smB (f - (p - n / 2)) := by unfold smB; omega
  have s8 : smB ((f - (p - n / 2)) % n) := by unfold smB; omega
  have d1 : 65536 * n < 4562440617622195218641171605700291324893228507248559930579192517899275167208677386505912811317371399778642309573594407310688704721375437998252661319722214188251994674360264950082874192246603776 := by omega
  simp [epactref15_Near.c, s1, s2, s3, s4, s5, s6, s7, s8, d1, g4]
theorem okAns18 : Ok Try.prog 47 tTrue := ok0 (code_mk Try.func47 epactlaw18_answers.ent epactlaw18_answers.chk (specOk_cons okNear (specOk_cons okFold okSpW))) ⟨0, by
  simp [epactlaw18_answers.c]⟩
abbrev spLaw18 : List (Nat × (List AP → Option AV)) := (47, tTrue) :: (50, tRNear) :: (48, tNear) :: (46, tFold) :: spRef
theorem okSpLaw18 : SpecOk Try.prog (spOf spLaw18) := specOk_cons okAns18 (specOk_cons okRNear (specOk_cons okNear (specOk_cons okFold okSpRef)))
theorem mPivotFolds : MeetsAll Try.prog 14 lawWW := all2 (code_mk Try.func14 epactlaw18_PivotFolds.ent epactlaw18_PivotFolds.chk okSpLaw18) (by simp [epactlaw18_PivotFolds.c]) fun x d hx hd _ => by
  simp at hx hd
  refine ⟨0, ?_⟩
  have s1 : smB x := by unfold smB; omega
  have s2 : smB d := by unfold smB; omega
  have s0 : smB 0 := by decide
  by_cases h : 0 < d
  · have h' := Int.not_le.2 h
    have r0 := Int.emod_nonneg x (show d ≠ 0 by omega)
    have r1 := Int.emod_lt_of_pos x h
    have d1 : 65536 * d < 4562440617622195218641171605700291324893228507248559930579192517899275167208677386505912811317371399778642309573594407310688704721375437998252661319722214188251994674360264950082874192246603776 := by omega
    have f1 : -170141183460469231731687303715884105728 ≤ x % d ∧ x % d < 170141183460469231731687303715884105728 := by omega
    have s4 : smB (x % d) := by unfold smB; omega
    simp [epactlaw18_PivotFolds.c, hx, hd, s0, s1, s2, s4, h, h', f1, d1]
  · have h' := Int.not_lt.1 h
    simp [epactlaw18_PivotFolds.c, hx, hd, s0, s1, s2, h, h']
theorem mPivotNear : MeetsAll Try.prog 15 lawWWW := all3 (code_mk Try.func15 epactlaw18_PivotNear.ent epactlaw18_PivotNear.chk okSpLaw18) (by simp [epactlaw18_PivotNear.c]) fun f n p hf hn hp _ => by
  simp at hf hn hp
  refine ⟨0, ?_⟩
  have s1 : smB f := by unfold smB; omega
  have s2 : smB n := by unfold smB; omega
  have s3 : smB p := by unfold smB; omega
  have s0 : smB 0 := by decide
  have s4 : smB 2 := by decide
  have m1 : md f := by unfold md; omega
  have m2 : md n := by unfold md; omega
  have m3 : md p := by unfold md; omega
  by_cases h : 0 < n
  · have h' := Int.not_le.2 h
    by_cases ha : 0 ≤ f
    · have ha' := Int.not_lt.2 ha
      by_cases hb : f < n
      · have hb' := Int.not_le.2 hb
        have r0 := Int.emod_nonneg (f - (p - n / 2)) (show n ≠ 0 by omega)
        have r1 := Int.emod_lt_of_pos (f - (p - n / 2)) h
        have f2 : p - n / 2 < 170141183460469231731687303715884105728 := by omega
        have s5 : smB (n / 2) := by unfold smB; omega
        have s6 : smB (p - n / 2) := by unfold smB; omega
        have s7 : smB (p - n / 2 + (f - (p - n / 2)) % n) := by unfold smB; omega
        by_cases hl : -170141183460469231731687303715884105728 ≤ p - n / 2
        · have hl' := Int.not_lt.2 hl
          by_cases hw : -170141183460469231731687303715884105728 ≤ p - n / 2 + (f - (p - n / 2)) % n ∧ p - n / 2 + (f - (p - n / 2)) % n < 170141183460469231731687303715884105728
          · simp [epactlaw18_PivotNear.c, hf, hn, hp, s0, s1, s2, s3, s4, s5, s6, s7, m1, m2, m3, h, h', ha, ha', hb, hb', hl, hl', hw, f2]
          · simp [epactlaw18_PivotNear.c, hf, hn, hp, s0, s1, s2, s3, s4, s5, s6, s7, m1, m2, m3, h, h', ha, ha', hb, hb', hl, hl', hw, f2]
        · have hl' := Int.not_le.1 hl
          simp [epactlaw18_PivotNear.c, hf, hn, hp, s0, s1, s2, s3, s4, s5, s6, s7, m1, m2, m3, h, h', ha, ha', hb, hb', hl, hl', f2]
      · have hb' := Int.not_lt.1 hb
        simp [epactlaw18_PivotNear.c, hf, hn, hp, s0, s1, s2, s3, h, h', ha, ha', hb, hb']
    · have ha' := Int.not_le.1 ha
      simp [epactlaw18_PivotNear.c, hf, hn, hp, s0, s1, s2, s3, h, h', ha, ha']
  · have h' := Int.not_lt.1 h
    simp [epactlaw18_PivotNear.c, hf, hn, hp, s0, s1, s2, s3, h, h']
theorem mPivotOnly : MeetsAll Try.prog 16 lawWWW := all3 (code_mk Try.func16 epactlaw18_PivotOnly.ent epactlaw18_PivotOnly.chk okSpLaw18) (by simp [epactlaw18_PivotOnly.c]) fun x n p hx hn hp _ => by
  simp at hx hn hp
  refine ⟨0, ?_⟩
  have s1 : smB x := by unfold smB; omega
  have s2 : smB n := by unfold smB; omega
  have s3 : smB p := by unfold smB; omega
  have s4 : smB 2 := by decide
  by_cases h : 0 < n
  · have h' := Int.not_le.2 h
    have r0 := Int.emod_nonneg x (show n ≠ 0 by omega)
    have r1 := Int.emod_lt_of_pos x h
    have f1 : -170141183460469231731687303715884105728 ≤ x % n ∧ x % n < 170141183460469231731687303715884105728 := by omega
    have ha := Int.not_lt.2 r0
    have hb := Int.not_le.2 r1
    have f2 : p - n / 2 < 170141183460469231731687303715884105728 := by omega
    have s5 : smB (n / 2) := by unfold smB; omega
    have s6 : smB (p - n / 2) := by unfold smB; omega
    have s7 : smB (p - n / 2 + n) := by unfold smB; omega
    by_cases hl : -170141183460469231731687303715884105728 ≤ p - n / 2
    · have hl' := Int.not_lt.2 hl
      have e0 : (x % n - (p - n / 2)) % n = (x - (p - n / 2)) % n := by rw [Int.emod_sub_emod]
      have t0 := Int.emod_nonneg (x - (p - n / 2)) (show n ≠ 0 by omega)
      have t1 := Int.emod_lt_of_pos (x - (p - n / 2)) h
      have e1 : (p - n / 2 + (x - (p - n / 2)) % n) % n = x % n := by
        rw [Int.add_emod_emod]; congr 1; omega
      have e2 : 0 ≤ x - (p - n / 2) → x - (p - n / 2) < n → (x - (p - n / 2)) % n = x - (p - n / 2) := fun h1 h2 => Int.emod_eq_of_lt h1 h2
      generalize hlow : p - n / 2 = low at *
      generalize ht : (x - low) % n = t at *
      have s8 : smB (low + t) := by unfold smB; omega
      have c1 : low + t < low + n := by omega
      have c2 : low ≤ low + t := by omega
      by_cases hw : -170141183460469231731687303715884105728 ≤ low + t ∧ low + t < 170141183460469231731687303715884105728
      · by_cases hin1 : low ≤ x
        · by_cases hin2 : x < low + n
          · have e3 : low + t = x := by have := e2 (by omega) (by omega); omega
            simp [epactlaw18_PivotOnly.c, hx, hn, hp, s1, s2, s3, s4, s5, s6, s7, s8, h, h', ha, hb, hl, hl', hw, f1, f2, e0, e1, hlow, ht, hin1, hin2, e3, c1, c2]
          · have e3 : low + t ≠ x := by omega
            simp [epactlaw18_PivotOnly.c, hx, hn, hp, s1, s2, s3, s4, s5, s6, s7, s8, h, h', ha, hb, hl, hl', hw, f1, f2, e0, e1, hlow, ht, hin1, hin2, e3, c1, c2]
        · have e3 : low + t ≠ x := by omega
          simp [epactlaw18_PivotOnly.c, hx, hn, hp, s1, s2, s3, s4, s5, s6, s7, s8, h, h', ha, hb, hl, hl', hw, f1, f2, e0, e1, hlow, ht, hin1, e3, c1, c2]
      · simp [epactlaw18_PivotOnly.c, hx, hn, hp, s1, s2, s3, s4, s5, s6, s7, s8, h, h', ha, hb, hl, hl', hw, f1, f2, e0, e1, hlow, ht]
    · have hl' := Int.not_le.1 hl
      simp [epactlaw18_PivotOnly.c, hx, hn, hp, h, h', ha, hb, hl, hl', f1, f2]
  · have h' := Int.not_lt.1 h
    simp [epactlaw18_PivotOnly.c, hx, hn, hp, h, h']
end Go.Proofs.Ytichmemhahbhnaa.E

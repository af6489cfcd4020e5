/- What the reference says of GPS forms, and the laws of the chapter 21. -/
import Derived.Test.YtnjipdicfbkfdaaGP1
set_option linter.unusedVariables false
set_option linter.unusedSimpArgs false
set_option maxHeartbeats 4000000
set_option maxRecDepth 100000
namespace Go.Proofs.Ytnjipdicfbkfdaa.E
open Go.VC Go.RowKit

abbrev tFromGps := s3 coI coY coB (fun _ _ p => -170141183460469231731687303715884105728 ≤ p ∧ p < 170141183460469231731687303715884105728) fun bits b p => gDec bits b p
theorem okFromGps : Ok Try.prog 32 tFromGps := ok3 (code_mk Try.func32 epactref19_FromGps.ent epactref19_FromGps.chk (specOk_cons okNumber (specOk_cons okAbout (specOk_cons okPow2 okSpRef)))) (by simp [epactref19_FromGps.c]) fun bits b p hbits hb _ hp => by
  simp at hbits hb
  refine ⟨0, ?_⟩
  have b1 := allB_take 2 hb
  have b2 := allB_drop 2 hb
  have mp := w_md hp
  have t1 : smB 1024 := by decide
  have t2 : smB 8192 := by decide
  have t3 : smB 604800 := by decide
  have t4 : smB 1000000000000000 := by decide
  have t5 : smB 1000000000 := by decide
  have t6 : smB 1000000000000000000 := by decide
  have t7 : smB 604800000000000000000000 := by decide
  by_cases h1 : bits = 10
  · subst h1
    by_cases hl : b.length = 6
    · obtain ⟨⟨n0, n1⟩, n2, n3⟩ := drop_rng hb 4 hl
      have n3 : num (b.drop 2) < 4294967296 := n3
      have tk : List.take 6 b = b := List.take_of_length_le (by omega)
      have s1 : smB (num (b.take 2)) := by unfold smB; omega
      have s2 : smB (num (b.drop 2)) := by unfold smB; omega
      have s3 : smB (num (b.drop 2) * 1000000000000000) := by unfold smB; omega
      have s4 : smB (num (b.take 2) * 604800000000000000000000) := by unfold smB; omega
      have eV : num (b.take 2) * 604800000000000000000000 + num (b.drop 2) * 1000000000000000 = gval 1000000000000000 b := by unfold gval; omega
      have m1 : md (gval 1000000000000000 b) := by unfold gval md; omega
      have m2 : md 619315200000000000000000000 := by decide
      by_cases hw : num (b.take 2) < 1024
      · have hw' := Int.not_le.2 hw
        by_cases hu : num (b.drop 2) < 604800000
        · have hu' : ¬ 604800000000000000000000 ≤ num (b.drop 2) * 1000000000000000 := by omega
          have g : gOk 1024 6 1000000000000000 1000 b := ⟨hl, hw, hu⟩
          by_cases ha : abOk (gval 1000000000000000 b) 619315200000000000000000000 p
          · simp [epactref19_FromGps.c, hp, hl, b1, b2, tk, mp, t1, t2, t3, t4, t5, t6, t7, s1, s2, s3, s4, eV, m1, m2, hw, hw', hu', g, q10, q13, ha]
          · simp [epactref19_FromGps.c, hp, hl, b1, b2, tk, mp, t1, t2, t3, t4, t5, t6, t7, s1, s2, s3, s4, eV, m1, m2, hw, hw', hu', g, q10, q13, ha]
        · have hu' : 604800000000000000000000 ≤ num (b.drop 2) * 1000000000000000 := by omega
          have g : ¬ gOk 1024 6 1000000000000000 1000 b := fun h => hu h.2.2
          simp [epactref19_FromGps.c, hp, hl, b1, b2, tk, mp, t1, t2, t3, t4, t5, t6, t7, s1, s2, s3, s4, hw, hw', hu', g, q10, q13]
      · have hw' := Int.not_lt.1 hw
        have g : ¬ gOk 1024 6 1000000000000000 1000 b := fun h => hw h.2.1
        simp [epactref19_FromGps.c, hp, hl, b1, b2, tk, mp, t1, t2, t3, t4, t5, t6, t7, s1, s2, s3, s4, hw, hw', g, q10, q13]
    · have hl' : ¬ (b.length : Int) = 6 := by omega
      have g : ¬ gOk 1024 6 1000000000000000 1000 b := fun h => hl h.1
      simp [epactref19_FromGps.c, hp, hl, hl', g]
  · by_cases h2 : bits = 13
    · subst h2
      by_cases hl : b.length = 10
      · obtain ⟨⟨n0, n1⟩, n2, n3⟩ := drop_rng hb 8 hl
        have n3 : num (b.drop 2) < 18446744073709551616 := n3
        have tk : List.take 10 b = b := List.take_of_length_le (by omega)
        have s1 : smB (num (b.take 2)) := by unfold smB; omega
        have s2 : smB (num (b.drop 2)) := by unfold smB; omega
        have s3 : smB (num (b.drop 2) * 1000000000) := by unfold smB; omega
        have s4 : smB (num (b.take 2) * 604800000000000000000000) := by unfold smB; omega
        have eV : num (b.take 2) * 604800000000000000000000 + num (b.drop 2) * 1000000000 = gval 1000000000 b := by unfold gval; omega
        have m1 : md (gval 1000000000 b) := by unfold gval md; omega
        have m2 : md 4954521600000000000000000000 := by decide
        by_cases hw : num (b.take 2) < 8192
        · have hw' := Int.not_le.2 hw
          by_cases hu : num (b.drop 2) < 604800000000000
          · have hu' : ¬ 604800000000000000000000 ≤ num (b.drop 2) * 1000000000 := by omega
            have g : gOk 8192 10 1000000000 1000000000 b := ⟨hl, hw, hu⟩
            by_cases ha : abOk (gval 1000000000 b) 4954521600000000000000000000 p
            · simp [epactref19_FromGps.c, hp, hl, b1, b2, tk, mp, t1, t2, t3, t4, t5, t6, t7, s1, s2, s3, s4, eV, m1, m2, hw, hw', hu', g, q10, q13, ha]
            · simp [epactref19_FromGps.c, hp, hl, b1, b2, tk, mp, t1, t2, t3, t4, t5, t6, t7, s1, s2, s3, s4, eV, m1, m2, hw, hw', hu', g, q10, q13, ha]
          · have hu' : 604800000000000000000000 ≤ num (b.drop 2) * 1000000000 := by omega
            have g : ¬ gOk 8192 10 1000000000 1000000000 b := fun h => hu h.2.2
            simp [epactref19_FromGps.c, hp, hl, b1, b2, tk, mp, t1, t2, t3, t4, t5, t6, t7, s1, s2, s3, s4, hw, hw', hu', g, q10, q13]
        · have hw' := Int.not_lt.1 hw
          have g : ¬ gOk 8192 10 1000000000 1000000000 b := fun h => hw h.2.1
          simp [epactref19_FromGps.c, hp, hl, b1, b2, tk, mp, t1, t2, t3, t4, t5, t6, t7, s1, s2, s3, s4, hw, hw', g, q10, q13]
      · have hl' : ¬ (b.length : Int) = 10 := by omega
        have g : ¬ gOk 8192 10 1000000000 1000000000 b := fun h => hl h.1
        simp [epactref19_FromGps.c, hp, hl, hl', g]
    · simp [epactref19_FromGps.c, hbits, hb, hp, h1, h2]
/-! ### The laws -/
abbrev lawIW := s2 coI coW Tt2 fun _ _ => .o (bv true)
abbrev lawTW := s2 coT coW Tt2 fun _ _ => .o (bv true)
abbrev lawIYW := s3 coI coY coW Tt3 fun _ _ _ => .o (bv true)
theorem okAns21 : Ok Try.prog 26 tTrue := ok0 (code_mk Try.func26 epactlaw21_answers.ent epactlaw21_answers.chk (specOk_cons okWeek (specOk_cons okGEnc (specOk_cons okGDec okSpW)))) ⟨0, by
  have e1 : gform 1024 4 1000000000000000 1000 604801000000000000000000 = [0, 1, 0, 0, 3, 232] := by decide
  have e2 : gw 604801000000000000000000 = 1 := by decide
  have e3 : gs 604801000000000000000000 = 1 := by decide
  have e4 : ga 604801000000000000000000 = 0 := by decide
  have e5 : gOk 1024 6 1000000000000000 1000 [0, 1, 0, 0, 3, 232] := by decide
  have e6 : abOk (gval 1000000000000000 [0, 1, 0, 0, 3, 232]) 619315200000000000000000000 604801000000000000000000 := by decide
  have e7 : abo (gval 1000000000000000 [0, 1, 0, 0, 3, 232]) 619315200000000000000000000 604801000000000000000000 = 604801000000000000000000 := by decide
  have b1 : allB [0, 1, 0, 0, 3, 232] := by decide
  simp [epactlaw21_answers.c, e1, e2, e3, e4, e5, e6, e7, b1]
  rw [ByteArray.toList_eq]
  rfl⟩
abbrev spLaw21 : List (Nat × (List AP → Option AV)) := (26, tTrue) :: (20, tWeek) :: (28, tGEnc) :: (31, tGDec) :: (29, tRGps) :: (32, tFromGps) :: (21, tCut) :: (30, tSame8) :: (25, tSmall) :: spRef
theorem okSpLaw21 : SpecOk Try.prog (spOf spLaw21) := specOk_cons okAns21 (specOk_cons okWeek (specOk_cons okGEnc (specOk_cons okGDec (specOk_cons okRGps (specOk_cons okFromGps (specOk_cons okCut (specOk_cons okSame8 (specOk_cons okSmall okSpRef))))))))
theorem mGpsWeeks : MeetsAll Try.prog 3 lawW := all1 (code_mk Try.func3 epactlaw21_GpsWeeks.ent epactlaw21_GpsWeeks.chk okSpLaw21) (by simp [epactlaw21_GpsWeeks.c]) fun n hn _ => by
  simp at hn
  refine ⟨0, ?_⟩
  have m := w_md hn
  obtain ⟨⟨w0, w1⟩, ⟨c0, c1⟩, a0, a1⟩ := g_rng hn
  simp only [gw, gs, ga] at w0 w1 c0 c1 a0 a1
  have s0 : smB (n / 1000000000000000000) := by unfold smB; omega
  have s1 : smB 604800 := by decide
  have s2 : smB (n / 1000000000000000000 / 604800) := by unfold smB; omega
  have s3 : smB (n / 1000000000000000000 % 604800) := by unfold smB; omega
  have f1 : -9223372036854775808 ≤ n / 1000000000000000000 / 604800 ∧ n / 1000000000000000000 / 604800 < 9223372036854775808 := by omega
  have f2 : -9223372036854775808 ≤ n / 1000000000000000000 % 604800 ∧ n / 1000000000000000000 % 604800 < 9223372036854775808 := by omega
  simp [epactlaw21_GpsWeeks.c, hn, m, s0, s1, s2, s3, f1, f2, gw, gs, ga]
theorem allB_gform (wk : Int) (k : Nat) (u ps n : Int) : allB (gform wk k u ps n) := allB_app (allB_oct _ _) (allB_oct _ _)
attribute [simp] allB_gform
theorem mGpsEncodes : MeetsAll Try.prog 4 lawIW := all2 (code_mk Try.func4 epactlaw21_GpsEncodes.ent epactlaw21_GpsEncodes.chk okSpLaw21) (by simp [epactlaw21_GpsEncodes.c]) fun bits n hb hn _ => by
  simp at hb hn
  refine ⟨0, ?_⟩
  by_cases h1 : bits = 10
  · simp [epactlaw21_GpsEncodes.c, hn, h1]
  · by_cases h2 : bits = 13
    · simp [epactlaw21_GpsEncodes.c, hn, h2]
    · simp [epactlaw21_GpsEncodes.c, hb, hn, h1, h2]
theorem mGpsDecodes : MeetsAll Try.prog 5 lawIYW := all3 (code_mk Try.func5 epactlaw21_GpsDecodes.ent epactlaw21_GpsDecodes.chk okSpLaw21) (by simp [epactlaw21_GpsDecodes.c]) fun bits b p hbits hb hp _ => by
  simp at hbits hb hp
  refine ⟨0, ?_⟩
  by_cases h1 : bits = 10
  · subst h1
    by_cases g : gOk 1024 6 1000000000000000 1000 b
    · by_cases ha : abOk (gval 1000000000000000 b) 619315200000000000000000000 p <;> simp [epactlaw21_GpsDecodes.c, hb, hp, g, ha]
    · simp [epactlaw21_GpsDecodes.c, hb, hp, g]
  · by_cases h2 : bits = 13
    · subst h2
      by_cases g : gOk 8192 10 1000000000 1000000000 b
      · by_cases ha : abOk (gval 1000000000 b) 4954521600000000000000000000 p <;> simp [epactlaw21_GpsDecodes.c, hb, hp, g, ha]
      · simp [epactlaw21_GpsDecodes.c, hb, hp, g]
    · simp [epactlaw21_GpsDecodes.c, hbits, hb, hp, h1, h2]
/-- The form 10: what is encoded is read again. -/
theorem back10 {n : Int} (hn : -170141183460469231731687303715884105728 ≤ n ∧ n < 170141183460469231731687303715884105728) : gOk 1024 6 1000000000000000 1000 (gform 1024 4 1000000000000000 1000 n) ∧ abo (gval 1000000000000000 (gform 1024 4 1000000000000000 1000 n)) 619315200000000000000000000 n = n / 1000000000000000 * 1000000000000000 := by
  obtain ⟨⟨w0, w1⟩, ⟨c0, c1⟩, a0, a1⟩ := g_rng hn
  have l1 := oct_len 2 (gw n % 1024)
  have l2 := oct_len 4 (gs n * 1000 + ga n / 1000000000000000)
  have t1 : List.take 2 (gform 1024 4 1000000000000000 1000 n) = oct (gw n % 1024) 2 := by unfold gform; rw [List.take_append_of_le_length (by omega), List.take_of_length_le (by omega)]
  have t2 : List.drop 2 (gform 1024 4 1000000000000000 1000 n) = oct (gs n * 1000 + ga n / 1000000000000000) 4 := by unfold gform; rw [List.drop_append_of_le_length (by omega), List.drop_eq_nil_of_le (by omega), List.nil_append]
  have v1 : num (oct (gw n % 1024) 2) = gw n % 1024 := by
    rw [num_oct]; show gw n % 1024 % 65536 = _; omega
  have v2 : num (oct (gs n * 1000 + ga n / 1000000000000000) 4) = gs n * 1000 + ga n / 1000000000000000 := by
    rw [num_oct]; show (gs n * 1000 + ga n / 1000000000000000) % 4294967296 = _; omega
  have l3 : (gform 1024 4 1000000000000000 1000 n).length = 6 := by unfold gform; rw [List.length_append, l1, l2]
  refine ⟨⟨l3, by rw [t1, v1]; omega, by rw [t2, v2]; omega⟩, abo_only (by decide) ?_ (by omega) (by omega)⟩
  unfold gval
  rw [t1, t2, v1, v2]
  have hs := g_sum n
  have hu : ga n / 1000000000000000 * 1000000000000000 = n / 1000000000000000 * 1000000000000000 - (gw n * 604800 + gs n) * 1000000000000000000 := by unfold gw gs ga; omega
  generalize gw n = w at *
  generalize gs n = c at *
  generalize ga n = a at *
  omega
/-- What is read is encoded the same. -/
theorem same10 {b : List Int} {n : Int} (hb : allB b) (g : gOk 1024 6 1000000000000000 1000 b) (h : n % 619315200000000000000000000 = gval 1000000000000000 b % 619315200000000000000000000) : gform 1024 4 1000000000000000 1000 n = b := by
  obtain ⟨hl, hw, hu⟩ := g
  obtain ⟨⟨n0, n1⟩, n2, n3⟩ := drop_rng hb 4 hl
  have o1 := oct_num (allB_take 2 hb)
  have o2 := oct_num (allB_drop 2 hb)
  rw [List.length_take, hl] at o1
  rw [List.length_drop, hl] at o2
  have o1 : oct (num (b.take 2)) 2 = b.take 2 := o1
  have o2 : oct (num (b.drop 2)) 4 = b.drop 2 := o2
  unfold gval at h
  have e1 : gw n % 1024 = num (b.take 2) := by unfold gw; omega
  have e2 : gs n * 1000 + ga n / 1000000000000000 = num (b.drop 2) := by unfold gs ga; omega
  unfold gform
  rw [e1, e2, o1, o2, List.take_append_drop]
/-- The form 13: what is encoded is read again. -/
theorem back13 {n : Int} (hn : -170141183460469231731687303715884105728 ≤ n ∧ n < 170141183460469231731687303715884105728) : gOk 8192 10 1000000000 1000000000 (gform 8192 8 1000000000 1000000000 n) ∧ abo (gval 1000000000 (gform 8192 8 1000000000 1000000000 n)) 4954521600000000000000000000 n = n / 1000000000 * 1000000000 := by
  obtain ⟨⟨w0, w1⟩, ⟨c0, c1⟩, a0, a1⟩ := g_rng hn
  have l1 := oct_len 2 (gw n % 8192)
  have l2 := oct_len 8 (gs n * 1000000000 + ga n / 1000000000)
  have t1 : List.take 2 (gform 8192 8 1000000000 1000000000 n) = oct (gw n % 8192) 2 := by unfold gform; rw [List.take_append_of_le_length (by omega), List.take_of_length_le (by omega)]
  have t2 : List.drop 2 (gform 8192 8 1000000000 1000000000 n) = oct (gs n * 1000000000 + ga n / 1000000000) 8 := by unfold gform; rw [List.drop_append_of_le_length (by omega), List.drop_eq_nil_of_le (by omega), List.nil_append]
  have v1 : num (oct (gw n % 8192) 2) = gw n % 8192 := by
    rw [num_oct]; show gw n % 8192 % 65536 = _; omega
  have v2 : num (oct (gs n * 1000000000 + ga n / 1000000000) 8) = gs n * 1000000000 + ga n / 1000000000 := by
    rw [num_oct]; show (gs n * 1000000000 + ga n / 1000000000) % 18446744073709551616 = _; omega
  have l3 : (gform 8192 8 1000000000 1000000000 n).length = 10 := by unfold gform; rw [List.length_append, l1, l2]
  refine ⟨⟨l3, by rw [t1, v1]; omega, by rw [t2, v2]; omega⟩, abo_only (by decide) ?_ (by omega) (by omega)⟩
  unfold gval
  rw [t1, t2, v1, v2]
  have hs := g_sum n
  have hu : ga n / 1000000000 * 1000000000 = n / 1000000000 * 1000000000 - (gw n * 604800 + gs n) * 1000000000000000000 := by unfold gw gs ga; omega
  generalize gw n = w at *
  generalize gs n = c at *
  generalize ga n = a at *
  omega
/-- What is read is encoded the same. -/
theorem same13 {b : List Int} {n : Int} (hb : allB b) (g : gOk 8192 10 1000000000 1000000000 b) (h : n % 4954521600000000000000000000 = gval 1000000000 b % 4954521600000000000000000000) : gform 8192 8 1000000000 1000000000 n = b := by
  obtain ⟨hl, hw, hu⟩ := g
  obtain ⟨⟨n0, n1⟩, n2, n3⟩ := drop_rng hb 8 hl
  have o1 := oct_num (allB_take 2 hb)
  have o2 := oct_num (allB_drop 2 hb)
  rw [List.length_take, hl] at o1
  rw [List.length_drop, hl] at o2
  have o1 : oct (num (b.take 2)) 2 = b.take 2 := o1
  have o2 : oct (num (b.drop 2)) 8 = b.drop 2 := o2
  unfold gval at h
  have e1 : gw n % 8192 = num (b.take 2) := by unfold gw; omega
  have e2 : gs n * 1000000000 + ga n / 1000000000 = num (b.drop 2) := by unfold gs ga; omega
  unfold gform
  rw [e1, e2, o1, o2, List.take_append_drop]
theorem mGpsFloors : MeetsAll Try.prog 6 lawTW := all2 (code_mk Try.func6 epactlaw21_GpsFloors.ent epactlaw21_GpsFloors.chk okSpLaw21) (by simp [epactlaw21_GpsFloors.c]) fun long n _ hn _ => by
  simp at hn
  refine ⟨0, ?_⟩
  have s0 := md_sm (w_md hn)
  have s1 : smB 1000000000000000 := by decide
  have s2 : smB 1000000000 := by decide
  have s3 : smB (n / 1000000000000000) := by unfold smB; omega
  have s4 : smB (n / 1000000000) := by unfold smB; omega
  have s5 : smB (n / 1000000000000000 * 1000000000000000) := by unfold smB; omega
  have s6 : smB (n / 1000000000 * 1000000000) := by unfold smB; omega
  cases long with
  | true =>
    obtain ⟨g, e⟩ := back13 hn
    by_cases ha : abOk (gval 1000000000 (gform 8192 8 1000000000 1000000000 n)) 4954521600000000000000000000 n
    · have f := ha.2
      rw [e] at f
      simp [epactlaw21_GpsFloors.c, hn, g, e, ha, f, s0, s1, s2, s3, s4, s5, s6]
    · simp [epactlaw21_GpsFloors.c, hn, g, ha]
  | false =>
    obtain ⟨g, e⟩ := back10 hn
    by_cases ha : abOk (gval 1000000000000000 (gform 1024 4 1000000000000000 1000 n)) 619315200000000000000000000 n
    · have f := ha.2
      rw [e] at f
      simp [epactlaw21_GpsFloors.c, hn, g, e, ha, f, s0, s1, s2, s3, s4, s5, s6]
    · simp [epactlaw21_GpsFloors.c, hn, g, ha]
theorem mGpsSame : MeetsAll Try.prog 7 lawIYW := all3 (code_mk Try.func7 epactlaw21_GpsSame.ent epactlaw21_GpsSame.chk okSpLaw21) (by simp [epactlaw21_GpsSame.c]) fun bits b p hbits hb hp _ => by
  simp at hbits hb hp
  refine ⟨0, ?_⟩
  by_cases h1 : bits = 10
  · subst h1
    by_cases g : gOk 1024 6 1000000000000000 1000 b
    · by_cases ha : abOk (gval 1000000000000000 b) 619315200000000000000000000 p
      · have e := same10 hb g (abo_mod (f := gval 1000000000000000 b) (p := p) (show (0 : Int) < 619315200000000000000000000 by decide))
        have f := ha.2
        simp [epactlaw21_GpsSame.c, hb, hp, g, ha, f, e]
      · simp [epactlaw21_GpsSame.c, hb, hp, g, ha]
    · simp [epactlaw21_GpsSame.c, hb, hp, g]
  · by_cases h2 : bits = 13
    · subst h2
      by_cases g : gOk 8192 10 1000000000 1000000000 b
      · by_cases ha : abOk (gval 1000000000 b) 4954521600000000000000000000 p
        · have e := same13 hb g (abo_mod (f := gval 1000000000 b) (p := p) (show (0 : Int) < 4954521600000000000000000000 by decide))
          have f := ha.2
          simp [epactlaw21_GpsSame.c, hb, hp, g, ha, f, e]
        · simp [epactlaw21_GpsSame.c, hb, hp, g, ha]
      · simp [epactlaw21_GpsSame.c, hb, hp, g]
    · simp [epactlaw21_GpsSame.c, hbits, hb, hp, h1, h2]
end Go.Proofs.Ytnjipdicfbkfdaa.E

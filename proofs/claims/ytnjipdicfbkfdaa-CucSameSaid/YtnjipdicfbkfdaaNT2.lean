/- What the reference says of NTP forms, and the laws of the chapter 20. -/
import Derived.Test.YtnjipdicfbkfdaaNT1
set_option linter.unusedVariables false
set_option linter.unusedSimpArgs false
set_option maxHeartbeats 4000000
set_option maxRecDepth 100000
namespace Go.Proofs.Ytnjipdicfbkfdaa.E
open Go.VC Go.RowKit

/-- An attosecond's code has an attosecond. -/
theorem cd_hasA {a o : Int} (h0 : 0 ≤ a) (h1 : a < 1000000000000000000) : hasA (cd a o) o ∧ lst (cd a o) o ≤ a ∧ 0 ≤ lst (cd a o) o := by
  have hr := cd_rng (o := o) h0 (Int.le_of_lt h1)
  have hl := cd_lt (o := o) h0 h1
  obtain ⟨l0, l1⟩ := lst_rng hr.1 hl
  have h2 : lst (cd a o) o ≤ a := cd_lst.1 (Int.le_refl _)
  refine ⟨⟨by omega, ?_⟩, h2, l0⟩
  have h3 : cd a o ≤ cd (lst (cd a o) o) o := cd_lst.2 (Int.le_refl _)
  have h4 : cd (lst (cd a o) o) o ≤ cd a o := by
    have hp := pw_pos o
    have := Int.mul_le_mul_of_nonneg_right h2 (Int.le_of_lt hp)
    unfold cd at *
    omega
  omega
theorem cd_lst8 {a o : Int} (h0 : 0 ≤ a) (h1 : a < 1000000000000000000) (ho : 8 ≤ o) : lst (cd a o) o = a := by
  obtain ⟨⟨h2, h3⟩, h4, h5⟩ := cd_hasA (o := o) h0 h1
  have hp := pw_8 ho
  generalize lst (cd a o) o = b at *
  rcases Int.lt_or_le b a with h6 | h6
  · exfalso
    have : (b + 1) * pw o ≤ a * pw o := Int.mul_le_mul_of_nonneg_right (by omega) (by omega)
    rw [Int.add_mul, Int.one_mul] at this
    unfold cd at h3
    omega
  · omega
abbrev tRNtp := s2 coI coB (fun _ n => -170141183460469231731687303715884105728 ≤ n ∧ n < 170141183460469231731687303715884105728) fun b n => nEnc b n
theorem okRNtp : Ok Try.prog 42 tRNtp := ok2 (code_mk Try.func42 epactref19_Ntp.ent epactref19_Ntp.chk (specOk_cons okCut (specOk_cons okSmall (specOk_cons okOctets (specOk_cons okJoin8 (specOk_cons okRFold (specOk_cons okRCode okSpRef))))))) (by simp [epactref19_Ntp.c]) fun b n hb _ hn => by
  simp at hb
  refine ⟨0, ?_⟩
  have m0 := w_md hn
  have s0 : smB (n / 1000000000000000000) := by unfold smB; omega
  have m1 : md (n / 1000000000000000000) := by unfold md; omega
  have a0 : 0 ≤ n % 1000000000000000000 := by omega
  have a1 : n % 1000000000000000000 < 1000000000000000000 := by omega
  have a2 := Int.le_of_lt a1
  have f2 : -9223372036854775808 ≤ n % 1000000000000000000 ∧ n % 1000000000000000000 < 9223372036854775808 := by omega
  by_cases h1 : b = 32
  · subst h1
    have pk : pw 2 = 65536 := rfl
    have x0 : IntKind.i64.wrap 2 = 2 := rfl
    have hc := cd_rng (o := 2) a0 (Int.le_of_lt a1)
    have hl := cd_lt (o := 2) a0 a1
    rw [pk] at hl
    have s1 : smB (n / 1000000000000000000 % 65536) := by unfold smB; omega
    have g1 : 0 ≤ n / 1000000000000000000 % 65536 := by omega
    have s2 : smB (cd (n % 1000000000000000000) 2) := by unfold smB; omega
    have l1 := oct_len 2 (n / 1000000000000000000 % 65536)
    have l2 := oct_len 2 (cd (n % 1000000000000000000) 2)
    by_cases hs : -9223372036854775808 ≤ n / 1000000000000000000 ∧ n / 1000000000000000000 < 9223372036854775808 <;> simp [epactref19_Ntp.c, m0, s0, m1, a0, a1, a2, f2, pk, x0, hc, hl, s1, g1, s2, l1, l2, hs, nform]
  · by_cases h2 : b = 64
    · subst h2
      have pk : pw 4 = 4294967296 := rfl
      have x0 : IntKind.i64.wrap 4 = 4 := rfl
      have hc := cd_rng (o := 4) a0 (Int.le_of_lt a1)
      have hl := cd_lt (o := 4) a0 a1
      rw [pk] at hl
      have s1 : smB (n / 1000000000000000000 % 4294967296) := by unfold smB; omega
      have g1 : 0 ≤ n / 1000000000000000000 % 4294967296 := by omega
      have s2 : smB (cd (n % 1000000000000000000) 4) := by unfold smB; omega
      have l1 := oct_len 4 (n / 1000000000000000000 % 4294967296)
      have l2 := oct_len 4 (cd (n % 1000000000000000000) 4)
      by_cases hs : -9223372036854775808 ≤ n / 1000000000000000000 ∧ n / 1000000000000000000 < 9223372036854775808 <;> simp [epactref19_Ntp.c, m0, s0, m1, a0, a1, a2, f2, pk, x0, hc, hl, s1, g1, s2, l1, l2, hs, nform]
    · by_cases h3 : b = 128
      · subst h3
        have pk : pw 8 = 18446744073709551616 := rfl
        have x0 : IntKind.i64.wrap 8 = 8 := rfl
        have hc := cd_rng (o := 8) a0 (Int.le_of_lt a1)
        have hl := cd_lt (o := 8) a0 a1
        rw [pk] at hl
        have s1 : smB (n / 1000000000000000000 % 18446744073709551616) := by unfold smB; omega
        have g1 : 0 ≤ n / 1000000000000000000 % 18446744073709551616 := by omega
        have s2 : smB (cd (n % 1000000000000000000) 8) := by unfold smB; omega
        have l1 := oct_len 8 (n / 1000000000000000000 % 18446744073709551616)
        have l2 := oct_len 8 (cd (n % 1000000000000000000) 8)
        by_cases hs : -9223372036854775808 ≤ n / 1000000000000000000 ∧ n / 1000000000000000000 < 9223372036854775808 <;> simp [epactref19_Ntp.c, m0, s0, m1, a0, a1, a2, f2, pk, x0, hc, hl, s1, g1, s2, l1, l2, hs, nform]
      · simp [epactref19_Ntp.c, hb, h1, h2, h3]
abbrev tFromNtp := s3 coI coY coB (fun _ _ p => -170141183460469231731687303715884105728 ≤ p ∧ p < 170141183460469231731687303715884105728) fun bits b p => nDec bits b p
theorem q63 : (2 : Int) ^ 63 = 9223372036854775808 := by decide
theorem okFromNtp : Ok Try.prog 45 tFromNtp := ok3 (code_mk Try.func45 epactref19_FromNtp.ent epactref19_FromNtp.chk (specOk_cons okNumber (specOk_cons okLeast (specOk_cons okSeconds (specOk_cons okAbout (specOk_cons okRPower (specOk_cons okPow2 okSpRef))))))) (by simp [epactref19_FromNtp.c]) fun bits b p hbits hb _ hp => by
  simp at hbits hb
  refine ⟨0, ?_⟩
  have mp := w_md hp
  by_cases h1 : bits = 32
  · subst h1
    have pk : pw 2 = 65536 := rfl
    have b1 := allB_take 2 hb
    have b2 := allB_drop 2 hb
    have x0 : IntKind.i64.wrap 4 = 4 := rfl
    have x1 : IntKind.i64.wrap 2 = 2 := rfl
    by_cases hl : b.length = 4
    · obtain ⟨⟨n0, n1⟩, n2, n3⟩ := half_rng hb 2 hl
      have n1 : num (b.take 2) < 65536 := n1
      have n3' : num (b.drop 2) < pw 2 := n3
      have n3 : num (b.drop 2) < 65536 := n3
      obtain ⟨l0, l1⟩ := lst_rng n2 n3'
      have tk : List.take 4 b = b := List.take_of_length_le (by omega)
      by_cases hA : hasA (num (b.drop 2)) 2
      · have hA1 := hA.1
        have f3 : -9223372036854775808 ≤ lst (num (b.drop 2)) 2 ∧ lst (num (b.drop 2)) 2 < 9223372036854775808 := by omega
        have s2 : smB (lst (num (b.drop 2)) 2) := by unfold smB; omega
        have m1 : md (num (b.take 2)) := by unfold md; omega
        have s1 : smB (num (b.take 2) * 1000000000000000000) := by unfold smB; omega
        have m2 : md (num (b.take 2) * 1000000000000000000 + lst (num (b.drop 2)) 2) := by unfold md; omega
        have m3 : md 65536 := by decide
        have m4 : md 65536000000000000000000 := by decide
        by_cases ha : abOk (num (b.take 2) * 1000000000000000000 + lst (num (b.drop 2)) 2) 65536000000000000000000 p
        · simp [epactref19_FromNtp.c, hp, mp, hl, b1, b2, tk, pk, x0, x1, n2, n3, hA, f3, s1, s2, m1, m2, m3, m4, nval, ha]
        · simp [epactref19_FromNtp.c, hp, mp, hl, b1, b2, tk, pk, x0, x1, n2, n3, hA, f3, s1, s2, m1, m2, m3, m4, nval, ha]
      · simp [epactref19_FromNtp.c, hp, mp, hl, b1, b2, tk, pk, x0, x1, n2, n3, hA]
    · have hl' : ¬ (b.length : Int) = 4 := by omega
      simp [epactref19_FromNtp.c, hp, hl, hl', x0, x1]
  · by_cases h2 : bits = 64
    · subst h2
      have pk : pw 4 = 4294967296 := rfl
      have b1 := allB_take 4 hb
      have b2 := allB_drop 4 hb
      have x0 : IntKind.i64.wrap 8 = 8 := rfl
      have x1 : IntKind.i64.wrap 4 = 4 := rfl
      by_cases hl : b.length = 8
      · obtain ⟨⟨n0, n1⟩, n2, n3⟩ := half_rng hb 4 hl
        have n1 : num (b.take 4) < 4294967296 := n1
        have n3' : num (b.drop 4) < pw 4 := n3
        have n3 : num (b.drop 4) < 4294967296 := n3
        obtain ⟨l0, l1⟩ := lst_rng n2 n3'
        have tk : List.take 8 b = b := List.take_of_length_le (by omega)
        by_cases hA : hasA (num (b.drop 4)) 4
        · have hA1 := hA.1
          have f3 : -9223372036854775808 ≤ lst (num (b.drop 4)) 4 ∧ lst (num (b.drop 4)) 4 < 9223372036854775808 := by omega
          have s2 : smB (lst (num (b.drop 4)) 4) := by unfold smB; omega
          have m1 : md (num (b.take 4)) := by unfold md; omega
          have s1 : smB (num (b.take 4) * 1000000000000000000) := by unfold smB; omega
          have m2 : md (num (b.take 4) * 1000000000000000000 + lst (num (b.drop 4)) 4) := by unfold md; omega
          have m3 : md 4294967296 := by decide
          have m4 : md 4294967296000000000000000000 := by decide
          by_cases ha : abOk (num (b.take 4) * 1000000000000000000 + lst (num (b.drop 4)) 4) 4294967296000000000000000000 p
          · simp [epactref19_FromNtp.c, hp, mp, hl, b1, b2, tk, pk, x0, x1, n2, n3, hA, f3, s1, s2, m1, m2, m3, m4, nval, ha]
          · simp [epactref19_FromNtp.c, hp, mp, hl, b1, b2, tk, pk, x0, x1, n2, n3, hA, f3, s1, s2, m1, m2, m3, m4, nval, ha]
        · simp [epactref19_FromNtp.c, hp, mp, hl, b1, b2, tk, pk, x0, x1, n2, n3, hA]
      · have hl' : ¬ (b.length : Int) = 8 := by omega
        simp [epactref19_FromNtp.c, hp, hl, hl', x0, x1]
    · by_cases h3 : bits = 128
      · subst h3
        have pk : pw 8 = 18446744073709551616 := rfl
        have b1 := allB_take 8 hb
        have b2 := allB_drop 8 hb
        have x0 : IntKind.i64.wrap 16 = 16 := rfl
        have x1 : IntKind.i64.wrap 8 = 8 := rfl
        by_cases hl : b.length = 16
        · obtain ⟨⟨n0, n1⟩, n2, n3⟩ := half_rng hb 8 hl
          have n1 : num (b.take 8) < 18446744073709551616 := n1
          have n3' : num (b.drop 8) < pw 8 := n3
          have n3 : num (b.drop 8) < 18446744073709551616 := n3
          obtain ⟨l0, l1⟩ := lst_rng n2 n3'
          have tk : List.take 16 b = b := List.take_of_length_le (by omega)
          by_cases hA : hasA (num (b.drop 8)) 8
          · have hA1 := hA.1
            have f3 : -9223372036854775808 ≤ lst (num (b.drop 8)) 8 ∧ lst (num (b.drop 8)) 8 < 9223372036854775808 := by omega
            have s2 : smB (lst (num (b.drop 8)) 8) := by unfold smB; omega
            have s0 : smB (num (b.take 8)) := by unfold smB; omega
            have s3 : smB 9223372036854775808 := by decide
            have s4 : smB 18446744073709551616 := by decide
            by_cases hi : 9223372036854775808 ≤ num (b.take 8)
            · have hw : IntKind.i64.wrap (num (b.take 8)) = num (b.take 8) - 18446744073709551616 := by rw [IntKind.wrap_i64]; omega
              have m1 : md (num (b.take 8) - 18446744073709551616) := by unfold md; omega
              have s1 : smB ((num (b.take 8) - 18446744073709551616) * 1000000000000000000) := by unfold smB; omega
              have s5 : smB ((num (b.take 8) - 18446744073709551616) * 1000000000000000000 + lst (num (b.drop 8)) 8) := by unfold smB; omega
              have f6 : -170141183460469231731687303715884105728 ≤ (num (b.take 8) - 18446744073709551616) * 1000000000000000000 + lst (num (b.drop 8)) 8 ∧ (num (b.take 8) - 18446744073709551616) * 1000000000000000000 + lst (num (b.drop 8)) 8 < 170141183460469231731687303715884105728 := by omega
              have hi' := Int.not_lt.2 hi
              simp [epactref19_FromNtp.c, hp, mp, hl, b1, b2, tk, pk, x0, x1, n2, n3, hA, f3, f6, s0, s1, s2, s3, s4, s5, m1, q63, q64, hi, hi', hw, nval8]
            · have hi' := Int.not_le.1 hi
              have hw : IntKind.i64.wrap (num (b.take 8)) = num (b.take 8) := by rw [IntKind.wrap_i64]; omega
              have m1 : md (num (b.take 8)) := by unfold md; omega
              have s1 : smB (num (b.take 8) * 1000000000000000000) := by unfold smB; omega
              have s5 : smB (num (b.take 8) * 1000000000000000000 + lst (num (b.drop 8)) 8) := by unfold smB; omega
              have f6 : -170141183460469231731687303715884105728 ≤ num (b.take 8) * 1000000000000000000 + lst (num (b.drop 8)) 8 ∧ num (b.take 8) * 1000000000000000000 + lst (num (b.drop 8)) 8 < 170141183460469231731687303715884105728 := by omega
              simp [epactref19_FromNtp.c, hp, mp, hl, b1, b2, tk, pk, x0, x1, n2, n3, hA, f3, f6, s0, s1, s2, s3, s4, s5, m1, q63, q64, hi, hi', hw, nval8]
          · simp [epactref19_FromNtp.c, hp, mp, hl, b1, b2, tk, pk, x0, x1, n2, n3, hA]
        · have hl' : ¬ (b.length : Int) = 16 := by omega
          simp [epactref19_FromNtp.c, hp, hl, hl', x0, x1]
      · simp [epactref19_FromNtp.c, hbits, hb, hp, h1, h2, h3]
/-! ### The laws -/
abbrev lawIW := s2 coI coW Tt2 fun _ _ => .o (bv true)
abbrev lawIYW := s3 coI coY coW Tt3 fun _ _ _ => .o (bv true)
theorem allB_nform (k : Nat) (n : Int) : allB (nform k n) := allB_app (allB_oct _ _) (allB_oct _ _)
attribute [simp] allB_nform
theorem okAns20 : Ok Try.prog 43 tTrue := ok0 (code_mk Try.func43 epactlaw20_answers.ent epactlaw20_answers.chk (specOk_cons okNEnc (specOk_cons okNDec okSpW))) ⟨0, by
  have e1 : nform 4 1500000000000000000 = [0, 0, 0, 1, 128, 0, 0, 0] := by decide
  have e2 : hasA (num [128, 0, 0, 0]) 4 := by decide
  have e3 : abOk (nval 4 [0, 0, 0, 1, 128, 0, 0, 0]) 4294967296000000000000000000 0 := by decide
  have e4 : abo (nval 4 [0, 0, 0, 1, 128, 0, 0, 0]) 4294967296000000000000000000 0 = 1500000000000000000 := by decide
  have b1 : allB [0, 0, 0, 1, 128, 0, 0, 0] := by decide
  simp [epactlaw20_answers.c, e1, e2, e3, e4, b1]
  rw [ByteArray.toList_eq]
  rfl⟩
abbrev spLaw20 : List (Nat × (List AP → Option AV)) := (43, tTrue) :: (41, tNEnc) :: (44, tNDec) :: (42, tRNtp) :: (45, tFromNtp) :: (30, tSame8) :: (47, tRPower) :: spRef
theorem okSpLaw20 : SpecOk Try.prog (spOf spLaw20) := specOk_cons okAns20 (specOk_cons okNEnc (specOk_cons okNDec (specOk_cons okRNtp (specOk_cons okFromNtp (specOk_cons okSame8 (specOk_cons okRPower okSpRef))))))
theorem mNtpEncodes : MeetsAll Try.prog 12 lawIW := all2 (code_mk Try.func12 epactlaw20_NtpEncodes.ent epactlaw20_NtpEncodes.chk okSpLaw20) (by simp [epactlaw20_NtpEncodes.c]) fun bits n hb hn _ => by
  simp at hb hn
  refine ⟨0, ?_⟩
  by_cases h1 : bits = 32
  · simp [epactlaw20_NtpEncodes.c, hn, h1]
  · by_cases h2 : bits = 64
    · simp [epactlaw20_NtpEncodes.c, hn, h2]
    · by_cases h3 : bits = 128
      · by_cases hs : -9223372036854775808 ≤ n / 1000000000000000000 ∧ n / 1000000000000000000 < 9223372036854775808 <;> simp [epactlaw20_NtpEncodes.c, hn, h3, hs]
      · simp [epactlaw20_NtpEncodes.c, hb, hn, h1, h2, h3]
theorem nval8_fits {b : List Int} (hb : allB b) (hl : b.length = 16) (hA : hasA (num (b.drop 8)) 8) : -170141183460469231731687303715884105728 ≤ nval8 b ∧ nval8 b < 170141183460469231731687303715884105728 := by
  obtain ⟨⟨n0, n1⟩, n2, n3⟩ := half_rng hb 8 hl
  obtain ⟨l0, l1⟩ := lst_rng n2 n3
  have hw : -9223372036854775808 ≤ IntKind.i64.wrap (num (b.take 8)) ∧ IntKind.i64.wrap (num (b.take 8)) < 9223372036854775808 := by rw [IntKind.wrap_i64]; omega
  unfold nval8
  have l0 : 0 ≤ lst (num (b.drop 8)) 8 := l0
  have l1 : lst (num (b.drop 8)) 8 ≤ 1000000000000000000 := l1
  omega
theorem mNtpDecodes : MeetsAll Try.prog 13 lawIYW := all3 (code_mk Try.func13 epactlaw20_NtpDecodes.ent epactlaw20_NtpDecodes.chk okSpLaw20) (by simp [epactlaw20_NtpDecodes.c]) fun bits b p hbits hb hp _ => by
  simp at hbits hb hp
  refine ⟨0, ?_⟩
  by_cases h1 : bits = 32
  · subst h1
    by_cases hl : b.length = 4
    · by_cases hA : hasA (num (b.drop 2)) 2
      · by_cases ha : abOk (nval 2 b) 65536000000000000000000 p <;> simp [epactlaw20_NtpDecodes.c, hb, hp, hl, hA, ha]
      · simp [epactlaw20_NtpDecodes.c, hb, hp, hl, hA]
    · simp [epactlaw20_NtpDecodes.c, hb, hp, hl]
  · by_cases h2 : bits = 64
    · subst h2
      by_cases hl : b.length = 8
      · by_cases hA : hasA (num (b.drop 4)) 4
        · by_cases ha : abOk (nval 4 b) 4294967296000000000000000000 p <;> simp [epactlaw20_NtpDecodes.c, hb, hp, hl, hA, ha]
        · simp [epactlaw20_NtpDecodes.c, hb, hp, hl, hA]
      · simp [epactlaw20_NtpDecodes.c, hb, hp, hl]
    · by_cases h3 : bits = 128
      · subst h3
        by_cases hl : b.length = 16
        · by_cases hA : hasA (num (b.drop 8)) 8
          · have f := nval8_fits hb hl hA
            simp [epactlaw20_NtpDecodes.c, hb, hp, hl, hA, f]
          · simp [epactlaw20_NtpDecodes.c, hb, hp, hl, hA]
        · simp [epactlaw20_NtpDecodes.c, hb, hp, hl]
      · simp [epactlaw20_NtpDecodes.c, hbits, hb, hp, h1, h2, h3]
/-- Of 32 bits: what is encoded. -/
theorem nparts2 (n : Int) : (nform 2 n).length = 4 ∧ num ((nform 2 n).take 2) = n / 1000000000000000000 % 65536 ∧ num ((nform 2 n).drop 2) = cd (n % 1000000000000000000) 2 := by
  have l1 := oct_len 2 (n / 1000000000000000000 % 65536)
  have l2 := oct_len 2 (cd (n % 1000000000000000000) 2)
  have t0 : nform 2 n = oct (n / 1000000000000000000 % 65536) 2 ++ oct (cd (n % 1000000000000000000) 2) 2 := rfl
  have t1 : List.take 2 (nform 2 n) = oct (n / 1000000000000000000 % 65536) 2 := by rw [t0, List.take_append_of_le_length (by omega), List.take_of_length_le (by omega)]
  have t2 : List.drop 2 (nform 2 n) = oct (cd (n % 1000000000000000000) 2) 2 := by rw [t0, List.drop_append_of_le_length (by omega), List.drop_eq_nil_of_le (by omega), List.nil_append]
  have hc := cd_rng (a := n % 1000000000000000000) (o := 2) (by omega) (by omega)
  have hl := cd_lt (a := n % 1000000000000000000) (o := 2) (by omega) (by omega)
  have pk : pw 2 = 65536 := rfl
  refine ⟨by rw [t0, List.length_append, l1, l2], ?_, ?_⟩
  · rw [t1, num_oct]; show n / 1000000000000000000 % 65536 % 65536 = _; omega
  · rw [t2, num_oct]; exact Int.emod_eq_of_lt hc.1 hl
/-- Later than n less the resolution. -/
theorem fine2 (n : Int) : (n % 1000000000000000000 - lst (cd (n % 1000000000000000000) 2) 2) * 65536 < 1000000000000000000 ∧ 0 ≤ lst (cd (n % 1000000000000000000) 2) 2 ∧ lst (cd (n % 1000000000000000000) 2) 2 ≤ n % 1000000000000000000 := by
  obtain ⟨⟨h1, h2⟩, h3, h4⟩ := cd_hasA (a := n % 1000000000000000000) (o := 2) (by omega) (by omega)
  refine ⟨?_, h4, h3⟩
  have pk : pw 2 = 65536 := rfl
  have e1 : cd (lst (cd (n % 1000000000000000000) 2) 2) 2 = lst (cd (n % 1000000000000000000) 2) 2 * 65536 / 1000000000000000000 := rfl
  have e2 : cd (n % 1000000000000000000) 2 = n % 1000000000000000000 * 65536 / 1000000000000000000 := rfl
  generalize hL : lst (cd (n % 1000000000000000000) 2) 2 = L at *
  generalize hc : cd (n % 1000000000000000000) 2 = c at *
  omega
theorem nback2 (n : Int) : hasA (cd (n % 1000000000000000000) 2) 2 ∧ nval 2 (nform 2 n) = n / 1000000000000000000 % 65536 * 1000000000000000000 + lst (cd (n % 1000000000000000000) 2) 2 ∧ abo (nval 2 (nform 2 n)) 65536000000000000000000 n = n / 1000000000000000000 * 1000000000000000000 + lst (cd (n % 1000000000000000000) 2) 2 := by
  obtain ⟨h0, h1, h2⟩ := nparts2 n
  obtain ⟨h3, h4, h5⟩ := fine2 n
  have e : nval 2 (nform 2 n) = n / 1000000000000000000 % 65536 * 1000000000000000000 + lst (cd (n % 1000000000000000000) 2) 2 := by unfold nval; rw [h1, h2]; rfl
  refine ⟨(cd_hasA (by omega) (by omega)).1, e, ?_⟩
  rw [e]
  generalize lst (cd (n % 1000000000000000000) 2) 2 = L at *
  exact abo_only (by decide) (by omega) (by omega) (by omega)
/-- What is read is encoded the same. -/
theorem nsame2 {b : List Int} {n : Int} (hb : allB b) (hl : b.length = 4) (hA : hasA (num (b.drop 2)) 2) (h : n % 65536000000000000000000 = nval 2 b % 65536000000000000000000) : nform 2 n = b := by
  obtain ⟨⟨n0, n1⟩, n2, n3⟩ := half_rng hb 2 hl
  have n1 : num (b.take 2) < 65536 := n1
  have o1 := oct_num (allB_take 2 hb)
  have o2 := oct_num (allB_drop 2 hb)
  rw [List.length_take, hl] at o1
  rw [List.length_drop, hl] at o2
  have o1 : oct (num (b.take 2)) 2 = b.take 2 := o1
  have o2 : oct (num (b.drop 2)) 2 = b.drop 2 := o2
  obtain ⟨l0, l1⟩ := lst_rng n2 n3
  have l2 := hA.1
  have h : n % 65536000000000000000000 = (num (b.take 2) * 1000000000000000000 + lst (num (b.drop 2)) 2) % 65536000000000000000000 := h
  have l0 : 0 ≤ lst (num (b.drop 2)) 2 := l0
  have l1 : lst (num (b.drop 2)) 2 ≤ 1000000000000000000 := l1
  have e1 : n / 1000000000000000000 % 65536 = num (b.take 2) := by omega
  have e2 : n % 1000000000000000000 = lst (num (b.drop 2)) 2 := by omega
  have e3 : cd (lst (num (b.drop 2)) 2) 2 = num (b.drop 2) := hA.2
  show oct (n / 1000000000000000000 % 65536) 2 ++ oct (cd (n % 1000000000000000000) 2) 2 = b
  rw [e1, e2, e3, o1, o2, List.take_append_drop]
/-- Of 64 bits: what is encoded. -/
theorem nparts4 (n : Int) : (nform 4 n).length = 8 ∧ num ((nform 4 n).take 4) = n / 1000000000000000000 % 4294967296 ∧ num ((nform 4 n).drop 4) = cd (n % 1000000000000000000) 4 := by
  have l1 := oct_len 4 (n / 1000000000000000000 % 4294967296)
  have l2 := oct_len 4 (cd (n % 1000000000000000000) 4)
  have t0 : nform 4 n = oct (n / 1000000000000000000 % 4294967296) 4 ++ oct (cd (n % 1000000000000000000) 4) 4 := rfl
  have t1 : List.take 4 (nform 4 n) = oct (n / 1000000000000000000 % 4294967296) 4 := by rw [t0, List.take_append_of_le_length (by omega), List.take_of_length_le (by omega)]
  have t2 : List.drop 4 (nform 4 n) = oct (cd (n % 1000000000000000000) 4) 4 := by rw [t0, List.drop_append_of_le_length (by omega), List.drop_eq_nil_of_le (by omega), List.nil_append]
  have hc := cd_rng (a := n % 1000000000000000000) (o := 4) (by omega) (by omega)
  have hl := cd_lt (a := n % 1000000000000000000) (o := 4) (by omega) (by omega)
  have pk : pw 4 = 4294967296 := rfl
  refine ⟨by rw [t0, List.length_append, l1, l2], ?_, ?_⟩
  · rw [t1, num_oct]; show n / 1000000000000000000 % 4294967296 % 4294967296 = _; omega
  · rw [t2, num_oct]; exact Int.emod_eq_of_lt hc.1 hl
/-- Later than n less the resolution. -/
theorem fine4 (n : Int) : (n % 1000000000000000000 - lst (cd (n % 1000000000000000000) 4) 4) * 4294967296 < 1000000000000000000 ∧ 0 ≤ lst (cd (n % 1000000000000000000) 4) 4 ∧ lst (cd (n % 1000000000000000000) 4) 4 ≤ n % 1000000000000000000 := by
  obtain ⟨⟨h1, h2⟩, h3, h4⟩ := cd_hasA (a := n % 1000000000000000000) (o := 4) (by omega) (by omega)
  refine ⟨?_, h4, h3⟩
  have pk : pw 4 = 4294967296 := rfl
  have e1 : cd (lst (cd (n % 1000000000000000000) 4) 4) 4 = lst (cd (n % 1000000000000000000) 4) 4 * 4294967296 / 1000000000000000000 := rfl
  have e2 : cd (n % 1000000000000000000) 4 = n % 1000000000000000000 * 4294967296 / 1000000000000000000 := rfl
  generalize hL : lst (cd (n % 1000000000000000000) 4) 4 = L at *
  generalize hc : cd (n % 1000000000000000000) 4 = c at *
  omega
theorem nback4 (n : Int) : hasA (cd (n % 1000000000000000000) 4) 4 ∧ nval 4 (nform 4 n) = n / 1000000000000000000 % 4294967296 * 1000000000000000000 + lst (cd (n % 1000000000000000000) 4) 4 ∧ abo (nval 4 (nform 4 n)) 4294967296000000000000000000 n = n / 1000000000000000000 * 1000000000000000000 + lst (cd (n % 1000000000000000000) 4) 4 := by
  obtain ⟨h0, h1, h2⟩ := nparts4 n
  obtain ⟨h3, h4, h5⟩ := fine4 n
  have e : nval 4 (nform 4 n) = n / 1000000000000000000 % 4294967296 * 1000000000000000000 + lst (cd (n % 1000000000000000000) 4) 4 := by unfold nval; rw [h1, h2]; rfl
  refine ⟨(cd_hasA (by omega) (by omega)).1, e, ?_⟩
  rw [e]
  generalize lst (cd (n % 1000000000000000000) 4) 4 = L at *
  exact abo_only (by decide) (by omega) (by omega) (by omega)
/-- What is read is encoded the same. -/
theorem nsame4 {b : List Int} {n : Int} (hb : allB b) (hl : b.length = 8) (hA : hasA (num (b.drop 4)) 4) (h : n % 4294967296000000000000000000 = nval 4 b % 4294967296000000000000000000) : nform 4 n = b := by
  obtain ⟨⟨n0, n1⟩, n2, n3⟩ := half_rng hb 4 hl
  have n1 : num (b.take 4) < 4294967296 := n1
  have o1 := oct_num (allB_take 4 hb)
  have o2 := oct_num (allB_drop 4 hb)
  rw [List.length_take, hl] at o1
  rw [List.length_drop, hl] at o2
  have o1 : oct (num (b.take 4)) 4 = b.take 4 := o1
  have o2 : oct (num (b.drop 4)) 4 = b.drop 4 := o2
  obtain ⟨l0, l1⟩ := lst_rng n2 n3
  have l2 := hA.1
  have h : n % 4294967296000000000000000000 = (num (b.take 4) * 1000000000000000000 + lst (num (b.drop 4)) 4) % 4294967296000000000000000000 := h
  have l0 : 0 ≤ lst (num (b.drop 4)) 4 := l0
  have l1 : lst (num (b.drop 4)) 4 ≤ 1000000000000000000 := l1
  have e1 : n / 1000000000000000000 % 4294967296 = num (b.take 4) := by omega
  have e2 : n % 1000000000000000000 = lst (num (b.drop 4)) 4 := by omega
  have e3 : cd (lst (num (b.drop 4)) 4) 4 = num (b.drop 4) := hA.2
  show oct (n / 1000000000000000000 % 4294967296) 4 ++ oct (cd (n % 1000000000000000000) 4) 4 = b
  rw [e1, e2, e3, o1, o2, List.take_append_drop]
/-- Of 128 bits: what is encoded. -/
theorem nparts8 (n : Int) : (nform 8 n).length = 16 ∧ num ((nform 8 n).take 8) = n / 1000000000000000000 % 18446744073709551616 ∧ num ((nform 8 n).drop 8) = cd (n % 1000000000000000000) 8 := by
  have l1 := oct_len 8 (n / 1000000000000000000 % 18446744073709551616)
  have l2 := oct_len 8 (cd (n % 1000000000000000000) 8)
  have t0 : nform 8 n = oct (n / 1000000000000000000 % 18446744073709551616) 8 ++ oct (cd (n % 1000000000000000000) 8) 8 := rfl
  have t1 : List.take 8 (nform 8 n) = oct (n / 1000000000000000000 % 18446744073709551616) 8 := by rw [t0, List.take_append_of_le_length (by omega), List.take_of_length_le (by omega)]
  have t2 : List.drop 8 (nform 8 n) = oct (cd (n % 1000000000000000000) 8) 8 := by rw [t0, List.drop_append_of_le_length (by omega), List.drop_eq_nil_of_le (by omega), List.nil_append]
  have hc := cd_rng (a := n % 1000000000000000000) (o := 8) (by omega) (by omega)
  have hl := cd_lt (a := n % 1000000000000000000) (o := 8) (by omega) (by omega)
  have pk : pw 8 = 18446744073709551616 := rfl
  refine ⟨by rw [t0, List.length_append, l1, l2], ?_, ?_⟩
  · rw [t1, num_oct]; show n / 1000000000000000000 % 18446744073709551616 % 18446744073709551616 = _; omega
  · rw [t2, num_oct]; exact Int.emod_eq_of_lt hc.1 hl
/-- Later than n less the resolution. -/
theorem fine8 (n : Int) : (n % 1000000000000000000 - lst (cd (n % 1000000000000000000) 8) 8) * 18446744073709551616 < 1000000000000000000 ∧ 0 ≤ lst (cd (n % 1000000000000000000) 8) 8 ∧ lst (cd (n % 1000000000000000000) 8) 8 ≤ n % 1000000000000000000 := by
  obtain ⟨⟨h1, h2⟩, h3, h4⟩ := cd_hasA (a := n % 1000000000000000000) (o := 8) (by omega) (by omega)
  refine ⟨?_, h4, h3⟩
  have pk : pw 8 = 18446744073709551616 := rfl
  have e1 : cd (lst (cd (n % 1000000000000000000) 8) 8) 8 = lst (cd (n % 1000000000000000000) 8) 8 * 18446744073709551616 / 1000000000000000000 := rfl
  have e2 : cd (n % 1000000000000000000) 8 = n % 1000000000000000000 * 18446744073709551616 / 1000000000000000000 := rfl
  generalize hL : lst (cd (n % 1000000000000000000) 8) 8 = L at *
  generalize hc : cd (n % 1000000000000000000) 8 = c at *
  omega
theorem nback8 {n : Int} (hs : -9223372036854775808 ≤ n / 1000000000000000000 ∧ n / 1000000000000000000 < 9223372036854775808) : hasA (cd (n % 1000000000000000000) 8) 8 ∧ nval8 (nform 8 n) = n := by
  obtain ⟨h0, h1, h2⟩ := nparts8 n
  refine ⟨(cd_hasA (by omega) (by omega)).1, ?_⟩
  unfold nval8
  rw [h1, h2]
  have e : lst (cd (n % 1000000000000000000) 8) 8 = n % 1000000000000000000 := cd_lst8 (by omega) (by omega) (by decide)
  rw [e, IntKind.wrap_i64]
  omega
theorem nsame8 {b : List Int} (hb : allB b) (hl : b.length = 16) (hA : hasA (num (b.drop 8)) 8) : nform 8 (nval8 b) = b ∧ -9223372036854775808 ≤ nval8 b / 1000000000000000000 ∧ nval8 b / 1000000000000000000 < 9223372036854775808 := by
  obtain ⟨⟨n0, n1⟩, n2, n3⟩ := half_rng hb 8 hl
  have n1 : num (b.take 8) < 18446744073709551616 := n1
  have o1 := oct_num (allB_take 8 hb)
  have o2 := oct_num (allB_drop 8 hb)
  rw [List.length_take, hl] at o1
  rw [List.length_drop, hl] at o2
  have o1 : oct (num (b.take 8)) 8 = b.take 8 := o1
  have o2 : oct (num (b.drop 8)) 8 = b.drop 8 := o2
  obtain ⟨l0, l1⟩ := lst_rng n2 n3
  have l2 := hA.1
  have l0 : 0 ≤ lst (num (b.drop 8)) 8 := l0
  have l1 : lst (num (b.drop 8)) 8 ≤ 1000000000000000000 := l1
  have hw : IntKind.i64.wrap (num (b.take 8)) = (num (b.take 8) + 9223372036854775808) % 18446744073709551616 - 9223372036854775808 := by rw [IntKind.wrap_i64]
  have hv : nval8 b = IntKind.i64.wrap (num (b.take 8)) * 1000000000000000000 + lst (num (b.drop 8)) 8 := rfl
  have e1 : nval8 b / 1000000000000000000 = IntKind.i64.wrap (num (b.take 8)) := by omega
  have e2 : nval8 b % 1000000000000000000 = lst (num (b.drop 8)) 8 := by omega
  have e3 : cd (lst (num (b.drop 8)) 8) 8 = num (b.drop 8) := hA.2
  have e4 : IntKind.i64.wrap (num (b.take 8)) % 18446744073709551616 = num (b.take 8) := by omega
  refine ⟨?_, by omega, by omega⟩
  show oct (nval8 b / 1000000000000000000 % 18446744073709551616) 8 ++ oct (cd (nval8 b % 1000000000000000000) 8) 8 = b
  rw [e1, e2, e3, e4, o1, o2, List.take_append_drop]
theorem mNtpFloors : MeetsAll Try.prog 14 lawIW := all2 (code_mk Try.func14 epactlaw20_NtpFloors.ent epactlaw20_NtpFloors.chk okSpLaw20) (by simp [epactlaw20_NtpFloors.c]) fun bits n hb hn _ => by
  simp at hb hn
  refine ⟨0, ?_⟩
  have s0 := md_sm (w_md hn)
  by_cases h1 : bits = 32
  · subst h1
    obtain ⟨g0, g1, g2⟩ := nparts2 n
    obtain ⟨h4, h5, h6⟩ := fine2 n
    obtain ⟨hA, e1, e2⟩ := nback2 n
    have x1 : IntKind.i64.wrap 2 = 2 := rfl
    have pk : pw 2 = 65536 := rfl
    by_cases ha : abOk (nval 2 (nform 2 n)) 65536000000000000000000 n
    · have f := ha.2
      rw [e2] at f
      have e3 : n - (n / 1000000000000000000 * 1000000000000000000 + lst (cd (n % 1000000000000000000) 2) 2) = n % 1000000000000000000 - lst (cd (n % 1000000000000000000) 2) 2 := by omega
      have s1 := md_sm (w_md f)
      have s2 : smB (n % 1000000000000000000 - lst (cd (n % 1000000000000000000) 2) 2) := by unfold smB; omega
      have s3 : smB 65536 := by decide
      have s4 : smB ((n % 1000000000000000000 - lst (cd (n % 1000000000000000000) 2) 2) * 65536) := by unfold smB; omega
      have s5 : smB 1000000000000000000 := by decide
      have h6' := Int.not_lt.2 h6
      have h4' := Int.not_le.2 h4
      simp [epactlaw20_NtpFloors.c, hn, g0, g2, hA, e2, e3, ha, f, s0, s1, s2, s3, s4, s5, h4, h4', h6, h6', x1, pk]
    · simp [epactlaw20_NtpFloors.c, hn, g0, g2, hA, ha]
  · by_cases h2 : bits = 64
    · subst h2
      obtain ⟨g0, g1, g2⟩ := nparts4 n
      obtain ⟨h4, h5, h6⟩ := fine4 n
      obtain ⟨hA, e1, e2⟩ := nback4 n
      have x1 : IntKind.i64.wrap 4 = 4 := rfl
      have pk : pw 4 = 4294967296 := rfl
      by_cases ha : abOk (nval 4 (nform 4 n)) 4294967296000000000000000000 n
      · have f := ha.2
        rw [e2] at f
        have e3 : n - (n / 1000000000000000000 * 1000000000000000000 + lst (cd (n % 1000000000000000000) 4) 4) = n % 1000000000000000000 - lst (cd (n % 1000000000000000000) 4) 4 := by omega
        have s1 := md_sm (w_md f)
        have s2 : smB (n % 1000000000000000000 - lst (cd (n % 1000000000000000000) 4) 4) := by unfold smB; omega
        have s3 : smB 4294967296 := by decide
        have s4 : smB ((n % 1000000000000000000 - lst (cd (n % 1000000000000000000) 4) 4) * 4294967296) := by unfold smB; omega
        have s5 : smB 1000000000000000000 := by decide
        have h6' := Int.not_lt.2 h6
        have h4' := Int.not_le.2 h4
        simp [epactlaw20_NtpFloors.c, hn, g0, g2, hA, e2, e3, ha, f, s0, s1, s2, s3, s4, s5, h4, h4', h6, h6', x1, pk]
      · simp [epactlaw20_NtpFloors.c, hn, g0, g2, hA, ha]
    · by_cases h3 : bits = 128
      · subst h3
        by_cases hs : -9223372036854775808 ≤ n / 1000000000000000000 ∧ n / 1000000000000000000 < 9223372036854775808
        · obtain ⟨g0, g1, g2⟩ := nparts8 n
          obtain ⟨hA, e2⟩ := nback8 hs
          have x1 : IntKind.i64.wrap 8 = 8 := rfl
          have pk : pw 8 = 18446744073709551616 := rfl
          have s1 : smB 0 := by decide
          have s2 : smB 18446744073709551616 := by decide
          have s5 : smB 1000000000000000000 := by decide
          simp [epactlaw20_NtpFloors.c, hn, hs, g0, g2, hA, e2, s0, s1, s2, s5, x1, pk]
        · simp [epactlaw20_NtpFloors.c, hn, hs]
      · simp [epactlaw20_NtpFloors.c, hb, hn, h1, h2, h3]
theorem mNtpSame : MeetsAll Try.prog 15 lawIYW := all3 (code_mk Try.func15 epactlaw20_NtpSame.ent epactlaw20_NtpSame.chk okSpLaw20) (by simp [epactlaw20_NtpSame.c]) fun bits b p hbits hb hp _ => by
  simp at hbits hb hp
  refine ⟨0, ?_⟩
  by_cases h1 : bits = 32
  · subst h1
    by_cases hl : b.length = 4
    · by_cases hA : hasA (num (b.drop 2)) 2
      · by_cases ha : abOk (nval 2 b) 65536000000000000000000 p
        · have e := nsame2 hb hl hA (abo_mod (f := nval 2 b) (p := p) (show (0 : Int) < 65536000000000000000000 by decide))
          have f := ha.2
          simp [epactlaw20_NtpSame.c, hb, hp, hl, hA, ha, f, e]
        · simp [epactlaw20_NtpSame.c, hb, hp, hl, hA, ha]
      · simp [epactlaw20_NtpSame.c, hb, hp, hl, hA]
    · simp [epactlaw20_NtpSame.c, hb, hp, hl]
  · by_cases h2 : bits = 64
    · subst h2
      by_cases hl : b.length = 8
      · by_cases hA : hasA (num (b.drop 4)) 4
        · by_cases ha : abOk (nval 4 b) 4294967296000000000000000000 p
          · have e := nsame4 hb hl hA (abo_mod (f := nval 4 b) (p := p) (show (0 : Int) < 4294967296000000000000000000 by decide))
            have f := ha.2
            simp [epactlaw20_NtpSame.c, hb, hp, hl, hA, ha, f, e]
          · simp [epactlaw20_NtpSame.c, hb, hp, hl, hA, ha]
        · simp [epactlaw20_NtpSame.c, hb, hp, hl, hA]
      · simp [epactlaw20_NtpSame.c, hb, hp, hl]
    · by_cases h3 : bits = 128
      · subst h3
        by_cases hl : b.length = 16
        · by_cases hA : hasA (num (b.drop 8)) 8
          · have f := nval8_fits hb hl hA
            obtain ⟨e, g⟩ := nsame8 hb hl hA
            simp [epactlaw20_NtpSame.c, hb, hp, hl, hA, f, g, e]
          · simp [epactlaw20_NtpSame.c, hb, hp, hl, hA]
        · simp [epactlaw20_NtpSame.c, hb, hp, hl]
      · simp [epactlaw20_NtpSame.c, hbits, hb, hp, h1, h2, h3]
end Go.Proofs.Ytnjipdicfbkfdaa.E

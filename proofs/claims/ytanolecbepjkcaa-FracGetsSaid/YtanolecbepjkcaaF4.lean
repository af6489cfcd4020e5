/- The laws of the chapter 19: what their code answers. -/
import Derived.Test.YtanolecbepjkcaaF3
set_option linter.unusedVariables false
set_option linter.unusedSimpArgs false
set_option maxHeartbeats 2000000
set_option maxRecDepth 100000
namespace Go.Proofs.Ytanolecbepjkcaa.E
open Go.VC Go.RowKit

abbrev lawII := s2 coI coI Tt2 fun _ _ => .o (bv true)
abbrev lawWI := s2 coW coI Tt2 fun _ _ => .o (bv true)
abbrev lawIIU := s3 coI coI coU Tt3 fun _ _ _ => .o (bv true)
abbrev lawY := s1 coY Tt1 fun _ => .o (bv true)
theorem okAns19 : Ok Try.prog 50 tTrue := ok0 (code_mk Try.func50 epactlaw19_answers.ent epactlaw19_answers.chk (specOk_cons okFEncode (specOk_cons okFDecode (specOk_cons okPut (specOk_cons okGet okSpW))))) ⟨0, by
  have e1 : cd 500000000000000000 1 = 128 := by decide
  have e2 : lst 1 4 = 232830644 := by decide
  have e3 : hasA 1 4 := by decide
  have e4 : ¬ hasA 1 10 := by decide
  have e5 : oct 258 3 = [0, 1, 2] := by decide
  have e6 : num [1, 2] = 258 := by decide
  have p1 : pw 4 = 4294967296 := by decide
  have p2 : pw 10 = 1208925819614629174706176 := by decide
  have p3 : pw 3 = 16777216 := by decide
  have b1 : allB [1, 2] := by decide
  simp [epactlaw19_answers.c, e1, e2, e3, e4, e5, e6, p1, p2, p3, b1, relRow, rowInts]⟩
abbrev spLaw19 : List (Nat × (List AP → Option AV)) := (50, tTrue) :: (49, tFEncode) :: (52, tFDecode) :: (56, tPut) :: (57, tGet) :: (51, tRCode) :: (53, tRBelow) :: (54, tRPower) :: (55, tLeast) :: (59, tOctets) :: (60, tNumber) :: (58, tSame8) :: spRef
theorem okSpLaw19 : SpecOk Try.prog (spOf spLaw19) := specOk_cons okAns19 (specOk_cons okFEncode (specOk_cons okFDecode (specOk_cons okPut (specOk_cons okGet (specOk_cons okRCode (specOk_cons okRBelow (specOk_cons okRPower (specOk_cons okLeast (specOk_cons okOctets (specOk_cons okNumber (specOk_cons okSame8 okSpRef)))))))))))
theorem mFracEncodes : MeetsAll Try.prog 11 lawII := all2 (code_mk Try.func11 epactlaw19_FracEncodes.ent epactlaw19_FracEncodes.chk okSpLaw19) (by simp [epactlaw19_FracEncodes.c]) fun a o ha ho _ => by
  simp at ha ho
  refine ⟨0, ?_⟩
  by_cases h1 : 0 ≤ a
  · have h1' := Int.not_lt.2 h1
    by_cases h2 : a < 1000000000000000000
    · have h2' := Int.not_le.2 h2
      have h2'' := Int.le_of_lt h2
      by_cases h3 : 0 ≤ o
      · have h3' := Int.not_lt.2 h3
        by_cases h4 : o ≤ 10
        · have h4' := Int.not_lt.2 h4
          have hr := cd_rng (o := o) h1 h2''
          have hp := pw_10 h4
          have f : -170141183460469231731687303715884105728 ≤ cd a o ∧ cd a o < 170141183460469231731687303715884105728 := by omega
          have s := md_sm (w_md f)
          simp [epactlaw19_FracEncodes.c, ha, ho, h1, h1', h2, h2', h2'', h3, h3', h4, h4', f, s]
        · have h4' := Int.not_le.1 h4
          simp [epactlaw19_FracEncodes.c, ha, ho, h1, h1', h2, h2', h3, h3', h4, h4']
      · have h3' := Int.not_le.1 h3
        simp [epactlaw19_FracEncodes.c, ha, ho, h1, h1', h2, h2', h3, h3']
    · have h2' := Int.not_lt.1 h2
      simp [epactlaw19_FracEncodes.c, ha, ho, h1, h1', h2, h2']
  · have h1' := Int.not_le.1 h1
    simp [epactlaw19_FracEncodes.c, ha, ho, h1, h1']
theorem mFracDecodes : MeetsAll Try.prog 12 lawWI := all2 (code_mk Try.func12 epactlaw19_FracDecodes.ent epactlaw19_FracDecodes.chk okSpLaw19) (by simp [epactlaw19_FracDecodes.c]) fun f o hf ho _ => by
  simp at hf ho
  refine ⟨0, ?_⟩
  have s1 := md_sm (w_md hf)
  by_cases h3 : 0 ≤ o
  · have h3' := Int.not_lt.2 h3
    by_cases h4 : o ≤ 10
    · have h4' := Int.not_lt.2 h4
      have hp0 := pw_pos o
      have hp := pw_10 h4
      have s2 := md_sm (show md (pw o) by unfold md; omega)
      have c1 : o ≤ 1000 := by omega
      by_cases h1 : 0 ≤ f ∧ f < pw o
      · by_cases h5 : hasA f o
        · simp [epactlaw19_FracDecodes.c, hf, ho, h3, h3', h4, h4', h1, s1, s2, c1, h5]
        · simp [epactlaw19_FracDecodes.c, hf, ho, h3, h3', h4, h4', h1, s1, s2, c1, h5]
      · simp [epactlaw19_FracDecodes.c, hf, ho, h3, h3', h4, h4', h1, s1, s2, c1]
    · have h4' := Int.not_le.1 h4
      simp [epactlaw19_FracDecodes.c, hf, ho, h3, h3', h4, h4']
  · have h3' := Int.not_le.1 h3
    simp [epactlaw19_FracDecodes.c, hf, ho, h3, h3']
/-- An attosecond's code has an attosecond. -/
theorem cd_hasA {a o : Int} (h0 : 0 ≤ a) (h1 : a < 1000000000000000000) : hasA (cd a o) o ∧ lst (cd a o) o ≤ a ∧ 0 ≤ lst (cd a o) o := by
  have hr := cd_rng (o := o) h0 (Int.le_of_lt h1)
  have hl := cd_lt (o := o) h0 h1
  obtain ⟨l0, l1⟩ := lst_rng hr.1 hl
  have h2 : lst (cd a o) o ≤ a := cd_lst.1 (Int.le_refl _)
  refine ⟨⟨by omega, ?_⟩, h2, l0⟩
  have h3 : cd a o ≤ cd (lst (cd a o) o) o := cd_lst.2 (Int.le_refl _)
  have h4 : cd (lst (cd a o) o) o ≤ cd a o := by
    have hp := pw_pos o
    have := Int.mul_le_mul_of_nonneg_right h2 (Int.le_of_lt hp)
    unfold cd at *
    omega
  omega
theorem cd_lst8 {a o : Int} (h0 : 0 ≤ a) (h1 : a < 1000000000000000000) (ho : 8 ≤ o) : lst (cd a o) o = a := by
  obtain ⟨⟨h2, h3⟩, h4, h5⟩ := cd_hasA (o := o) h0 h1
  have hp := pw_8 ho
  generalize lst (cd a o) o = b at *
  rcases Int.lt_or_le b a with h6 | h6
  · exfalso
    have : (b + 1) * pw o ≤ a * pw o := Int.mul_le_mul_of_nonneg_right (by omega) (by omega)
    rw [Int.add_mul, Int.one_mul] at this
    unfold cd at h3
    omega
  · omega
theorem all_hasA {f o : Int} (h0 : 0 ≤ f) (h1 : f < pw o) (ho : o ≤ 7) : hasA f o := by
  have hp := pw_7 ho
  have hp0 := pw_pos o
  obtain ⟨l0, l1⟩ := lst_rng h0 h1
  have h3 : f ≤ cd (lst f o) o := cd_lst.2 (Int.le_refl _)
  have h4 : ¬ f ≤ cd (lst f o - 1) o := fun h => by have := cd_lst.1 h; omega
  have e : (lst f o - 1) * pw o = lst f o * pw o - pw o := by rw [Int.sub_mul, Int.one_mul]
  have h5 : cd (lst f o) o = f := by unfold cd at *; rw [e] at h4; omega
  refine ⟨fun h => ?_, h5⟩
  rw [h] at h5
  have : cd 1000000000000000000 o = pw o := by unfold cd; omega
  omega
theorem shr_rng {f o : Int} (h0 : 0 ≤ f) (h1 : f < 18446744073709551616) (h2 : 0 ≤ o) (h3 : o ≤ 7) : IntKind.u64.wrap (IntKind.i64.wrap (64 - IntKind.i64.wrap (8 * o))) = 64 - 8 * o ∧ 0 ≤ f.fdiv (2 ^ min (64 - 8 * o).toNat 64) ∧ f.fdiv (2 ^ min (64 - 8 * o).toNat 64) < pw o := by
  have hc : o = 0 ∨ o = 1 ∨ o = 2 ∨ o = 3 ∨ o = 4 ∨ o = 5 ∨ o = 6 ∨ o = 7 := by omega
  rcases hc with rfl | rfl | rfl | rfl | rfl | rfl | rfl | rfl
  all_goals
    refine ⟨by decide, ?_⟩
    rw [Int.fdiv_eq_ediv_of_nonneg _ (Int.le_of_lt (Int.pow_pos (by decide)))]
  · rw [show (2 : Int) ^ min (64 - 8 * (0 : Int)).toNat 64 = 18446744073709551616 from by decide, show pw 0 = 1 from by decide]; omega
  · rw [show (2 : Int) ^ min (64 - 8 * (1 : Int)).toNat 64 = 72057594037927936 from by decide, show pw 1 = 256 from by decide]; omega
  · rw [show (2 : Int) ^ min (64 - 8 * (2 : Int)).toNat 64 = 281474976710656 from by decide, show pw 2 = 65536 from by decide]; omega
  · rw [show (2 : Int) ^ min (64 - 8 * (3 : Int)).toNat 64 = 1099511627776 from by decide, show pw 3 = 16777216 from by decide]; omega
  · rw [show (2 : Int) ^ min (64 - 8 * (4 : Int)).toNat 64 = 4294967296 from by decide, show pw 4 = 4294967296 from by decide]; omega
  · rw [show (2 : Int) ^ min (64 - 8 * (5 : Int)).toNat 64 = 16777216 from by decide, show pw 5 = 1099511627776 from by decide]; omega
  · rw [show (2 : Int) ^ min (64 - 8 * (6 : Int)).toNat 64 = 65536 from by decide, show pw 6 = 281474976710656 from by decide]; omega
  · rw [show (2 : Int) ^ min (64 - 8 * (7 : Int)).toNat 64 = 256 from by decide, show pw 7 = 72057594037927936 from by decide]; omega
theorem mFracFloors : MeetsAll Try.prog 13 lawIIU := all3 (code_mk Try.func13 epactlaw19_FracFloors.ent epactlaw19_FracFloors.chk okSpLaw19) (by simp [epactlaw19_FracFloors.c]) fun a o f ha ho hf _ => by
  simp at ha ho hf
  refine ⟨0, ?_⟩
  by_cases h1 : (0 ≤ a ∧ a < 1000000000000000000) ∧ (0 ≤ o ∧ o ≤ 10)
  · obtain ⟨⟨h1, h2⟩, h3, h4⟩ := h1
    have hr := cd_rng (o := o) h1 (Int.le_of_lt h2)
    have hl := cd_lt (o := o) h1 h2
    have hp := pw_10 h4
    obtain ⟨k1, k2, k3⟩ := cd_hasA (o := o) h1 h2
    have k4 := k1.2
    have f1 : -170141183460469231731687303715884105728 ≤ cd a o ∧ cd a o < 170141183460469231731687303715884105728 := by omega
    have f2 : -9223372036854775808 ≤ lst (cd a o) o ∧ lst (cd a o) o < 9223372036854775808 := by omega
    have f3 : lst (cd a o) o < 1000000000000000000 := by omega
    have k2' := Int.not_lt.2 k2
    by_cases h8 : 8 ≤ o
    · have h8' : 7 < o := by omega
      have k5 := cd_lst8 (o := o) h1 h2 h8
      simp [epactlaw19_FracFloors.c, ha, ho, hf, h1, h2, h3, h4, hr, hl, k1, k2', k3, k4, f1, f2, f3, h8, h8', k5]
    · have h8' : ¬ 7 < o := by omega
      obtain ⟨u1, u2, u3⟩ := shr_rng hf.1 hf.2 h3 (by omega)
      have u4 : 0 ≤ 64 - 8 * o := by omega
      have k6 := all_hasA u2 u3 (by omega)
      have u5 : f.fdiv (2 ^ min (64 - 8 * o).toNat 64) < 18446744073709551616 := by have := pw_7 (show o ≤ 7 by omega); omega
      have u6 : 8 * o ≤ 64 := by omega
      simp [epactlaw19_FracFloors.c, ha, ho, hf, h1, h2, h3, h4, hr, hl, k1, k2', k3, k4, f1, f2, f3, h8, h8', u1, u2, u3, u4, u5, u6, k6]
  · simp [epactlaw19_FracFloors.c, ha, ho, hf, h1]
theorem mFracPuts : MeetsAll Try.prog 14 lawWI := all2 (code_mk Try.func14 epactlaw19_FracPuts.ent epactlaw19_FracPuts.chk okSpLaw19) (by simp [epactlaw19_FracPuts.c]) fun n o hn ho _ => by
  simp at hn ho
  refine ⟨0, ?_⟩
  have s1 := md_sm (w_md hn)
  by_cases h3 : 0 ≤ o
  · have h3' := Int.not_lt.2 h3
    by_cases h4 : o ≤ 15
    · have h4' := Int.not_lt.2 h4
      have hp0 := pw_pos o
      have hp := pw_15 h4
      have s2 := md_sm (show md (pw o) by unfold md; omega)
      have c1 : o ≤ 1000 := by omega
      have c2 : o ≤ 50 := by omega
      by_cases h1 : 0 ≤ n ∧ n < pw o
      · have hl : (oct n o.toNat).length = o.toNat := oct_len _ _
        have hl2 : ¬ 15 < o.toNat := by omega
        have hb : allB (oct n o.toNat) := oct_rng o.toNat n
        have e : num (oct n o.toNat) = n := by
          rw [num_oct, show (o.toNat : Int) = o by omega]
          exact Int.emod_eq_of_lt h1.1 h1.2
        simp [epactlaw19_FracPuts.c, hn, ho, h3, h3', h4, h4', h1, s1, s2, c1, c2, hl, hl2, hb, e]
      · simp [epactlaw19_FracPuts.c, hn, ho, h3, h3', h4, h4', h1, s1, s2, c1]
    · have h4' := Int.not_le.1 h4
      simp [epactlaw19_FracPuts.c, hn, ho, h3, h3', h4, h4']
  · have h3' := Int.not_le.1 h3
    simp [epactlaw19_FracPuts.c, hn, ho, h3, h3']
theorem mFracGets : MeetsAll Try.prog 15 lawY := all1 (code_mk Try.func15 epactlaw19_FracGets.ent epactlaw19_FracGets.chk okSpLaw19) (by simp [epactlaw19_FracGets.c]) fun b hb _ => by
  simp at hb
  refine ⟨0, ?_⟩
  by_cases hl : 15 < b.length
  · have hl' : (15 : Int) < b.length := by omega
    simp [epactlaw19_FracGets.c, hb, hl, hl']
  · have hl' : ¬ (15 : Int) < b.length := by omega
    have hr := num_rng hb
    have hp := pw_15 (n := (b.length : Int)) (by omega)
    have f1 : -170141183460469231731687303715884105728 ≤ num b ∧ num b < 170141183460469231731687303715884105728 := by omega
    have s1 := md_sm (w_md f1)
    have e := oct_num hb
    have c1 : (b.length : Int) ≤ 15 := by omega
    have c2 : b.length ≤ 60 := by omega
    have c3 : (b.length : Int) < 9223372036854775808 := by omega
    have c4 : -9223372036854775808 ≤ (b.length : Int) := by omega
    simp [epactlaw19_FracGets.c, hb, hl, hl', hr, f1, s1, e, c1, c2, c3, c4]
end Go.Proofs.Ytanolecbepjkcaa.E

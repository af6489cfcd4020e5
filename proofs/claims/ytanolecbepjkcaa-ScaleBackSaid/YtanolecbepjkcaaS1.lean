/- What the package scale does, and the laws of the chapter 16. -/
import Derived.Test.YtanolecbepjkcaaD1
set_option linter.unusedVariables false
set_option linter.unusedSimpArgs false
set_option maxHeartbeats 2000000
set_option maxRecDepth 100000
namespace Go.Proofs.Ytanolecbepjkcaa.E
open Go.VC Go.RowKit

abbrev lawIW := s2 coI coW Tt2 fun _ _ => .o (bv true)
def zok (n : Int) : Prop := 1 ≤ n ∧ n ≤ 4
instance (n : Int) : Decidable (zok n) := inferInstanceAs (Decidable (_ ∧ _))
def zl (n : Int) : Int × Int × Int := if n = 1 then (36204, 0, 0) else if n = 2 then (51544, 43167, 816000000000000000) else if n = 3 then (44244, 19, 0) else (40587, 0, 0)
def zz (n : Int) : Int := jn (zl n)
theorem zok_cases {n : Int} (h : zok n) : n = 1 ∨ n = 2 ∨ n = 3 ∨ n = 4 := by unfold zok at h; omega
abbrev tZeros := s1 coI Tt1 fun n => if zok n then .t [labT (zl n), bv true] else .t [lab 0 0 0, bv false]
theorem okZeros : Ok Try.prog 115 tZeros := ok1 (code_mk Try.func115 scale_zeros.ent scale_zeros.chk specOk_nil) (by simp [scale_zeros.c]) fun n hn _ => by
  simp at hn
  refine ⟨0, ?_⟩
  by_cases h : zok n
  · rcases zok_cases h with rfl | rfl | rfl | rfl <;> simp [scale_zeros.c, h, zl]
  · have h1 : ¬ n = 1 := fun e => h (by unfold zok; omega)
    have h2 : ¬ n = 2 := fun e => h (by unfold zok; omega)
    have h3 : ¬ n = 3 := fun e => h (by unfold zok; omega)
    have h4 : ¬ n = 4 := fun e => h (by unfold zok; omega)
    simp [scale_zeros.c, h, h1, h2, h3, h4]
theorem zl_ok {n : Int} (h : zok n) : ((-9223372036854775808 ≤ (zl n).1 ∧ (zl n).1 < 9223372036854775808) ∧ (-9223372036854775808 ≤ (zl n).2.1 ∧ (zl n).2.1 < 9223372036854775808) ∧ (-9223372036854775808 ≤ (zl n).2.2 ∧ (zl n).2.2 < 9223372036854775808)) ∧ why (zl n) = 0 ∧ 0 ≤ zz n ∧ zz n < 10000000000000000000000000000 := by
  rcases zok_cases h with rfl | rfl | rfl | rfl <;> exact ⟨by decide, by decide, by decide, by decide⟩
abbrev tZero := s1 coI Tt1 fun n => if zok n then .t [wd (zz n), iv .i64 0] else .t [wd 0, iv .i64 1]
theorem okZero : Ok Try.prog 97 tZero := ok1 (code_mk Try.func97 scale_zero.ent scale_zero.chk (specOk_cons okZeros (specOk_cons okJoin specOk_nil))) (by simp [scale_zero.c]) fun n hn _ => by
  simp at hn
  refine ⟨0, ?_⟩
  by_cases h : zok n
  · obtain ⟨h1, h2, h3⟩ := zl_ok h
    simp [scale_zero.c, hn, h, h1, h2, zz]
  · simp [scale_zero.c, hn, h]
abbrev tChecked := s2 coW coI Tt2 fun t e => if e = 0 then (if inD (t / 1000000000000000000 / 86400) then .t [wd t, iv .i64 0] else .t [wd 0, iv .i64 2]) else .t [wd 0, iv .i64 e]
theorem okChecked : Ok Try.prog 98 tChecked := ok2 (code_mk Try.func98 scale_checked.ent scale_checked.chk (specOk_cons okSplit specOk_nil)) (by simp [scale_checked.c]) fun t e ht he _ => by
  simp at ht he
  refine ⟨0, ?_⟩
  by_cases h : e = 0
  · by_cases h2 : inD (t / 1000000000000000000 / 86400)
    · simp [scale_checked.c, ht, h, h2]
    · simp [scale_checked.c, ht, h, h2]
  · simp [scale_checked.c, ht, he, h]
theorem inD_rng {t : Int} (h : inD (t / 1000000000000000000 / 86400)) : -100000000000000000000000000000000000 ≤ t ∧ t < 100000000000000000000000000000000000 := by unfold inD at h; omega
abbrev tTo := s2 coI coW Tt2 fun n t => if zok n then (if inD (t / 1000000000000000000 / 86400) then .t [wd (t - zz n), iv .i64 0] else .t [wd 0, iv .i64 2]) else .t [wd 0, iv .i64 1]
theorem okTo : Ok Try.prog 61 tTo := ok2 (code_mk Try.func61 scale_To.ent scale_To.chk (specOk_cons okZero (specOk_cons okChecked okSpW))) (by simp [scale_To.c]) fun n t hn ht _ => by
  simp at hn ht
  refine ⟨0, ?_⟩
  by_cases h : zok n
  · obtain ⟨-, -, h3, h4⟩ := zl_ok h
    have f1 : -170141183460469231731687303715884105728 ≤ zz n ∧ zz n < 170141183460469231731687303715884105728 := by omega
    by_cases h2 : inD (t / 1000000000000000000 / 86400)
    · have hr := inD_rng h2
      have f2 : -170141183460469231731687303715884105728 ≤ t - zz n ∧ t - zz n < 170141183460469231731687303715884105728 := by omega
      simp [scale_To.c, hn, ht, h, h2, f1, f2]
    · simp [scale_To.c, hn, ht, h, h2]
  · simp [scale_To.c, hn, ht, h]
abbrev tFrom := s2 coI coW Tt2 fun n a => if zok n then (if inD ((a + zz n) / 1000000000000000000 / 86400) then .t [wd (a + zz n), iv .i64 0] else .t [wd 0, iv .i64 2]) else .t [wd 0, iv .i64 1]
theorem okFrom : Ok Try.prog 65 tFrom := ok2 (code_mk Try.func65 scale_From.ent scale_From.chk (specOk_cons okZero (specOk_cons okChecked okSpW))) (by simp [scale_From.c]) fun n a hn ha _ => by
  simp at hn ha
  refine ⟨0, ?_⟩
  by_cases h : zok n
  · obtain ⟨-, -, h3, h4⟩ := zl_ok h
    have f1 : -170141183460469231731687303715884105728 ≤ zz n ∧ zz n < 170141183460469231731687303715884105728 := by omega
    by_cases h2 : inD ((a + zz n) / 1000000000000000000 / 86400)
    · have hr := inD_rng h2
      have f2 : -170141183460469231731687303715884105728 ≤ a + zz n ∧ a + zz n < 170141183460469231731687303715884105728 := by omega
      simp [scale_From.c, hn, ha, h, h2, f1, f2]
    · by_cases f2 : -170141183460469231731687303715884105728 ≤ a + zz n ∧ a + zz n < 170141183460469231731687303715884105728
      · simp [scale_From.c, hn, ha, h, h2, f1, f2]
      · simp [scale_From.c, hn, ha, h, h2, f1, f2]
  · simp [scale_From.c, hn, ha, h]
/-! ### The laws -/
abbrev tRZero := s1 coI Tt1 fun n => if zok n then .t [mkB (zz n), bv true] else .t [mkB 0, bv false]
theorem okRZero : Ok Try.prog 62 tRZero := ok1 (code_mk Try.func62 epactref15_Zero.ent epactref15_Zero.chk (specOk_cons okRJoin specOk_nil)) (by simp [epactref15_Zero.c]) fun n hn _ => by
  simp at hn
  refine ⟨0, ?_⟩
  have z0 : ngB 0 = false := rfl
  have z1 : dg 0 = [] := dg_zero
  by_cases h : zok n
  · rcases zok_cases h with rfl | rfl | rfl | rfl <;> simp [epactref15_Zero.c, h, zl, zz]
  · have h1 : ¬ n = 1 := fun e => h (by unfold zok; omega)
    have h2 : ¬ n = 2 := fun e => h (by unfold zok; omega)
    have h3 : ¬ n = 3 := fun e => h (by unfold zok; omega)
    have h4 : ¬ n = 4 := fun e => h (by unfold zok; omega)
    simp [epactref15_Zero.c, h, h1, h2, h3, h4, z0, z1]
abbrev tIn16 := s1 coB (fun x => smB x) fun t => .o (bv (decide (inD (t / 1000000000000000000 / 86400))))
theorem okIn16 : Ok Try.prog 64 tIn16 := ok1 (code_mk Try.func64 epactlaw16_in.ent epactlaw16_in.chk (specOk_cons okRSplit specOk_nil)) (by simp [epactlaw16_in.c]) fun t _ hg => by
  refine ⟨0, ?_⟩
  by_cases h : inD (t / 1000000000000000000 / 86400) <;> simp [epactlaw16_in.c, hg, h]
theorem okAns16 : Ok Try.prog 63 tTrue := ok0 (code_mk Try.func63 epactlaw16_answers.ent epactlaw16_answers.chk (specOk_cons okTo (specOk_cons okFrom okSpW))) ⟨0, by
  have e1 : zok 3 := by decide
  have e2 : ¬ zok 9 := by decide
  have e3 : zz 3 = 3822681619000000000000000000 := by decide
  have e4 : inD 44244 := by decide
  simp [epactlaw16_answers.c, e1, e2, e3, e4, whi, wlo]⟩
abbrev spLaw16 : List (Nat × (List AP → Option AV)) := (63, tTrue) :: (64, tIn16) :: (61, tTo) :: (65, tFrom) :: (62, tRZero) :: (40, tRJoin) :: spRef
theorem okSpLaw16 : SpecOk Try.prog (spOf spLaw16) := specOk_cons okAns16 (specOk_cons okIn16 (specOk_cons okTo (specOk_cons okFrom (specOk_cons okRZero (specOk_cons okRJoin okSpRef)))))
theorem mScaleTo : MeetsAll Try.prog 16 lawIW := all2 (code_mk Try.func16 epactlaw16_ScaleTo.ent epactlaw16_ScaleTo.chk okSpLaw16) (by simp [epactlaw16_ScaleTo.c]) fun n t hn ht _ => by
  simp at hn ht
  refine ⟨0, ?_⟩
  have s1 := md_sm (show md t by unfold md; omega)
  by_cases h : zok n
  · obtain ⟨-, -, h3, h4⟩ := zl_ok h
    have s2 := md_sm (show md (zz n) by unfold md; omega)
    by_cases h2 : inD (t / 1000000000000000000 / 86400)
    · have hr := inD_rng h2
      have f2 : -170141183460469231731687303715884105728 ≤ t - zz n ∧ t - zz n < 170141183460469231731687303715884105728 := by omega
      have s3 := md_sm (show md (t - zz n) by unfold md; omega)
      simp [epactlaw16_ScaleTo.c, hn, ht, h, h2, s1, s2, s3, f2]
    · simp [epactlaw16_ScaleTo.c, hn, ht, h, h2, s1]
  · simp [epactlaw16_ScaleTo.c, hn, ht, h]
theorem mScaleFrom : MeetsAll Try.prog 17 lawIW := all2 (code_mk Try.func17 epactlaw16_ScaleFrom.ent epactlaw16_ScaleFrom.chk okSpLaw16) (by simp [epactlaw16_ScaleFrom.c]) fun n a hn ha _ => by
  simp at hn ha
  refine ⟨0, ?_⟩
  have s1 := md_sm (show md a by unfold md; omega)
  by_cases h : zok n
  · obtain ⟨-, -, h3, h4⟩ := zl_ok h
    have s2 := md_sm (show md (zz n) by unfold md; omega)
    have s3 := md_sm (show md (a + zz n) by unfold md; omega)
    by_cases h2 : inD ((a + zz n) / 1000000000000000000 / 86400)
    · have hr := inD_rng h2
      have f2 : -170141183460469231731687303715884105728 ≤ a + zz n ∧ a + zz n < 170141183460469231731687303715884105728 := by omega
      simp [epactlaw16_ScaleFrom.c, hn, ha, h, h2, s1, s2, s3, f2]
    · simp [epactlaw16_ScaleFrom.c, hn, ha, h, h2, s1, s2, s3]
  · simp [epactlaw16_ScaleFrom.c, hn, ha, h]
theorem mScaleBack : MeetsAll Try.prog 18 lawIW := all2 (code_mk Try.func18 epactlaw16_ScaleBack.ent epactlaw16_ScaleBack.chk okSpLaw16) (by simp [epactlaw16_ScaleBack.c]) fun n t hn ht _ => by
  simp at hn ht
  refine ⟨0, ?_⟩
  by_cases h : zok n
  · obtain ⟨-, -, h3, h4⟩ := zl_ok h
    by_cases h2 : inD (t / 1000000000000000000 / 86400)
    · have hr := inD_rng h2
      have f2 : -170141183460469231731687303715884105728 ≤ t - zz n ∧ t - zz n < 170141183460469231731687303715884105728 := by omega
      have e1 : zok 1 := by decide
      have e2 : zok 2 := by decide
      have e3 : zok 3 := by decide
      have z1 : zz 1 = 3128025600000000000000000000 := by decide
      have z2 : zz 2 = 4453444767816000000000000000 := by decide
      have z3 : zz 3 = 3822681619000000000000000000 := by decide
      have j1 : jn (36204, 0, 0) = 3128025600000000000000000000 := by decide
      have j2 : jn (44244, 0, 0) = 3822681600000000000000000000 := by decide
      have j3 : jn (51544, 43200, 0) = 4453444800000000000000000000 := by decide
      have j4 : jn (0, 32, 184000000000000000) = 32184000000000000000 := by decide
      have j5 : jn (0, 19, 0) = 19000000000000000000 := by decide
      have f3 : -170141183460469231731687303715884105728 ≤ t - 3128025600000000000000000000 ∧ t - 3128025600000000000000000000 < 170141183460469231731687303715884105728 := by omega
      have f4 : -170141183460469231731687303715884105728 ≤ t - 4453444767816000000000000000 ∧ t - 4453444767816000000000000000 < 170141183460469231731687303715884105728 := by omega
      have f5 : -170141183460469231731687303715884105728 ≤ t - 3822681619000000000000000000 ∧ t - 3822681619000000000000000000 < 170141183460469231731687303715884105728 := by omega
      have s1 := md_sm (show md t by unfold md; omega)
      have s3 := md_sm (show md (t - 3128025600000000000000000000) by unfold md; omega)
      have s4 := md_sm (show md (t - 4453444767816000000000000000) by unfold md; omega)
      have s5 := md_sm (show md (t - 3822681619000000000000000000) by unfold md; omega)
      have c1 : smB 3128025600000000000000000000 := by decide
      have c2 : smB 3822681600000000000000000000 := by decide
      have c3 : smB 4453444800000000000000000000 := by decide
      have c4 : smB 32184000000000000000 := by decide
      have c5 : smB 19000000000000000000 := by decide
      have x1 : t - 3128025600000000000000000000 + 3128025600000000000000000000 = t := by omega
      have x2 : t - 4453444767816000000000000000 + 4453444800000000000000000000 = t + 32184000000000000000 := by omega
      have x3 : t - 3822681619000000000000000000 + 3822681600000000000000000000 = t - 19000000000000000000 := by omega
      have x4 : t + 32184000000000000000 - t = 32184000000000000000 := by omega
      have x5 : t - (t - 19000000000000000000) = 19000000000000000000 := by omega
      have x6 : t - zz n + zz n = t := by omega
      have s6 := md_sm (show md (t + 32184000000000000000) by unfold md; omega)
      have s7 := md_sm (show md (t - 19000000000000000000) by unfold md; omega)
      simp [epactlaw16_ScaleBack.c, hn, ht, h, h2, f2, f3, f4, f5, e1, e2, e3, z1, z2, z3, j1, j2, j3, j4, j5, s1, s3, s4, s5, c1, c2, c3, c4, c5, x1, x2, x3, x4, x5, x6, s6, s7]
    · simp [epactlaw16_ScaleBack.c, hn, ht, h, h2]
  · simp [epactlaw16_ScaleBack.c, hn, ht, h]
end Go.Proofs.Ytanolecbepjkcaa.E

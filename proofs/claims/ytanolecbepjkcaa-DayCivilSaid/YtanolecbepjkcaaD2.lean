/- The laws of the chapter 07: what their code answers. -/
import Derived.Test.YtanolecbepjkcaaD1
set_option linter.unusedVariables false
set_option linter.unusedSimpArgs false
set_option maxHeartbeats 2000000
set_option maxRecDepth 100000
namespace Go.Proofs.Ytanolecbepjkcaa.E
open Go.VC Go.RowKit

abbrev lawLab := s1 coLab Tt1 fun _ => .o (bv true)
abbrev tWant := tCheck
theorem okWant : Ok Try.prog 37 tWant := ok1 (code_mk Try.func37 epactlaw07_want.ent epactlaw07_want.chk (specOk_cons okRPlain (specOk_cons okRIn specOk_nil))) (by simp [epactlaw07_want.c]) fun l hl _ => by
  obtain ⟨d, s, a⟩ := l
  simp at hl
  refine ⟨0, ?_⟩
  by_cases h1 : pla (d, s, a)
  · by_cases h2 : inD d <;> simp [epactlaw07_want.c, why, h1, h2, hl]
  · simp [epactlaw07_want.c, why, h1, hl]
theorem okAns07 : Ok Try.prog 38 tTrue := ok0 (code_mk Try.func38 epactlaw07_answers.ent epactlaw07_answers.chk (specOk_cons okSplit (specOk_cons okJoin (specOk_cons okJulian okSpW)))) ⟨0, by
  have e1 : why (0, 2, 3) = 0 := by decide
  have e2 : why (51544, 43200, 0) = 0 := by decide
  have e3 : inD (-1) := by decide
  simp [epactlaw07_answers.c, e1, e2, e3, spl, jn, jul, whi, wlo]⟩
abbrev spLaw7 : List (Nat × (List AP → Option AV)) := (38, tTrue) :: (37, tWant) :: (36, tJoin) :: (39, tSplit) :: (45, tJulian) :: (46, tCivil) :: (40, tRJoin) :: (41, tRSplit) :: (48, tPlain) :: spRef
theorem okSpLaw7 : SpecOk Try.prog (spOf spLaw7) := specOk_cons okAns07 (specOk_cons okWant (specOk_cons okJoin (specOk_cons okSplit (specOk_cons okJulian (specOk_cons okCivil (specOk_cons okRJoin (specOk_cons okRSplit (specOk_cons okRPlain okSpRef))))))))
theorem why_iff {l : Int × Int × Int} (h : why l = 0) : pla l ∧ inD l.1 := by
  unfold why at h
  split at h
  · rename_i h1
    split at h
    · exact ⟨h1, by assumption⟩
    · cases h
  · cases h
theorem spl_jn {l : Int × Int × Int} (h : pla l) : spl (jn l) = l := by
  obtain ⟨d, s, a⟩ := l
  simp only [pla] at h
  have e1 : ((d * 86400 + s) * 1000000000000000000 + a) / 1000000000000000000 = d * 86400 + s := by omega
  have e2 : ((d * 86400 + s) * 1000000000000000000 + a) % 1000000000000000000 = a := by omega
  simp only [spl, jn, e1, e2]
  congr 1
  · omega
  · congr 1; omega
theorem jn_spl (t : Int) : jn (spl t) = t := by simp only [spl, jn]; omega
theorem pla_spl (t : Int) : pla (spl t) := by simp only [spl, pla]; omega
theorem mDayJoins : MeetsAll Try.prog 6 lawLab := all1 (code_mk Try.func6 epactlaw07_DayJoins.ent epactlaw07_DayJoins.chk okSpLaw7) (by simp [epactlaw07_DayJoins.c]) fun l hl _ => by
  obtain ⟨d, s, a⟩ := l
  simp at hl
  refine ⟨0, ?_⟩
  by_cases h0 : why (d, s, a) = 0
  · obtain ⟨h1, h2⟩ := why_iff h0
    have hr := jn_rng h1 h2
    have e := spl_jn h1
    have e2 : jn (d, s, a) / 1000000000000000000 / 86400 = d := congrArg Prod.fst e
    have s1 := md_sm (show md (jn (d, s, a)) by unfold md; omega)
    simp at h2
    simp [epactlaw07_DayJoins.c, hl, h0, hr, e, e2, h2, s1]
  · simp [epactlaw07_DayJoins.c, hl, h0]
theorem mDaySplits : MeetsAll Try.prog 7 lawW := all1 (code_mk Try.func7 epactlaw07_DaySplits.ent epactlaw07_DaySplits.chk okSpLaw7) (by simp [epactlaw07_DaySplits.c]) fun t ht _ => by
  simp at ht
  refine ⟨0, ?_⟩
  have s1 := md_sm (show md t by unfold md; omega)
  by_cases h : inD (t / 1000000000000000000 / 86400)
  · have hp : pla (spl t) := pla_spl t
    have h0 : why (spl t) = 0 := why0 hp h
    have e := jn_spl t
    obtain ⟨r1, r2, r3⟩ := spl_rng ht
    have f1 : -9223372036854775808 ≤ (spl t).1 ∧ (spl t).1 < 9223372036854775808 := by simp only [spl]; omega
    have f2 : -9223372036854775808 ≤ (spl t).2.1 ∧ (spl t).2.1 < 9223372036854775808 := by simp only [spl]; omega
    have f3 : -9223372036854775808 ≤ (spl t).2.2 ∧ (spl t).2.2 < 9223372036854775808 := by simp only [spl]; omega
    simp [epactlaw07_DaySplits.c, ht, s1, h, f1, f2, f3, h0, e]
  · simp [epactlaw07_DaySplits.c, ht, s1, h]
theorem jul_ok {l : Int × Int × Int} (h1 : pla l) (h2 : inD l.1) : pla (jul l) ∧ jn (jul l) - jn l = jn (2400000, 43200, 0) ∧ civ (jul l) = l ∧ (-9223372036854775808 ≤ (jul l).1 ∧ (jul l).1 < 9223372036854775808) ∧ (-9223372036854775808 ≤ (jul l).2.1 ∧ (jul l).2.1 < 9223372036854775808) ∧ (-9223372036854775808 ≤ (jul l).2.2 ∧ (jul l).2.2 < 9223372036854775808) := by
  obtain ⟨d, s, a⟩ := l
  simp only [pla, inD] at h1 h2
  by_cases h3 : 43200 ≤ s
  · have e : jul (d, s, a) = (d + 2400001, s - 43200, a) := by simp only [jul]; rw [if_pos h3]
    rw [e]
    refine ⟨by simp only [pla]; omega, by simp only [jn]; omega, ?_, by simp only; omega, by simp only; omega, by simp only; omega⟩
    simp only [civ]
    rw [if_neg (by omega)]
    congr 1
    · omega
    · congr 1; omega
  · have e : jul (d, s, a) = (d + 2400000, s + 43200, a) := by simp only [jul]; rw [if_neg h3]
    rw [e]
    refine ⟨by simp only [pla]; omega, by simp only [jn]; omega, ?_, by simp only; omega, by simp only; omega, by simp only; omega⟩
    simp only [civ]
    rw [if_pos (by omega)]
    congr 1
    · omega
    · congr 1; omega
theorem jn_sm {l : Int × Int × Int} (h : (-9223372036854775808 ≤ l.1 ∧ l.1 < 9223372036854775808) ∧ (-9223372036854775808 ≤ l.2.1 ∧ l.2.1 < 9223372036854775808) ∧ (-9223372036854775808 ≤ l.2.2 ∧ l.2.2 < 9223372036854775808)) : md (jn l) := by unfold md jn; omega
theorem mDayJulian : MeetsAll Try.prog 9 lawLab := all1 (code_mk Try.func9 epactlaw07_DayJulian.ent epactlaw07_DayJulian.chk okSpLaw7) (by simp [epactlaw07_DayJulian.c]) fun l hl _ => by
  obtain ⟨d, s, a⟩ := l
  simp at hl
  refine ⟨0, ?_⟩
  by_cases h0 : why (d, s, a) = 0
  · obtain ⟨h1, h2⟩ := why_iff h0
    obtain ⟨p1, p2, p3, p4, p5, p6⟩ := jul_ok h1 h2
    have s1 := md_sm (jn_sm (l := (d, s, a)) hl)
    have s2 := md_sm (jn_sm (l := jul (d, s, a)) ⟨p4, p5, p6⟩)
    have s3 := md_sm (jn_sm (l := (2400000, 43200, 0)) (by decide))
    simp at h2
    simp [epactlaw07_DayJulian.c, hl, h0, h2, p1, p2, p3, p4, p5, p6, s1, s2, s3]
  · simp [epactlaw07_DayJulian.c, hl, h0]
theorem civ_ok {l : Int × Int × Int} (h : pla l) : spl (jn l - jn (2400000, 43200, 0)) = civ l := by
  have e : jn l - jn (2400000, 43200, 0) = jn (civ l) := by
    obtain ⟨d, s, a⟩ := l
    by_cases h3 : 43200 ≤ s
    · simp only [civ]; rw [if_pos h3]; simp only [jn]; omega
    · simp only [civ]; rw [if_neg h3]; simp only [jn]; omega
  rw [e]
  refine spl_jn ?_
  obtain ⟨d, s, a⟩ := l
  simp only [pla] at h
  by_cases h3 : 43200 ≤ s
  · simp only [civ]; rw [if_pos h3]; simp only [pla]; omega
  · simp only [civ]; rw [if_neg h3]; simp only [pla]; omega
theorem mDayCivil : MeetsAll Try.prog 10 lawLab := all1 (code_mk Try.func10 epactlaw07_DayCivil.ent epactlaw07_DayCivil.chk okSpLaw7) (by simp [epactlaw07_DayCivil.c]) fun l hl _ => by
  obtain ⟨d, s, a⟩ := l
  simp at hl
  refine ⟨0, ?_⟩
  by_cases h1 : pla (d, s, a)
  · have e := civ_ok h1
    have e2 : (jn (d, s, a) - jn (2400000, 43200, 0)) / 1000000000000000000 / 86400 = (civ (d, s, a)).1 := congrArg Prod.fst e
    have s1 := md_sm (jn_sm (l := (d, s, a)) hl)
    have s3 := md_sm (jn_sm (l := (2400000, 43200, 0)) (by decide))
    have s4 : smB (jn (d, s, a) - jn (2400000, 43200, 0)) := by
      have h3 := jn_sm (l := (d, s, a)) hl
      have h4 := jn_sm (l := (2400000, 43200, 0)) (by decide)
      unfold md at h3 h4
      unfold smB
      omega
    by_cases h2 : inD (civ (d, s, a)).1
    · simp [epactlaw07_DayCivil.c, hl, h1, h2, e, e2, s1, s3, s4]
    · simp [epactlaw07_DayCivil.c, hl, h1, h2, e, e2, s1, s3, s4]
  · simp [epactlaw07_DayCivil.c, hl, h1]
end Go.Proofs.Ytanolecbepjkcaa.E

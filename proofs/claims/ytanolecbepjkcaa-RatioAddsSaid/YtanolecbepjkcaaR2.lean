/- The laws of the chapter 03: what their code answers. -/
import Derived.Test.YtanolecbepjkcaaR1
set_option linter.unusedVariables false
set_option linter.unusedSimpArgs false
set_option maxHeartbeats 2000000
set_option maxRecDepth 100000
namespace Go.Proofs.Ytanolecbepjkcaa.E
open Go.VC Go.RowKit

abbrev lawR := s1 coR Tt1 fun _ => .o (bv true)
abbrev lawRR := s2 coR coR Tt2 fun _ _ => .o (bv true)
theorem mul_md {x y : Int} (hx : md x) (hy : md y) : smB (x * y) := by
  unfold md at hx hy
  have h1 : x.natAbs ≤ 2037035976334486086268445688409378161051468393665936250636140449354381299763336706183397376 := by omega
  have h2 : y.natAbs ≤ 2037035976334486086268445688409378161051468393665936250636140449354381299763336706183397376 := by omega
  have h3 := Nat.mul_le_mul h1 h2
  rw [← Int.natAbs_mul] at h3
  unfold smB
  omega

theorem okAns03 : Ok Try.prog 26 tTrue := ok0 (code_mk Try.func26 epactlaw03_answers.ent epactlaw03_answers.chk (specOk_cons okMake (specOk_cons okFloor (specOk_cons okCeil okSpW)))) ⟨0, by
  have e : gc (-6) 4 = 2 := rfl
  simp [epactlaw03_answers.c, e]⟩
abbrev tGood := s1 coR Tt1 fun a => .o (bv (decide (0 < a.2)))
theorem okGood : Ok Try.prog 28 tGood := ok1 (code_mk Try.func28 epactlaw03_good.ent epactlaw03_good.chk okSpRef) (by simp [epactlaw03_good.c]) fun a ha _ => by
  obtain ⟨n, d⟩ := a
  simp at ha
  refine ⟨0, ?_⟩
  have s1 := md_sm (w_md ha.2)
  have s0 : smB 0 := by decide
  simp [epactlaw03_good.c, ha, s0, s1]
theorem gc_0 {y : Int} (h : 0 ≤ y) : gc y 0 = y := by unfold gc; rw [Int.gcd_zero_right]; omega
abbrev tIs := s3 coR coB coB (fun _ n d => md n ∧ md d) fun a n d => .o (bv (decide (0 < a.2 ∧ a.1 * d = n * a.2 ∧ gc a.1 a.2 = 1)))
theorem okIs : Ok Try.prog 27 tIs := ok3 (code_mk Try.func27 epactlaw03_is.ent epactlaw03_is.chk (specOk_cons okGood okSpRef)) (by simp [epactlaw03_is.c]) fun a n d ha _ _ hg => by
  obtain ⟨x, y⟩ := a
  obtain ⟨g1, g2⟩ := hg
  simp at ha
  have s1 := md_sm (w_md ha.1)
  have s2 := md_sm (w_md ha.2)
  have s3 := md_sm g1
  have s4 := md_sm g2
  have s5 := mul_md (w_md ha.1) g2
  have s6 := mul_md g1 (w_md ha.2)
  refine ⟨y.toNat + 3, ?_⟩
  by_cases h : 0 < y
  · by_cases he : x * d = n * y
    · rw [he] at s5
      simp [epactlaw03_is.c, ha, s1, s2, s3, s4, s5, s6, h, he]
      refine loopW_while (fun m s => s.tm 7 = .o (.c (.p 7 0)) ∧ s.tm 8 = .o (.c (.p 8 0)) ∧ ∃ u v : Int, s.mem 7 = some [.v (.bool (ngB u)), .r .i64 (dg u)] ∧ s.mem 8 = some [.v (.bool (ngB v)), .r .i64 (dg v)] ∧ 0 ≤ u ∧ u.toNat = m ∧ md u ∧ md v ∧ (u = 0 → 0 < v) ∧ gc v u = gc x y) ?_ (y.toNat + 3) y.toNat _ (by omega) ?_
      · rintro m s ⟨t7, t8, u, v, m7, m8, hu, hm, f1, f2, hv, hgc⟩
        have s7 := md_sm f1
        have s8 := md_sm f2
        have c0 : smB 0 := by decide
        have c1 : smB 1 := by decide
        have c2 : smB (-1) := by decide
        by_cases h0 : 0 < u
        · have r0 := Int.emod_nonneg v (show u ≠ 0 by omega)
          have r1 := Int.emod_lt_of_pos v h0
          have d1 : 65536 * u < 4562440617622195218641171605700291324893228507248559930579192517899275167208677386505912811317371399778642309573594407310688704721375437998252661319722214188251994674360264950082874192246603776 := by unfold md at f1; omega
          have f3 : md (v % u) := by unfold md at f1 ⊢; omega
          simp [epactlaw03_is.l1, t7, t8, m7, m8, s7, s8, c0, c1, c2, h0, d1]
          exact ⟨(v % u).toNat, by omega, v % u, ⟨rfl, rfl⟩, u, ⟨rfl, rfl⟩, r0, rfl, f3, f1, fun _ => h0, by rw [gc_step, hgc]⟩
        · have hu0 : u = 0 := by omega
          subst hu0
          rw [gc_0 (by have := hv rfl; omega)] at hgc
          have hv0 := hv rfl
          subst hgc
          have e1 : ¬ gc x y = -1 := by omega
          simp [epactlaw03_is.l1, t7, t8, m7, m8, s7, s8, c0, c1, c2, e1]
      · simp
        exact ⟨y, ⟨rfl, rfl⟩, x, ⟨rfl, rfl⟩, by omega, rfl, w_md ha.2, w_md ha.1, by omega, rfl⟩
    · simp [epactlaw03_is.c, ha, s1, s2, s3, s4, s5, s6, h, he]
  · simp [epactlaw03_is.c, ha, s1, s2, s3, s4, s5, s6, h]
abbrev spLaw3 : List (Nat × (List AP → Option AV)) := (26, tTrue) :: (28, tGood) :: (27, tIs) :: (22, tMake) :: (32, tFloor) :: (33, tCeil) :: (35, tRCmp) :: spRef
theorem okSpLaw3 : SpecOk Try.prog (spOf spLaw3) := specOk_cons okAns03 (specOk_cons okGood (specOk_cons okIs (specOk_cons okMake (specOk_cons okFloor (specOk_cons okCeil (specOk_cons okRCmp okSpRef))))))
theorem mRatioMakes : MeetsAll Try.prog 3 lawWW := all2 (code_mk Try.func3 epactlaw03_RatioMakes.ent epactlaw03_RatioMakes.chk okSpLaw3) (by simp [epactlaw03_RatioMakes.c]) fun n d hn hd _ => by
  simp at hn hd
  refine ⟨0, ?_⟩
  have s1 := md_sm (w_md hn)
  have s2 := md_sm (w_md hd)
  have s0 : smB 0 := by decide
  have m1 := w_md hn
  have m2 := w_md hd
  by_cases h : 0 < d
  · have h' := Int.not_le.2 h
    have g0 := gc_pos (a := n) h
    have q1 := div_fits hn.1 hn.2 g0
    have q2 := div_fits hd.1 hd.2 g0
    have e1 := gc_l n d
    have e2 := gc_r n d
    have e3 := gc_1 (a := n) h
    have q0 : 0 < d / gc n d := by
      rcases Int.lt_or_le 0 (d / gc n d) with h1 | h1
      · exact h1
      · have := Int.mul_nonpos_of_nonpos_of_nonneg h1 (Int.le_of_lt g0); omega
    have e4 : n / gc n d * d = n * (d / gc n d) := by
      generalize n / gc n d = a at *
      generalize d / gc n d = b at *
      generalize gc n d = g at *
      subst e1; subst e2; grind
    simp [epactlaw03_RatioMakes.c, hn, hd, s0, s1, s2, m1, m2, h, h', q1, q2, q0, e3, e4]
  · have h' := Int.not_lt.1 h
    simp [epactlaw03_RatioMakes.c, hn, hd, s0, s1, s2, h, h']
theorem mRatioCmps : MeetsAll Try.prog 5 lawRR := all2 (code_mk Try.func5 epactlaw03_RatioCmps.ent epactlaw03_RatioCmps.chk okSpLaw3) (by simp [epactlaw03_RatioCmps.c]) fun a b ha hb _ => by
  obtain ⟨n1, d1⟩ := a
  obtain ⟨n2, d2⟩ := b
  simp at ha hb
  refine ⟨0, ?_⟩
  have s1 := md_sm (w_md ha.1)
  have s2 := md_sm (w_md ha.2)
  have s3 := md_sm (w_md hb.1)
  have s4 := md_sm (w_md hb.2)
  have s5 := mul_md (w_md ha.1) (w_md hb.2)
  have s6 := mul_md (w_md hb.1) (w_md ha.2)
  have e : cmpI (n2 * d1) (n1 * d2) = -cmpI (n1 * d2) (n2 * d1) := cmpI_neg
  have r := cmpI_rng (n1 * d2) (n2 * d1)
  have w : IntKind.i64.wrap (-cmpI (n1 * d2) (n2 * d1)) = -cmpI (n1 * d2) (n2 * d1) := wrap_i64_in (by omega) (by omega)
  by_cases h1 : 0 < d1
  · by_cases h2 : 0 < d2
    · simp [epactlaw03_RatioCmps.c, ha, hb, s1, s2, s3, s4, s5, s6, h1, h2, e, w]
    · simp [epactlaw03_RatioCmps.c, ha, hb, s1, s2, s3, s4, s5, s6, h1, h2]
  · simp [epactlaw03_RatioCmps.c, ha, hb, s1, s2, s3, s4, s5, s6, h1]
theorem mRatioWhole : MeetsAll Try.prog 4 lawR := all1 (code_mk Try.func4 epactlaw03_RatioWhole.ent epactlaw03_RatioWhole.chk okSpLaw3) (by simp [epactlaw03_RatioWhole.c]) fun a ha _ => by
  obtain ⟨n, d⟩ := a
  simp at ha
  refine ⟨0, ?_⟩
  have s0 : smB 0 := by decide
  have s01 : smB 1 := by decide
  have s1 := md_sm (w_md ha.1)
  have s2 := md_sm (w_md ha.2)
  by_cases h : 0 < d
  · have q1 := div_fits ha.1.1 ha.1.2 h
    have r0 := Int.emod_nonneg n (show d ≠ 0 by omega)
    have r1 := Int.emod_lt_of_pos n h
    have d1 : 65536 * d < 4562440617622195218641171605700291324893228507248559930579192517899275167208677386505912811317371399778642309573594407310688704721375437998252661319722214188251994674360264950082874192246603776 := by omega
    have s3 : smB (n / d) := md_sm (w_md q1)
    have s4 : smB (n % d) := by unfold smB; omega
    have s5 : smB (n / d + 1) := by unfold smB; omega
    by_cases hr : n % d = 0
    · simp [epactlaw03_RatioWhole.c, ha, s0, s01, s1, s2, s3, s4, s5, h, q1, d1, hr]
    · have q2 : -170141183460469231731687303715884105728 ≤ n / d + 1 ∧ n / d + 1 < 170141183460469231731687303715884105728 := by
        have hm := Int.mul_ediv_add_emod n d
        have hd2 : 2 ≤ d := by
          rcases Int.lt_or_le d 2 with h1 | h1
          · have : d = 1 := by omega
            subst this; simp at hr
          · exact h1
        have : n / d < 170141183460469231731687303715884105728 - 1 := Int.ediv_lt_of_lt_mul h (by
          have : (170141183460469231731687303715884105728 - 1) * 2 ≤ (170141183460469231731687303715884105728 - 1) * d := Int.mul_le_mul_of_nonneg_left hd2 (by decide)
          omega)
        omega
      simp [epactlaw03_RatioWhole.c, ha, s0, s01, s1, s2, s3, s4, s5, h, q1, q2, d1, hr]
  · simp [epactlaw03_RatioWhole.c, ha, s0, s1, s2, h]
end Go.Proofs.Ytanolecbepjkcaa.E

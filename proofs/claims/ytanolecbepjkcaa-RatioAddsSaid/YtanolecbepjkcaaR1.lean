/- What the package ratio does. -/
import Derived.Test.YtanolecbepjkcaaP0
set_option linter.unusedVariables false
set_option linter.unusedSimpArgs false
set_option maxHeartbeats 2000000
set_option maxRecDepth 100000
namespace Go.Proofs.Ytanolecbepjkcaa.E
open Go.VC Go.RowKit

/-! ### The greatest common divisor -/
def gc (a b : Int) : Int := Int.gcd a b
theorem gc_step {a b : Int} : gc b (a % b) = gc a b := by
  unfold gc
  have h := Int.gcd_add_mul_left_right b (a % b) (a / b)
  rw [Int.add_comm, Int.mul_ediv_add_emod] at h
  rw [← h, Int.gcd_comm]
theorem gc_end {a b : Int} (hb : 0 < b) (h : a % b = 0) : gc a b = b := Int.gcd_eq_right (Int.le_of_lt hb) (Int.dvd_of_emod_eq_zero h)
theorem gc_pos {a b : Int} (hb : 0 < b) : 0 < gc a b := by
  have := Int.gcd_pos_of_ne_zero_right a (show b ≠ 0 by omega)
  unfold gc; omega
theorem gc_le {a b : Int} (hb : 0 < b) : gc a b ≤ b := Int.le_of_dvd hb (Int.gcd_dvd_right a b)
theorem gc_l (a b : Int) : a / gc a b * gc a b = a := Int.ediv_mul_cancel (Int.gcd_dvd_left a b)
theorem gc_r (a b : Int) : b / gc a b * gc a b = b := Int.ediv_mul_cancel (Int.gcd_dvd_right a b)
theorem gc_1 {a b : Int} (hb : 0 < b) : gc (a / gc a b) (b / gc a b) = 1 := by
  have := Int.gcd_ediv_gcd_ediv_gcd (i := a) (j := b) (by have := gc_pos (a := a) hb; unfold gc at this; omega)
  unfold gc
  rw [this]; rfl
abbrev tDivisor := s2 coW coW (fun _ b => 0 < b) fun a b => .o (wd (gc a b))
theorem okDivisor : Ok Try.prog 72 tDivisor := ok2 (code_mk Try.func72 ratio_divisor.ent ratio_divisor.chk okSpW) (by simp [ratio_divisor.c]) fun a b ha hb hg => by
  simp at ha hb
  refine ⟨b.toNat + 2, ?_⟩
  simp [ratio_divisor.c]
  refine loopW_while (fun m s => s.tm 2 = .o (.c (.p 2 0)) ∧ s.tm 3 = .o (.c (.p 3 0)) ∧ s.tm 4 = .o (.c (.p 4 0)) ∧ s.mem 4 = some [.v (.int .i64 0), .v (.int .u64 0)] ∧ ∃ x y : Int, s.mem 2 = some [.v (.int .i64 (whi x)), .v (.int .u64 (wlo x))] ∧ s.mem 3 = some [.v (.int .i64 (whi y)), .v (.int .u64 (wlo y))] ∧ 0 < y ∧ y.toNat = m ∧ (-170141183460469231731687303715884105728 ≤ x ∧ x < 170141183460469231731687303715884105728) ∧ (-170141183460469231731687303715884105728 ≤ y ∧ y < 170141183460469231731687303715884105728) ∧ gc x y = gc a b) ?_ (b.toNat + 2) b.toNat _ (by omega) ?_
  · rintro m s ⟨t2, t3, t4, m4, x, y, m2, m3, hy, hm, hx2, hy2, hgc⟩
    have hy' := Int.not_le.2 hy
    have hq := div_fits hx2.1 hx2.2 hy
    have r0 := Int.emod_nonneg x (show y ≠ 0 by omega)
    have r1 := Int.emod_lt_of_pos x hy
    by_cases hr : x % y = 0
    · have e := gc_end hy hr
      rw [hgc] at e
      simp [ratio_divisor.l1, t2, t3, t4, m2, m3, m4, hx2, hy2, hy, hy', hq, hr, e]
    · simp [ratio_divisor.l1, t2, t3, t4, m2, m3, m4, hx2, hy2, hy, hy', hq, hr]
      exact ⟨(x % y).toNat, by omega, by omega, rfl, by omega, by rw [gc_step, hgc]⟩
  · simp
    exact ⟨hg, ha, hb⟩
/-! ### Fractions -/
abbrev rt (n d : Int) : AP := .g [.v (.int .i64 (whi n)), .v (.int .u64 (wlo n)), .v (.int .i64 (whi d)), .v (.int .u64 (wlo d))]
def vR : AP → Bool
  | .g [.v (.int .i64 h), .v (.int .u64 l), .v (.int .i64 h'), .v (.int .u64 l')] => decide ((-9223372036854775808 ≤ h ∧ h < 9223372036854775808 ∧ 0 ≤ l ∧ l < 18446744073709551616) ∧ (-9223372036854775808 ≤ h' ∧ h' < 9223372036854775808 ∧ 0 ≤ l' ∧ l' < 18446744073709551616))
  | _ => false
def tR : AP → Int × Int
  | .g [.v (.int _ h), .v (.int _ l), .v (.int _ h'), .v (.int _ l')] => (h * 18446744073709551616 + l, h' * 18446744073709551616 + l')
  | _ => (0, 0)
theorem vR_g {h l h' l' : Int} : (vR (.g [.v (.int .i64 h), .v (.int .u64 l), .v (.int .i64 h'), .v (.int .u64 l')]) = true) = ((-9223372036854775808 ≤ h ∧ h < 9223372036854775808 ∧ 0 ≤ l ∧ l < 18446744073709551616) ∧ (-9223372036854775808 ≤ h' ∧ h' < 9223372036854775808 ∧ 0 ≤ l' ∧ l' < 18446744073709551616)) := by simp only [vR, decide_eq_true_eq]
theorem vR_z {x y : Int} : (vR (.g [.v (.int .i64 (whi x)), .v (.int .u64 (wlo x)), .v (.int .i64 (whi y)), .v (.int .u64 (wlo y))]) = true) = ((-170141183460469231731687303715884105728 ≤ x ∧ x < 170141183460469231731687303715884105728) ∧ (-170141183460469231731687303715884105728 ≤ y ∧ y < 170141183460469231731687303715884105728)) := by
  rw [vR_g]
  unfold whi wlo
  apply propext
  constructor
  · rintro ⟨h1, h2⟩
    exact ⟨by omega, by omega⟩
  · rintro ⟨h1, h2⟩
    exact ⟨by omega, by omega⟩
theorem tR_z {x y : Int} {a b c d : IntKind} : tR (.g [.v (.int a (whi x)), .v (.int b (wlo x)), .v (.int c (whi y)), .v (.int d (wlo y))]) = (x, y) := by
  simp only [tR, whi_wlo]
def coR : Co (Int × Int) where
  e := fun a => rt a.1 a.2
  p := fun a => (-170141183460469231731687303715884105728 ≤ a.1 ∧ a.1 < 170141183460469231731687303715884105728) ∧ (-170141183460469231731687303715884105728 ≤ a.2 ∧ a.2 < 170141183460469231731687303715884105728)
  v a := vR a = true
  dv a := inferInstance
  t := tR
  some {a} h := by
    unfold vR at h
    split at h
    · rename_i h0 l0 h1 l1
      have h := of_decide_eq_true h
      have e0 : whi (h0 * 18446744073709551616 + l0) = h0 := by unfold whi; omega
      have e1 : wlo (h0 * 18446744073709551616 + l0) = l0 := by unfold wlo; omega
      have e2 : whi (h1 * 18446744073709551616 + l1) = h1 := by unfold whi; omega
      have e3 : wlo (h1 * 18446744073709551616 + l1) = l1 := by unfold wlo; omega
      refine ⟨?_, ?_⟩
      · simp only [tR, rt, e0, e1, e2, e3]
      · simp only [tR]; omega
    · cases h
  enc {x} h := ⟨by rw [vR_z]; exact h, tR_z⟩
theorem coR_e {a : Int × Int} : coR.e a = .g [.v (.int .i64 (whi a.1)), .v (.int .u64 (wlo a.1)), .v (.int .i64 (whi a.2)), .v (.int .u64 (wlo a.2))] := _root_.id rfl
theorem coR_v {a : AP} : coR.v a = (vR a = true) := _root_.id rfl
theorem coR_t {a : AP} : coR.t a = tR a := _root_.id rfl
theorem coR_p {a : Int × Int} : coR.p a = ((-170141183460469231731687303715884105728 ≤ a.1 ∧ a.1 < 170141183460469231731687303715884105728) ∧ (-170141183460469231731687303715884105728 ≤ a.2 ∧ a.2 < 170141183460469231731687303715884105728)) := _root_.id rfl
attribute [simp high] vR_z
attribute [simp] vR_g tR_z coR_e coR_v coR_t coR_p
abbrev tMake := s2 coW coW Tt2 fun n d => if d ≤ 0 then .t [rt 0 0, iv .i64 3] else .t [rt (n / gc n d) (d / gc n d), iv .i64 0]
theorem okMake : Ok Try.prog 22 tMake := ok2 (code_mk Try.func22 ratio_Make.ent ratio_Make.chk (specOk_cons okDivisor okSpW)) (by simp [ratio_Make.c]) fun n d hn hd _ => by
  simp at hn hd
  refine ⟨0, ?_⟩
  by_cases h : 0 < d
  · have h' := Int.not_le.2 h
    have g0 := gc_pos (a := n) h
    have g0' := Int.not_le.2 g0
    have g1 := gc_le (a := n) h
    have g2 : -170141183460469231731687303715884105728 ≤ gc n d ∧ gc n d < 170141183460469231731687303715884105728 := by omega
    have q1 := div_fits hn.1 hn.2 g0
    have q2 := div_fits hd.1 hd.2 g0
    simp [ratio_Make.c, hn, hd, h, h', g0, g0', g2, q1, q2]
  · have h' := Int.not_lt.1 h
    simp [ratio_Make.c, hn, hd, h, h']
abbrev tFloor := s1 coR (fun a => 0 < a.2) fun a => .o (wd (a.1 / a.2))
theorem okFloor : Ok Try.prog 32 tFloor := ok1 (code_mk Try.func32 ratio_Floor.ent ratio_Floor.chk okSpW) (by simp [ratio_Floor.c]) fun a ha h => by
  obtain ⟨n, d⟩ := a
  simp at ha h
  refine ⟨0, ?_⟩
  have h' := Int.not_le.2 h
  have q1 := div_fits ha.1.1 ha.1.2 h
  simp [ratio_Floor.c, ha, h, h', q1]
abbrev tCeil := s1 coR (fun a => 0 < a.2) fun a => .o (wd (if a.1 % a.2 = 0 then a.1 / a.2 else a.1 / a.2 + 1))
theorem okCeil : Ok Try.prog 33 tCeil := ok1 (code_mk Try.func33 ratio_Ceil.ent ratio_Ceil.chk okSpW) (by simp [ratio_Ceil.c]) fun a ha h => by
  obtain ⟨n, d⟩ := a
  simp at ha h
  refine ⟨0, ?_⟩
  have h' := Int.not_le.2 h
  have q1 := div_fits ha.1.1 ha.1.2 h
  by_cases hr : n % d = 0
  · simp [ratio_Ceil.c, ha, h, h', q1, hr]
  · have hm := Int.mul_ediv_add_emod n d
    have r0 := Int.emod_nonneg n (show d ≠ 0 by omega)
    have hd2 : 2 ≤ d := by
      rcases Int.lt_or_le d 2 with h1 | h1
      · have : d = 1 := by omega
        subst this; simp at hr
      · exact h1
    have q2 : -170141183460469231731687303715884105728 ≤ n / d + 1 ∧ n / d + 1 < 170141183460469231731687303715884105728 := by
      have : n / d < 170141183460469231731687303715884105728 - 1 := Int.ediv_lt_of_lt_mul h (by
        have : (170141183460469231731687303715884105728 - 1) * 2 ≤ (170141183460469231731687303715884105728 - 1) * d := Int.mul_le_mul_of_nonneg_left hd2 (by decide)
        omega)
      omega
    simp [ratio_Ceil.c, ha, h, h', q1, q2, hr]
/-! ### Which of two fractions is greater -/
theorem cmpI_neg {x y : Int} : cmpI y x = -cmpI x y := by
  unfold cmpI
  split <;> split <;> (try split) <;> (try split) <;> omega
theorem cmpI_rng (x y : Int) : -1 ≤ cmpI x y ∧ cmpI x y ≤ 1 := by unfold cmpI; split <;> (try split) <;> omega
theorem wrap_cmp (x y : Int) : IntKind.i64.wrap (cmpI x y) = cmpI x y := by
  have := cmpI_rng x y
  exact wrap_i64_in (by omega) (by omega)
attribute [simp] wrap_cmp
theorem cmpI_congr {x y x' y' : Int} (h1 : x < y ↔ x' < y') (h2 : x = y ↔ x' = y') : cmpI x y = cmpI x' y' := by
  unfold cmpI
  by_cases a : x = y
  · rw [if_pos a, if_pos (h2.1 a)]
  · rw [if_neg a, if_neg (fun h => a (h2.2 h))]
    by_cases b : x < y
    · rw [if_pos b, if_pos (h1.1 b)]
    · rw [if_neg b, if_neg (fun h => b (h1.2 h))]
/-- By whole parts, and what is left. -/
theorem frac_dif {n1 d1 n2 d2 : Int} (h1 : 0 < d1) (h2 : 0 < d2) : n1 * d2 - n2 * d1 = (n1 / d1 - n2 / d2) * (d1 * d2) + (n1 % d1 * d2 - n2 % d2 * d1) ∧ 0 < d1 * d2 ∧ 0 ≤ n1 % d1 * d2 ∧ n1 % d1 * d2 < d1 * d2 ∧ 0 ≤ n2 % d2 * d1 ∧ n2 % d2 * d1 < d1 * d2 := by
  have a1 := Int.mul_ediv_add_emod n1 d1
  have a2 := Int.mul_ediv_add_emod n2 d2
  have r1 := Int.emod_nonneg n1 (show d1 ≠ 0 by omega)
  have r2 := Int.emod_nonneg n2 (show d2 ≠ 0 by omega)
  have l1 := Int.emod_lt_of_pos n1 h1
  have l2 := Int.emod_lt_of_pos n2 h2
  generalize n1 / d1 = q1 at *
  generalize n2 / d2 = q2 at *
  generalize n1 % d1 = s1 at *
  generalize n2 % d2 = s2 at *
  refine ⟨by subst a1; subst a2; grind, Int.mul_pos h1 h2, Int.mul_nonneg r1 (by omega), Int.mul_lt_mul_of_pos_right l1 h2, Int.mul_nonneg r2 (by omega), ?_⟩
  rw [Int.mul_comm d1 d2]
  exact Int.mul_lt_mul_of_pos_right l2 h1
theorem frac_ne {n1 d1 n2 d2 : Int} (h1 : 0 < d1) (h2 : 0 < d2) (h : n1 / d1 ≠ n2 / d2) : cmpI (n1 * d2) (n2 * d1) = cmpI (n1 / d1) (n2 / d2) := by
  obtain ⟨e, p, a0, a1, b0, b1⟩ := frac_dif (n1 := n1) (n2 := n2) h1 h2
  refine cmpI_congr ⟨fun h3 => ?_, fun h3 => ?_⟩ ⟨fun h3 => ?_, fun h3 => (h h3).elim⟩
  · rcases Int.lt_trichotomy (n1 / d1) (n2 / d2) with h4 | h4 | h4
    · exact h4
    · exact (h h4).elim
    · have : 1 * (d1 * d2) ≤ (n1 / d1 - n2 / d2) * (d1 * d2) := Int.mul_le_mul_of_nonneg_right (by omega) (by omega)
      omega
  · have : 1 * (d1 * d2) ≤ (n2 / d2 - n1 / d1) * (d1 * d2) := Int.mul_le_mul_of_nonneg_right (by omega) (by omega)
    have e2 : (n2 / d2 - n1 / d1) * (d1 * d2) = -((n1 / d1 - n2 / d2) * (d1 * d2)) := by rw [← Int.neg_mul]; congr 1; omega
    omega
  · rcases Int.lt_trichotomy (n1 / d1) (n2 / d2) with h4 | h4 | h4
    · have : 1 * (d1 * d2) ≤ (n2 / d2 - n1 / d1) * (d1 * d2) := Int.mul_le_mul_of_nonneg_right (by omega) (by omega)
      have e2 : (n2 / d2 - n1 / d1) * (d1 * d2) = -((n1 / d1 - n2 / d2) * (d1 * d2)) := by rw [← Int.neg_mul]; congr 1; omega
      omega
    · exact h4
    · have : 1 * (d1 * d2) ≤ (n1 / d1 - n2 / d2) * (d1 * d2) := Int.mul_le_mul_of_nonneg_right (by omega) (by omega)
      omega
theorem frac_eq {n1 d1 n2 d2 : Int} (h1 : 0 < d1) (h2 : 0 < d2) (h : n1 / d1 = n2 / d2) : cmpI (n1 * d2) (n2 * d1) = cmpI (n1 % d1 * d2) (n2 % d2 * d1) := by
  obtain ⟨e, -⟩ := frac_dif (n1 := n1) (n2 := n2) h1 h2
  rw [h, Int.sub_self, Int.zero_mul, Int.zero_add] at e
  exact cmpI_congr (by omega) (by omega)
theorem frac_z {r s d1 d2 : Int} (h1 : 0 < d1) (h2 : 0 < d2) (r0 : 0 ≤ r) (s0 : 0 ≤ s) (h : r = 0 ∨ s = 0) : cmpI (r * d2) (s * d1) = cmpI r s := by
  rcases h with rfl | rfl
  · rw [Int.zero_mul]
    by_cases hs : s = 0
    · subst hs; rw [Int.zero_mul]
    · have := Int.mul_pos (show 0 < s by omega) h1
      exact cmpI_congr (by omega) (by omega)
  · rw [Int.zero_mul]
    by_cases hs : r = 0
    · subst hs; rw [Int.zero_mul]
    · have := Int.mul_pos (show 0 < r by omega) h2
      exact cmpI_congr (by omega) (by omega)
abbrev tRCmp := s2 coR coR (fun a b => 0 < a.2 ∧ 0 < b.2) fun a b => .o (iv .i64 (cmpI (a.1 * b.2) (b.1 * a.2)))
theorem sg_rng {g c : Int} (hg : g = 1 ∨ g = -1) (hc : -1 ≤ c ∧ c ≤ 1) : IntKind.i64.wrap (g * c) = g * c := by
  rcases hg with rfl | rfl <;> exact wrap_i64_in (by omega) (by omega)
theorem okRCmp : Ok Try.prog 35 tRCmp := ok2 (code_mk Try.func35 ratio_Cmp.ent ratio_Cmp.chk okSpW) (by simp [ratio_Cmp.c]) fun a b ha hb hg => by
  obtain ⟨n1, d1⟩ := a
  obtain ⟨n2, d2⟩ := b
  simp at ha hb hg
  refine ⟨d1.toNat + 2, ?_⟩
  simp [ratio_Cmp.c]
  refine loopW_while (fun m s => s.tm 2 = .o (.c (.p 2 0)) ∧ s.tm 3 = .o (.c (.p 3 0)) ∧ ∃ x1 y1 x2 y2 g : Int, s.tm 5 = .o (.c (.v (.int .i64 g))) ∧ s.mem 2 = some [.v (.int .i64 (whi x1)), .v (.int .u64 (wlo x1)), .v (.int .i64 (whi y1)), .v (.int .u64 (wlo y1))] ∧ s.mem 3 = some [.v (.int .i64 (whi x2)), .v (.int .u64 (wlo x2)), .v (.int .i64 (whi y2)), .v (.int .u64 (wlo y2))] ∧ (g = 1 ∨ g = -1) ∧ 0 < y1 ∧ 0 < y2 ∧ y1.toNat = m ∧ (-170141183460469231731687303715884105728 ≤ x1 ∧ x1 < 170141183460469231731687303715884105728) ∧ (-170141183460469231731687303715884105728 ≤ y1 ∧ y1 < 170141183460469231731687303715884105728) ∧ (-170141183460469231731687303715884105728 ≤ x2 ∧ x2 < 170141183460469231731687303715884105728) ∧ (-170141183460469231731687303715884105728 ≤ y2 ∧ y2 < 170141183460469231731687303715884105728) ∧ g * cmpI (x1 * y2) (x2 * y1) = cmpI (n1 * d2) (n2 * d1)) ?_ (d1.toNat + 2) d1.toNat _ (by omega) ?_
  · rintro m s ⟨t2, t3, x1, y1, x2, y2, g, t5, m2, m3, hg1, p1, p2, hm, f1, f2, f3, f4, hC⟩
    have p1' := Int.not_le.2 p1
    have p2' := Int.not_le.2 p2
    have q1 := div_fits f1.1 f1.2 p1
    have q2 := div_fits f3.1 f3.2 p2
    have r1 := Int.emod_nonneg x1 (show y1 ≠ 0 by omega)
    have r2 := Int.emod_nonneg x2 (show y2 ≠ 0 by omega)
    have l1 := Int.emod_lt_of_pos x1 p1
    have l2 := Int.emod_lt_of_pos x2 p2
    have g1 : -170141183460469231731687303715884105728 ≤ x1 % y1 ∧ x1 % y1 < 170141183460469231731687303715884105728 := by omega
    have g2 : -170141183460469231731687303715884105728 ≤ x2 % y2 ∧ x2 % y2 < 170141183460469231731687303715884105728 := by omega
    by_cases hq : x1 / y1 = x2 / y2
    · rw [frac_eq p1 p2 hq] at hC
      by_cases hz1 : x1 % y1 = 0
      · rw [frac_z p1 p2 r1 r2 (.inl hz1)] at hC
        have w := sg_rng hg1 (cmpI_rng (x1 % y1) (x2 % y2))
        rw [hz1] at w hC
        simp [ratio_Cmp.l1, t2, t3, t5, m2, m3, f1, f2, f3, f4, p1, p2, p1', p2', q1, q2, g1, g2, hq, hz1, w, hC]
      · by_cases hz2 : x2 % y2 = 0
        · rw [frac_z p1 p2 r1 r2 (.inr hz2)] at hC
          have w := sg_rng hg1 (cmpI_rng (x1 % y1) (x2 % y2))
          rw [hz2] at w hC
          simp [ratio_Cmp.l1, t2, t3, t5, m2, m3, f1, f2, f3, f4, p1, p2, p1', p2', q1, q2, g1, g2, hq, hz1, hz2, w, hC]
        · have w : IntKind.i64.wrap (-g) = -g := by rcases hg1 with rfl | rfl <;> rfl
          simp [ratio_Cmp.l1, t2, t3, t5, m2, m3, f1, f2, f3, f4, p1, p2, p1', p2', q1, q2, g1, g2, hq, hz1, hz2, w]
          refine ⟨(x1 % y1).toNat, by omega, y1, x1 % y1, ⟨rfl, rfl, rfl⟩, y2, x2 % y2, ⟨rfl, rfl, rfl⟩, by omega, by omega, by omega, rfl, f2, by omega, f4, by omega, ?_⟩
          rw [Int.mul_comm y1, Int.mul_comm y2, cmpI_neg, Int.neg_mul_neg, hC]
    · rw [frac_ne p1 p2 hq] at hC
      have w := sg_rng hg1 (cmpI_rng (x1 / y1) (x2 / y2))
      simp [ratio_Cmp.l1, t2, t3, t5, m2, m3, f1, f2, f3, f4, p1, p2, p1', p2', q1, q2, g1, g2, hq, w, hC]
  · simp
    exact ⟨n1, d1, ⟨rfl, rfl, rfl⟩, n2, d2, ⟨rfl, rfl, rfl⟩, hg.1, hg.2, rfl, ha.1, ha.2, hb.1, hb.2, rfl⟩
end Go.Proofs.Ytanolecbepjkcaa.E

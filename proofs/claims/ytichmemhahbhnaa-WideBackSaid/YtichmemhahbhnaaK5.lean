/- The quotient of two words by one. -/
import Derived.Test.YtichmemhahbhnaaK4
set_option linter.unusedVariables false
set_option linter.unusedSimpArgs false
namespace Go.Proofs.Ytichmemhahbhnaa.E
open Go.VC Go.RowKit

def sDiv64 : List AP → Option AV
  | [.c (.v (.int .u64 hi)), .c (.v (.int .u64 lo)), .c (.v (.int .u64 y))] => if 0 ≤ hi ∧ hi < y ∧ y < 18446744073709551616 ∧ 0 ≤ lo ∧ lo < 18446744073709551616 then
      some (.t [iv .u64 ((hi * 18446744073709551616 + lo) / y), iv .u64 ((hi * 18446744073709551616 + lo) % y)]) else none
  | _ => none

theorem bl_bounds : ∀ (f x : Nat), x < 2 ^ f → x ≠ 0 → ∃ e, Lib.bitLenAux f x = e + 1 ∧ e + 1 ≤ f ∧ 2 ^ e ≤ x ∧ x < 2 ^ (e + 1)
  | 0, x, h, h0 => by simp at h; omega
  | f + 1, x, h, h0 => by
    rw [Lib.bitLenAux, if_neg h0]
    by_cases h2 : x / 2 = 0
    · refine ⟨0, ?_, by omega, by simp; omega, by simp; omega⟩
      rw [h2]
      cases f <;> simp [Lib.bitLenAux]
    · obtain ⟨e, a, b, c, d⟩ := bl_bounds f (x / 2) (by rw [Nat.pow_succ] at h; omega) h2
      exact ⟨e + 1, by omega, by omega, by rw [Nat.pow_succ]; omega, by rw [Nat.pow_succ]; omega⟩
theorem bitLen_spec (y : Int) (h0 : 0 < y) (h1 : y < 18446744073709551616) : ∃ s : Nat, s ≤ 63 ∧ (64 - (Lib.bitLen y.toNat : Int)) = (s : Int) ∧ 9223372036854775808 ≤ y * 2 ^ s ∧ y * 2 ^ s < 18446744073709551616 := by
  obtain ⟨y, rfl⟩ := Int.eq_ofNat_of_zero_le (show 0 ≤ y by omega)
  obtain ⟨e, h2, h3, h4, h5⟩ := bl_bounds 64 y (by omega) (by omega)
  have hb : Lib.bitLen y = e + 1 := h2
  refine ⟨63 - e, by omega, ?_, ?_, ?_⟩
  · simp only [Int.toNat_natCast]; rw [hb]; omega
  · have h : 2 ^ e * 2 ^ (63 - e) ≤ y * 2 ^ (63 - e) := Nat.mul_le_mul_right _ h4
    rw [← Nat.pow_add, show e + (63 - e) = 63 by omega] at h
    have e1 : (2 : Nat) ^ 63 = 9223372036854775808 := by decide
    rw [e1] at h
    have e2 : ((y * 2 ^ (63 - e) : Nat) : Int) = (y : Int) * 2 ^ (63 - e) := by push_cast; rfl
    rw [← e2]
    exact Int.ofNat_le.2 h
  · have h : y * 2 ^ (63 - e) < 2 ^ (e + 1) * 2 ^ (63 - e) := Nat.mul_lt_mul_of_pos_right h5 (Nat.two_pow_pos _)
    rw [← Nat.pow_add, show e + 1 + (63 - e) = 64 by omega] at h
    have e1 : (2 : Nat) ^ 64 = 18446744073709551616 := by decide
    rw [e1] at h
    have e2 : ((y * 2 ^ (63 - e) : Nat) : Int) = (y : Int) * 2 ^ (63 - e) := by push_cast; rfl
    rw [← e2]
    exact Int.ofNat_lt.2 h

theorem pow_split (s : Nat) (hs : s ≤ 63) : (2 ^ s : Int) * 2 ^ (64 - s) = 18446744073709551616 := by
  rw [← Int.pow_add]
  rw [show s + (64 - s) = 64 by omega]
  rfl

theorem okDiv64 : Ok Try.prog 70 sDiv64 := ok_of' Try.func70 bits_Div64.ent bits_Div64.chk (specOk_cons okLz64 specOk_nil) fun av r h => by
  unfold sDiv64 at h
  split at h
  · rename_i hi lo y
    split at h
    · rename_i hh
      cases h
      obtain ⟨h0, h1, h2, h3, h4⟩ := hh
      refine ⟨by simp [bits_Div64.c], 3, ?_⟩
      have y0 : ¬ y = 0 := by omega
      have y1 : ¬ y ≤ hi := by omega
      have y2 : 0 ≤ y := by omega
      by_cases hz : hi = 0
      · subst hz
        have t1 : lo.tdiv y = lo / y := Int.tdiv_eq_ediv_of_nonneg h3
        have t2 : lo.tmod y = lo % y := Int.tmod_eq_emod_of_nonneg h3
        have t3 : lo / y % 18446744073709551616 = lo / y := by
          have a1 : 0 ≤ lo / y := Int.ediv_nonneg h3 y2
          have a2 : lo / y ≤ lo := Int.ediv_le_self _ h3
          omega
        simp [bits_Div64.c, y0, y1, t1, t2, wrap_u64_eq, t3]
      · obtain ⟨s, hs, hs1, hn1, hn2⟩ := bitLen_spec y (by omega) h2
        have s1 : (s : Int) % 18446744073709551616 = s := by omega
        have s2 : ¬ ((s : Int) < 0) := by omega
        have s3 : min s 64 = s := by omega
        have s4 : (64 - (s : Int)) % 18446744073709551616 = 64 - s := by omega
        have s5 : ¬ (64 - (s : Int) < 0) := by omega
        have s6 : (64 - (s : Int)).toNat = 64 - s := by omega
        have s7 : min (64 - s) 64 = 64 - s := by omega
        have hS := pow_split s hs
        generalize hSd : (2 ^ s : Int) = S at *
        generalize hTd : (2 ^ (64 - s) : Int) = T at *
        have hS0 : 0 < S := by rw [← hSd]; exact Int.pow_pos (by decide)
        have hT0 : 0 < T := by rw [← hTd]; exact Int.pow_pos (by decide)
        have yS : y * S % 18446744073709551616 = y * S := by omega
        have hiS0 : 0 ≤ hi * S := Int.mul_nonneg h0 (by omega)
        have hiS1 : hi * S < y * S := Int.mul_lt_mul_of_pos_right h1 hS0
        have hiS : hi * S % 18446744073709551616 = hi * S := by omega
        have loT0 : 0 ≤ lo / T := Int.ediv_nonneg h3 (by omega)
        have loT1 : lo / T < S := Int.ediv_lt_of_lt_mul hT0 (by omega)
        have hSW : S ≤ 18446744073709551616 := by
          have := Int.mul_le_mul_of_nonneg_left (show 1 ≤ T by omega) (show 0 ≤ S by omega); omega
        have hor : bitsV .or .u64 (hi * S) (lo / T) = hi * S + lo / T :=
          or_u64_add s (by omega) hiS0 (by omega) (by rw [hSd]; exact Int.mul_emod_left _ _) loT0 (by rw [hSd]; exact loT1) (by omega)
        have hand1 : bitsV .and .u64 (y * S) 4294967295 = y * S % 4294967296 := and_u64_mask 32 (by omega) (by omega) (by decide) (by decide)
        have hand2 : bitsV .and .u64 (lo * S % 18446744073709551616) 4294967295 = lo * S % 18446744073709551616 % 4294967296 := and_u64_mask 32 (by omega) (by omega) (by decide) (by decide)
        have hfd : lo.fdiv T = lo / T := fdiv_pos (by omega)
        have hor : bitsV .or .u64 (hi * S) (lo.fdiv T) = hi * S + lo / T := by rw [hfd]; exact hor
        have hu0 : 0 ≤ hi * S + lo / T := by omega
        have hu1 : hi * S + lo / T < y * S := by
          have : hi * S + S ≤ y * S := by
            have := Int.mul_le_mul_of_nonneg_right (show hi + 1 ≤ y by omega) (show 0 ≤ S by omega)
            rw [Int.add_mul, Int.one_mul] at this; exact this
          omega
        generalize hud : hi * S + lo / T = u at *
        generalize hYd : y * S = Y at *
        have ha0 : ¬ Y / 4294967296 = 0 := by omega
        have ha1 : 0 ≤ Y / 4294967296 := by omega
        have hq : u.tdiv (Y / 4294967296) = u / (Y / 4294967296) := Int.tdiv_eq_ediv_of_nonneg hu0
        have hqq0 : 0 ≤ u / (Y / 4294967296) := Int.ediv_nonneg hu0 ha1
        have hqq1 : u / (Y / 4294967296) ≤ u := Int.ediv_le_self _ hu0
        have hqw : u / (Y / 4294967296) % 18446744073709551616 = u / (Y / 4294967296) := by omega
        have hqm : u / (Y / 4294967296) * (Y / 4294967296) + u % (Y / 4294967296) = u := by have := Int.mul_ediv_add_emod u (Y / 4294967296); rw [Int.mul_comm] at this; omega
        have hrm0 : 0 ≤ u % (Y / 4294967296) := Int.emod_nonneg _ (by omega)
        have hrm1 : u % (Y / 4294967296) < Y / 4294967296 := Int.emod_lt_of_pos _ (by omega)
        have hqm0 : 0 ≤ u / (Y / 4294967296) * (Y / 4294967296) := Int.mul_nonneg hqq0 ha1
        have hw1 : u / (Y / 4294967296) * (Y / 4294967296) % 18446744073709551616 = u / (Y / 4294967296) * (Y / 4294967296) := by omega
        have hw2 : (u - u / (Y / 4294967296) * (Y / 4294967296)) % 18446744073709551616 = u % (Y / 4294967296) := by omega
        simp [bits_Div64.c, y0, y1, hz, sLz64, y2, h2, hs1, wrap_u64_eq, fdiv_pos, s1, s2, s3, s4, s5, s6, s7, hSd, hTd, hYd, yS, hiS, hor, hand1, hand2, ha0, hq, hqw, hw1, hw2]
        have hYn : Y / 4294967296 * 4294967296 + Y % 4294967296 = Y := by omega
        generalize hzd : lo * S % 18446744073709551616 = z at *
        have hz0 : 0 ≤ z := by omega
        have hz1 : z < 18446744073709551616 := by omega
        refine EndsIn.mono (div_l1 _ u (Y / 4294967296) (Y % 4294967296) (z / 4294967296) (by omega) (by omega) (by omega) (by omega) (by omega) (by omega) hu0 (by omega) (by simp) (by simp) (by simp) (by simp) (by simp)) ?_
        rintro ax s' ⟨rfl, q1, fr, hm⟩
        rw [hYn] at q1
        have f2 : s'.tm 2 = .o (iv .u64 Y) := by rw [fr 2 (by decide) (by decide)]; simp
        have f8 : s'.tm 8 = .o (iv .u64 s) := by rw [fr 8 (by decide) (by decide)]; simp
        have f9 : s'.tm 9 = .o (iv .u64 (Y / 4294967296)) := by rw [fr 9 (by decide) (by decide)]; simp
        have f10 : s'.tm 10 = .o (iv .u64 (Y % 4294967296)) := by rw [fr 10 (by decide) (by decide)]; simp
        have f11 : s'.tm 11 = .o (iv .u64 u) := by rw [fr 11 (by decide) (by decide)]; simp
        have f13 : s'.tm 13 = .o (iv .u64 (z / 4294967296)) := by rw [fr 13 (by decide) (by decide)]; simp
        have f14 : s'.tm 14 = .o (iv .u64 (z % 4294967296)) := by rw [fr 14 (by decide) (by decide)]; simp; omega
        clear fr hm
        have hV0 : 0 ≤ u * 4294967296 + z / 4294967296 := by omega
        have hVm := Int.mul_ediv_add_emod (u * 4294967296 + z / 4294967296) Y
        have hV2 : 0 ≤ (u * 4294967296 + z / 4294967296) % Y := Int.emod_nonneg _ (by omega)
        have hV3 : (u * 4294967296 + z / 4294967296) % Y < Y := Int.emod_lt_of_pos _ (by omega)
        have hQ0 : 0 ≤ (u * 4294967296 + z / 4294967296) / Y := Int.ediv_nonneg hV0 (by omega)
        have hQ1 : (u * 4294967296 + z / 4294967296) / Y < 4294967296 := Int.ediv_lt_of_lt_mul (by omega) (by omega)
        generalize hQd : (u * 4294967296 + z / 4294967296) / Y = q at *
        generalize hvd : (u * 4294967296 + z / 4294967296) % Y = v at *
        rw [Int.mul_comm Y q] at hVm
        have hun : ((u * 4294967296 + z / 4294967296) % 18446744073709551616 - q * Y % 18446744073709551616) % 18446744073709551616 = v := by omega
        have hun' : (u * 4294967296 + z / 4294967296 - q * Y) % 18446744073709551616 = v := by omega
        have hv0 : 0 ≤ v / (Y / 4294967296) := Int.ediv_nonneg hV2 ha1
        have hv1 : v / (Y / 4294967296) ≤ v := Int.ediv_le_self _ hV2
        have hvq : v.tdiv (Y / 4294967296) = v / (Y / 4294967296) := Int.tdiv_eq_ediv_of_nonneg hV2
        have hvw : v / (Y / 4294967296) % 18446744073709551616 = v / (Y / 4294967296) := by omega
        have hvm : v / (Y / 4294967296) * (Y / 4294967296) + v % (Y / 4294967296) = v := by have := Int.mul_ediv_add_emod v (Y / 4294967296); rw [Int.mul_comm] at this; omega
        have hvr0 : 0 ≤ v % (Y / 4294967296) := Int.emod_nonneg _ (by omega)
        have hvr1 : v % (Y / 4294967296) < Y / 4294967296 := Int.emod_lt_of_pos _ (by omega)
        have hvn0 : 0 ≤ v / (Y / 4294967296) * (Y / 4294967296) := Int.mul_nonneg hv0 ha1
        have hvw1 : v / (Y / 4294967296) * (Y / 4294967296) % 18446744073709551616 = v / (Y / 4294967296) * (Y / 4294967296) := by omega
        have hvw2 : (v - v / (Y / 4294967296) * (Y / 4294967296)) % 18446744073709551616 = v % (Y / 4294967296) := by omega
        simp [q1, f2, f8, f9, f10, f11, f13, f14, wrap_u64_eq, hun, hun', ha0, hvq, hvw, hvw1, hvw2]
        refine EndsIn.mono (div_l2 _ v (Y / 4294967296) (Y % 4294967296) (z % 4294967296) (by omega) (by omega) (by omega) (by omega) (by omega) (by omega) hV2 (by omega) (by simp [f9]) (by simp [f10]) (by simp [f14]) (by simp) (by simp)) ?_
        rintro ax st ⟨rfl, q2, fr, hm⟩
        rw [hYn] at q2
        have e2 : st.tm 2 = .o (iv .u64 Y) := by rw [fr 2 (by decide) (by decide)]; simp [f2]
        have e8 : st.tm 8 = .o (iv .u64 s) := by rw [fr 8 (by decide) (by decide)]; simp [f8]
        have e14 : st.tm 14 = .o (iv .u64 (z % 4294967296)) := by rw [fr 14 (by decide) (by decide)]; simp [f14]
        have e15 : st.tm 15 = .o (iv .u64 q) := by rw [fr 15 (by decide) (by decide)]; simp [q1]
        have e17 : st.tm 17 = .o (iv .u64 v) := by rw [fr 17 (by decide) (by decide)]; simp
        clear fr hm
        have hWm := Int.mul_ediv_add_emod (v * 4294967296 + z % 4294967296) Y
        have hW2 : 0 ≤ (v * 4294967296 + z % 4294967296) % Y := Int.emod_nonneg _ (by omega)
        have hW3 : (v * 4294967296 + z % 4294967296) % Y < Y := Int.emod_lt_of_pos _ (by omega)
        have hP0 : 0 ≤ (v * 4294967296 + z % 4294967296) / Y := Int.ediv_nonneg (by omega) (by omega)
        have hP1 : (v * 4294967296 + z % 4294967296) / Y < 4294967296 := Int.ediv_lt_of_lt_mul (by omega) (by omega)
        generalize hPd : (v * 4294967296 + z % 4294967296) / Y = p at *
        generalize htd : (v * 4294967296 + z % 4294967296) % Y = t at *
        rw [Int.mul_comm Y p] at hWm
        have hrem : ((v * 4294967296 + z % 4294967296) % 18446744073709551616 - p * Y % 18446744073709551616) % 18446744073709551616 = t := by omega
        have hrem' : (v * 4294967296 + z % 4294967296 - p * Y) % 18446744073709551616 = t := by omega
        have hqp : (q * 4294967296 + p) % 18446744073709551616 = q * 4294967296 + p := by omega
        have htS : t.fdiv S = t / S := fdiv_pos (by omega)
        simp [q2, e2, e8, e14, e15, e17, wrap_u64_eq, hrem, hrem', hqp, s2, s3, hSd, htS]
        have hn : (hi * 18446744073709551616 + lo) * S = (q * 4294967296 + p) * Y + t := by
          have h1 : lo * S = lo / T * 18446744073709551616 + z := by
            have h2 := Int.mul_ediv_add_emod lo T
            have h3 := Int.mul_ediv_add_emod (lo * S) 18446744073709551616
            have h4 : lo * S / 18446744073709551616 = lo / T := by
              rw [← hS, Int.mul_comm lo S]
              exact Int.mul_ediv_mul_of_pos _ _ hS0
            omega
          have h2 : (hi * 18446744073709551616 + lo) * S = hi * S * 18446744073709551616 + lo * S := by grind
          have h3 : (q * 4294967296 + p) * Y = q * Y * 4294967296 + p * Y := by grind
          rw [h2, h3, h1]
          omega
        have ht0 : 0 ≤ t / S := Int.ediv_nonneg hW2 (by omega)
        have hmm : (hi * 18446744073709551616 + lo) * S % Y = t ∧ (hi * 18446744073709551616 + lo) * S / Y = q * 4294967296 + p := by
          rw [hn]
          constructor
          · rw [Int.add_comm, Int.add_mul_emod_self_right]; exact Int.emod_eq_of_lt hW2 hW3
          · rw [Int.add_comm, Int.add_mul_ediv_right _ _ (by omega), Int.ediv_eq_zero_of_lt hW2 hW3, Int.zero_add]
        rw [← hYd, Int.mul_comm _ S, Int.mul_comm y S] at hmm
        rw [Int.mul_emod_mul_of_pos _ _ hS0, Int.mul_ediv_mul_of_pos _ _ hS0] at hmm
        obtain ⟨m1, m2⟩ := hmm
        have m3 : t / S = (hi * 18446744073709551616 + lo) % y := by rw [← m1]; exact Int.mul_ediv_cancel_left _ (by omega)
        rw [m2, ← m3]
        exact ⟨rfl, rfl⟩
    · cases h
  · cases h
end Go.Proofs.Ytichmemhahbhnaa.E

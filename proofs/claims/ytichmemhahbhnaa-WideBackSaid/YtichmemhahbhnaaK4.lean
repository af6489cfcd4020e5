/- The quotient of two words by one: the two guesses. -/
import Derived.Test.YtichmemhahbhnaaK3
set_option linter.unusedVariables false
set_option linter.unusedSimpArgs false
namespace Go.Proofs.Ytichmemhahbhnaa.E
open Go.VC Go.RowKit

theorem qhat_ge (u a b c : Int) (ha0 : 2147483648 ≤ a) (ha1 : a < 4294967296) (hb0 : 0 ≤ b) (hb1 : b < 4294967296) (hc0 : 0 ≤ c) (hc1 : c < 4294967296) (hu0 : 0 ≤ u) : (u * 4294967296 + c) / (a * 4294967296 + b) ≤ u / a := by
  have hq0 : 0 ≤ u / a := Int.ediv_nonneg hu0 (by omega)
  have h : (u * 4294967296 + c) / (a * 4294967296 + b) < u / a + 1 := by
    refine Int.ediv_lt_of_lt_mul (by omega) ?_
    have h1 : u < (u / a + 1) * a := by
      have h2 := Int.mul_ediv_add_emod u a
      have h3 := Int.emod_lt_of_pos u (show 0 < a by omega)
      rw [Int.add_mul, Int.one_mul, Int.mul_comm (u / a) a]; omega
    have h4 : 0 ≤ (u / a + 1) * b := Int.mul_nonneg (by omega) hb0
    rw [Int.mul_add, ← Int.mul_assoc]; omega
  omega


theorem div_l1 {sp : VC.Spec} {K : Nat} (s0 : St) (u a b c : Int) (ha0 : 2147483648 ≤ a) (ha1 : a < 4294967296) (hb0 : 0 ≤ b) (hb1 : b < 4294967296) (hc0 : 0 ≤ c) (hc1 : c < 4294967296) (hu0 : 0 ≤ u) (hu : u < a * 4294967296 + b)
    (h9 : s0.tm 9 = .o (iv .u64 a)) (h10 : s0.tm 10 = .o (iv .u64 b)) (hc : s0.tm 13 = .o (iv .u64 c)) (hq : s0.tm 15 = .o (iv .u64 (u / a))) (hr : s0.tm 16 = .o (iv .u64 (u % a))) :
    EndsIn (iter (absCode sp K bits_Div64.l1) 3 s0) (fun ax s' => ax = .e 0 ∧ s'.tm 15 = .o (iv .u64 ((u * 4294967296 + c) / (a * 4294967296 + b))) ∧ (∀ t, t < 15 → t ≠ 16 → s'.tm t = s0.tm t) ∧ s'.mem = s0.mem) := by
  have hua : u = u / a * a + u % a := by have := Int.mul_ediv_add_emod u a; rw [Int.mul_comm] at this; omega
  have hr0 : 0 ≤ u % a := Int.emod_nonneg _ (by omega)
  have hr1 : u % a < a := Int.emod_lt_of_pos _ (by omega)
  have hq0 : 0 ≤ u / a := Int.ediv_nonneg hu0 (by omega)
  have hq1 : u / a ≤ 4294967297 := by
    have h1 : u / a < 4294967298 := Int.ediv_lt_of_lt_mul (by omega) (by omega)
    omega
  have hQq : (u * 4294967296 + c) / (a * 4294967296 + b) ≤ u / a := qhat_ge u a b c ha0 ha1 hb0 hb1 hc0 hc1 hu0
  generalize hQ : (u * 4294967296 + c) / (a * 4294967296 + b) = Q at *
  refine ends_while (fun m s => ∃ q r, s.tm 15 = .o (iv .u64 q) ∧ s.tm 16 = .o (iv .u64 r) ∧ (∀ t, t < 15 → t ≠ 16 → s.tm t = s0.tm t) ∧ s.mem = s0.mem ∧ u = q * a + r ∧ Q ≤ q ∧ 0 ≤ q ∧ q ≤ 4294967295 + m ∧ m ≤ 2 ∧ (2 - (m : Int)) * a ≤ r ∧ r < 4294967296)
    (fun m s hI => ?_) 3 2 s0 (by decide) ⟨u / a, u % a, hq, hr, fun _ _ _ => rfl, rfl, hua, hQq, hq0, by omega, by omega, by omega, by omega⟩
  obtain ⟨q, r, i1, i2, i3, i4, i5, i6, i6', i7, i8, i9, i10⟩ := hI
  have g9 : s.tm 9 = .o (iv .u64 a) := by rw [i3 9 (by decide) (by decide)]; exact h9
  have g10 : s.tm 10 = .o (iv .u64 b) := by rw [i3 10 (by decide) (by decide)]; exact h10
  have gc : s.tm 13 = .o (iv .u64 c) := by rw [i3 13 (by decide) (by decide)]; exact hc
  have hr0 : 0 ≤ r := by
    have : m = 0 ∨ m = 1 ∨ m = 2 := by omega
    rcases this with rfl | rfl | rfl <;> simp at i9 <;> omega
  have hm0 : m ≠ 0 := by intro h; subst h; simp at i9; omega
  have hqb0 : 0 ≤ q * b := Int.mul_nonneg i6' hb0
  have hqb1 : q * b ≤ 4294967297 * 4294967295 := Int.mul_le_mul (by omega) (by omega) hb0 (by decide)
  have w1 : q * b % 18446744073709551616 = q * b := by omega
  have w2 : 4294967296 * r % 18446744073709551616 = 4294967296 * r := by omega
  have w3 : (4294967296 * r + c) % 18446744073709551616 = 4294967296 * r + c := by omega
  have w4 : (r + a) % 18446744073709551616 = r + a := by omega
  have hstop : q < 4294967296 → ¬ 4294967296 * r + c < q * b → q = Q := fun h1 h2 => by
    have h3 : q * (a * 4294967296 + b) ≤ u * 4294967296 + c := by
      rw [Int.mul_add, ← Int.mul_assoc, i5]; omega
    have h4 : q ≤ Q := by rw [← hQ]; exact Int.le_ediv_of_mul_le (by omega) h3
    omega
  have hgo : 4294967296 ≤ q ∨ 4294967296 * r + c < q * b → Q ≤ q - 1 := fun h => by
    have : Q < q := by
      rcases h with h | h
      · have : Q < 4294967296 := by rw [← hQ]; exact Int.ediv_lt_of_lt_mul (by omega) (by omega)
        omega
      · rw [← hQ]
        refine Int.ediv_lt_of_lt_mul (by omega) ?_
        rw [Int.mul_add, ← Int.mul_assoc, i5]; omega
    omega
  have hq1' : (4294967296 ≤ q ∨ 4294967296 * r + c < q * b) → 1 ≤ q := fun h => by
    rcases h with h | h
    · omega
    · rcases (show q < 1 ∨ 1 ≤ q by omega) with h1 | h1
      · have : q = 0 := by omega
        subst this; simp at h; omega
      · exact h1
  have hbreak : Q ≤ q - 1 → 4294967296 ≤ r + a → q - 1 = Q := fun h1 h2 => by
    have hb2 : (q - 1) * b ≤ 4294967296 * 4294967295 := Int.mul_le_mul (by omega) (by omega) hb0 (by decide)
    have e1 : (q - 1) * a = q * a - a := by rw [Int.sub_mul, Int.one_mul]
    have h3 : (q - 1) * (a * 4294967296 + b) ≤ u * 4294967296 + c := by
      rw [Int.mul_add, ← Int.mul_assoc, e1, i5]; omega
    have h4 : q - 1 ≤ Q := by rw [← hQ]; exact Int.le_ediv_of_mul_le (by omega) h3
    omega
  have hnext : Q ≤ q - 1 → ¬ 4294967296 ≤ r + a → ∃ m', m' < m ∧ (u = (q - 1) * a + (r + a) ∧ Q ≤ q - 1 ∧ 0 ≤ q - 1 ∧ q - 1 ≤ 4294967295 + m' ∧ m' ≤ 2 ∧ (2 - (m' : Int)) * a ≤ r + a ∧ r + a < 4294967296) := fun h1 h2 => by
    have hQ0 : 0 ≤ Q := by rw [← hQ]; exact Int.ediv_nonneg (by omega) (by omega)
    refine ⟨m - 1, by omega, ?_, h1, by omega, by omega, by omega, ?_, by omega⟩
    · rw [Int.sub_mul, Int.one_mul]; omega
    · have e : (2 - ((m - 1 : Nat) : Int)) * a = (2 - (m : Int)) * a + a := by
        have : ((m - 1 : Nat) : Int) = (m : Int) - 1 := by omega
        rw [this]; grind
      omega
  have fr : ∀ {X : AV} {t : Nat}, t < 15 → t ≠ 16 → X = s.tm t → X = s0.tm t := fun h1 h2 h3 => h3.trans (i3 _ h1 h2)
  by_cases c1 : 4294967296 ≤ q
  · have w5 : (q - 1) % 18446744073709551616 = q - 1 := by omega
    by_cases c3 : 4294967296 ≤ r + a
    · simp [bits_Div64.l1, i1, i2, g9, g10, gc, c1, wrap_u64_eq, w1, w2, w3, w4, w5, c3]
      refine ⟨hbreak (hgo (.inl c1)) c3, fun t ht n2 => fr ht n2 ?_, i4⟩
      repeat rw [if_neg (by omega)]
    · simp [bits_Div64.l1, i1, i2, g9, g10, gc, c1, wrap_u64_eq, w1, w2, w3, w4, w5, c3]
      obtain ⟨m', q1, q2, q3, q4, q5, q6, q7, q8⟩ := hnext (hgo (.inl c1)) c3
      refine ⟨m', q1, fun t ht n2 => fr ht n2 ?_, i4, q2, by omega, by omega, by omega, q6, q7, by omega⟩
      repeat rw [if_neg (by omega)]
  · by_cases c2 : 4294967296 * r + c < q * b
    · have w5 : (q - 1) % 18446744073709551616 = q - 1 := by have := hq1' (.inr c2); omega
      by_cases c3 : 4294967296 ≤ r + a
      · simp [bits_Div64.l1, i1, i2, g9, g10, gc, c1, c2, wrap_u64_eq, w1, w2, w3, w4, w5, c3]
        refine ⟨hbreak (hgo (.inr c2)) c3, fun t ht n2 => fr ht n2 ?_, i4⟩
        repeat rw [if_neg (by omega)]
      · simp [bits_Div64.l1, i1, i2, g9, g10, gc, c1, c2, wrap_u64_eq, w1, w2, w3, w4, w5, c3]
        obtain ⟨m', q1, q2, q3, q4, q5, q6, q7, q8⟩ := hnext (hgo (.inr c2)) c3
        refine ⟨m', q1, fun t ht n2 => fr ht n2 ?_, i4, q2, by omega, by omega, by omega, q6, q7, by omega⟩
        repeat rw [if_neg (by omega)]
    · simp [bits_Div64.l1, i1, i2, g9, g10, gc, c1, c2, wrap_u64_eq, w1, w2, w3]
      refine ⟨hstop (by omega) c2, fun t ht n2 => fr ht n2 ?_, i4⟩
      repeat rw [if_neg (by omega)]


theorem div_l2 {sp : VC.Spec} {K : Nat} (s0 : St) (u a b c : Int) (ha0 : 2147483648 ≤ a) (ha1 : a < 4294967296) (hb0 : 0 ≤ b) (hb1 : b < 4294967296) (hc0 : 0 ≤ c) (hc1 : c < 4294967296) (hu0 : 0 ≤ u) (hu : u < a * 4294967296 + b)
    (h9 : s0.tm 9 = .o (iv .u64 a)) (h10 : s0.tm 10 = .o (iv .u64 b)) (hc : s0.tm 14 = .o (iv .u64 c)) (hq : s0.tm 18 = .o (iv .u64 (u / a))) (hr : s0.tm 16 = .o (iv .u64 (u % a))) :
    EndsIn (iter (absCode sp K bits_Div64.l2) 3 s0) (fun ax s' => ax = .e 2 ∧ s'.tm 18 = .o (iv .u64 ((u * 4294967296 + c) / (a * 4294967296 + b))) ∧ (∀ t, t < 18 → t ≠ 16 → s'.tm t = s0.tm t) ∧ s'.mem = s0.mem) := by
  have hua : u = u / a * a + u % a := by have := Int.mul_ediv_add_emod u a; rw [Int.mul_comm] at this; omega
  have hr0 : 0 ≤ u % a := Int.emod_nonneg _ (by omega)
  have hr1 : u % a < a := Int.emod_lt_of_pos _ (by omega)
  have hq0 : 0 ≤ u / a := Int.ediv_nonneg hu0 (by omega)
  have hq1 : u / a ≤ 4294967297 := by
    have h1 : u / a < 4294967298 := Int.ediv_lt_of_lt_mul (by omega) (by omega)
    omega
  have hQq : (u * 4294967296 + c) / (a * 4294967296 + b) ≤ u / a := qhat_ge u a b c ha0 ha1 hb0 hb1 hc0 hc1 hu0
  generalize hQ : (u * 4294967296 + c) / (a * 4294967296 + b) = Q at *
  refine ends_while (fun m s => ∃ q r, s.tm 18 = .o (iv .u64 q) ∧ s.tm 16 = .o (iv .u64 r) ∧ (∀ t, t < 18 → t ≠ 16 → s.tm t = s0.tm t) ∧ s.mem = s0.mem ∧ u = q * a + r ∧ Q ≤ q ∧ 0 ≤ q ∧ q ≤ 4294967295 + m ∧ m ≤ 2 ∧ (2 - (m : Int)) * a ≤ r ∧ r < 4294967296)
    (fun m s hI => ?_) 3 2 s0 (by decide) ⟨u / a, u % a, hq, hr, fun _ _ _ => rfl, rfl, hua, hQq, hq0, by omega, by omega, by omega, by omega⟩
  obtain ⟨q, r, i1, i2, i3, i4, i5, i6, i6', i7, i8, i9, i10⟩ := hI
  have g9 : s.tm 9 = .o (iv .u64 a) := by rw [i3 9 (by decide) (by decide)]; exact h9
  have g10 : s.tm 10 = .o (iv .u64 b) := by rw [i3 10 (by decide) (by decide)]; exact h10
  have gc : s.tm 14 = .o (iv .u64 c) := by rw [i3 14 (by decide) (by decide)]; exact hc
  have hr0 : 0 ≤ r := by
    have : m = 0 ∨ m = 1 ∨ m = 2 := by omega
    rcases this with rfl | rfl | rfl <;> simp at i9 <;> omega
  have hm0 : m ≠ 0 := by intro h; subst h; simp at i9; omega
  have hqb0 : 0 ≤ q * b := Int.mul_nonneg i6' hb0
  have hqb1 : q * b ≤ 4294967297 * 4294967295 := Int.mul_le_mul (by omega) (by omega) hb0 (by decide)
  have w1 : q * b % 18446744073709551616 = q * b := by omega
  have w2 : 4294967296 * r % 18446744073709551616 = 4294967296 * r := by omega
  have w3 : (4294967296 * r + c) % 18446744073709551616 = 4294967296 * r + c := by omega
  have w4 : (r + a) % 18446744073709551616 = r + a := by omega
  have hstop : q < 4294967296 → ¬ 4294967296 * r + c < q * b → q = Q := fun h1 h2 => by
    have h3 : q * (a * 4294967296 + b) ≤ u * 4294967296 + c := by
      rw [Int.mul_add, ← Int.mul_assoc, i5]; omega
    have h4 : q ≤ Q := by rw [← hQ]; exact Int.le_ediv_of_mul_le (by omega) h3
    omega
  have hgo : 4294967296 ≤ q ∨ 4294967296 * r + c < q * b → Q ≤ q - 1 := fun h => by
    have : Q < q := by
      rcases h with h | h
      · have : Q < 4294967296 := by rw [← hQ]; exact Int.ediv_lt_of_lt_mul (by omega) (by omega)
        omega
      · rw [← hQ]
        refine Int.ediv_lt_of_lt_mul (by omega) ?_
        rw [Int.mul_add, ← Int.mul_assoc, i5]; omega
    omega
  have hq1' : (4294967296 ≤ q ∨ 4294967296 * r + c < q * b) → 1 ≤ q := fun h => by
    rcases h with h | h
    · omega
    · rcases (show q < 1 ∨ 1 ≤ q by omega) with h1 | h1
      · have : q = 0 := by omega
        subst this; simp at h; omega
      · exact h1
  have hbreak : Q ≤ q - 1 → 4294967296 ≤ r + a → q - 1 = Q := fun h1 h2 => by
    have hb2 : (q - 1) * b ≤ 4294967296 * 4294967295 := Int.mul_le_mul (by omega) (by omega) hb0 (by decide)
    have e1 : (q - 1) * a = q * a - a := by rw [Int.sub_mul, Int.one_mul]
    have h3 : (q - 1) * (a * 4294967296 + b) ≤ u * 4294967296 + c := by
      rw [Int.mul_add, ← Int.mul_assoc, e1, i5]; omega
    have h4 : q - 1 ≤ Q := by rw [← hQ]; exact Int.le_ediv_of_mul_le (by omega) h3
    omega
  have hnext : Q ≤ q - 1 → ¬ 4294967296 ≤ r + a → ∃ m', m' < m ∧ (u = (q - 1) * a + (r + a) ∧ Q ≤ q - 1 ∧ 0 ≤ q - 1 ∧ q - 1 ≤ 4294967295 + m' ∧ m' ≤ 2 ∧ (2 - (m' : Int)) * a ≤ r + a ∧ r + a < 4294967296) := fun h1 h2 => by
    have hQ0 : 0 ≤ Q := by rw [← hQ]; exact Int.ediv_nonneg (by omega) (by omega)
    refine ⟨m - 1, by omega, ?_, h1, by omega, by omega, by omega, ?_, by omega⟩
    · rw [Int.sub_mul, Int.one_mul]; omega
    · have e : (2 - ((m - 1 : Nat) : Int)) * a = (2 - (m : Int)) * a + a := by
        have : ((m - 1 : Nat) : Int) = (m : Int) - 1 := by omega
        rw [this]; grind
      omega
  have fr : ∀ {X : AV} {t : Nat}, t < 18 → t ≠ 16 → X = s.tm t → X = s0.tm t := fun h1 h2 h3 => h3.trans (i3 _ h1 h2)
  by_cases c1 : 4294967296 ≤ q
  · have w5 : (q - 1) % 18446744073709551616 = q - 1 := by omega
    by_cases c3 : 4294967296 ≤ r + a
    · simp [bits_Div64.l2, i1, i2, g9, g10, gc, c1, wrap_u64_eq, w1, w2, w3, w4, w5, c3]
      refine ⟨hbreak (hgo (.inl c1)) c3, fun t ht n2 => fr ht n2 ?_, i4⟩
      repeat rw [if_neg (by omega)]
    · simp [bits_Div64.l2, i1, i2, g9, g10, gc, c1, wrap_u64_eq, w1, w2, w3, w4, w5, c3]
      obtain ⟨m', q1, q2, q3, q4, q5, q6, q7, q8⟩ := hnext (hgo (.inl c1)) c3
      refine ⟨m', q1, fun t ht n2 => fr ht n2 ?_, i4, q2, by omega, by omega, by omega, q6, q7, by omega⟩
      repeat rw [if_neg (by omega)]
  · by_cases c2 : 4294967296 * r + c < q * b
    · have w5 : (q - 1) % 18446744073709551616 = q - 1 := by have := hq1' (.inr c2); omega
      by_cases c3 : 4294967296 ≤ r + a
      · simp [bits_Div64.l2, i1, i2, g9, g10, gc, c1, c2, wrap_u64_eq, w1, w2, w3, w4, w5, c3]
        refine ⟨hbreak (hgo (.inr c2)) c3, fun t ht n2 => fr ht n2 ?_, i4⟩
        repeat rw [if_neg (by omega)]
      · simp [bits_Div64.l2, i1, i2, g9, g10, gc, c1, c2, wrap_u64_eq, w1, w2, w3, w4, w5, c3]
        obtain ⟨m', q1, q2, q3, q4, q5, q6, q7, q8⟩ := hnext (hgo (.inr c2)) c3
        refine ⟨m', q1, fun t ht n2 => fr ht n2 ?_, i4, q2, by omega, by omega, by omega, q6, q7, by omega⟩
        repeat rw [if_neg (by omega)]
    · simp [bits_Div64.l2, i1, i2, g9, g10, gc, c1, c2, wrap_u64_eq, w1, w2, w3]
      refine ⟨hstop (by omega) c2, fun t ht n2 => fr ht n2 ?_, i4⟩
      repeat rw [if_neg (by omega)]

end Go.Proofs.Ytichmemhahbhnaa.E

/- Numbers of one word and of two, as the evaluator knows them. -/
import Derived.Test.YtichmemhahbhnaaV16
set_option linter.unusedVariables false
set_option linter.unusedSimpArgs false
namespace Go.VC

attribute [simp] absOps absOper absOp SA.ev St.put upd AV.val AV.ptr AV.part AV.agg AV.row AV.rlen AP.cells AP.ok AC.known AC.free AP.free AV.free splice fillA evArgs optI evBin evInt eqCells st0 absRes wrapRes AC.wk AP.wk rowsP rowsL AC.rows St.rels

/-! ### Numbers wrap -/
@[simp] theorem bits_u64 : IntKind.u64.bits = 64 := rfl
@[simp] theorem bits_i64 : IntKind.i64.bits = 64 := rfl
@[simp] theorem bits_u8 : IntKind.u8.bits = 8 := rfl
theorem wrap_i64_in {n : Int} (h1 : -9223372036854775808 ≤ n) (h2 : n < 9223372036854775808) : IntKind.i64.wrap n = n := by rw [IntKind.wrap_i64]; omega
theorem wrap_u64_eq (n : Int) : IntKind.u64.wrap n = n % 18446744073709551616 := by simp [IntKind.wrap, IntKind.bits, IntKind.signed]
theorem wrap_u8_eq (n : Int) : IntKind.u8.wrap n = n % 256 := by simp [IntKind.wrap, IntKind.bits, IntKind.signed]

/-! ### Bits -/
theorem u64_bits {a : Int} (h0 : 0 ≤ a) (h1 : a < 18446744073709551616) : (BitVec.ofInt 64 a).toNat = a.toNat := by
  rw [BitVec.toNat_ofInt]
  have : a % ((2 ^ 64 : Nat) : Int) = a := by
    have : ((2 ^ 64 : Nat) : Int) = 18446744073709551616 := by decide
    rw [this]; omega
  rw [this]
theorem or_u64 {a b : Int} (ha0 : 0 ≤ a) (ha1 : a < 18446744073709551616) (hb0 : 0 ≤ b) (hb1 : b < 18446744073709551616) : bitsV .or .u64 a b = ((a.toNat ||| b.toNat : Nat) : Int) := by
  show IntKind.u64.wrap ((BitVec.ofInt 64 a ||| BitVec.ofInt 64 b).toNat : Nat) = _
  rw [BitVec.toNat_or, u64_bits ha0 ha1, u64_bits hb0 hb1, wrap_u64_eq]
  have : a.toNat ||| b.toNat < 2 ^ 64 := Nat.or_lt_two_pow (by omega) (by omega)
  omega
theorem and_u64 {a b : Int} (ha0 : 0 ≤ a) (ha1 : a < 18446744073709551616) (hb0 : 0 ≤ b) (hb1 : b < 18446744073709551616) : bitsV .and .u64 a b = ((a.toNat &&& b.toNat : Nat) : Int) := by
  show IntKind.u64.wrap ((BitVec.ofInt 64 a &&& BitVec.ofInt 64 b).toNat : Nat) = _
  rw [BitVec.toNat_and, u64_bits ha0 ha1, u64_bits hb0 hb1, wrap_u64_eq]
  have : a.toNat &&& b.toNat ≤ a.toNat := Nat.and_le_left
  omega
/-- High bits and low bits. -/
theorem or_u64_add {a b : Int} (k : Nat) (hk : k ≤ 64) (ha0 : 0 ≤ a) (ha1 : a < 18446744073709551616) (ha : a % (2 ^ k : Int) = 0) (hb0 : 0 ≤ b) (hb : b < (2 ^ k : Int)) (hb1 : b < 18446744073709551616) : bitsV .or .u64 a b = a + b := by
  rw [or_u64 ha0 ha1 hb0 hb1]
  obtain ⟨a, rfl⟩ := Int.eq_ofNat_of_zero_le ha0
  obtain ⟨b, rfl⟩ := Int.eq_ofNat_of_zero_le hb0
  have e : ((2 ^ k : Nat) : Int) = (2 ^ k : Int) := by push_cast; rfl
  rw [← e] at ha hb
  have ha' : a % 2 ^ k = 0 := by exact_mod_cast ha
  have hb' : b < 2 ^ k := by exact_mod_cast hb
  have h := Nat.two_pow_add_eq_or_of_lt hb' (a / 2 ^ k)
  have h2 : 2 ^ k * (a / 2 ^ k) = a := by have := Nat.div_add_mod a (2 ^ k); omega
  rw [h2] at h
  simp only [Int.toNat_natCast]
  rw [← h]
  push_cast
  rfl
theorem and_u64_mask {a b : Int} (k : Nat) (ha0 : 0 ≤ a) (ha1 : a < 18446744073709551616) (hb : b = (2 ^ k : Int) - 1) (hb1 : b < 18446744073709551616) : bitsV .and .u64 a b = a % (2 ^ k : Int) := by
  have e : ((2 ^ k : Nat) : Int) = (2 ^ k : Int) := by push_cast; rfl
  have hpos : 0 < 2 ^ k := Nat.two_pow_pos k
  have hb0 : 0 ≤ b := by rw [hb, ← e]; omega
  rw [and_u64 ha0 ha1 hb0 hb1]
  obtain ⟨a, rfl⟩ := Int.eq_ofNat_of_zero_le ha0
  have hbn : b.toNat = 2 ^ k - 1 := by rw [hb, ← e]; omega
  rw [hbn]
  simp only [Int.toNat_natCast]
  rw [Nat.and_two_pow_sub_one_eq_mod, ← e]
  push_cast
  rfl
theorem fdiv_pos {a b : Int} (hb : 0 ≤ b) : a.fdiv b = a / b := Int.fdiv_eq_ediv_of_nonneg a hb

/-! ### Numbers of two words -/
def lb (x : Int) : AP := .g [.v (.int .u64 (x / 18446744073709551616)), .v (.int .u64 (x % 18446744073709551616))]
def dL : AP → Option Int
  | .g [.v (.int .u64 h), .v (.int .u64 l)] => if 0 ≤ h ∧ h < 18446744073709551616 ∧ 0 ≤ l ∧ l < 18446744073709551616 then some (h * 18446744073709551616 + l) else none
  | _ => none
theorem dL_lb {x : Int} (h0 : 0 ≤ x) (h1 : x < 340282366920938463463374607431768211456) : dL (.g [.v (.int .u64 (x / 18446744073709551616)), .v (.int .u64 (x % 18446744073709551616))]) = some x := by
  simp only [dL]
  rw [if_pos (by omega)]
  congr 1
  omega
theorem dL_some {a : AP} {x : Int} (h : dL a = some x) : a = lb x ∧ 0 ≤ x ∧ x < 340282366920938463463374607431768211456 := by
  unfold dL at h
  split at h
  · split at h
    · rename_i hh
      cases h
      refine ⟨?_, by omega, by omega⟩
      unfold lb
      congr 3 <;> first | (congr 2; omega) | (congr 3; omega) | skip
    · cases h
  · cases h
/-! ### Numbers of two words with a sign -/
def wd (x : Int) : AP := .g [.v (.int .i64 (x / 18446744073709551616)), .v (.int .u64 (x % 18446744073709551616))]
def dW : AP → Option Int
  | .g [.v (.int .i64 h), .v (.int .u64 l)] => if -9223372036854775808 ≤ h ∧ h < 9223372036854775808 ∧ 0 ≤ l ∧ l < 18446744073709551616 then some (h * 18446744073709551616 + l) else none
  | _ => none
theorem dW_wd {x : Int} (h0 : -170141183460469231731687303715884105728 ≤ x) (h1 : x < 170141183460469231731687303715884105728) : dW (.g [.v (.int .i64 (x / 18446744073709551616)), .v (.int .u64 (x % 18446744073709551616))]) = some x := by
  simp only [dW]
  rw [if_pos (by omega)]
  congr 1
  omega
theorem dW_some {a : AP} {x : Int} (h : dW a = some x) : a = wd x ∧ -170141183460469231731687303715884105728 ≤ x ∧ x < 170141183460469231731687303715884105728 := by
  unfold dW at h
  split at h
  · split at h
    · rename_i hh
      cases h
      refine ⟨?_, by omega, by omega⟩
      unfold wd
      congr 3 <;> first | (congr 2; omega) | (congr 3; omega) | skip
    · cases h
  · cases h
end Go.VC

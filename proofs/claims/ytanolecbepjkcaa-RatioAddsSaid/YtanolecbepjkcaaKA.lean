/- What math/bits and the packages limb and wide do. -/
import Derived.Test.YtanolecbepjkcaaProg
import Derived.WalkKit
import Derived.WalkSpells
import Derived.StillTactics
import Derived.Laws.Pointers
import Derived.Deep.RegionHeld3
import Derived.RegionTactic
import Derived.BigRegion
import Derived.Outline
import Derived.Lib.Hide
import Derived.Shelf.Bits.Mul64
import Derived.Shelf.Spec.BitsCarry
import Derived.RowKit3
import Derived.Below
import Derived.KernelRfl
import Derived.Laws.Externs
import Derived.Test.YtanolecbepjkcaaShelf
import Derived.Test.YtanolecbepjkcaaC1
import Derived.Test.YtanolecbepjkcaaNA
set_option linter.unusedVariables false
set_option linter.unusedSimpArgs false
set_option maxHeartbeats 2000000
set_option maxRecDepth 100000
/- What the words of math/bits and the product of two Limbs do. -/
namespace Go.Proofs.Ytanolecbepjkcaa.E
open Go.RowKit

theorem below_alloc {w W : World} (h : Below w.heap.size w W) (o : Obj) : Below w.heap.size w (W.alloc o) := h.alloc h.size o
theorem below_set {w W : World} {g j : Nat} {v : Value} (h : Below w.heap.size w W) (hg : w.heap.size ≤ g) : Below w.heap.size w (W.setCell ⟨g, j, none⟩ v) := h.setCell hg _
theorem below_drew1 {base : Nat} {w W : World} (h : Below base w W) : Below base w W.drew := h.drew
/-- Two words as they may be. -/
def w64 (x : Int) : Prop := 0 ≤ x ∧ x < 18446744073709551616
instance (x : Int) : Decidable (w64 x) := inferInstanceAs (Decidable (_ ∧ _))

theorem giv_add64 (x y c : Int) (hx : 0 ≤ x) (hy : 0 ≤ y) (hc0 : 0 ≤ c) (hc : c ≤ 1) (w : World) : (callFunc 117 #[.int .u64 x, .int .u64 y, .int .u64 c]).run Try.prog w =
    .ok (.value (.tuple #[.int .u64 ((x + y + c) % 18446744073709551616), .int .u64 ((x + y + c) / 18446744073709551616)])) w := by
  rw [run_callFunc_extern Try.func117 (by kernel_rfl) (by kernel_rfl) (by kernel_rfl) (e := add64Entry) (by kernel_rfl), run_add64 x y c hx hy hc0 hc]
  rfl
theorem giv_add64_0 (x y : Int) (hx : 0 ≤ x) (hy : 0 ≤ y) (w : World) : (callFunc 117 #[.int .u64 x, .int .u64 y, .int .u64 0]).run Try.prog w =
    .ok (.value (.tuple #[.int .u64 ((x + y) % 18446744073709551616), .int .u64 ((x + y) / 18446744073709551616)])) w := by
  simpa using giv_add64 x y 0 hx hy (Int.le_refl 0) (by decide) w
/-- A borrow. -/
def bor (x y : Int) : Int := if x < y then 1 else 0
theorem giv_sub64 (x y b : Int) (hx : 0 ≤ x) (hy : 0 ≤ y) (hy' : y < 18446744073709551616) (hb0 : 0 ≤ b) (hb : b ≤ 1) (w : World) : (callFunc 122 #[.int .u64 x, .int .u64 y, .int .u64 b]).run Try.prog w =
    .ok (.value (.tuple #[.int .u64 ((x - y - b) % 18446744073709551616), .int .u64 (bor x (y + b))])) w := by
  obtain ⟨x, rfl⟩ := Int.eq_ofNat_of_zero_le hx
  obtain ⟨y, rfl⟩ := Int.eq_ofNat_of_zero_le hy
  obtain ⟨b, rfl⟩ := Int.eq_ofNat_of_zero_le hb0
  have e1 : (((x + 18446744073709551616 - y - b) % 18446744073709551616 : Nat) : Int) = ((x : Int) - y - b) % 18446744073709551616 := by omega
  have e2 : ((if x < y + b then 1 else 0 : Nat) : Int) = bor x (y + b) := by unfold bor; split <;> split <;> omega
  rw [← e1, ← e2, run_callFunc_extern Try.func122 (by kernel_rfl) (by kernel_rfl) (by kernel_rfl) (e := Go.Proofs.sub64Entry) (by kernel_rfl), Go.Proofs.run_sub64 x y b (by omega)]
  rfl
theorem giv_sub64_0 (x y : Int) (hx : 0 ≤ x) (hy : 0 ≤ y) (hy' : y < 18446744073709551616) (w : World) : (callFunc 122 #[.int .u64 x, .int .u64 y, .int .u64 0]).run Try.prog w =
    .ok (.value (.tuple #[.int .u64 ((x - y) % 18446744073709551616), .int .u64 (bor x y)])) w := by
  simpa using giv_sub64 x y 0 hx hy hy' (Int.le_refl 0) (by decide) w
theorem bor_0 (x y : Int) : 0 ≤ bor x y := by unfold bor; split <;> decide
theorem bor_1 (x y : Int) : bor x y ≤ 1 := by unfold bor; split <;> decide
set_option maxHeartbeats 1000000 in
theorem giv_mul64 (x y : Int) (hx : w64 x) (hy : w64 y) (w : World) : Calls Try.prog 123 #[.int .u64 x, .int .u64 y] w fun e w' => e = .returned (.tuple #[.int .u64 (x * y / 18446744073709551616), .int .u64 (x * y % 18446744073709551616)]) ∧ w' = w := by
  obtain ⟨hx0, hx1⟩ := hx
  obtain ⟨hy0, hy1⟩ := hy
  obtain ⟨x, rfl⟩ := Int.eq_ofNat_of_zero_le hx0
  obtain ⟨y, rfl⟩ := Int.eq_ofNat_of_zero_le hy0
  have hx : x < 18446744073709551616 := by omega
  have hy : y < 18446744073709551616 := by omega
  obtain ⟨bd, bt, bw, hhi⟩ := Lib.mul64_hi x y hx hy
  have ba := Lib.half_mul_le (a := x / 4294967296) (b := y / 4294967296) (by omega) (by omega)
  have bb := Lib.half_mul_le (a := x / 4294967296) (b := y % 4294967296) (by omega) (by omega)
  have bc := Lib.half_mul_le (a := x % 4294967296) (b := y / 4294967296) (by omega) (by omega)
  have ba' : x / 4294967296 * (y / 4294967296) < 18446744073709551616 := by omega
  have bb' : x / 4294967296 * (y % 4294967296) < 18446744073709551616 := by omega
  have bc' : x % 4294967296 * (y / 4294967296) < 18446744073709551616 := by omega
  have bh1 : x / 4294967296 * (y / 4294967296) + (x / 4294967296 * (y % 4294967296) + x % 4294967296 * (y % 4294967296) / 4294967296) / 4294967296 < 18446744073709551616 := by omega
  have bh : x / 4294967296 * (y / 4294967296) + (x / 4294967296 * (y % 4294967296) + x % 4294967296 * (y % 4294967296) / 4294967296) / 4294967296 + ((x / 4294967296 * (y % 4294967296) + x % 4294967296 * (y % 4294967296) / 4294967296) % 4294967296 + x % 4294967296 * (y / 4294967296)) / 4294967296 < 18446744073709551616 := by omega
  go_enter Try.func123, Try.ntmps123
  go_wp2
  simp only [Go.Proofs.Mul64.maskN x hx, Go.Proofs.Mul64.maskN y hy, Go.Proofs.Mul64.divN, Go.Proofs.Mul64.mulN, Go.Proofs.Mul64.addN, Go.Proofs.Mul64.wrapN _ bd, Go.Proofs.Mul64.wrapN _ bb', Go.Proofs.Mul64.wrapN _ bt, Go.Proofs.Mul64.maskN _ bt, Go.Proofs.Mul64.wrapN _ bc', Go.Proofs.Mul64.wrapN _ bw, Go.Proofs.Mul64.wrapN _ ba', Go.Proofs.Mul64.wrapN _ bh1, Go.Proofs.Mul64.wrapN _ bh, Go.Proofs.Mul64.wrapM (x * y)]
  rw [hhi]
  go_ret2
  exact ⟨rfl, rfl⟩
theorem words_add0 (b : Nat) (x y lo hi z0 z1 z2 z3 s0 k0 s1 k1 s2 k2 s3 k3 : Int) (hx : w64 x) (hy : w64 y) (hlo : x * y % 18446744073709551616 = lo) (hhi : x * y / 18446744073709551616 = hi) (w : World)
   (A0 : ∀ w, (callFunc 117 #[.int .u64 z0, .int .u64 lo, .int .u64 0]).run Try.prog w = .ok (.value (.tuple #[.int .u64 s0, .int .u64 k0])) w)
   (A1 : ∀ w, (callFunc 117 #[.int .u64 z1, .int .u64 hi, .int .u64 k0]).run Try.prog w = .ok (.value (.tuple #[.int .u64 s1, .int .u64 k1])) w)
   (A2 : ∀ w, (callFunc 117 #[.int .u64 z2, .int .u64 0, .int .u64 k1]).run Try.prog w = .ok (.value (.tuple #[.int .u64 s2, .int .u64 k2])) w)
   (A3 : ∀ w, (callFunc 117 #[.int .u64 z3, .int .u64 0, .int .u64 k2]).run Try.prog w = .ok (.value (.tuple #[.int .u64 s3, .int .u64 k3])) w)
   (c0 : w.cell? ⟨b, 0, none⟩ = some (.int .u64 z0)) (c1 : w.cell? ⟨b, 1, none⟩ = some (.int .u64 z1)) (c2 : w.cell? ⟨b, 2, none⟩ = some (.int .u64 z2)) (c3 : w.cell? ⟨b, 3, none⟩ = some (.int .u64 z3))
   (f0 : w.frozen? ⟨b, 0, none⟩ = false) (f1 : w.frozen? ⟨b, 1, none⟩ = false) (f2 : w.frozen? ⟨b, 2, none⟩ = false) (f3 : w.frozen? ⟨b, 3, none⟩ = false) :
   Calls Try.prog 118 #[.pointer (some ⟨b, 0, none⟩), .int .u64 x, .int .u64 y, .int .i64 0] w fun e w' => e = .returned (.tuple #[]) ∧ w' = ((((w.setCell ⟨b, 0, none⟩ (.int .u64 s0)).setCell ⟨b, 1, none⟩ (.int .u64 s1)).setCell ⟨b, 2, none⟩ (.int .u64 s2)).setCell ⟨b, 3, none⟩ (.int .u64 s3)).drew.drew.drew.drew := by
  go_enter Try.func118, Try.ntmps118
  go_wp2_with (go_at_call 123; refine (giv_mul64 x y hx hy _).mono ?_; rintro e w' ⟨rfl, rfl⟩; rw [hlo, hhi]; clear hlo hhi)
  go_region
  go_wp2
  go_region
  go_wp2
  refine wp_loop_rounds 3 ?_
  rw [rounds_succ]
  go_wp2
  go_region
  go_wp2
  rw [rounds_succ]
  go_wp2
  go_region
  go_wp2
  rw [rounds_succ]
  go_wp2
  go_end0
  exact ⟨rfl, rfl⟩

theorem words_add1 (b : Nat) (x y lo hi z0 z1 z2 z3 s1 k1 s2 k2 s3 k3 : Int) (hx : w64 x) (hy : w64 y) (hlo : x * y % 18446744073709551616 = lo) (hhi : x * y / 18446744073709551616 = hi) (w : World)
   (A1 : ∀ w, (callFunc 117 #[.int .u64 z1, .int .u64 lo, .int .u64 0]).run Try.prog w = .ok (.value (.tuple #[.int .u64 s1, .int .u64 k1])) w)
   (A2 : ∀ w, (callFunc 117 #[.int .u64 z2, .int .u64 hi, .int .u64 k1]).run Try.prog w = .ok (.value (.tuple #[.int .u64 s2, .int .u64 k2])) w)
   (A3 : ∀ w, (callFunc 117 #[.int .u64 z3, .int .u64 0, .int .u64 k2]).run Try.prog w = .ok (.value (.tuple #[.int .u64 s3, .int .u64 k3])) w)
   (c1 : w.cell? ⟨b, 1, none⟩ = some (.int .u64 z1)) (c2 : w.cell? ⟨b, 2, none⟩ = some (.int .u64 z2)) (c3 : w.cell? ⟨b, 3, none⟩ = some (.int .u64 z3))
   (f1 : w.frozen? ⟨b, 1, none⟩ = false) (f2 : w.frozen? ⟨b, 2, none⟩ = false) (f3 : w.frozen? ⟨b, 3, none⟩ = false) :
   Calls Try.prog 118 #[.pointer (some ⟨b, 0, none⟩), .int .u64 x, .int .u64 y, .int .i64 1] w fun e w' => e = .returned (.tuple #[]) ∧ w' = (((w.setCell ⟨b, 1, none⟩ (.int .u64 s1)).setCell ⟨b, 2, none⟩ (.int .u64 s2)).setCell ⟨b, 3, none⟩ (.int .u64 s3)).drew.drew.drew := by
  go_enter Try.func118, Try.ntmps118
  go_wp2_with (go_at_call 123; refine (giv_mul64 x y hx hy _).mono ?_; rintro e w' ⟨rfl, rfl⟩; rw [hlo, hhi]; clear hlo hhi)
  go_region
  go_wp2
  go_region
  go_wp2
  refine wp_loop_rounds 2 ?_
  rw [rounds_succ]
  go_wp2
  go_region
  go_wp2
  rw [rounds_succ]
  go_wp2
  go_end0
  exact ⟨rfl, rfl⟩

theorem words_add2 (b : Nat) (x y lo hi z0 z1 z2 z3 s2 k2 s3 k3 : Int) (hx : w64 x) (hy : w64 y) (hlo : x * y % 18446744073709551616 = lo) (hhi : x * y / 18446744073709551616 = hi) (w : World)
   (A2 : ∀ w, (callFunc 117 #[.int .u64 z2, .int .u64 lo, .int .u64 0]).run Try.prog w = .ok (.value (.tuple #[.int .u64 s2, .int .u64 k2])) w)
   (A3 : ∀ w, (callFunc 117 #[.int .u64 z3, .int .u64 hi, .int .u64 k2]).run Try.prog w = .ok (.value (.tuple #[.int .u64 s3, .int .u64 k3])) w)
   (c2 : w.cell? ⟨b, 2, none⟩ = some (.int .u64 z2)) (c3 : w.cell? ⟨b, 3, none⟩ = some (.int .u64 z3))
   (f2 : w.frozen? ⟨b, 2, none⟩ = false) (f3 : w.frozen? ⟨b, 3, none⟩ = false) :
   Calls Try.prog 118 #[.pointer (some ⟨b, 0, none⟩), .int .u64 x, .int .u64 y, .int .i64 2] w fun e w' => e = .returned (.tuple #[]) ∧ w' = ((w.setCell ⟨b, 2, none⟩ (.int .u64 s2)).setCell ⟨b, 3, none⟩ (.int .u64 s3)).drew.drew := by
  go_enter Try.func118, Try.ntmps118
  go_wp2_with (go_at_call 123; refine (giv_mul64 x y hx hy _).mono ?_; rintro e w' ⟨rfl, rfl⟩; rw [hlo, hhi]; clear hlo hhi)
  go_region
  go_wp2
  go_region
  go_wp2
  refine wp_loop_rounds 1 ?_
  rw [rounds_succ]
  go_wp2
  go_end0
  exact ⟨rfl, rfl⟩

theorem words_sum0 (b : Nat) (x y z0 z1 z2 z3 : Int) (hx : w64 x) (hy : w64 y) (Z00 : 0 ≤ z0) (Z01 : z0 < 18446744073709551616) (Z10 : 0 ≤ z1) (Z11 : z1 < 18446744073709551616) (Z20 : 0 ≤ z2) (Z21 : z2 < 18446744073709551616) (Z30 : 0 ≤ z3) (Z31 : z3 < 18446744073709551616) (hV : z0 + z1 * 18446744073709551616 + z2 * 340282366920938463463374607431768211456 + z3 * 6277101735386680763835789423207666416102355444464034512896 + x * y * 1 < 115792089237316195423570985008687907853269984665640564039457584007913129639936) (w : World)
   (c0 : w.cell? ⟨b, 0, none⟩ = some (.int .u64 z0)) (c1 : w.cell? ⟨b, 1, none⟩ = some (.int .u64 z1)) (c2 : w.cell? ⟨b, 2, none⟩ = some (.int .u64 z2)) (c3 : w.cell? ⟨b, 3, none⟩ = some (.int .u64 z3))
   (f0 : w.frozen? ⟨b, 0, none⟩ = false) (f1 : w.frozen? ⟨b, 1, none⟩ = false) (f2 : w.frozen? ⟨b, 2, none⟩ = false) (f3 : w.frozen? ⟨b, 3, none⟩ = false) :
   Calls Try.prog 118 #[.pointer (some ⟨b, 0, none⟩), .int .u64 x, .int .u64 y, .int .i64 0] w fun e w' => e = .returned (.tuple #[]) ∧ ∃ s0 s1 s2 s3 : Int, (0 ≤ s0 ∧ s0 < 18446744073709551616 ∧ 0 ≤ s1 ∧ s1 < 18446744073709551616 ∧ 0 ≤ s2 ∧ s2 < 18446744073709551616 ∧ 0 ≤ s3 ∧ s3 < 18446744073709551616 ∧ s0 + s1 * 18446744073709551616 + s2 * 340282366920938463463374607431768211456 + s3 * 6277101735386680763835789423207666416102355444464034512896 = z0 + z1 * 18446744073709551616 + z2 * 340282366920938463463374607431768211456 + z3 * 6277101735386680763835789423207666416102355444464034512896 + x * y * 1) ∧ w' = ((((w.setCell ⟨b, 0, none⟩ (.int .u64 s0)).setCell ⟨b, 1, none⟩ (.int .u64 s1)).setCell ⟨b, 2, none⟩ (.int .u64 s2)).setCell ⟨b, 3, none⟩ (.int .u64 s3)).drew.drew.drew.drew := by
  have ⟨hx0, hx1⟩ := hx
  have ⟨hy0, hy1⟩ := hy
  have p0 : 0 ≤ x * y := Int.mul_nonneg hx0 hy0
  have p1 : x * y < 340282366920938463463374607431768211456 := by
    have := Int.mul_le_mul (show x ≤ 18446744073709551615 by omega) (show y ≤ 18446744073709551615 by omega) hy0 (by decide)
    omega
  have d0 : 0 ≤ x * y / 18446744073709551616 := by omega
  have d1 : x * y / 18446744073709551616 < 18446744073709551616 := by omega
  have m0 : 0 ≤ x * y % 18446744073709551616 := by omega
  have m1 : x * y % 18446744073709551616 < 18446744073709551616 := by omega
  have hp : x * y = x * y % 18446744073709551616 + x * y / 18446744073709551616 * 18446744073709551616 := by omega
  generalize hlo : x * y % 18446744073709551616 = lo at m0 m1 hp
  generalize hhi : x * y / 18446744073709551616 = hi at d0 d1 hp
  obtain ⟨s0, hs0⟩ : ∃ s, (z0 + lo) % 18446744073709551616 = s := ⟨_, rfl⟩
  obtain ⟨k0, hk0⟩ : ∃ k, (z0 + lo) / 18446744073709551616 = k := ⟨_, rfl⟩
  have sb0 : 0 ≤ s0 ∧ s0 < 18446744073709551616 := by omega
  have kb0 : 0 ≤ k0 ∧ k0 ≤ 1 := by omega
  obtain ⟨s1, hs1⟩ : ∃ s, (z1 + hi + k0) % 18446744073709551616 = s := ⟨_, rfl⟩
  obtain ⟨k1, hk1⟩ : ∃ k, (z1 + hi + k0) / 18446744073709551616 = k := ⟨_, rfl⟩
  have sb1 : 0 ≤ s1 ∧ s1 < 18446744073709551616 := by omega
  have kb1 : 0 ≤ k1 ∧ k1 ≤ 1 := by omega
  obtain ⟨s2, hs2⟩ : ∃ s, (z2 + 0 + k1) % 18446744073709551616 = s := ⟨_, rfl⟩
  obtain ⟨k2, hk2⟩ : ∃ k, (z2 + 0 + k1) / 18446744073709551616 = k := ⟨_, rfl⟩
  have sb2 : 0 ≤ s2 ∧ s2 < 18446744073709551616 := by omega
  have kb2 : 0 ≤ k2 ∧ k2 ≤ 1 := by omega
  obtain ⟨s3, hs3⟩ : ∃ s, (z3 + 0 + k2) % 18446744073709551616 = s := ⟨_, rfl⟩
  obtain ⟨k3, hk3⟩ : ∃ k, (z3 + 0 + k2) / 18446744073709551616 = k := ⟨_, rfl⟩
  have sb3 : 0 ≤ s3 ∧ s3 < 18446744073709551616 := by omega
  have kb3 : 0 ≤ k3 ∧ k3 ≤ 1 := by omega
  have key : s0 + s1 * 18446744073709551616 + s2 * 340282366920938463463374607431768211456 + s3 * 6277101735386680763835789423207666416102355444464034512896 = z0 + z1 * 18446744073709551616 + z2 * 340282366920938463463374607431768211456 + z3 * 6277101735386680763835789423207666416102355444464034512896 + x * y * 1 := by
    rw [hp] at hV ⊢
    omega
  refine (words_add0 b x y lo hi z0 z1 z2 z3 s0 k0 s1 k1 s2 k2 s3 k3 hx hy hlo hhi w (fun w => by rw [giv_add64_0 z0 lo Z00 m0 w, hs0, hk0]) (fun w => by rw [giv_add64 z1 hi k0 Z10 d0 kb0.1 kb0.2 w, hs1, hk1]) (fun w => by rw [giv_add64 z2 0 k1 Z20 (by decide) kb1.1 kb1.2 w, hs2, hk2]) (fun w => by rw [giv_add64 z3 0 k2 Z30 (by decide) kb2.1 kb2.2 w, hs3, hk3]) c0 c1 c2 c3 f0 f1 f2 f3).mono ?_
  rintro e w' ⟨rfl, rfl⟩
  exact ⟨rfl, s0, s1, s2, s3, ⟨sb0.1, sb0.2, sb1.1, sb1.2, sb2.1, sb2.2, sb3.1, sb3.2, key⟩, rfl⟩

theorem words_sum1 (b : Nat) (x y z0 z1 z2 z3 : Int) (hx : w64 x) (hy : w64 y) (Z00 : 0 ≤ z0) (Z01 : z0 < 18446744073709551616) (Z10 : 0 ≤ z1) (Z11 : z1 < 18446744073709551616) (Z20 : 0 ≤ z2) (Z21 : z2 < 18446744073709551616) (Z30 : 0 ≤ z3) (Z31 : z3 < 18446744073709551616) (hV : z0 + z1 * 18446744073709551616 + z2 * 340282366920938463463374607431768211456 + z3 * 6277101735386680763835789423207666416102355444464034512896 + x * y * 18446744073709551616 < 115792089237316195423570985008687907853269984665640564039457584007913129639936) (w : World)
   (c1 : w.cell? ⟨b, 1, none⟩ = some (.int .u64 z1)) (c2 : w.cell? ⟨b, 2, none⟩ = some (.int .u64 z2)) (c3 : w.cell? ⟨b, 3, none⟩ = some (.int .u64 z3))
   (f1 : w.frozen? ⟨b, 1, none⟩ = false) (f2 : w.frozen? ⟨b, 2, none⟩ = false) (f3 : w.frozen? ⟨b, 3, none⟩ = false) :
   Calls Try.prog 118 #[.pointer (some ⟨b, 0, none⟩), .int .u64 x, .int .u64 y, .int .i64 1] w fun e w' => e = .returned (.tuple #[]) ∧ ∃ s1 s2 s3 : Int, (0 ≤ s1 ∧ s1 < 18446744073709551616 ∧ 0 ≤ s2 ∧ s2 < 18446744073709551616 ∧ 0 ≤ s3 ∧ s3 < 18446744073709551616 ∧ z0 + s1 * 18446744073709551616 + s2 * 340282366920938463463374607431768211456 + s3 * 6277101735386680763835789423207666416102355444464034512896 = z0 + z1 * 18446744073709551616 + z2 * 340282366920938463463374607431768211456 + z3 * 6277101735386680763835789423207666416102355444464034512896 + x * y * 18446744073709551616) ∧ w' = (((w.setCell ⟨b, 1, none⟩ (.int .u64 s1)).setCell ⟨b, 2, none⟩ (.int .u64 s2)).setCell ⟨b, 3, none⟩ (.int .u64 s3)).drew.drew.drew := by
  have ⟨hx0, hx1⟩ := hx
  have ⟨hy0, hy1⟩ := hy
  have p0 : 0 ≤ x * y := Int.mul_nonneg hx0 hy0
  have p1 : x * y < 340282366920938463463374607431768211456 := by
    have := Int.mul_le_mul (show x ≤ 18446744073709551615 by omega) (show y ≤ 18446744073709551615 by omega) hy0 (by decide)
    omega
  have d0 : 0 ≤ x * y / 18446744073709551616 := by omega
  have d1 : x * y / 18446744073709551616 < 18446744073709551616 := by omega
  have m0 : 0 ≤ x * y % 18446744073709551616 := by omega
  have m1 : x * y % 18446744073709551616 < 18446744073709551616 := by omega
  have hp : x * y = x * y % 18446744073709551616 + x * y / 18446744073709551616 * 18446744073709551616 := by omega
  generalize hlo : x * y % 18446744073709551616 = lo at m0 m1 hp
  generalize hhi : x * y / 18446744073709551616 = hi at d0 d1 hp
  obtain ⟨s1, hs1⟩ : ∃ s, (z1 + lo) % 18446744073709551616 = s := ⟨_, rfl⟩
  obtain ⟨k1, hk1⟩ : ∃ k, (z1 + lo) / 18446744073709551616 = k := ⟨_, rfl⟩
  have sb1 : 0 ≤ s1 ∧ s1 < 18446744073709551616 := by omega
  have kb1 : 0 ≤ k1 ∧ k1 ≤ 1 := by omega
  obtain ⟨s2, hs2⟩ : ∃ s, (z2 + hi + k1) % 18446744073709551616 = s := ⟨_, rfl⟩
  obtain ⟨k2, hk2⟩ : ∃ k, (z2 + hi + k1) / 18446744073709551616 = k := ⟨_, rfl⟩
  have sb2 : 0 ≤ s2 ∧ s2 < 18446744073709551616 := by omega
  have kb2 : 0 ≤ k2 ∧ k2 ≤ 1 := by omega
  obtain ⟨s3, hs3⟩ : ∃ s, (z3 + 0 + k2) % 18446744073709551616 = s := ⟨_, rfl⟩
  obtain ⟨k3, hk3⟩ : ∃ k, (z3 + 0 + k2) / 18446744073709551616 = k := ⟨_, rfl⟩
  have sb3 : 0 ≤ s3 ∧ s3 < 18446744073709551616 := by omega
  have kb3 : 0 ≤ k3 ∧ k3 ≤ 1 := by omega
  have key : z0 + s1 * 18446744073709551616 + s2 * 340282366920938463463374607431768211456 + s3 * 6277101735386680763835789423207666416102355444464034512896 = z0 + z1 * 18446744073709551616 + z2 * 340282366920938463463374607431768211456 + z3 * 6277101735386680763835789423207666416102355444464034512896 + x * y * 18446744073709551616 := by
    rw [hp] at hV ⊢
    omega
  refine (words_add1 b x y lo hi z0 z1 z2 z3 s1 k1 s2 k2 s3 k3 hx hy hlo hhi w (fun w => by rw [giv_add64_0 z1 lo Z10 m0 w, hs1, hk1]) (fun w => by rw [giv_add64 z2 hi k1 Z20 d0 kb1.1 kb1.2 w, hs2, hk2]) (fun w => by rw [giv_add64 z3 0 k2 Z30 (by decide) kb2.1 kb2.2 w, hs3, hk3]) c1 c2 c3 f1 f2 f3).mono ?_
  rintro e w' ⟨rfl, rfl⟩
  exact ⟨rfl, s1, s2, s3, ⟨sb1.1, sb1.2, sb2.1, sb2.2, sb3.1, sb3.2, key⟩, rfl⟩

theorem words_sum2 (b : Nat) (x y z0 z1 z2 z3 : Int) (hx : w64 x) (hy : w64 y) (Z00 : 0 ≤ z0) (Z01 : z0 < 18446744073709551616) (Z10 : 0 ≤ z1) (Z11 : z1 < 18446744073709551616) (Z20 : 0 ≤ z2) (Z21 : z2 < 18446744073709551616) (Z30 : 0 ≤ z3) (Z31 : z3 < 18446744073709551616) (hV : z0 + z1 * 18446744073709551616 + z2 * 340282366920938463463374607431768211456 + z3 * 6277101735386680763835789423207666416102355444464034512896 + x * y * 340282366920938463463374607431768211456 < 115792089237316195423570985008687907853269984665640564039457584007913129639936) (w : World)
   (c2 : w.cell? ⟨b, 2, none⟩ = some (.int .u64 z2)) (c3 : w.cell? ⟨b, 3, none⟩ = some (.int .u64 z3))
   (f2 : w.frozen? ⟨b, 2, none⟩ = false) (f3 : w.frozen? ⟨b, 3, none⟩ = false) :
   Calls Try.prog 118 #[.pointer (some ⟨b, 0, none⟩), .int .u64 x, .int .u64 y, .int .i64 2] w fun e w' => e = .returned (.tuple #[]) ∧ ∃ s2 s3 : Int, (0 ≤ s2 ∧ s2 < 18446744073709551616 ∧ 0 ≤ s3 ∧ s3 < 18446744073709551616 ∧ z0 + z1 * 18446744073709551616 + s2 * 340282366920938463463374607431768211456 + s3 * 6277101735386680763835789423207666416102355444464034512896 = z0 + z1 * 18446744073709551616 + z2 * 340282366920938463463374607431768211456 + z3 * 6277101735386680763835789423207666416102355444464034512896 + x * y * 340282366920938463463374607431768211456) ∧ w' = ((w.setCell ⟨b, 2, none⟩ (.int .u64 s2)).setCell ⟨b, 3, none⟩ (.int .u64 s3)).drew.drew := by
  have ⟨hx0, hx1⟩ := hx
  have ⟨hy0, hy1⟩ := hy
  have p0 : 0 ≤ x * y := Int.mul_nonneg hx0 hy0
  have p1 : x * y < 340282366920938463463374607431768211456 := by
    have := Int.mul_le_mul (show x ≤ 18446744073709551615 by omega) (show y ≤ 18446744073709551615 by omega) hy0 (by decide)
    omega
  have d0 : 0 ≤ x * y / 18446744073709551616 := by omega
  have d1 : x * y / 18446744073709551616 < 18446744073709551616 := by omega
  have m0 : 0 ≤ x * y % 18446744073709551616 := by omega
  have m1 : x * y % 18446744073709551616 < 18446744073709551616 := by omega
  have hp : x * y = x * y % 18446744073709551616 + x * y / 18446744073709551616 * 18446744073709551616 := by omega
  generalize hlo : x * y % 18446744073709551616 = lo at m0 m1 hp
  generalize hhi : x * y / 18446744073709551616 = hi at d0 d1 hp
  obtain ⟨s2, hs2⟩ : ∃ s, (z2 + lo) % 18446744073709551616 = s := ⟨_, rfl⟩
  obtain ⟨k2, hk2⟩ : ∃ k, (z2 + lo) / 18446744073709551616 = k := ⟨_, rfl⟩
  have sb2 : 0 ≤ s2 ∧ s2 < 18446744073709551616 := by omega
  have kb2 : 0 ≤ k2 ∧ k2 ≤ 1 := by omega
  obtain ⟨s3, hs3⟩ : ∃ s, (z3 + hi + k2) % 18446744073709551616 = s := ⟨_, rfl⟩
  obtain ⟨k3, hk3⟩ : ∃ k, (z3 + hi + k2) / 18446744073709551616 = k := ⟨_, rfl⟩
  have sb3 : 0 ≤ s3 ∧ s3 < 18446744073709551616 := by omega
  have kb3 : 0 ≤ k3 ∧ k3 ≤ 1 := by omega
  have key : z0 + z1 * 18446744073709551616 + s2 * 340282366920938463463374607431768211456 + s3 * 6277101735386680763835789423207666416102355444464034512896 = z0 + z1 * 18446744073709551616 + z2 * 340282366920938463463374607431768211456 + z3 * 6277101735386680763835789423207666416102355444464034512896 + x * y * 340282366920938463463374607431768211456 := by
    rw [hp] at hV ⊢
    omega
  refine (words_add2 b x y lo hi z0 z1 z2 z3 s2 k2 s3 k3 hx hy hlo hhi w (fun w => by rw [giv_add64_0 z2 lo Z20 m0 w, hs2, hk2]) (fun w => by rw [giv_add64 z3 hi k2 Z30 d0 kb2.1 kb2.2 w, hs3, hk3]) c2 c3 f2 f3).mono ?_
  rintro e w' ⟨rfl, rfl⟩
  exact ⟨rfl, s2, s3, ⟨sb2.1, sb2.2, sb3.1, sb3.2, key⟩, rfl⟩
/-- The product of two numbers of two words, word by word. -/
def limb_Mul.f (a0_0 a0_1 a1_0 a1_1 : Int) : Option (Int × Int × Int × Int) :=
  if w64 a0_0 ∧ w64 a0_1 ∧ w64 a1_0 ∧ w64 a1_1 then
    some ((a0_0 * 18446744073709551616 + a0_1) * (a1_0 * 18446744073709551616 + a1_1) / 6277101735386680763835789423207666416102355444464034512896, (a0_0 * 18446744073709551616 + a0_1) * (a1_0 * 18446744073709551616 + a1_1) / 340282366920938463463374607431768211456 % 18446744073709551616, (a0_0 * 18446744073709551616 + a0_1) * (a1_0 * 18446744073709551616 + a1_1) / 18446744073709551616 % 18446744073709551616, (a0_0 * 18446744073709551616 + a0_1) * (a1_0 * 18446744073709551616 + a1_1) % 18446744073709551616)
  else none
theorem limb_Mul.calls (a0_0 : Int) (a0_1 : Int) (a1_0 : Int) (a1_1 : Int) (r1 : Int) (r2 : Int) (r3 : Int) (r4 : Int) (w : World) (h : limb_Mul.f a0_0 a0_1 a1_0 a1_1 = some (r1, r2, r3, r4)) :
    Calls Try.prog 107 #[.agg #[.int .u64 a0_0, .int .u64 a0_1], .agg #[.int .u64 a1_0, .int .u64 a1_1]] w fun e w' => e = .returned (.tuple #[.agg #[.int .u64 r1, .int .u64 r2], .agg #[.int .u64 r3, .int .u64 r4]]) ∧ Below w.heap.size w w' := by
  unfold limb_Mul.f at h
  split at h
  · rename_i hr
    obtain ⟨q1, q2, q3, q4⟩ := hr
    simp only [Option.some.injEq, Prod.mk.injEq] at h
    have e0 : (a0_0 * 18446744073709551616 + a0_1) * (a1_0 * 18446744073709551616 + a1_1) = a0_1 * a1_1 * 1 + a0_1 * a1_0 * 18446744073709551616 + a0_0 * a1_1 * 18446744073709551616 + a0_0 * a1_0 * 340282366920938463463374607431768211456 := by grind
    have n1 : 0 ≤ a0_1 * a1_1 := Int.mul_nonneg q2.1 q4.1
    have n2 : 0 ≤ a0_1 * a1_0 := Int.mul_nonneg q2.1 q3.1
    have n3 : 0 ≤ a0_0 * a1_1 := Int.mul_nonneg q1.1 q4.1
    have n4 : 0 ≤ a0_0 * a1_0 := Int.mul_nonneg q1.1 q3.1
    have e1 : (a0_0 * 18446744073709551616 + a0_1) * (a1_0 * 18446744073709551616 + a1_1) < 115792089237316195423570985008687907853269984665640564039457584007913129639936 := by
      have h1 : 0 ≤ a0_0 * 18446744073709551616 + a0_1 := by have := q1.1; have := q2.1; omega
      have h2 : 0 ≤ a1_0 * 18446744073709551616 + a1_1 := by have := q3.1; have := q4.1; omega
      have h3 : a0_0 * 18446744073709551616 + a0_1 < 340282366920938463463374607431768211456 := by have := q1.2; have := q2.2; omega
      have h4 : a1_0 * 18446744073709551616 + a1_1 < 340282366920938463463374607431768211456 := by have := q3.2; have := q4.2; omega
      have := Int.mul_le_mul (Int.le_sub_one_of_lt h3) (Int.le_sub_one_of_lt h4) h2 (by decide)
      omega
    rw [e0] at h e1
    clear e0
    have E := Lib.hid e1
    have HR := Lib.hid h
    have N1 := Lib.hid n1
    have N2 := Lib.hid n2
    have N3 := Lib.hid n3
    have N4 := Lib.hid n4
    clear e1 h n1 n2 n3 n4
    go_enter Try.func107, Try.ntmps107
    go_wp2_with fail
    refine (words_sum0 _ a0_1 a1_1 0 0 0 0 q2 q4 (by decide) (by decide) (by decide) (by decide) (by decide) (by decide) (by decide) (by decide) (by have := E.out; have := N1.out; have := N2.out; have := N3.out; have := N4.out; omega) _ (by simp [go_sem]) (by simp [go_sem]) (by simp [go_sem]) (by simp [go_sem]) (by simp [go_sem]) (by simp [go_sem]) (by simp [go_sem]) (by simp [go_sem])).mono ?_
    rintro e w1 ⟨rfl, s0, s1, s2, s3, ⟨b0, b0', b1, b1', b2, b2', b3, b3', key⟩, rfl⟩
    have K1 := Lib.hid key
    clear key
    go_wp2_with fail
    refine (words_sum1 _ a0_1 a1_0 s0 s1 s2 s3 q2 q3 b0 b0' b1 b1' b2 b2' b3 b3' (by have := E.out; have := N1.out; have := N2.out; have := N3.out; have := N4.out; have := K1.out; omega) _ (by simp [go_sem]) (by simp [go_sem]) (by simp [go_sem]) (by simp [go_sem]) (by simp [go_sem]) (by simp [go_sem])).mono ?_
    rintro e w1 ⟨rfl, t1, t2, t3, ⟨d1, d1', d2, d2', d3, d3', key⟩, rfl⟩
    have K2 := Lib.hid key
    clear key
    go_wp2_with fail
    refine (words_sum1 _ a0_0 a1_1 s0 t1 t2 t3 q1 q4 b0 b0' d1 d1' d2 d2' d3 d3' (by have := E.out; have := N1.out; have := N2.out; have := N3.out; have := N4.out; have := K1.out; have := K2.out; omega) _ (by simp [go_sem]) (by simp [go_sem]) (by simp [go_sem]) (by simp [go_sem]) (by simp [go_sem]) (by simp [go_sem])).mono ?_
    rintro e w1 ⟨rfl, u1, u2, u3, ⟨g1, g1', g2, g2', g3, g3', key⟩, rfl⟩
    have K3 := Lib.hid key
    clear key
    go_wp2_with fail
    refine (words_sum2 _ a0_0 a1_0 s0 u1 u2 u3 q1 q3 b0 b0' g1 g1' g2 g2' g3 g3' (by have := E.out; have := N1.out; have := N2.out; have := N3.out; have := N4.out; have := K1.out; have := K2.out; have := K3.out; omega) _ (by simp [go_sem]) (by simp [go_sem]) (by simp [go_sem]) (by simp [go_sem])).mono ?_
    rintro e w1 ⟨rfl, v2, v3, ⟨j2, j2', j3, j3', key⟩, rfl⟩
    have K4 := Lib.hid key
    clear key
    go_wp2_with fail
    have F : r1 = v3 ∧ r2 = v2 ∧ r3 = u1 ∧ r4 = s0 := by
      obtain ⟨z1, z2, z3, z4⟩ := HR.out
      have := K1.out
      have := K2.out
      have := K3.out
      have := K4.out
      generalize a0_1 * a1_1 = p1 at *
      generalize a0_1 * a1_0 = p2 at *
      generalize a0_0 * a1_1 = p3 at *
      generalize a0_0 * a1_0 = p4 at *
      clear E HR K1 K2 K3 K4
      omega
    clear HR E K1 K2 K3 K4 N1 N2 N3 N4
    obtain ⟨rfl, rfl, rfl, rfl⟩ := F
    go_region
    go_wp2
    simp [bodyPost, results, Try.results107, go_sem]
    repeat (with_reducible first | exact Below.refl _ _ | apply below_alloc | apply below_drew1 | refine below_set ?_ (by omega))
  · cases h
end Go.Proofs.Ytanolecbepjkcaa.E
/- The leading noughts of a word. -/
namespace Go.Proofs.Ytanolecbepjkcaa.E
open Go.RowKit
theorem lz64 (x : Int) (w : World) (h1 : 0 ≤ x) (h2 : x < 18446744073709551616) : Calls Try.prog 125 #[.int .u64 x] w fun e w' => e = .returned (.int .i64 (64 - (Lib.bitLen x.toNat : Int))) ∧ w' = w := by
  refine (Try.bits_LeadingZeros64 x w h1 (by omega)).mono ?_
  rintro e w' ⟨rfl, rfl⟩
  exact ⟨rfl, rfl⟩
end Go.Proofs.Ytanolecbepjkcaa.E
/- The words of math/bits and the product of two Limbs, as specifications. -/
namespace Go.Proofs.Ytanolecbepjkcaa.E
open Go.VC Go.RowKit

abbrev iv (k : IntKind) (x : Int) : AP := .c (.v (.int k x))
abbrev bv (b : Bool) : AP := .c (.v (.bool b))
theorem rep1 {L : Lie} {w : World} {k : IntKind} {x : Int} {y : Value} (h : (iv k x).rep L w y) : y = .int k x := h.1

def sAdd64 : List AP → Option AV
  | [.c (.v (.int .u64 x)), .c (.v (.int .u64 y)), .c (.v (.int .u64 c))] => if 0 ≤ x ∧ 0 ≤ y ∧ 0 ≤ c ∧ c ≤ 1 then some (.t [iv .u64 ((x + y + c) % 18446744073709551616), iv .u64 ((x + y + c) / 18446744073709551616)]) else none
  | _ => none
theorem okAdd64 : Ok Try.prog 117 sAdd64 := by
  intro av r h
  unfold sAdd64 at h
  split at h
  · rename_i x y c
    split at h
    · rename_i hc
      cases h
      refine .inr (.inl fun w vs hr => ?_)
      match vs, hr with
      | [a, b, d], hr =>
        obtain ⟨h1, h2, h3, _⟩ := hr
        obtain rfl := rep1 h1
        obtain rfl := rep1 h2
        obtain rfl := rep1 h3
        exact ⟨_, giv_add64 x y c hc.1 hc.2.1 hc.2.2.1 hc.2.2.2 w, fun L w' => ⟨_, rfl, ⟨rfl, rfl⟩, ⟨rfl, rfl⟩, trivial⟩⟩
      | [], hr => exact hr.elim
      | [a], hr => exact hr.2.elim
      | [a, b], hr => exact hr.2.2.elim
      | a :: b :: d :: e :: l, hr => exact hr.2.2.2.elim
    · cases h
  · cases h

def sSub64 : List AP → Option AV
  | [.c (.v (.int .u64 x)), .c (.v (.int .u64 y)), .c (.v (.int .u64 c))] => if 0 ≤ x ∧ 0 ≤ y ∧ y < 18446744073709551616 ∧ 0 ≤ c ∧ c ≤ 1 then some (.t [iv .u64 ((x - y - c) % 18446744073709551616), iv .u64 (if x < y + c then 1 else 0)]) else none
  | _ => none
theorem okSub64 : Ok Try.prog 122 sSub64 := by
  intro av r h
  unfold sSub64 at h
  split at h
  · rename_i x y c
    split at h
    · rename_i hc
      cases h
      refine .inr (.inl fun w vs hr => ?_)
      match vs, hr with
      | [a, b, d], hr =>
        obtain ⟨h1, h2, h3, _⟩ := hr
        obtain rfl := rep1 h1
        obtain rfl := rep1 h2
        obtain rfl := rep1 h3
        exact ⟨_, giv_sub64 x y c hc.1 hc.2.1 hc.2.2.1 hc.2.2.2.1 hc.2.2.2.2 w, fun L w' => ⟨_, rfl, ⟨rfl, rfl⟩, ⟨rfl, rfl⟩, trivial⟩⟩
      | [], hr => exact hr.elim
      | [a], hr => exact hr.2.elim
      | [a, b], hr => exact hr.2.2.elim
      | a :: b :: d :: e :: l, hr => exact hr.2.2.2.elim
    · cases h
  · cases h

def sLz64 : List AP → Option AV
  | [.c (.v (.int .u64 x))] => if 0 ≤ x ∧ x < 18446744073709551616 then some (.o (iv .i64 (64 - (Lib.bitLen x.toNat : Int)))) else none
  | _ => none
theorem okLz64 : Ok Try.prog 125 sLz64 := by
  intro av r h
  unfold sLz64 at h
  split at h
  · rename_i x
    split at h
    · rename_i hc
      cases h
      refine .inl ⟨bits_LeadingZeros64.ent, fun S w vs hS hr => ?_⟩
      match vs, hr with
      | [a], hr =>
        obtain rfl := rep1 hr.1
        refine (lz64 x w hc.1 hc.2).mono ?_
        rintro e w' ⟨rfl, rfl⟩
        exact ⟨_, rfl, ⟨rfl, rfl⟩, Below.refl _ _⟩
      | [], hr => exact hr.elim
      | a :: b :: l, hr => exact hr.2.elim
    · cases h
  · cases h

def sLimbMul : List AP → Option AV
  | [a, b] => match dL a, dL b with
    | some x, some y => some (.t [lb (x * y / 340282366920938463463374607431768211456), lb (x * y % 340282366920938463463374607431768211456)])
    | _, _ => none
  | _ => none
theorem okLimbMul : Ok Try.prog 107 sLimbMul := by
  intro av r h
  unfold sLimbMul at h
  split at h
  · rename_i a b
    split at h
    · rename_i x y hx hy
      cases h
      obtain ⟨rfl, hx0, hx1⟩ := dL_some hx
      obtain ⟨rfl, hy0, hy1⟩ := dL_some hy
      refine .inl ⟨enters Try.func107 (by kernel_rfl) (by kernel_rfl), fun S w vs hS hr => ?_⟩
      match vs, hr with
      | [u, v], hr =>
        obtain ⟨⟨us, rfl, h1⟩, ⟨vs, rfl, h2⟩, _⟩ := hr
        match us, h1, vs, h2 with
        | [u1, u0], h1, [v1, v0], h2 =>
          obtain rfl := h1.1.1
          obtain rfl := h1.2.1.1
          obtain rfl := h2.1.1
          obtain rfl := h2.2.1.1
          have ex : x / 18446744073709551616 * 18446744073709551616 + x % 18446744073709551616 = x := by omega
          have ey : y / 18446744073709551616 * 18446744073709551616 + y % 18446744073709551616 = y := by omega
          have h := limb_Mul.calls (x / 18446744073709551616) (x % 18446744073709551616) (y / 18446744073709551616) (y % 18446744073709551616) (x * y / 6277101735386680763835789423207666416102355444464034512896) (x * y / 340282366920938463463374607431768211456 % 18446744073709551616) (x * y / 18446744073709551616 % 18446744073709551616) (x * y % 18446744073709551616) w (by
            unfold limb_Mul.f
            rw [if_pos ⟨⟨by omega, by omega⟩, ⟨by omega, by omega⟩, ⟨by omega, by omega⟩, ⟨by omega, by omega⟩⟩, ex, ey])
          refine h.mono ?_
          rintro e w' ⟨rfl, hb⟩
          refine ⟨_, rfl, ⟨_, rfl, ⟨_, rfl, ⟨?_, rfl⟩, ⟨rfl, rfl⟩, trivial⟩, ⟨_, rfl, ⟨?_, rfl⟩, ⟨?_, rfl⟩, trivial⟩, trivial⟩, hb⟩
          · generalize x * y = z; congr 1; omega
          · generalize x * y = z; congr 1; omega
          · generalize x * y = z; congr 1; omega
        | [], h1, _, _ => exact h1.elim
        | [_], h1, _, _ => exact h1.2.elim
        | _ :: _ :: _ :: _, h1, _, _ => exact h1.2.2.elim
        | [_, _], _, [], h2 => exact h2.elim
        | [_, _], _, [_], h2 => exact h2.2.elim
        | [_, _], _, _ :: _ :: _ :: _, h2 => exact h2.2.2.elim
      | [], hr => exact hr.elim
      | [_], hr => exact hr.2.elim
      | _ :: _ :: _ :: _, hr => exact hr.2.2.elim
    · cases h
  · cases h
end Go.Proofs.Ytanolecbepjkcaa.E
/- What the functions of the package limb do. -/
namespace Go.Proofs.Ytanolecbepjkcaa.E
open Go.VC Go.RowKit

abbrev spBits : List (Nat × (List AP → Option AV)) := [(117, sAdd64), (122, sSub64)]
theorem okSpBits : SpecOk Try.prog (spOf spBits) := specOk_cons okAdd64 (specOk_cons okSub64 specOk_nil)
theorem em0 (x : Int) : 0 ≤ x % 18446744073709551616 := by omega
theorem em1 (x : Int) : x % 18446744073709551616 < 18446744073709551616 := by omega
theorem bb {a b : Int} {p : Prop} [Decidable p] (h : a = b ↔ p) : (a == b) = decide p := by
  rw [Bool.eq_iff_iff]; simpa using h

def sLimbAdd : List AP → Option AV
  | [a, b] => match dL a, dL b with
    | some x, some y => some (.t [lb (if 340282366920938463463374607431768211456 ≤ x + y then x + y - 340282366920938463463374607431768211456 else x + y), bv (decide (340282366920938463463374607431768211456 ≤ x + y))])
    | _, _ => none
  | _ => none
theorem okLimbAdd : Ok Try.prog 104 sLimbAdd := ok_of' Try.func104 limb_Add.ent limb_Add.chk okSpBits fun av r h => by
  unfold sLimbAdd at h
  split at h
  · split at h
    · rename_i x y hx hy
      cases h
      obtain ⟨rfl, hx0, hx1⟩ := dL_some hx
      obtain ⟨rfl, hy0, hy1⟩ := dL_some hy
      refine ⟨by simp [limb_Add.c], 0, ?_⟩
      have c0 : 0 ≤ (x % 18446744073709551616 + y % 18446744073709551616) / 18446744073709551616 := by omega
      have c1 : (x % 18446744073709551616 + y % 18446744073709551616) / 18446744073709551616 ≤ 1 := by omega
      have x0 : 0 ≤ x / 18446744073709551616 := by omega
      have y0 : 0 ≤ y / 18446744073709551616 := by omega
      by_cases hov : 340282366920938463463374607431768211456 ≤ x + y
      · simp [limb_Add.c, lb, sAdd64, em0, c0, c1, x0, y0, hov]
        omega
      · simp [limb_Add.c, lb, sAdd64, em0, c0, c1, x0, y0, hov]
        omega
    · cases h
  · cases h

def sLimbSub : List AP → Option AV
  | [a, b] => match dL a, dL b with
    | some x, some y => some (.t [lb (if x < y then x - y + 340282366920938463463374607431768211456 else x - y), bv (decide (x < y))])
    | _, _ => none
  | _ => none
theorem okLimbSub : Ok Try.prog 114 sLimbSub := ok_of' Try.func114 limb_Sub.ent limb_Sub.chk okSpBits fun av r h => by
  unfold sLimbSub at h
  split at h
  · split at h
    · rename_i x y hx hy
      cases h
      obtain ⟨rfl, hx0, hx1⟩ := dL_some hx
      obtain ⟨rfl, hy0, hy1⟩ := dL_some hy
      refine ⟨by simp [limb_Sub.c], 0, ?_⟩
      have x0 : 0 ≤ x / 18446744073709551616 := by omega
      have y0 : 0 ≤ y / 18446744073709551616 := by omega
      have y1 : y / 18446744073709551616 < 18446744073709551616 := by omega
      by_cases hlt : x < y <;> by_cases hlo : x % 18446744073709551616 < y % 18446744073709551616
      · have hq : x / 18446744073709551616 < y / 18446744073709551616 + 1 := by omega
        simp [limb_Sub.c, lb, sSub64, em0, em1, x0, y0, y1, hlo, hlt, hq]
        omega
      · have hq : x / 18446744073709551616 < y / 18446744073709551616 := by omega
        simp [limb_Sub.c, lb, sSub64, em0, em1, x0, y0, y1, hlo, hlt, hq]
        omega
      · have hq : ¬ x / 18446744073709551616 < y / 18446744073709551616 + 1 := by omega
        simp [limb_Sub.c, lb, sSub64, em0, em1, x0, y0, y1, hlo, hlt, hq]
        omega
      · have hq : ¬ x / 18446744073709551616 < y / 18446744073709551616 := by omega
        simp [limb_Sub.c, lb, sSub64, em0, em1, x0, y0, y1, hlo, hlt, hq]
        omega
    · cases h
  · cases h

/-- Which one is greater. -/
def cmpI (x y : Int) : Int := if x = y then 0 else if x < y then -1 else 1
def sLimbCmp : List AP → Option AV
  | [a, b] => match dL a, dL b with
    | some x, some y => some (.o (iv .i64 (cmpI x y)))
    | _, _ => none
  | _ => none
theorem okLimbCmp : Ok Try.prog 119 sLimbCmp := ok_of' Try.func119 limb_Cmp.ent limb_Cmp.chk specOk_nil fun av r h => by
  unfold sLimbCmp at h
  split at h
  · split at h
    · rename_i x y hx hy
      cases h
      obtain ⟨rfl, hx0, hx1⟩ := dL_some hx
      obtain ⟨rfl, hy0, hy1⟩ := dL_some hy
      refine ⟨by simp [limb_Cmp.c], 0, ?_⟩
      rcases Int.lt_trichotomy (x / 18446744073709551616) (y / 18446744073709551616) with h1 | h1 | h1
      · have e : cmpI x y = -1 := by unfold cmpI; rw [if_neg (by omega), if_pos (by omega)]
        have h2 : ¬ x / 18446744073709551616 = y / 18446744073709551616 := by omega
        simp [limb_Cmp.c, lb, h1, h2, e]
      · rcases Int.lt_trichotomy (x % 18446744073709551616) (y % 18446744073709551616) with h3 | h3 | h3
        · have e : cmpI x y = -1 := by unfold cmpI; rw [if_neg (by omega), if_pos (by omega)]
          have h4 : ¬ x % 18446744073709551616 = y % 18446744073709551616 := by omega
          simp [limb_Cmp.c, lb, h1, h3, h4, e]
        · have e : cmpI x y = 0 := by unfold cmpI; rw [if_pos (by omega)]
          simp [limb_Cmp.c, lb, h1, h3, e]
        · have e : cmpI x y = 1 := by unfold cmpI; rw [if_neg (by omega), if_neg (by omega)]
          have h4 : ¬ x % 18446744073709551616 = y % 18446744073709551616 := by omega
          have h5 : ¬ x % 18446744073709551616 < y % 18446744073709551616 := by omega
          simp [limb_Cmp.c, lb, h1, h4, h5, e]
      · have e : cmpI x y = 1 := by unfold cmpI; rw [if_neg (by omega), if_neg (by omega)]
        have h2 : ¬ x / 18446744073709551616 = y / 18446744073709551616 := by omega
        have h3 : ¬ x / 18446744073709551616 < y / 18446744073709551616 := by omega
        simp [limb_Cmp.c, lb, h2, h3, e]
    · cases h
  · cases h
end Go.Proofs.Ytanolecbepjkcaa.E
/- Twice a Limb. -/
namespace Go.Proofs.Ytanolecbepjkcaa.E
open Go.VC Go.RowKit

def sDouble : List AP → Option AV
  | [a, .c (.v (.int .u64 b))] => match dL a with
    | some x => if 0 ≤ b ∧ b ≤ 1 then some (.t [lb (if 340282366920938463463374607431768211456 ≤ 2 * x then 2 * x + b - 340282366920938463463374607431768211456 else 2 * x + b), bv (decide (340282366920938463463374607431768211456 ≤ 2 * x))]) else none
    | _ => none
  | _ => none
theorem okDouble : Ok Try.prog 121 sDouble := ok_of' Try.func121 limb_double.ent limb_double.chk specOk_nil fun av r h => by
  unfold sDouble at h
  split at h
  · split at h
    · rename_i a b y x hx
      split at h
      · rename_i hb
        cases h
        obtain ⟨rfl, hx0, hx1⟩ := dL_some hx
        refine ⟨by simp [limb_double.c], 0, ?_⟩
        have e1 : bitsV .or .u64 (x / 18446744073709551616 * 2 % 18446744073709551616) (x % 18446744073709551616 / 9223372036854775808) = x / 18446744073709551616 * 2 % 18446744073709551616 + x % 18446744073709551616 / 9223372036854775808 :=
          or_u64_add 1 (by decide) (by omega) (by omega) (by omega) (by omega) (by omega) (by omega)
        have e2 : bitsV .or .u64 (x % 18446744073709551616 * 2 % 18446744073709551616) b = x % 18446744073709551616 * 2 % 18446744073709551616 + b :=
          or_u64_add 1 (by decide) (by omega) (by omega) (by omega) (by omega) (by omega) (by omega)
        by_cases hov : 340282366920938463463374607431768211456 ≤ 2 * x
        · simp [limb_double.c, lb, wrap_u64_eq, fdiv_pos, e1, e2, hov]
          omega
        · simp [limb_double.c, lb, wrap_u64_eq, fdiv_pos, e1, e2, hov]
          omega
      · cases h
    · cases h
  · cases h
end Go.Proofs.Ytanolecbepjkcaa.E
/- The quotient of two words by one: the two guesses. -/
namespace Go.Proofs.Ytanolecbepjkcaa.E
open Go.VC Go.RowKit

theorem qhat_ge (u a b c : Int) (ha0 : 2147483648 ≤ a) (ha1 : a < 4294967296) (hb0 : 0 ≤ b) (hb1 : b < 4294967296) (hc0 : 0 ≤ c) (hc1 : c < 4294967296) (hu0 : 0 ≤ u) : (u * 4294967296 + c) / (a * 4294967296 + b) ≤ u / a := by
  have hq0 : 0 ≤ u / a := Int.ediv_nonneg hu0 (by omega)
  have h : (u * 4294967296 + c) / (a * 4294967296 + b) < u / a + 1 := by
    refine Int.ediv_lt_of_lt_mul (by omega) ?_
    have h1 : u < (u / a + 1) * a := by
      have h2 := Int.mul_ediv_add_emod u a
      have h3 := Int.emod_lt_of_pos u (show 0 < a by omega)
      rw [Int.add_mul, Int.one_mul, Int.mul_comm (u / a) a]; omega
    have h4 : 0 ≤ (u / a + 1) * b := Int.mul_nonneg (by omega) hb0
    rw [Int.mul_add, ← Int.mul_assoc]; omega
  omega


theorem div_l1 {sp : VC.Spec} {K : Nat} (s0 : St) (u a b c : Int) (ha0 : 2147483648 ≤ a) (ha1 : a < 4294967296) (hb0 : 0 ≤ b) (hb1 : b < 4294967296) (hc0 : 0 ≤ c) (hc1 : c < 4294967296) (hu0 : 0 ≤ u) (hu : u < a * 4294967296 + b)
    (h9 : s0.tm 9 = .o (iv .u64 a)) (h10 : s0.tm 10 = .o (iv .u64 b)) (hc : s0.tm 13 = .o (iv .u64 c)) (hq : s0.tm 15 = .o (iv .u64 (u / a))) (hr : s0.tm 16 = .o (iv .u64 (u % a))) :
    EndsIn (iter (absCode sp K bits_Div64.l1) 3 s0) (fun ax s' => ax = .e 0 ∧ s'.tm 15 = .o (iv .u64 ((u * 4294967296 + c) / (a * 4294967296 + b))) ∧ (∀ t, t < 15 → t ≠ 16 → s'.tm t = s0.tm t) ∧ s'.mem = s0.mem) := by
  have hua : u = u / a * a + u % a := by have := Int.mul_ediv_add_emod u a; rw [Int.mul_comm] at this; omega
  have hr0 : 0 ≤ u % a := Int.emod_nonneg _ (by omega)
  have hr1 : u % a < a := Int.emod_lt_of_pos _ (by omega)
  have hq0 : 0 ≤ u / a := Int.ediv_nonneg hu0 (by omega)
  have hq1 : u / a ≤ 4294967297 := by
    have h1 : u / a < 4294967298 := Int.ediv_lt_of_lt_mul (by omega) (by omega)
    omega
  have hQq : (u * 4294967296 + c) / (a * 4294967296 + b) ≤ u / a := qhat_ge u a b c ha0 ha1 hb0 hb1 hc0 hc1 hu0
  generalize hQ : (u * 4294967296 + c) / (a * 4294967296 + b) = Q at *
  refine ends_while (fun m s => ∃ q r, s.tm 15 = .o (iv .u64 q) ∧ s.tm 16 = .o (iv .u64 r) ∧ (∀ t, t < 15 → t ≠ 16 → s.tm t = s0.tm t) ∧ s.mem = s0.mem ∧ u = q * a + r ∧ Q ≤ q ∧ 0 ≤ q ∧ q ≤ 4294967295 + m ∧ m ≤ 2 ∧ (2 - (m : Int)) * a ≤ r ∧ r < 4294967296)
    (fun m s hI => ?_) 3 2 s0 (by decide) ⟨u / a, u % a, hq, hr, fun _ _ _ => rfl, rfl, hua, hQq, hq0, by omega, by omega, by omega, by omega⟩
  obtain ⟨q, r, i1, i2, i3, i4, i5, i6, i6', i7, i8, i9, i10⟩ := hI
  have g9 : s.tm 9 = .o (iv .u64 a) := by rw [i3 9 (by decide) (by decide)]; exact h9
  have g10 : s.tm 10 = .o (iv .u64 b) := by rw [i3 10 (by decide) (by decide)]; exact h10
  have gc : s.tm 13 = .o (iv .u64 c) := by rw [i3 13 (by decide) (by decide)]; exact hc
  have hr0 : 0 ≤ r := by
    have : m = 0 ∨ m = 1 ∨ m = 2 := by omega
    rcases this with rfl | rfl | rfl <;> simp at i9 <;> omega
  have hm0 : m ≠ 0 := by intro h; subst h; simp at i9; omega
  have hqb0 : 0 ≤ q * b := Int.mul_nonneg i6' hb0
  have hqb1 : q * b ≤ 4294967297 * 4294967295 := Int.mul_le_mul (by omega) (by omega) hb0 (by decide)
  have w1 : q * b % 18446744073709551616 = q * b := by omega
  have w2 : 4294967296 * r % 18446744073709551616 = 4294967296 * r := by omega
  have w3 : (4294967296 * r + c) % 18446744073709551616 = 4294967296 * r + c := by omega
  have w4 : (r + a) % 18446744073709551616 = r + a := by omega
  have hstop : q < 4294967296 → ¬ 4294967296 * r + c < q * b → q = Q := fun h1 h2 => by
    have h3 : q * (a * 4294967296 + b) ≤ u * 4294967296 + c := by
      rw [Int.mul_add, ← Int.mul_assoc, i5]; omega
    have h4 : q ≤ Q := by rw [← hQ]; exact Int.le_ediv_of_mul_le (by omega) h3
    omega
  have hgo : 4294967296 ≤ q ∨ 4294967296 * r + c < q * b → Q ≤ q - 1 := fun h => by
    have : Q < q := by
      rcases h with h | h
      · have : Q < 4294967296 := by rw [← hQ]; exact Int.ediv_lt_of_lt_mul (by omega) (by omega)
        omega
      · rw [← hQ]
        refine Int.ediv_lt_of_lt_mul (by omega) ?_
        rw [Int.mul_add, ← Int.mul_assoc, i5]; omega
    omega
  have hq1' : (4294967296 ≤ q ∨ 4294967296 * r + c < q * b) → 1 ≤ q := fun h => by
    rcases h with h | h
    · omega
    · rcases (show q < 1 ∨ 1 ≤ q by omega) with h1 | h1
      · have : q = 0 := by omega
        subst this; simp at h; omega
      · exact h1
  have hbreak : Q ≤ q - 1 → 4294967296 ≤ r + a → q - 1 = Q := fun h1 h2 => by
    have hb2 : (q - 1) * b ≤ 4294967296 * 4294967295 := Int.mul_le_mul (by omega) (by omega) hb0 (by decide)
    have e1 : (q - 1) * a = q * a - a := by rw [Int.sub_mul, Int.one_mul]
    have h3 : (q - 1) * (a * 4294967296 + b) ≤ u * 4294967296 + c := by
      rw [Int.mul_add, ← Int.mul_assoc, e1, i5]; omega
    have h4 : q - 1 ≤ Q := by rw [← hQ]; exact Int.le_ediv_of_mul_le (by omega) h3
    omega
  have hnext : Q ≤ q - 1 → ¬ 4294967296 ≤ r + a → ∃ m', m' < m ∧ (u = (q - 1) * a + (r + a) ∧ Q ≤ q - 1 ∧ 0 ≤ q - 1 ∧ q - 1 ≤ 4294967295 + m' ∧ m' ≤ 2 ∧ (2 - (m' : Int)) * a ≤ r + a ∧ r + a < 4294967296) := fun h1 h2 => by
    have hQ0 : 0 ≤ Q := by rw [← hQ]; exact Int.ediv_nonneg (by omega) (by omega)
    refine ⟨m - 1, by omega, ?_, h1, by omega, by omega, by omega, ?_, by omega⟩
    · rw [Int.sub_mul, Int.one_mul]; omega
    · have e : (2 - ((m - 1 : Nat) : Int)) * a = (2 - (m : Int)) * a + a := by
        have : ((m - 1 : Nat) : Int) = (m : Int) - 1 := by omega
        rw [this]; grind
      omega
  have fr : ∀ {X : AV} {t : Nat}, t < 15 → t ≠ 16 → X = s.tm t → X = s0.tm t := fun h1 h2 h3 => h3.trans (i3 _ h1 h2)
  by_cases c1 : 4294967296 ≤ q
  · have w5 : (q - 1) % 18446744073709551616 = q - 1 := by omega
    by_cases c3 : 4294967296 ≤ r + a
    · simp [bits_Div64.l1, i1, i2, g9, g10, gc, c1, wrap_u64_eq, w1, w2, w3, w4, w5, c3]
      refine ⟨hbreak (hgo (.inl c1)) c3, fun t ht n2 => fr ht n2 ?_, i4⟩
      repeat rw [if_neg (by omega)]
    · simp [bits_Div64.l1, i1, i2, g9, g10, gc, c1, wrap_u64_eq, w1, w2, w3, w4, w5, c3]
      obtain ⟨m', q1, q2, q3, q4, q5, q6, q7, q8⟩ := hnext (hgo (.inl c1)) c3
      refine ⟨m', q1, fun t ht n2 => fr ht n2 ?_, i4, q2, by omega, by omega, by omega, q6, q7, by omega⟩
      repeat rw [if_neg (by omega)]
  · by_cases c2 : 4294967296 * r + c < q * b
    · have w5 : (q - 1) % 18446744073709551616 = q - 1 := by have := hq1' (.inr c2); omega
      by_cases c3 : 4294967296 ≤ r + a
      · simp [bits_Div64.l1, i1, i2, g9, g10, gc, c1, c2, wrap_u64_eq, w1, w2, w3, w4, w5, c3]
        refine ⟨hbreak (hgo (.inr c2)) c3, fun t ht n2 => fr ht n2 ?_, i4⟩
        repeat rw [if_neg (by omega)]
      · simp [bits_Div64.l1, i1, i2, g9, g10, gc, c1, c2, wrap_u64_eq, w1, w2, w3, w4, w5, c3]
        obtain ⟨m', q1, q2, q3, q4, q5, q6, q7, q8⟩ := hnext (hgo (.inr c2)) c3
        refine ⟨m', q1, fun t ht n2 => fr ht n2 ?_, i4, q2, by omega, by omega, by omega, q6, q7, by omega⟩
        repeat rw [if_neg (by omega)]
    · simp [bits_Div64.l1, i1, i2, g9, g10, gc, c1, c2, wrap_u64_eq, w1, w2, w3]
      refine ⟨hstop (by omega) c2, fun t ht n2 => fr ht n2 ?_, i4⟩
      repeat rw [if_neg (by omega)]


theorem div_l2 {sp : VC.Spec} {K : Nat} (s0 : St) (u a b c : Int) (ha0 : 2147483648 ≤ a) (ha1 : a < 4294967296) (hb0 : 0 ≤ b) (hb1 : b < 4294967296) (hc0 : 0 ≤ c) (hc1 : c < 4294967296) (hu0 : 0 ≤ u) (hu : u < a * 4294967296 + b)
    (h9 : s0.tm 9 = .o (iv .u64 a)) (h10 : s0.tm 10 = .o (iv .u64 b)) (hc : s0.tm 14 = .o (iv .u64 c)) (hq : s0.tm 18 = .o (iv .u64 (u / a))) (hr : s0.tm 16 = .o (iv .u64 (u % a))) :
    EndsIn (iter (absCode sp K bits_Div64.l2) 3 s0) (fun ax s' => ax = .e 2 ∧ s'.tm 18 = .o (iv .u64 ((u * 4294967296 + c) / (a * 4294967296 + b))) ∧ (∀ t, t < 18 → t ≠ 16 → s'.tm t = s0.tm t) ∧ s'.mem = s0.mem) := by
  have hua : u = u / a * a + u % a := by have := Int.mul_ediv_add_emod u a; rw [Int.mul_comm] at this; omega
  have hr0 : 0 ≤ u % a := Int.emod_nonneg _ (by omega)
  have hr1 : u % a < a := Int.emod_lt_of_pos _ (by omega)
  have hq0 : 0 ≤ u / a := Int.ediv_nonneg hu0 (by omega)
  have hq1 : u / a ≤ 4294967297 := by
    have h1 : u / a < 4294967298 := Int.ediv_lt_of_lt_mul (by omega) (by omega)
    omega
  have hQq : (u * 4294967296 + c) / (a * 4294967296 + b) ≤ u / a := qhat_ge u a b c ha0 ha1 hb0 hb1 hc0 hc1 hu0
  generalize hQ : (u * 4294967296 + c) / (a * 4294967296 + b) = Q at *
  refine ends_while (fun m s => ∃ q r, s.tm 18 = .o (iv .u64 q) ∧ s.tm 16 = .o (iv .u64 r) ∧ (∀ t, t < 18 → t ≠ 16 → s.tm t = s0.tm t) ∧ s.mem = s0.mem ∧ u = q * a + r ∧ Q ≤ q ∧ 0 ≤ q ∧ q ≤ 4294967295 + m ∧ m ≤ 2 ∧ (2 - (m : Int)) * a ≤ r ∧ r < 4294967296)
    (fun m s hI => ?_) 3 2 s0 (by decide) ⟨u / a, u % a, hq, hr, fun _ _ _ => rfl, rfl, hua, hQq, hq0, by omega, by omega, by omega, by omega⟩
  obtain ⟨q, r, i1, i2, i3, i4, i5, i6, i6', i7, i8, i9, i10⟩ := hI
  have g9 : s.tm 9 = .o (iv .u64 a) := by rw [i3 9 (by decide) (by decide)]; exact h9
  have g10 : s.tm 10 = .o (iv .u64 b) := by rw [i3 10 (by decide) (by decide)]; exact h10
  have gc : s.tm 14 = .o (iv .u64 c) := by rw [i3 14 (by decide) (by decide)]; exact hc
  have hr0 : 0 ≤ r := by
    have : m = 0 ∨ m = 1 ∨ m = 2 := by omega
    rcases this with rfl | rfl | rfl <;> simp at i9 <;> omega
  have hm0 : m ≠ 0 := by intro h; subst h; simp at i9; omega
  have hqb0 : 0 ≤ q * b := Int.mul_nonneg i6' hb0
  have hqb1 : q * b ≤ 4294967297 * 4294967295 := Int.mul_le_mul (by omega) (by omega) hb0 (by decide)
  have w1 : q * b % 18446744073709551616 = q * b := by omega
  have w2 : 4294967296 * r % 18446744073709551616 = 4294967296 * r := by omega
  have w3 : (4294967296 * r + c) % 18446744073709551616 = 4294967296 * r + c := by omega
  have w4 : (r + a) % 18446744073709551616 = r + a := by omega
  have hstop : q < 4294967296 → ¬ 4294967296 * r + c < q * b → q = Q := fun h1 h2 => by
    have h3 : q * (a * 4294967296 + b) ≤ u * 4294967296 + c := by
      rw [Int.mul_add, ← Int.mul_assoc, i5]; omega
    have h4 : q ≤ Q := by rw [← hQ]; exact Int.le_ediv_of_mul_le (by omega) h3
    omega
  have hgo : 4294967296 ≤ q ∨ 4294967296 * r + c < q * b → Q ≤ q - 1 := fun h => by
    have : Q < q := by
      rcases h with h | h
      · have : Q < 4294967296 := by rw [← hQ]; exact Int.ediv_lt_of_lt_mul (by omega) (by omega)
        omega
      · rw [← hQ]
        refine Int.ediv_lt_of_lt_mul (by omega) ?_
        rw [Int.mul_add, ← Int.mul_assoc, i5]; omega
    omega
  have hq1' : (4294967296 ≤ q ∨ 4294967296 * r + c < q * b) → 1 ≤ q := fun h => by
    rcases h with h | h
    · omega
    · rcases (show q < 1 ∨ 1 ≤ q by omega) with h1 | h1
      · have : q = 0 := by omega
        subst this; simp at h; omega
      · exact h1
  have hbreak : Q ≤ q - 1 → 4294967296 ≤ r + a → q - 1 = Q := fun h1 h2 => by
    have hb2 : (q - 1) * b ≤ 4294967296 * 4294967295 := Int.mul_le_mul (by omega) (by omega) hb0 (by decide)
    have e1 : (q - 1) * a = q * a - a := by rw [Int.sub_mul, Int.one_mul]
    have h3 : (q - 1) * (a * 4294967296 + b) ≤ u * 4294967296 + c := by
      rw [Int.mul_add, ← Int.mul_assoc, e1, i5]; omega
    have h4 : q - 1 ≤ Q := by rw [← hQ]; exact Int.le_ediv_of_mul_le (by omega) h3
    omega
  have hnext : Q ≤ q - 1 → ¬ 4294967296 ≤ r + a → ∃ m', m' < m ∧ (u = (q - 1) * a + (r + a) ∧ Q ≤ q - 1 ∧ 0 ≤ q - 1 ∧ q - 1 ≤ 4294967295 + m' ∧ m' ≤ 2 ∧ (2 - (m' : Int)) * a ≤ r + a ∧ r + a < 4294967296) := fun h1 h2 => by
    have hQ0 : 0 ≤ Q := by rw [← hQ]; exact Int.ediv_nonneg (by omega) (by omega)
    refine ⟨m - 1, by omega, ?_, h1, by omega, by omega, by omega, ?_, by omega⟩
    · rw [Int.sub_mul, Int.one_mul]; omega
    · have e : (2 - ((m - 1 : Nat) : Int)) * a = (2 - (m : Int)) * a + a := by
        have : ((m - 1 : Nat) : Int) = (m : Int) - 1 := by omega
        rw [this]; grind
      omega
  have fr : ∀ {X : AV} {t : Nat}, t < 18 → t ≠ 16 → X = s.tm t → X = s0.tm t := fun h1 h2 h3 => h3.trans (i3 _ h1 h2)
  by_cases c1 : 4294967296 ≤ q
  · have w5 : (q - 1) % 18446744073709551616 = q - 1 := by omega
    by_cases c3 : 4294967296 ≤ r + a
    · simp [bits_Div64.l2, i1, i2, g9, g10, gc, c1, wrap_u64_eq, w1, w2, w3, w4, w5, c3]
      refine ⟨hbreak (hgo (.inl c1)) c3, fun t ht n2 => fr ht n2 ?_, i4⟩
      repeat rw [if_neg (by omega)]
    · simp [bits_Div64.l2, i1, i2, g9, g10, gc, c1, wrap_u64_eq, w1, w2, w3, w4, w5, c3]
      obtain ⟨m', q1, q2, q3, q4, q5, q6, q7, q8⟩ := hnext (hgo (.inl c1)) c3
      refine ⟨m', q1, fun t ht n2 => fr ht n2 ?_, i4, q2, by omega, by omega, by omega, q6, q7, by omega⟩
      repeat rw [if_neg (by omega)]
  · by_cases c2 : 4294967296 * r + c < q * b
    · have w5 : (q - 1) % 18446744073709551616 = q - 1 := by have := hq1' (.inr c2); omega
      by_cases c3 : 4294967296 ≤ r + a
      · simp [bits_Div64.l2, i1, i2, g9, g10, gc, c1, c2, wrap_u64_eq, w1, w2, w3, w4, w5, c3]
        refine ⟨hbreak (hgo (.inr c2)) c3, fun t ht n2 => fr ht n2 ?_, i4⟩
        repeat rw [if_neg (by omega)]
      · simp [bits_Div64.l2, i1, i2, g9, g10, gc, c1, c2, wrap_u64_eq, w1, w2, w3, w4, w5, c3]
        obtain ⟨m', q1, q2, q3, q4, q5, q6, q7, q8⟩ := hnext (hgo (.inr c2)) c3
        refine ⟨m', q1, fun t ht n2 => fr ht n2 ?_, i4, q2, by omega, by omega, by omega, q6, q7, by omega⟩
        repeat rw [if_neg (by omega)]
    · simp [bits_Div64.l2, i1, i2, g9, g10, gc, c1, c2, wrap_u64_eq, w1, w2, w3]
      refine ⟨hstop (by omega) c2, fun t ht n2 => fr ht n2 ?_, i4⟩
      repeat rw [if_neg (by omega)]

end Go.Proofs.Ytanolecbepjkcaa.E
/- The quotient of two words by one. -/
namespace Go.Proofs.Ytanolecbepjkcaa.E
open Go.VC Go.RowKit

def sDiv64 : List AP → Option AV
  | [.c (.v (.int .u64 hi)), .c (.v (.int .u64 lo)), .c (.v (.int .u64 y))] => if 0 ≤ hi ∧ hi < y ∧ y < 18446744073709551616 ∧ 0 ≤ lo ∧ lo < 18446744073709551616 then
      some (.t [iv .u64 ((hi * 18446744073709551616 + lo) / y), iv .u64 ((hi * 18446744073709551616 + lo) % y)]) else none
  | _ => none

theorem bl_bounds : ∀ (f x : Nat), x < 2 ^ f → x ≠ 0 → ∃ e, Lib.bitLenAux f x = e + 1 ∧ e + 1 ≤ f ∧ 2 ^ e ≤ x ∧ x < 2 ^ (e + 1)
  | 0, x, h, h0 => by simp at h; omega
  | f + 1, x, h, h0 => by
    rw [Lib.bitLenAux, if_neg h0]
    by_cases h2 : x / 2 = 0
    · refine ⟨0, ?_, by omega, by simp; omega, by simp; omega⟩
      rw [h2]
      cases f <;> simp [Lib.bitLenAux]
    · obtain ⟨e, a, b, c, d⟩ := bl_bounds f (x / 2) (by rw [Nat.pow_succ] at h; omega) h2
      exact ⟨e + 1, by omega, by omega, by rw [Nat.pow_succ]; omega, by rw [Nat.pow_succ]; omega⟩
theorem bitLen_spec (y : Int) (h0 : 0 < y) (h1 : y < 18446744073709551616) : ∃ s : Nat, s ≤ 63 ∧ (64 - (Lib.bitLen y.toNat : Int)) = (s : Int) ∧ 9223372036854775808 ≤ y * 2 ^ s ∧ y * 2 ^ s < 18446744073709551616 := by
  obtain ⟨y, rfl⟩ := Int.eq_ofNat_of_zero_le (show 0 ≤ y by omega)
  obtain ⟨e, h2, h3, h4, h5⟩ := bl_bounds 64 y (by omega) (by omega)
  have hb : Lib.bitLen y = e + 1 := h2
  refine ⟨63 - e, by omega, ?_, ?_, ?_⟩
  · simp only [Int.toNat_natCast]; rw [hb]; omega
  · have h : 2 ^ e * 2 ^ (63 - e) ≤ y * 2 ^ (63 - e) := Nat.mul_le_mul_right _ h4
    rw [← Nat.pow_add, show e + (63 - e) = 63 by omega] at h
    have e1 : (2 : Nat) ^ 63 = 9223372036854775808 := by decide
    rw [e1] at h
    have e2 : ((y * 2 ^ (63 - e) : Nat) : Int) = (y : Int) * 2 ^ (63 - e) := by push_cast; rfl
    rw [← e2]
    exact Int.ofNat_le.2 h
  · have h : y * 2 ^ (63 - e) < 2 ^ (e + 1) * 2 ^ (63 - e) := Nat.mul_lt_mul_of_pos_right h5 (Nat.two_pow_pos _)
    rw [← Nat.pow_add, show e + 1 + (63 - e) = 64 by omega] at h
    have e1 : (2 : Nat) ^ 64 = 18446744073709551616 := by decide
    rw [e1] at h
    have e2 : ((y * 2 ^ (63 - e) : Nat) : Int) = (y : Int) * 2 ^ (63 - e) := by push_cast; rfl
    rw [← e2]
    exact Int.ofNat_lt.2 h

theorem pow_split (s : Nat) (hs : s ≤ 63) : (2 ^ s : Int) * 2 ^ (64 - s) = 18446744073709551616 := by
  rw [← Int.pow_add]
  rw [show s + (64 - s) = 64 by omega]
  rfl

theorem okDiv64 : Ok Try.prog 124 sDiv64 := ok_of' Try.func124 bits_Div64.ent bits_Div64.chk (specOk_cons okLz64 specOk_nil) fun av r h => by
  unfold sDiv64 at h
  split at h
  · rename_i hi lo y
    split at h
    · rename_i hh
      cases h
      obtain ⟨h0, h1, h2, h3, h4⟩ := hh
      refine ⟨by simp [bits_Div64.c], 3, ?_⟩
      have y0 : ¬ y = 0 := by omega
      have y1 : ¬ y ≤ hi := by omega
      have y2 : 0 ≤ y := by omega
      by_cases hz : hi = 0
      · subst hz
        have t1 : lo.tdiv y = lo / y := Int.tdiv_eq_ediv_of_nonneg h3
        have t2 : lo.tmod y = lo % y := Int.tmod_eq_emod_of_nonneg h3
        have t3 : lo / y % 18446744073709551616 = lo / y := by
          have a1 : 0 ≤ lo / y := Int.ediv_nonneg h3 y2
          have a2 : lo / y ≤ lo := Int.ediv_le_self _ h3
          omega
        simp [bits_Div64.c, y0, y1, t1, t2, wrap_u64_eq, t3]
      · obtain ⟨s, hs, hs1, hn1, hn2⟩ := bitLen_spec y (by omega) h2
        have s1 : (s : Int) % 18446744073709551616 = s := by omega
        have s2 : ¬ ((s : Int) < 0) := by omega
        have s3 : min s 64 = s := by omega
        have s4 : (64 - (s : Int)) % 18446744073709551616 = 64 - s := by omega
        have s5 : ¬ (64 - (s : Int) < 0) := by omega
        have s6 : (64 - (s : Int)).toNat = 64 - s := by omega
        have s7 : min (64 - s) 64 = 64 - s := by omega
        have hS := pow_split s hs
        generalize hSd : (2 ^ s : Int) = S at *
        generalize hTd : (2 ^ (64 - s) : Int) = T at *
        have hS0 : 0 < S := by rw [← hSd]; exact Int.pow_pos (by decide)
        have hT0 : 0 < T := by rw [← hTd]; exact Int.pow_pos (by decide)
        have yS : y * S % 18446744073709551616 = y * S := by omega
        have hiS0 : 0 ≤ hi * S := Int.mul_nonneg h0 (by omega)
        have hiS1 : hi * S < y * S := Int.mul_lt_mul_of_pos_right h1 hS0
        have hiS : hi * S % 18446744073709551616 = hi * S := by omega
        have loT0 : 0 ≤ lo / T := Int.ediv_nonneg h3 (by omega)
        have loT1 : lo / T < S := Int.ediv_lt_of_lt_mul hT0 (by omega)
        have hSW : S ≤ 18446744073709551616 := by
          have := Int.mul_le_mul_of_nonneg_left (show 1 ≤ T by omega) (show 0 ≤ S by omega); omega
        have hor : bitsV .or .u64 (hi * S) (lo / T) = hi * S + lo / T :=
          or_u64_add s (by omega) hiS0 (by omega) (by rw [hSd]; exact Int.mul_emod_left _ _) loT0 (by rw [hSd]; exact loT1) (by omega)
        have hand1 : bitsV .and .u64 (y * S) 4294967295 = y * S % 4294967296 := and_u64_mask 32 (by omega) (by omega) (by decide) (by decide)
        have hand2 : bitsV .and .u64 (lo * S % 18446744073709551616) 4294967295 = lo * S % 18446744073709551616 % 4294967296 := and_u64_mask 32 (by omega) (by omega) (by decide) (by decide)
        have hfd : lo.fdiv T = lo / T := fdiv_pos (by omega)
        have hor : bitsV .or .u64 (hi * S) (lo.fdiv T) = hi * S + lo / T := by rw [hfd]; exact hor
        have hu0 : 0 ≤ hi * S + lo / T := by omega
        have hu1 : hi * S + lo / T < y * S := by
          have : hi * S + S ≤ y * S := by
            have := Int.mul_le_mul_of_nonneg_right (show hi + 1 ≤ y by omega) (show 0 ≤ S by omega)
            rw [Int.add_mul, Int.one_mul] at this; exact this
          omega
        generalize hud : hi * S + lo / T = u at *
        generalize hYd : y * S = Y at *
        have ha0 : ¬ Y / 4294967296 = 0 := by omega
        have ha1 : 0 ≤ Y / 4294967296 := by omega
        have hq : u.tdiv (Y / 4294967296) = u / (Y / 4294967296) := Int.tdiv_eq_ediv_of_nonneg hu0
        have hqq0 : 0 ≤ u / (Y / 4294967296) := Int.ediv_nonneg hu0 ha1
        have hqq1 : u / (Y / 4294967296) ≤ u := Int.ediv_le_self _ hu0
        have hqw : u / (Y / 4294967296) % 18446744073709551616 = u / (Y / 4294967296) := by omega
        have hqm : u / (Y / 4294967296) * (Y / 4294967296) + u % (Y / 4294967296) = u := by have := Int.mul_ediv_add_emod u (Y / 4294967296); rw [Int.mul_comm] at this; omega
        have hrm0 : 0 ≤ u % (Y / 4294967296) := Int.emod_nonneg _ (by omega)
        have hrm1 : u % (Y / 4294967296) < Y / 4294967296 := Int.emod_lt_of_pos _ (by omega)
        have hqm0 : 0 ≤ u / (Y / 4294967296) * (Y / 4294967296) := Int.mul_nonneg hqq0 ha1
        have hw1 : u / (Y / 4294967296) * (Y / 4294967296) % 18446744073709551616 = u / (Y / 4294967296) * (Y / 4294967296) := by omega
        have hw2 : (u - u / (Y / 4294967296) * (Y / 4294967296)) % 18446744073709551616 = u % (Y / 4294967296) := by omega
        simp [bits_Div64.c, y0, y1, hz, sLz64, y2, h2, hs1, wrap_u64_eq, fdiv_pos, s1, s2, s3, s4, s5, s6, s7, hSd, hTd, hYd, yS, hiS, hor, hand1, hand2, ha0, hq, hqw, hw1, hw2]
        have hYn : Y / 4294967296 * 4294967296 + Y % 4294967296 = Y := by omega
        generalize hzd : lo * S % 18446744073709551616 = z at *
        have hz0 : 0 ≤ z := by omega
        have hz1 : z < 18446744073709551616 := by omega
        refine EndsIn.mono (div_l1 _ u (Y / 4294967296) (Y % 4294967296) (z / 4294967296) (by omega) (by omega) (by omega) (by omega) (by omega) (by omega) hu0 (by omega) (by simp) (by simp) (by simp) (by simp) (by simp)) ?_
        rintro ax s' ⟨rfl, q1, fr, hm⟩
        rw [hYn] at q1
        have f2 : s'.tm 2 = .o (iv .u64 Y) := by rw [fr 2 (by decide) (by decide)]; simp
        have f8 : s'.tm 8 = .o (iv .u64 s) := by rw [fr 8 (by decide) (by decide)]; simp
        have f9 : s'.tm 9 = .o (iv .u64 (Y / 4294967296)) := by rw [fr 9 (by decide) (by decide)]; simp
        have f10 : s'.tm 10 = .o (iv .u64 (Y % 4294967296)) := by rw [fr 10 (by decide) (by decide)]; simp
        have f11 : s'.tm 11 = .o (iv .u64 u) := by rw [fr 11 (by decide) (by decide)]; simp
        have f13 : s'.tm 13 = .o (iv .u64 (z / 4294967296)) := by rw [fr 13 (by decide) (by decide)]; simp
        have f14 : s'.tm 14 = .o (iv .u64 (z % 4294967296)) := by rw [fr 14 (by decide) (by decide)]; simp; omega
        clear fr hm
        have hV0 : 0 ≤ u * 4294967296 + z / 4294967296 := by omega
        have hVm := Int.mul_ediv_add_emod (u * 4294967296 + z / 4294967296) Y
        have hV2 : 0 ≤ (u * 4294967296 + z / 4294967296) % Y := Int.emod_nonneg _ (by omega)
        have hV3 : (u * 4294967296 + z / 4294967296) % Y < Y := Int.emod_lt_of_pos _ (by omega)
        have hQ0 : 0 ≤ (u * 4294967296 + z / 4294967296) / Y := Int.ediv_nonneg hV0 (by omega)
        have hQ1 : (u * 4294967296 + z / 4294967296) / Y < 4294967296 := Int.ediv_lt_of_lt_mul (by omega) (by omega)
        generalize hQd : (u * 4294967296 + z / 4294967296) / Y = q at *
        generalize hvd : (u * 4294967296 + z / 4294967296) % Y = v at *
        rw [Int.mul_comm Y q] at hVm
        have hun : ((u * 4294967296 + z / 4294967296) % 18446744073709551616 - q * Y % 18446744073709551616) % 18446744073709551616 = v := by omega
        have hun' : (u * 4294967296 + z / 4294967296 - q * Y) % 18446744073709551616 = v := by omega
        have hv0 : 0 ≤ v / (Y / 4294967296) := Int.ediv_nonneg hV2 ha1
        have hv1 : v / (Y / 4294967296) ≤ v := Int.ediv_le_self _ hV2
        have hvq : v.tdiv (Y / 4294967296) = v / (Y / 4294967296) := Int.tdiv_eq_ediv_of_nonneg hV2
        have hvw : v / (Y / 4294967296) % 18446744073709551616 = v / (Y / 4294967296) := by omega
        have hvm : v / (Y / 4294967296) * (Y / 4294967296) + v % (Y / 4294967296) = v := by have := Int.mul_ediv_add_emod v (Y / 4294967296); rw [Int.mul_comm] at this; omega
        have hvr0 : 0 ≤ v % (Y / 4294967296) := Int.emod_nonneg _ (by omega)
        have hvr1 : v % (Y / 4294967296) < Y / 4294967296 := Int.emod_lt_of_pos _ (by omega)
        have hvn0 : 0 ≤ v / (Y / 4294967296) * (Y / 4294967296) := Int.mul_nonneg hv0 ha1
        have hvw1 : v / (Y / 4294967296) * (Y / 4294967296) % 18446744073709551616 = v / (Y / 4294967296) * (Y / 4294967296) := by omega
        have hvw2 : (v - v / (Y / 4294967296) * (Y / 4294967296)) % 18446744073709551616 = v % (Y / 4294967296) := by omega
        simp [q1, f2, f8, f9, f10, f11, f13, f14, wrap_u64_eq, hun, hun', ha0, hvq, hvw, hvw1, hvw2]
        refine EndsIn.mono (div_l2 _ v (Y / 4294967296) (Y % 4294967296) (z % 4294967296) (by omega) (by omega) (by omega) (by omega) (by omega) (by omega) hV2 (by omega) (by simp [f9]) (by simp [f10]) (by simp [f14]) (by simp) (by simp)) ?_
        rintro ax st ⟨rfl, q2, fr, hm⟩
        rw [hYn] at q2
        have e2 : st.tm 2 = .o (iv .u64 Y) := by rw [fr 2 (by decide) (by decide)]; simp [f2]
        have e8 : st.tm 8 = .o (iv .u64 s) := by rw [fr 8 (by decide) (by decide)]; simp [f8]
        have e14 : st.tm 14 = .o (iv .u64 (z % 4294967296)) := by rw [fr 14 (by decide) (by decide)]; simp [f14]
        have e15 : st.tm 15 = .o (iv .u64 q) := by rw [fr 15 (by decide) (by decide)]; simp [q1]
        have e17 : st.tm 17 = .o (iv .u64 v) := by rw [fr 17 (by decide) (by decide)]; simp
        clear fr hm
        have hWm := Int.mul_ediv_add_emod (v * 4294967296 + z % 4294967296) Y
        have hW2 : 0 ≤ (v * 4294967296 + z % 4294967296) % Y := Int.emod_nonneg _ (by omega)
        have hW3 : (v * 4294967296 + z % 4294967296) % Y < Y := Int.emod_lt_of_pos _ (by omega)
        have hP0 : 0 ≤ (v * 4294967296 + z % 4294967296) / Y := Int.ediv_nonneg (by omega) (by omega)
        have hP1 : (v * 4294967296 + z % 4294967296) / Y < 4294967296 := Int.ediv_lt_of_lt_mul (by omega) (by omega)
        generalize hPd : (v * 4294967296 + z % 4294967296) / Y = p at *
        generalize htd : (v * 4294967296 + z % 4294967296) % Y = t at *
        rw [Int.mul_comm Y p] at hWm
        have hrem : ((v * 4294967296 + z % 4294967296) % 18446744073709551616 - p * Y % 18446744073709551616) % 18446744073709551616 = t := by omega
        have hrem' : (v * 4294967296 + z % 4294967296 - p * Y) % 18446744073709551616 = t := by omega
        have hqp : (q * 4294967296 + p) % 18446744073709551616 = q * 4294967296 + p := by omega
        have htS : t.fdiv S = t / S := fdiv_pos (by omega)
        simp [q2, e2, e8, e14, e15, e17, wrap_u64_eq, hrem, hrem', hqp, s2, s3, hSd, htS]
        have hn : (hi * 18446744073709551616 + lo) * S = (q * 4294967296 + p) * Y + t := by
          have h1 : lo * S = lo / T * 18446744073709551616 + z := by
            have h2 := Int.mul_ediv_add_emod lo T
            have h3 := Int.mul_ediv_add_emod (lo * S) 18446744073709551616
            have h4 : lo * S / 18446744073709551616 = lo / T := by
              rw [← hS, Int.mul_comm lo S]
              exact Int.mul_ediv_mul_of_pos _ _ hS0
            omega
          have h2 : (hi * 18446744073709551616 + lo) * S = hi * S * 18446744073709551616 + lo * S := by grind
          have h3 : (q * 4294967296 + p) * Y = q * Y * 4294967296 + p * Y := by grind
          rw [h2, h3, h1]
          omega
        have ht0 : 0 ≤ t / S := Int.ediv_nonneg hW2 (by omega)
        have hmm : (hi * 18446744073709551616 + lo) * S % Y = t ∧ (hi * 18446744073709551616 + lo) * S / Y = q * 4294967296 + p := by
          rw [hn]
          constructor
          · rw [Int.add_comm, Int.add_mul_emod_self_right]; exact Int.emod_eq_of_lt hW2 hW3
          · rw [Int.add_comm, Int.add_mul_ediv_right _ _ (by omega), Int.ediv_eq_zero_of_lt hW2 hW3, Int.zero_add]
        rw [← hYd, Int.mul_comm _ S, Int.mul_comm y S] at hmm
        rw [Int.mul_emod_mul_of_pos _ _ hS0, Int.mul_ediv_mul_of_pos _ _ hS0] at hmm
        obtain ⟨m1, m2⟩ := hmm
        have m3 : t / S = (hi * 18446744073709551616 + lo) % y := by rw [← m1]; exact Int.mul_ediv_cancel_left _ (by omega)
        rw [m2, ← m3]
        exact ⟨rfl, rfl⟩
    · cases h
  · cases h
end Go.Proofs.Ytanolecbepjkcaa.E
/- Division of Limbs. -/
namespace Go.Proofs.Ytanolecbepjkcaa.E
open Go.VC Go.RowKit

def sShort : List AP → Option AV
  | [a, b, .c (.v (.int .u64 d))] => match dL a, dL b with
    | some h, some l => if h < d ∧ d < 18446744073709551616 then some (.t [lb ((h * 340282366920938463463374607431768211456 + l) / d), lb ((h * 340282366920938463463374607431768211456 + l) % d)]) else none
    | _, _ => none
  | _ => none
theorem okShort : Ok Try.prog 120 sShort := ok_of' Try.func120 limb_short.ent limb_short.chk (specOk_cons okDiv64 specOk_nil) fun av r h => by
  unfold sShort at h
  split at h
  · split at h
    · rename_i a b d x1 x2 h0 l hx hy
      split at h
      · rename_i hd
        cases h
        obtain ⟨rfl, hx0, hx1⟩ := dL_some hx
        obtain ⟨rfl, hy0, hy1⟩ := dL_some hy
        obtain ⟨hd0, hd1⟩ := hd
        refine ⟨by simp [limb_short.c], 0, ?_⟩
        have e1 : h0 % 18446744073709551616 = h0 := by omega
        have l0 : 0 ≤ l / 18446744073709551616 := by omega
        have l1 : l / 18446744073709551616 < 18446744073709551616 := by omega
        have m0 : 0 ≤ (h0 * 18446744073709551616 + l / 18446744073709551616) % d := Int.emod_nonneg _ (by omega)
        have m1 : (h0 * 18446744073709551616 + l / 18446744073709551616) % d < d := Int.emod_lt_of_pos _ (by omega)
        have m2 := Int.mul_ediv_add_emod (h0 * 18446744073709551616 + l / 18446744073709551616) d
        have q0 : 0 ≤ (h0 * 18446744073709551616 + l / 18446744073709551616) / d := Int.ediv_nonneg (by omega) (by omega)
        have q1 : (h0 * 18446744073709551616 + l / 18446744073709551616) / d < 18446744073709551616 := Int.ediv_lt_of_lt_mul (by omega) (by omega)
        simp [limb_short.c, lb, sDiv64, e1, em0, em1, hx0, hd0, hd1, l0, l1, m0, m1]
        generalize hqd : (h0 * 18446744073709551616 + l / 18446744073709551616) / d = q at *
        generalize hrd : (h0 * 18446744073709551616 + l / 18446744073709551616) % d = r at *
        have n2 := Int.mul_ediv_add_emod (r * 18446744073709551616 + l % 18446744073709551616) d
        have n0 : 0 ≤ (r * 18446744073709551616 + l % 18446744073709551616) % d := Int.emod_nonneg _ (by omega)
        have n1 : (r * 18446744073709551616 + l % 18446744073709551616) % d < d := Int.emod_lt_of_pos _ (by omega)
        have p0 : 0 ≤ (r * 18446744073709551616 + l % 18446744073709551616) / d := Int.ediv_nonneg (by omega) (by omega)
        have p1 : (r * 18446744073709551616 + l % 18446744073709551616) / d < 18446744073709551616 := Int.ediv_lt_of_lt_mul (by omega) (by omega)
        generalize hpd : (r * 18446744073709551616 + l % 18446744073709551616) / d = p at *
        generalize htd : (r * 18446744073709551616 + l % 18446744073709551616) % d = t at *
        have hN : h0 * 340282366920938463463374607431768211456 + l = (q * 18446744073709551616 + p) * d + t := by
          have : (q * 18446744073709551616 + p) * d = d * q * 18446744073709551616 + d * p := by grind
          rw [this]; omega
        have hN1 : (h0 * 340282366920938463463374607431768211456 + l) / d = q * 18446744073709551616 + p := by
          rw [hN, Int.add_comm, Int.add_mul_ediv_right _ _ (by omega), Int.ediv_eq_zero_of_lt n0 n1, Int.zero_add]
        have hN2 : (h0 * 340282366920938463463374607431768211456 + l) % d = t := by
          rw [hN, Int.add_comm, Int.add_mul_emod_self_right]; exact Int.emod_eq_of_lt n0 n1
        rw [hN1, hN2]
        omega
      · cases h
    · cases h
  · cases h

def sLimbDiv : List AP → Option AV
  | [a, b, c] => match dL a, dL b, dL c with
    | some h, some l, some d => if h < d then some (.t [lb ((h * 340282366920938463463374607431768211456 + l) / d), lb ((h * 340282366920938463463374607431768211456 + l) % d), bv true]) else some (.t [lb 0, lb 0, bv false])
    | _, _, _ => none
  | _ => none
abbrev spLimbDiv : List (Nat × (List AP → Option AV)) := [(119, sLimbCmp), (121, sDouble), (114, sLimbSub), (120, sShort)]
theorem okSpLimbDiv : SpecOk Try.prog (spOf spLimbDiv) := specOk_cons okLimbCmp (specOk_cons okDouble (specOk_cons okLimbSub (specOk_cons okShort specOk_nil)))
theorem cmpI_ge {x y : Int} : (0 ≤ cmpI x y) ↔ y ≤ x := by unfold cmpI; split <;> (try split) <;> omega

abbrev lc (x : Int) : List AC := [.v (.int .u64 (x / 18446744073709551616)), .v (.int .u64 (x % 18446744073709551616))]
/-- Ahead of round i. -/
def DivI (N d : Int) (i : Nat) (s : St) : Prop :=
  s.tm 4 = .o (.c (.p 4 0)) ∧ s.tm 5 = .o (.c (.p 5 0)) ∧ s.tm 6 = .o (.c (.p 6 0)) ∧ s.tm 7 = .o (.c (.p 7 0)) ∧ s.tm 30 = .o (iv .i64 i) ∧
  ∃ q r lo p : Int, s.mem 4 = some (lc lo) ∧ s.mem 5 = some (lc d) ∧ s.mem 6 = some (lc q) ∧ s.mem 7 = some (lc r) ∧
    N * p = (q * d + r) * 340282366920938463463374607431768211456 + lo ∧ 0 ≤ r ∧ r < d ∧ 0 ≤ q ∧ q < p ∧ 0 ≤ lo ∧ lo < 340282366920938463463374607431768211456 ∧ p = (2 : Int) ^ i

theorem pow_le (i : Nat) (h : i ≤ 127) : (2 : Int) ^ i ≤ 170141183460469231731687303715884105728 := by
  have h1 : (2 : Nat) ^ i ≤ 2 ^ 127 := Nat.pow_le_pow_right (by decide) h
  have e1 : (2 : Nat) ^ 127 = 170141183460469231731687303715884105728 := by decide
  rw [e1] at h1
  have e2 : ((2 ^ i : Nat) : Int) = (2 : Int) ^ i := by push_cast; rfl
  rw [← e2]
  exact Int.ofNat_le.2 h1

theorem div_step (K : Nat) (N d : Int) (hd0 : 0 ≤ d) (hd1 : d < 340282366920938463463374607431768211456) (i : Nat) (s : St) (hi : i < 128) (hI : DivI N d i s) :
    EndsIn (absCode (spOf spLimbDiv) K limb_Div.l1 s) (fun ax s' => match ax with | .n => DivI N d (i + 1) s' | ax => False) := by
  obtain ⟨t4, t5, t6, t7, t30, q, r, lo, p, m4, m5, m6, m7, e, r0, r1, q0, q1, l0, l1, hp⟩ := hI
  have dd := dL_lb hd0 hd1
  have dr := dL_lb r0 (show r < 340282366920938463463374607431768211456 by omega)
  have dlo := dL_lb l0 l1
  have hple := pow_le i (by omega)
  rw [← hp] at hple
  have dq := dL_lb q0 (show q < 340282366920938463463374607431768211456 by omega)
  have hi1 : (i : Int) < 128 := by omega
  have wi : IntKind.i64.wrap ((i : Int) + 1) = (i : Int) + 1 := wrap_i64_in (by omega) (by omega)
  have fl : (lo / 18446744073709551616).fdiv 9223372036854775808 = lo / 18446744073709551616 / 9223372036854775808 := fdiv_pos (by decide)
  have hqov : ¬ 340282366920938463463374607431768211456 ≤ 2 * q := by omega
  have dq2 := dL_lb (show 0 ≤ 2 * q by omega) (show 2 * q < 340282366920938463463374607431768211456 by omega)
  have hor : bitsV .or .u64 (2 * q % 18446744073709551616) 1 = 2 * q % 18446744073709551616 + 1 := or_u64_add 1 (by decide) (by omega) (by omega) (by omega) (by omega) (by decide) (by omega)
  by_cases cb : 340282366920938463463374607431768211456 ≤ 2 * lo
  · have fb : lo / 18446744073709551616 / 9223372036854775808 = 1 := by omega
    have dlo2 := dL_lb (show 0 ≤ 2 * lo - 340282366920938463463374607431768211456 by omega) (show 2 * lo - 340282366920938463463374607431768211456 < 340282366920938463463374607431768211456 by omega)
    by_cases c1 : 340282366920938463463374607431768211456 ≤ 2 * r
    · have c2 : 2 * r + 1 - 340282366920938463463374607431768211456 < d := by omega
      have d2 := dL_lb (show 0 ≤ 2 * r + 1 - 340282366920938463463374607431768211456 by omega) (show 2 * r + 1 - 340282366920938463463374607431768211456 < 340282366920938463463374607431768211456 by omega)
      simp [limb_Div.l1, t4, t5, t6, t7, t30, m4, m5, m6, m7, hi1, wi, lb, sDouble, sLimbCmp, sLimbSub, dd, dr, dlo, dq, dlo2, dq2, d2, fl, fb, cb, c1, c2, hqov, hor]
      refine ⟨by simp [t4], by simp [t5], by simp [t6], by simp [t7], by simp, 2 * q + 1, 2 * r + 1 - d, 2 * lo - 340282366920938463463374607431768211456, 2 * p, by simp, by simp [m5], ?_, ?_, ?_, by omega, by omega, by omega, by omega, by omega, by omega, ?_⟩
      · simp; omega
      · simp; omega
      · have : (2 * q + 1) * d = 2 * (q * d) + d := by grind
        have h2 : N * (2 * p) = 2 * (N * p) := by grind
        rw [this, h2, e]; omega
      · rw [hp, Int.pow_succ]; omega
    · by_cases c3 : d ≤ 2 * r + 1
      · have c2 : 0 ≤ cmpI (2 * r + 1) d := by rw [cmpI_ge]; omega
        have c4 : ¬ 2 * r + 1 < d := by omega
        have d2 := dL_lb (show 0 ≤ 2 * r + 1 by omega) (show 2 * r + 1 < 340282366920938463463374607431768211456 by omega)
        simp [limb_Div.l1, t4, t5, t6, t7, t30, m4, m5, m6, m7, hi1, wi, lb, sDouble, sLimbCmp, sLimbSub, dd, dr, dlo, dq, dlo2, dq2, d2, fl, fb, cb, c1, c2, c4, hqov, hor]
        refine ⟨by simp [t4], by simp [t5], by simp [t6], by simp [t7], by simp, 2 * q + 1, 2 * r + 1 - d, 2 * lo - 340282366920938463463374607431768211456, 2 * p, by simp, by simp [m5], ?_, ?_, ?_, by omega, by omega, by omega, by omega, by omega, by omega, ?_⟩
        · simp; omega
        · simp
        · have : (2 * q + 1) * d = 2 * (q * d) + d := by grind
          have h2 : N * (2 * p) = 2 * (N * p) := by grind
          rw [this, h2, e]; omega
        · rw [hp, Int.pow_succ]; omega
      · have c2 : ¬ 0 ≤ cmpI (2 * r + 1) d := by rw [cmpI_ge]; omega
        have d2 := dL_lb (show 0 ≤ 2 * r + 1 by omega) (show 2 * r + 1 < 340282366920938463463374607431768211456 by omega)
        simp [limb_Div.l1, t4, t5, t6, t7, t30, m4, m5, m6, m7, hi1, wi, lb, sDouble, sLimbCmp, sLimbSub, dd, dr, dlo, dq, dlo2, dq2, d2, fl, fb, cb, c1, c2, hqov, hor]
        refine ⟨by simp [t4], by simp [t5], by simp [t6], by simp [t7], by simp, 2 * q, 2 * r + 1, 2 * lo - 340282366920938463463374607431768211456, 2 * p, by simp, by simp [m5], by simp, by simp, ?_, by omega, by omega, by omega, by omega, by omega, by omega, ?_⟩
        · have : (2 * q) * d = 2 * (q * d) := by grind
          have h2 : N * (2 * p) = 2 * (N * p) := by grind
          rw [this, h2, e]; omega
        · rw [hp, Int.pow_succ]; omega
  · have fb : lo / 18446744073709551616 / 9223372036854775808 = 0 := by omega
    have dlo2 := dL_lb (show 0 ≤ 2 * lo by omega) (show 2 * lo < 340282366920938463463374607431768211456 by omega)
    by_cases c1 : 340282366920938463463374607431768211456 ≤ 2 * r
    · have c2 : 2 * r - 340282366920938463463374607431768211456 < d := by omega
      have d2 := dL_lb (show 0 ≤ 2 * r - 340282366920938463463374607431768211456 by omega) (show 2 * r - 340282366920938463463374607431768211456 < 340282366920938463463374607431768211456 by omega)
      simp [limb_Div.l1, t4, t5, t6, t7, t30, m4, m5, m6, m7, hi1, wi, lb, sDouble, sLimbCmp, sLimbSub, dd, dr, dlo, dq, dlo2, dq2, d2, fl, fb, cb, c1, c2, hqov, hor]
      refine ⟨by simp [t4], by simp [t5], by simp [t6], by simp [t7], by simp, 2 * q + 1, 2 * r - d, 2 * lo, 2 * p, by simp, by simp [m5], ?_, ?_, ?_, by omega, by omega, by omega, by omega, by omega, by omega, ?_⟩
      · simp; omega
      · simp; omega
      · have : (2 * q + 1) * d = 2 * (q * d) + d := by grind
        have h2 : N * (2 * p) = 2 * (N * p) := by grind
        rw [this, h2, e]; omega
      · rw [hp, Int.pow_succ]; omega
    · by_cases c3 : d ≤ 2 * r
      · have c2 : 0 ≤ cmpI (2 * r) d := by rw [cmpI_ge]; omega
        have c4 : ¬ 2 * r < d := by omega
        have d2 := dL_lb (show 0 ≤ 2 * r by omega) (show 2 * r < 340282366920938463463374607431768211456 by omega)
        simp [limb_Div.l1, t4, t5, t6, t7, t30, m4, m5, m6, m7, hi1, wi, lb, sDouble, sLimbCmp, sLimbSub, dd, dr, dlo, dq, dlo2, dq2, d2, fl, fb, cb, c1, c2, c4, hqov, hor]
        refine ⟨by simp [t4], by simp [t5], by simp [t6], by simp [t7], by simp, 2 * q + 1, 2 * r - d, 2 * lo, 2 * p, by simp, by simp [m5], ?_, ?_, ?_, by omega, by omega, by omega, by omega, by omega, by omega, ?_⟩
        · simp; omega
        · simp
        · have : (2 * q + 1) * d = 2 * (q * d) + d := by grind
          have h2 : N * (2 * p) = 2 * (N * p) := by grind
          rw [this, h2, e]; omega
        · rw [hp, Int.pow_succ]; omega
      · have c2 : ¬ 0 ≤ cmpI (2 * r) d := by rw [cmpI_ge]; omega
        have d2 := dL_lb (show 0 ≤ 2 * r by omega) (show 2 * r < 340282366920938463463374607431768211456 by omega)
        simp [limb_Div.l1, t4, t5, t6, t7, t30, m4, m5, m6, m7, hi1, wi, lb, sDouble, sLimbCmp, sLimbSub, dd, dr, dlo, dq, dlo2, dq2, d2, fl, fb, cb, c1, c2, hqov, hor]
        refine ⟨by simp [t4], by simp [t5], by simp [t6], by simp [t7], by simp, 2 * q, 2 * r, 2 * lo, 2 * p, by simp, by simp [m5], by simp, by simp, ?_, by omega, by omega, by omega, by omega, by omega, by omega, ?_⟩
        · have : (2 * q) * d = 2 * (q * d) := by grind
          have h2 : N * (2 * p) = 2 * (N * p) := by grind
          rw [this, h2, e]; omega
        · rw [hp, Int.pow_succ]; omega

theorem okLimbDiv : Ok Try.prog 112 sLimbDiv := ok_of' Try.func112 limb_Div.ent limb_Div.chk okSpLimbDiv fun av r h => by
  unfold sLimbDiv at h
  split at h
  · split at h
    · rename_i a b c x1 x2 x3 h0 l d hx hy hz
      obtain ⟨rfl, hx0, hx1⟩ := dL_some hx
      obtain ⟨rfl, hy0, hy1⟩ := dL_some hy
      obtain ⟨rfl, hz0, hz1⟩ := dL_some hz
      have dx := dL_lb hx0 hx1
      have dy := dL_lb hy0 hy1
      have dz := dL_lb hz0 hz1
      split at h
      · rename_i hd
        cases h
        refine ⟨by simp [limb_Div.c], 129, ?_⟩
        have hc : ¬ 0 ≤ cmpI h0 d := by rw [cmpI_ge]; omega
        by_cases hd0 : d / 18446744073709551616 = 0
        · have hdm : d % 18446744073709551616 = d := by omega
          have hdw : d < 18446744073709551616 := by omega
          have dz0 := dz
          rw [hd0, hdm] at dz0
          simp [limb_Div.c, lb, sLimbCmp, sShort, dx, dy, dz0, hc, hd0, hdm, hd, hdw]
        · simp [limb_Div.c, lb, sLimbCmp, dx, dy, dz, hc, hd0]
          refine ends_iter (DivI (h0 * 340282366920938463463374607431768211456 + l) d) 128 (fun i s hi hI => (div_step _ _ _ hz0 hz1 i s hi hI).mono (fun ax s' hh => ?_)) (fun s hI => ?_) 129 0 _ (by decide) (by decide) ⟨by simp, by simp, by simp, by simp, by simp, 0, h0, l, 1, by simp, by simp, by simp, by simp, by omega, hx0, hd, by decide, by decide, hy0, hy1, by decide⟩
          · cases ax with
            | n => exact hh
            | e _ => exact hh.elim
            | r => exact hh.elim
          · obtain ⟨t4, t5, t6, t7, t30, q, r, lo, p, m4, m5, m6, m7, e, r0, r1, q0, q1, l0, l1, hp⟩ := hI
            have hp2 : p = 340282366920938463463374607431768211456 := hp
            subst hp2
            have e2 : h0 * 340282366920938463463374607431768211456 + l = q * d + r := by omega
            have hN1 : (h0 * 340282366920938463463374607431768211456 + l) / d = q := by
              rw [e2, Int.add_comm, Int.add_mul_ediv_right _ _ (by omega), Int.ediv_eq_zero_of_lt r0 r1, Int.zero_add]
            have hN2 : (h0 * 340282366920938463463374607431768211456 + l) % d = r := by
              rw [e2, Int.add_comm, Int.add_mul_emod_self_right]; exact Int.emod_eq_of_lt r0 r1
            rw [hN1, hN2]
            simp [limb_Div.l1, t4, t5, t6, t7, t30, m4, m5, m6, m7, lb]
      · cases h
        rename_i hd
        have hc : 0 ≤ cmpI h0 d := by rw [cmpI_ge]; omega
        refine ⟨by simp [limb_Div.c], 0, ?_⟩
        simp [limb_Div.c, lb, sLimbCmp, dx, dy, dz, hc]
    · cases h
  · cases h
end Go.Proofs.Ytanolecbepjkcaa.E
/- What the smaller functions of the package wide do. -/
namespace Go.Proofs.Ytanolecbepjkcaa.E
open Go.VC Go.RowKit

def sWOf : List AP → Option AV
  | [.c (.v (.int .i64 n))] => if -9223372036854775808 ≤ n ∧ n < 9223372036854775808 then some (.o (wd n)) else none
  | _ => none
theorem okWOf : Ok Try.prog 78 sWOf := ok_of' Try.func78 wide_Of.ent wide_Of.chk specOk_nil fun av r h => by
  unfold sWOf at h
  split at h
  · split at h
    · cases h
      refine ⟨by simp [wide_Of.c], 0, ?_⟩
      simp [wide_Of.c, wd, fdiv_pos, wrap_u64_eq]
      omega
    · cases h
  · cases h

def sWInt : List AP → Option AV
  | [a] => match dW a with
    | some x => some (.t [iv .i64 (if -9223372036854775808 ≤ x ∧ x < 9223372036854775808 then x else 0), iv .i64 (if -9223372036854775808 ≤ x ∧ x < 9223372036854775808 then 0 else 2)])
    | _ => none
  | _ => none
theorem okWInt : Ok Try.prog 87 sWInt := ok_of' Try.func87 wide_Int.ent wide_Int.chk (specOk_cons okWOf specOk_nil) fun av r h => by
  unfold sWInt at h
  split at h
  · split at h
    · rename_i a x1 x hx
      cases h
      obtain ⟨rfl, hx0, hx1⟩ := dW_some hx
      refine ⟨by simp [wide_Int.c], 0, ?_⟩
      have w0 : -9223372036854775808 ≤ IntKind.i64.wrap (x % 18446744073709551616) ∧ IntKind.i64.wrap (x % 18446744073709551616) < 9223372036854775808 := by rw [IntKind.wrap_i64]; omega
      have e1 : IntKind.i64.wrap (x % 18446744073709551616) % 18446744073709551616 = x % 18446744073709551616 := by rw [IntKind.wrap_i64]; omega
      by_cases hc : -9223372036854775808 ≤ x ∧ x < 9223372036854775808
      · have e2 : IntKind.i64.wrap (x % 18446744073709551616) = x := by rw [IntKind.wrap_i64]; omega
        have e3 : x / 18446744073709551616 = x / 18446744073709551616 := rfl
        simp [wide_Int.c, wd, sWOf, w0.1, w0.2, e1, e2, hc]
      · have e2 : ¬ IntKind.i64.wrap (x % 18446744073709551616) / 18446744073709551616 = x / 18446744073709551616 := by rw [IntKind.wrap_i64]; omega
        simp [wide_Int.c, wd, sWOf, w0.1, w0.2, e1, e2, hc]
    · cases h
  · cases h

def sWCmp : List AP → Option AV
  | [a, b] => match dW a, dW b with
    | some x, some y => some (.o (iv .i64 (cmpI x y)))
    | _, _ => none
  | _ => none
theorem okWCmp : Ok Try.prog 71 sWCmp := ok_of' Try.func71 wide_Cmp.ent wide_Cmp.chk specOk_nil fun av r h => by
  unfold sWCmp at h
  split at h
  · split at h
    · rename_i x y hx hy
      cases h
      obtain ⟨rfl, hx0, hx1⟩ := dW_some hx
      obtain ⟨rfl, hy0, hy1⟩ := dW_some hy
      refine ⟨by simp [wide_Cmp.c], 0, ?_⟩
      rcases Int.lt_trichotomy (x / 18446744073709551616) (y / 18446744073709551616) with h1 | h1 | h1
      · have e : cmpI x y = -1 := by unfold cmpI; rw [if_neg (by omega), if_pos (by omega)]
        have h2 : ¬ x / 18446744073709551616 = y / 18446744073709551616 := by omega
        simp [wide_Cmp.c, wd, h1, h2, e]
      · rcases Int.lt_trichotomy (x % 18446744073709551616) (y % 18446744073709551616) with h3 | h3 | h3
        · have e : cmpI x y = -1 := by unfold cmpI; rw [if_neg (by omega), if_pos (by omega)]
          have h4 : ¬ x % 18446744073709551616 = y % 18446744073709551616 := by omega
          simp [wide_Cmp.c, wd, h1, h3, h4, e]
        · have e : cmpI x y = 0 := by unfold cmpI; rw [if_pos (by omega)]
          simp [wide_Cmp.c, wd, h1, h3, e]
        · have e : cmpI x y = 1 := by unfold cmpI; rw [if_neg (by omega), if_neg (by omega)]
          have h4 : ¬ x % 18446744073709551616 = y % 18446744073709551616 := by omega
          have h5 : ¬ x % 18446744073709551616 < y % 18446744073709551616 := by omega
          simp [wide_Cmp.c, wd, h1, h4, h5, e]
      · have e : cmpI x y = 1 := by unfold cmpI; rw [if_neg (by omega), if_neg (by omega)]
        have h2 : ¬ x / 18446744073709551616 = y / 18446744073709551616 := by omega
        have h3 : ¬ x / 18446744073709551616 < y / 18446744073709551616 := by omega
        simp [wide_Cmp.c, wd, h2, h3, e]
    · cases h
  · cases h

def sWBits : List AP → Option AV
  | [a] => match dW a with
    | some x => some (.o (lb (if x < 0 then x + 340282366920938463463374607431768211456 else x)))
    | _ => none
  | _ => none
theorem okWBits : Ok Try.prog 105 sWBits := ok_of' Try.func105 wide_bits.ent wide_bits.chk specOk_nil fun av r h => by
  unfold sWBits at h
  split at h
  · split at h
    · rename_i a x1 x hx
      cases h
      obtain ⟨rfl, hx0, hx1⟩ := dW_some hx
      refine ⟨by simp [wide_bits.c], 0, ?_⟩
      by_cases hc : x < 0
      · simp [wide_bits.c, wd, lb, wrap_u64_eq, hc]; omega
      · simp [wide_bits.c, wd, lb, wrap_u64_eq, hc]; omega
    · cases h
  · cases h

def sWFrom : List AP → Option AV
  | [a] => match dL a with
    | some x => some (.o (wd (if x < 170141183460469231731687303715884105728 then x else x - 340282366920938463463374607431768211456)))
    | _ => none
  | _ => none
theorem okWFrom : Ok Try.prog 106 sWFrom := ok_of' Try.func106 wide_from.ent wide_from.chk specOk_nil fun av r h => by
  unfold sWFrom at h
  split at h
  · split at h
    · rename_i a x1 x hx
      cases h
      obtain ⟨rfl, hx0, hx1⟩ := dL_some hx
      refine ⟨by simp [wide_from.c], 0, ?_⟩
      by_cases hc : x < 170141183460469231731687303715884105728
      · simp [wide_from.c, wd, lb, IntKind.wrap_i64, hc]; omega
      · simp [wide_from.c, wd, lb, IntKind.wrap_i64, hc]; omega
    · cases h
  · cases h

def sWSize : List AP → Option AV
  | [a] => match dW a with
    | some x => some (.o (lb (if x < 0 then -x else x)))
    | _ => none
  | _ => none
theorem okWSize : Ok Try.prog 108 sWSize := ok_of' Try.func108 wide_size.ent wide_size.chk (specOk_cons okWBits (specOk_cons okLimbSub specOk_nil)) fun av r h => by
  unfold sWSize at h
  split at h
  · split at h
    · rename_i a x1 x hx
      cases h
      obtain ⟨rfl, hx0, hx1⟩ := dW_some hx
      have dx := dW_wd hx0 hx1
      refine ⟨by simp [wide_size.c], 0, ?_⟩
      by_cases hc : x < 0
      · have h1 : ¬ 0 ≤ x / 18446744073709551616 := by omega
        have d0 : dL (.g [.v (.int .u64 0), .v (.int .u64 0)]) = some 0 := by decide
        have d1 := dL_lb (show 0 ≤ x + 340282366920938463463374607431768211456 by omega) (show x + 340282366920938463463374607431768211456 < 340282366920938463463374607431768211456 by omega)
        have h2 : 0 < x + 340282366920938463463374607431768211456 := by omega
        have e : 0 - (x + 340282366920938463463374607431768211456) + 340282366920938463463374607431768211456 = -x := by omega
        simp [wide_size.c, wd, lb, sWBits, sLimbSub, dx, d0, d1, h1, hc, h2, e]
        omega
      · have h1 : 0 ≤ x / 18446744073709551616 := by omega
        simp [wide_size.c, wd, lb, sWBits, sLimbSub, dx, h1, hc]
    · cases h
  · cases h

def sWSigned : List AP → Option AV
  | [a, .c (.v (.bool b))] => match dL a with
    | some n => if b then (if n ≤ 170141183460469231731687303715884105728 then some (.t [wd (-n), iv .i64 0]) else some (.t [wd 0, iv .i64 2])) else (if n < 170141183460469231731687303715884105728 then some (.t [wd n, iv .i64 0]) else some (.t [wd 0, iv .i64 2]))
    | _ => none
  | _ => none
theorem cmpI_le {x y : Int} : (cmpI x y ≤ 0) ↔ x ≤ y := by unfold cmpI; split <;> (try split) <;> omega
theorem cmpI_lt {x y : Int} : (cmpI x y < 0) ↔ x < y := by unfold cmpI; split <;> (try split) <;> omega
theorem cmpI_gt {x y : Int} : (0 < cmpI x y) ↔ y < x := by unfold cmpI; split <;> (try split) <;> omega
theorem okWSigned : Ok Try.prog 109 sWSigned := ok_of' Try.func109 wide_signed.ent wide_signed.chk (specOk_cons okWFrom (specOk_cons okLimbSub (specOk_cons okLimbCmp specOk_nil))) fun av r h => by
  unfold sWSigned at h
  split at h
  · split at h
    · rename_i a b x1 x hx
      obtain ⟨rfl, hx0, hx1⟩ := dL_some hx
      have dx := dL_lb hx0 hx1
      have d0 : dL (.g [.v (.int .u64 0), .v (.int .u64 0)]) = some 0 := by decide
      have dh : dL (.g [.v (.int .u64 9223372036854775808), .v (.int .u64 0)]) = some 170141183460469231731687303715884105728 := by decide
      refine ⟨by simp [wide_signed.c], 0, ?_⟩
      cases b with
      | true =>
        simp only [if_true] at h
        by_cases hc : x ≤ 170141183460469231731687303715884105728
        · rw [if_pos hc] at h
          cases h
          have h1 : cmpI x 170141183460469231731687303715884105728 ≤ 0 := cmpI_le.2 hc
          by_cases hz : 0 < x
          · have d1 := dL_lb (show 0 ≤ -x + 340282366920938463463374607431768211456 by omega) (show -x + 340282366920938463463374607431768211456 < 340282366920938463463374607431768211456 by omega)
            have h2 : ¬ -x + 340282366920938463463374607431768211456 < 170141183460469231731687303715884105728 := by omega
            have e : -x + 340282366920938463463374607431768211456 - 340282366920938463463374607431768211456 = -x := by omega
            simp [wide_signed.c, wd, lb, sWFrom, sLimbSub, sLimbCmp, dx, d0, dh, h1, hz, d1, h2, e]
          · have hx : x = 0 := by omega
            subst hx
            simp [wide_signed.c, wd, lb, sWFrom, sLimbSub, sLimbCmp, d0, dh, h1]
        · rw [if_neg hc] at h
          cases h
          have h1 : ¬ cmpI x 170141183460469231731687303715884105728 ≤ 0 := by rw [cmpI_le]; exact hc
          simp [wide_signed.c, wd, lb, sWFrom, sLimbSub, sLimbCmp, dx, d0, dh, h1]
      | false =>
        simp only [Bool.false_eq_true, if_false] at h
        by_cases hc : x < 170141183460469231731687303715884105728
        · rw [if_pos hc] at h
          cases h
          have h1 : cmpI x 170141183460469231731687303715884105728 < 0 := cmpI_lt.2 hc
          simp [wide_signed.c, wd, lb, sWFrom, sLimbSub, sLimbCmp, dx, d0, dh, h1, hc]
        · rw [if_neg hc] at h
          cases h
          have h1 : ¬ cmpI x 170141183460469231731687303715884105728 < 0 := by rw [cmpI_lt]; exact hc
          simp [wide_signed.c, wd, lb, sWFrom, sLimbSub, sLimbCmp, dx, d0, dh, h1]
    · cases h
  · cases h
end Go.Proofs.Ytanolecbepjkcaa.E
/- What the functions of the package wide do that reckon. -/
namespace Go.Proofs.Ytanolecbepjkcaa.E
open Go.VC Go.RowKit

def fitW (z : Int) : AV := if -170141183460469231731687303715884105728 ≤ z ∧ z < 170141183460469231731687303715884105728 then .t [wd z, iv .i64 0] else .t [wd 0, iv .i64 2]
theorem wz : ∀ x : Int, (x / 18446744073709551616).fdiv 9223372036854775808 = x / 18446744073709551616 / 9223372036854775808 := fun x => fdiv_pos (by decide)
def sWAbove : List AP → Option AV
  | [a] => match dW a with
    | some x => some (.o (bv (decide (0 < x))))
    | _ => none
  | _ => none
theorem dW0 : dW (.g [.v (.int .i64 0), .v (.int .u64 0)]) = some 0 := by decide
theorem okWAbove : Ok Try.prog 111 sWAbove := ok_of' Try.func111 wide_above.ent wide_above.chk (specOk_cons okWCmp specOk_nil) fun av r h => by
  unfold sWAbove at h
  split at h
  · split at h
    · rename_i a x1 x hx
      cases h
      obtain ⟨rfl, hx0, hx1⟩ := dW_some hx
      have dx := dW_wd hx0 hx1
      refine ⟨by simp [wide_above.c], 0, ?_⟩
      simp [wide_above.c, wd, sWCmp, dx, dW0, cmpI_gt]
    · cases h
  · cases h

def sWLeast : List AP → Option AV
  | [a] => match dW a with
    | some x => some (.o (bv (decide (x = -170141183460469231731687303715884105728))))
    | _ => none
  | _ => none
theorem okWLeast : Ok Try.prog 113 sWLeast := ok_of' Try.func113 wide_least.ent wide_least.chk specOk_nil fun av r h => by
  unfold sWLeast at h
  split at h
  · split at h
    · rename_i a x1 x hx
      cases h
      obtain ⟨rfl, hx0, hx1⟩ := dW_some hx
      refine ⟨by simp [wide_least.c], 0, ?_⟩
      by_cases hc : x = -170141183460469231731687303715884105728
      · subst hc
        simp [wide_least.c, wd]
      · by_cases h1 : x / 18446744073709551616 = -9223372036854775808
        · have h2 : ¬ x % 18446744073709551616 = 0 := by omega
          simp [wide_least.c, wd, hc, h1, h2]
        · simp [wide_least.c, wd, hc, h1]
    · cases h
  · cases h

def sWAdd : List AP → Option AV
  | [a, b] => match dW a, dW b with
    | some x, some y => some (fitW (x + y))
    | _, _ => none
  | _ => none
theorem okWAdd : Ok Try.prog 83 sWAdd := ok_of' Try.func83 wide_Add.ent wide_Add.chk (specOk_cons okWBits (specOk_cons okWFrom (specOk_cons okLimbAdd specOk_nil))) fun av r h => by
  unfold sWAdd at h
  split at h
  · split at h
    · rename_i a b x1 x2 x y hx hy
      cases h
      obtain ⟨rfl, hx0, hx1⟩ := dW_some hx
      obtain ⟨rfl, hy0, hy1⟩ := dW_some hy
      have dx := dW_wd hx0 hx1
      have dy := dW_wd hy0 hy1
      refine ⟨by simp [wide_Add.c], 0, ?_⟩
      by_cases hxn : x < 0
      · by_cases hyn : y < 0
        · skip
          have hxs : x / 18446744073709551616 / 9223372036854775808 = -1 := by omega
          have hys : y / 18446744073709551616 / 9223372036854775808 = -1 := by omega
          have d1 := dL_lb (show 0 ≤ x + 340282366920938463463374607431768211456 by omega) (show x + 340282366920938463463374607431768211456 < 340282366920938463463374607431768211456 by omega)
          have d2 := dL_lb (show 0 ≤ y + 340282366920938463463374607431768211456 by omega) (show y + 340282366920938463463374607431768211456 < 340282366920938463463374607431768211456 by omega)
          by_cases ho : 340282366920938463463374607431768211456 ≤ x + 340282366920938463463374607431768211456 + (y + 340282366920938463463374607431768211456)
          · have e : x + 340282366920938463463374607431768211456 + (y + 340282366920938463463374607431768211456) - 340282366920938463463374607431768211456 = x + 340282366920938463463374607431768211456 + (y + 340282366920938463463374607431768211456) - 340282366920938463463374607431768211456 := rfl
            have d3 := dL_lb (show 0 ≤ x + 340282366920938463463374607431768211456 + (y + 340282366920938463463374607431768211456) - 340282366920938463463374607431768211456 by omega) (show x + 340282366920938463463374607431768211456 + (y + 340282366920938463463374607431768211456) - 340282366920938463463374607431768211456 < 340282366920938463463374607431768211456 by omega)
            by_cases hh : x + 340282366920938463463374607431768211456 + (y + 340282366920938463463374607431768211456) - 340282366920938463463374607431768211456 < 170141183460469231731687303715884105728
            · have hs : (x + 340282366920938463463374607431768211456 + (y + 340282366920938463463374607431768211456) - 340282366920938463463374607431768211456) / 18446744073709551616 / 9223372036854775808 = 0 := by omega
              by_cases hf : -170141183460469231731687303715884105728 ≤ x + y ∧ x + y < 170141183460469231731687303715884105728
              · simp [wide_Add.c, wd, lb, sWBits, sWFrom, sLimbAdd, fitW, dx, dy, d1, d2, d3, hxn, hyn, ho, hh, wz, hxs, hys, hs, hf] <;> omega
              · simp [wide_Add.c, wd, lb, sWBits, sWFrom, sLimbAdd, fitW, dx, dy, d1, d2, d3, hxn, hyn, ho, hh, wz, hxs, hys, hs, hf] <;> omega
            · have hs : (x + 340282366920938463463374607431768211456 + (y + 340282366920938463463374607431768211456) - 340282366920938463463374607431768211456 - 340282366920938463463374607431768211456) / 18446744073709551616 / 9223372036854775808 = -1 := by omega
              by_cases hf : -170141183460469231731687303715884105728 ≤ x + y ∧ x + y < 170141183460469231731687303715884105728
              · simp [wide_Add.c, wd, lb, sWBits, sWFrom, sLimbAdd, fitW, dx, dy, d1, d2, d3, hxn, hyn, ho, hh, wz, hxs, hys, hs, hf] <;> omega
              · simp [wide_Add.c, wd, lb, sWBits, sWFrom, sLimbAdd, fitW, dx, dy, d1, d2, d3, hxn, hyn, ho, hh, wz, hxs, hys, hs, hf] <;> omega
          · have e : x + 340282366920938463463374607431768211456 + (y + 340282366920938463463374607431768211456) = x + 340282366920938463463374607431768211456 + (y + 340282366920938463463374607431768211456) := rfl
            have d3 := dL_lb (show 0 ≤ x + 340282366920938463463374607431768211456 + (y + 340282366920938463463374607431768211456) by omega) (show x + 340282366920938463463374607431768211456 + (y + 340282366920938463463374607431768211456) < 340282366920938463463374607431768211456 by omega)
            by_cases hh : x + 340282366920938463463374607431768211456 + (y + 340282366920938463463374607431768211456) < 170141183460469231731687303715884105728
            · have hs : (x + 340282366920938463463374607431768211456 + (y + 340282366920938463463374607431768211456)) / 18446744073709551616 / 9223372036854775808 = 0 := by omega
              by_cases hf : -170141183460469231731687303715884105728 ≤ x + y ∧ x + y < 170141183460469231731687303715884105728
              · simp [wide_Add.c, wd, lb, sWBits, sWFrom, sLimbAdd, fitW, dx, dy, d1, d2, d3, hxn, hyn, ho, hh, wz, hxs, hys, hs, hf] <;> omega
              · simp [wide_Add.c, wd, lb, sWBits, sWFrom, sLimbAdd, fitW, dx, dy, d1, d2, d3, hxn, hyn, ho, hh, wz, hxs, hys, hs, hf] <;> omega
            · have hs : (x + 340282366920938463463374607431768211456 + (y + 340282366920938463463374607431768211456) - 340282366920938463463374607431768211456) / 18446744073709551616 / 9223372036854775808 = -1 := by omega
              by_cases hf : -170141183460469231731687303715884105728 ≤ x + y ∧ x + y < 170141183460469231731687303715884105728
              · simp [wide_Add.c, wd, lb, sWBits, sWFrom, sLimbAdd, fitW, dx, dy, d1, d2, d3, hxn, hyn, ho, hh, wz, hxs, hys, hs, hf] <;> omega
              · simp [wide_Add.c, wd, lb, sWBits, sWFrom, sLimbAdd, fitW, dx, dy, d1, d2, d3, hxn, hyn, ho, hh, wz, hxs, hys, hs, hf] <;> omega
        · skip
          have hxs : x / 18446744073709551616 / 9223372036854775808 = -1 := by omega
          have hys : y / 18446744073709551616 / 9223372036854775808 = 0 := by omega
          have d1 := dL_lb (show 0 ≤ x + 340282366920938463463374607431768211456 by omega) (show x + 340282366920938463463374607431768211456 < 340282366920938463463374607431768211456 by omega)
          have d2 := dL_lb (show 0 ≤ y by omega) (show y < 340282366920938463463374607431768211456 by omega)
          by_cases ho : 340282366920938463463374607431768211456 ≤ x + 340282366920938463463374607431768211456 + y
          · have e : x + 340282366920938463463374607431768211456 + y - 340282366920938463463374607431768211456 = x + 340282366920938463463374607431768211456 + y - 340282366920938463463374607431768211456 := rfl
            have d3 := dL_lb (show 0 ≤ x + 340282366920938463463374607431768211456 + y - 340282366920938463463374607431768211456 by omega) (show x + 340282366920938463463374607431768211456 + y - 340282366920938463463374607431768211456 < 340282366920938463463374607431768211456 by omega)
            by_cases hh : x + 340282366920938463463374607431768211456 + y - 340282366920938463463374607431768211456 < 170141183460469231731687303715884105728
            · have hs : (x + 340282366920938463463374607431768211456 + y - 340282366920938463463374607431768211456) / 18446744073709551616 / 9223372036854775808 = 0 := by omega
              by_cases hf : -170141183460469231731687303715884105728 ≤ x + y ∧ x + y < 170141183460469231731687303715884105728
              · simp [wide_Add.c, wd, lb, sWBits, sWFrom, sLimbAdd, fitW, dx, dy, d1, d2, d3, hxn, hyn, ho, hh, wz, hxs, hys, hs, hf] <;> omega
              · simp [wide_Add.c, wd, lb, sWBits, sWFrom, sLimbAdd, fitW, dx, dy, d1, d2, d3, hxn, hyn, ho, hh, wz, hxs, hys, hs, hf] <;> omega
            · have hs : (x + 340282366920938463463374607431768211456 + y - 340282366920938463463374607431768211456 - 340282366920938463463374607431768211456) / 18446744073709551616 / 9223372036854775808 = -1 := by omega
              by_cases hf : -170141183460469231731687303715884105728 ≤ x + y ∧ x + y < 170141183460469231731687303715884105728
              · simp [wide_Add.c, wd, lb, sWBits, sWFrom, sLimbAdd, fitW, dx, dy, d1, d2, d3, hxn, hyn, ho, hh, wz, hxs, hys, hs, hf] <;> omega
              · simp [wide_Add.c, wd, lb, sWBits, sWFrom, sLimbAdd, fitW, dx, dy, d1, d2, d3, hxn, hyn, ho, hh, wz, hxs, hys, hs, hf] <;> omega
          · have e : x + 340282366920938463463374607431768211456 + y = x + 340282366920938463463374607431768211456 + y := rfl
            have d3 := dL_lb (show 0 ≤ x + 340282366920938463463374607431768211456 + y by omega) (show x + 340282366920938463463374607431768211456 + y < 340282366920938463463374607431768211456 by omega)
            by_cases hh : x + 340282366920938463463374607431768211456 + y < 170141183460469231731687303715884105728
            · have hs : (x + 340282366920938463463374607431768211456 + y) / 18446744073709551616 / 9223372036854775808 = 0 := by omega
              by_cases hf : -170141183460469231731687303715884105728 ≤ x + y ∧ x + y < 170141183460469231731687303715884105728
              · simp [wide_Add.c, wd, lb, sWBits, sWFrom, sLimbAdd, fitW, dx, dy, d1, d2, d3, hxn, hyn, ho, hh, wz, hxs, hys, hs, hf] <;> omega
              · simp [wide_Add.c, wd, lb, sWBits, sWFrom, sLimbAdd, fitW, dx, dy, d1, d2, d3, hxn, hyn, ho, hh, wz, hxs, hys, hs, hf] <;> omega
            · have hs : (x + 340282366920938463463374607431768211456 + y - 340282366920938463463374607431768211456) / 18446744073709551616 / 9223372036854775808 = -1 := by omega
              by_cases hf : -170141183460469231731687303715884105728 ≤ x + y ∧ x + y < 170141183460469231731687303715884105728
              · simp [wide_Add.c, wd, lb, sWBits, sWFrom, sLimbAdd, fitW, dx, dy, d1, d2, d3, hxn, hyn, ho, hh, wz, hxs, hys, hs, hf] <;> omega
              · simp [wide_Add.c, wd, lb, sWBits, sWFrom, sLimbAdd, fitW, dx, dy, d1, d2, d3, hxn, hyn, ho, hh, wz, hxs, hys, hs, hf] <;> omega
      · by_cases hyn : y < 0
        · skip
          have hxs : x / 18446744073709551616 / 9223372036854775808 = 0 := by omega
          have hys : y / 18446744073709551616 / 9223372036854775808 = -1 := by omega
          have d1 := dL_lb (show 0 ≤ x by omega) (show x < 340282366920938463463374607431768211456 by omega)
          have d2 := dL_lb (show 0 ≤ y + 340282366920938463463374607431768211456 by omega) (show y + 340282366920938463463374607431768211456 < 340282366920938463463374607431768211456 by omega)
          by_cases ho : 340282366920938463463374607431768211456 ≤ x + (y + 340282366920938463463374607431768211456)
          · have e : x + (y + 340282366920938463463374607431768211456) - 340282366920938463463374607431768211456 = x + (y + 340282366920938463463374607431768211456) - 340282366920938463463374607431768211456 := rfl
            have d3 := dL_lb (show 0 ≤ x + (y + 340282366920938463463374607431768211456) - 340282366920938463463374607431768211456 by omega) (show x + (y + 340282366920938463463374607431768211456) - 340282366920938463463374607431768211456 < 340282366920938463463374607431768211456 by omega)
            by_cases hh : x + (y + 340282366920938463463374607431768211456) - 340282366920938463463374607431768211456 < 170141183460469231731687303715884105728
            · have hs : (x + (y + 340282366920938463463374607431768211456) - 340282366920938463463374607431768211456) / 18446744073709551616 / 9223372036854775808 = 0 := by omega
              by_cases hf : -170141183460469231731687303715884105728 ≤ x + y ∧ x + y < 170141183460469231731687303715884105728
              · simp [wide_Add.c, wd, lb, sWBits, sWFrom, sLimbAdd, fitW, dx, dy, d1, d2, d3, hxn, hyn, ho, hh, wz, hxs, hys, hs, hf] <;> omega
              · simp [wide_Add.c, wd, lb, sWBits, sWFrom, sLimbAdd, fitW, dx, dy, d1, d2, d3, hxn, hyn, ho, hh, wz, hxs, hys, hs, hf] <;> omega
            · have hs : (x + (y + 340282366920938463463374607431768211456) - 340282366920938463463374607431768211456 - 340282366920938463463374607431768211456) / 18446744073709551616 / 9223372036854775808 = -1 := by omega
              by_cases hf : -170141183460469231731687303715884105728 ≤ x + y ∧ x + y < 170141183460469231731687303715884105728
              · simp [wide_Add.c, wd, lb, sWBits, sWFrom, sLimbAdd, fitW, dx, dy, d1, d2, d3, hxn, hyn, ho, hh, wz, hxs, hys, hs, hf] <;> omega
              · simp [wide_Add.c, wd, lb, sWBits, sWFrom, sLimbAdd, fitW, dx, dy, d1, d2, d3, hxn, hyn, ho, hh, wz, hxs, hys, hs, hf] <;> omega
          · have e : x + (y + 340282366920938463463374607431768211456) = x + (y + 340282366920938463463374607431768211456) := rfl
            have d3 := dL_lb (show 0 ≤ x + (y + 340282366920938463463374607431768211456) by omega) (show x + (y + 340282366920938463463374607431768211456) < 340282366920938463463374607431768211456 by omega)
            by_cases hh : x + (y + 340282366920938463463374607431768211456) < 170141183460469231731687303715884105728
            · have hs : (x + (y + 340282366920938463463374607431768211456)) / 18446744073709551616 / 9223372036854775808 = 0 := by omega
              by_cases hf : -170141183460469231731687303715884105728 ≤ x + y ∧ x + y < 170141183460469231731687303715884105728
              · simp [wide_Add.c, wd, lb, sWBits, sWFrom, sLimbAdd, fitW, dx, dy, d1, d2, d3, hxn, hyn, ho, hh, wz, hxs, hys, hs, hf] <;> omega
              · simp [wide_Add.c, wd, lb, sWBits, sWFrom, sLimbAdd, fitW, dx, dy, d1, d2, d3, hxn, hyn, ho, hh, wz, hxs, hys, hs, hf] <;> omega
            · have hs : (x + (y + 340282366920938463463374607431768211456) - 340282366920938463463374607431768211456) / 18446744073709551616 / 9223372036854775808 = -1 := by omega
              by_cases hf : -170141183460469231731687303715884105728 ≤ x + y ∧ x + y < 170141183460469231731687303715884105728
              · simp [wide_Add.c, wd, lb, sWBits, sWFrom, sLimbAdd, fitW, dx, dy, d1, d2, d3, hxn, hyn, ho, hh, wz, hxs, hys, hs, hf] <;> omega
              · simp [wide_Add.c, wd, lb, sWBits, sWFrom, sLimbAdd, fitW, dx, dy, d1, d2, d3, hxn, hyn, ho, hh, wz, hxs, hys, hs, hf] <;> omega
        · skip
          have hxs : x / 18446744073709551616 / 9223372036854775808 = 0 := by omega
          have hys : y / 18446744073709551616 / 9223372036854775808 = 0 := by omega
          have d1 := dL_lb (show 0 ≤ x by omega) (show x < 340282366920938463463374607431768211456 by omega)
          have d2 := dL_lb (show 0 ≤ y by omega) (show y < 340282366920938463463374607431768211456 by omega)
          by_cases ho : 340282366920938463463374607431768211456 ≤ x + y
          · have e : x + y - 340282366920938463463374607431768211456 = x + y - 340282366920938463463374607431768211456 := rfl
            have d3 := dL_lb (show 0 ≤ x + y - 340282366920938463463374607431768211456 by omega) (show x + y - 340282366920938463463374607431768211456 < 340282366920938463463374607431768211456 by omega)
            by_cases hh : x + y - 340282366920938463463374607431768211456 < 170141183460469231731687303715884105728
            · have hs : (x + y - 340282366920938463463374607431768211456) / 18446744073709551616 / 9223372036854775808 = 0 := by omega
              by_cases hf : -170141183460469231731687303715884105728 ≤ x + y ∧ x + y < 170141183460469231731687303715884105728
              · simp [wide_Add.c, wd, lb, sWBits, sWFrom, sLimbAdd, fitW, dx, dy, d1, d2, d3, hxn, hyn, ho, hh, wz, hxs, hys, hs, hf] <;> omega
              · simp [wide_Add.c, wd, lb, sWBits, sWFrom, sLimbAdd, fitW, dx, dy, d1, d2, d3, hxn, hyn, ho, hh, wz, hxs, hys, hs, hf] <;> omega
            · have hs : (x + y - 340282366920938463463374607431768211456 - 340282366920938463463374607431768211456) / 18446744073709551616 / 9223372036854775808 = -1 := by omega
              by_cases hf : -170141183460469231731687303715884105728 ≤ x + y ∧ x + y < 170141183460469231731687303715884105728
              · simp [wide_Add.c, wd, lb, sWBits, sWFrom, sLimbAdd, fitW, dx, dy, d1, d2, d3, hxn, hyn, ho, hh, wz, hxs, hys, hs, hf] <;> omega
              · simp [wide_Add.c, wd, lb, sWBits, sWFrom, sLimbAdd, fitW, dx, dy, d1, d2, d3, hxn, hyn, ho, hh, wz, hxs, hys, hs, hf] <;> omega
          · have e : x + y = x + y := rfl
            have d3 := dL_lb (show 0 ≤ x + y by omega) (show x + y < 340282366920938463463374607431768211456 by omega)
            by_cases hh : x + y < 170141183460469231731687303715884105728
            · have hs : (x + y) / 18446744073709551616 / 9223372036854775808 = 0 := by omega
              by_cases hf : -170141183460469231731687303715884105728 ≤ x + y ∧ x + y < 170141183460469231731687303715884105728
              · simp [wide_Add.c, wd, lb, sWBits, sWFrom, sLimbAdd, fitW, dx, dy, d1, d2, d3, hxn, hyn, ho, hh, wz, hxs, hys, hs, hf] <;> omega
              · simp [wide_Add.c, wd, lb, sWBits, sWFrom, sLimbAdd, fitW, dx, dy, d1, d2, d3, hxn, hyn, ho, hh, wz, hxs, hys, hs, hf] <;> omega
            · have hs : (x + y - 340282366920938463463374607431768211456) / 18446744073709551616 / 9223372036854775808 = -1 := by omega
              by_cases hf : -170141183460469231731687303715884105728 ≤ x + y ∧ x + y < 170141183460469231731687303715884105728
              · simp [wide_Add.c, wd, lb, sWBits, sWFrom, sLimbAdd, fitW, dx, dy, d1, d2, d3, hxn, hyn, ho, hh, wz, hxs, hys, hs, hf] <;> omega
              · simp [wide_Add.c, wd, lb, sWBits, sWFrom, sLimbAdd, fitW, dx, dy, d1, d2, d3, hxn, hyn, ho, hh, wz, hxs, hys, hs, hf] <;> omega
    · cases h
  · cases h

def sWSub : List AP → Option AV
  | [a, b] => match dW a, dW b with
    | some x, some y => some (fitW (x - y))
    | _, _ => none
  | _ => none
theorem okWSub : Ok Try.prog 99 sWSub := ok_of' Try.func99 wide_Sub.ent wide_Sub.chk (specOk_cons okWBits (specOk_cons okWFrom (specOk_cons okLimbSub specOk_nil))) fun av r h => by
  unfold sWSub at h
  split at h
  · split at h
    · rename_i a b x1 x2 x y hx hy
      cases h
      obtain ⟨rfl, hx0, hx1⟩ := dW_some hx
      obtain ⟨rfl, hy0, hy1⟩ := dW_some hy
      have dx := dW_wd hx0 hx1
      have dy := dW_wd hy0 hy1
      refine ⟨by simp [wide_Sub.c], 0, ?_⟩
      by_cases hxn : x < 0
      · by_cases hyn : y < 0
        · skip
          have hxs : x / 18446744073709551616 / 9223372036854775808 = -1 := by omega
          have hys : y / 18446744073709551616 / 9223372036854775808 = -1 := by omega
          have d1 := dL_lb (show 0 ≤ x + 340282366920938463463374607431768211456 by omega) (show x + 340282366920938463463374607431768211456 < 340282366920938463463374607431768211456 by omega)
          have d2 := dL_lb (show 0 ≤ y + 340282366920938463463374607431768211456 by omega) (show y + 340282366920938463463374607431768211456 < 340282366920938463463374607431768211456 by omega)
          by_cases ho : x + 340282366920938463463374607431768211456 < y + 340282366920938463463374607431768211456
          · have e : x + 340282366920938463463374607431768211456 - (y + 340282366920938463463374607431768211456) + 340282366920938463463374607431768211456 = x + 340282366920938463463374607431768211456 - (y + 340282366920938463463374607431768211456) + 340282366920938463463374607431768211456 := rfl
            have d3 := dL_lb (show 0 ≤ x + 340282366920938463463374607431768211456 - (y + 340282366920938463463374607431768211456) + 340282366920938463463374607431768211456 by omega) (show x + 340282366920938463463374607431768211456 - (y + 340282366920938463463374607431768211456) + 340282366920938463463374607431768211456 < 340282366920938463463374607431768211456 by omega)
            by_cases hh : x + 340282366920938463463374607431768211456 - (y + 340282366920938463463374607431768211456) + 340282366920938463463374607431768211456 < 170141183460469231731687303715884105728
            · have hs : (x + 340282366920938463463374607431768211456 - (y + 340282366920938463463374607431768211456) + 340282366920938463463374607431768211456) / 18446744073709551616 / 9223372036854775808 = 0 := by omega
              by_cases hf : -170141183460469231731687303715884105728 ≤ x - y ∧ x - y < 170141183460469231731687303715884105728
              · simp [wide_Sub.c, wd, lb, sWBits, sWFrom, sLimbSub, fitW, dx, dy, d1, d2, d3, hxn, hyn, ho, hh, wz, hxs, hys, hs, hf] <;> omega
              · simp [wide_Sub.c, wd, lb, sWBits, sWFrom, sLimbSub, fitW, dx, dy, d1, d2, d3, hxn, hyn, ho, hh, wz, hxs, hys, hs, hf] <;> omega
            · have hs : (x + 340282366920938463463374607431768211456 - (y + 340282366920938463463374607431768211456) + 340282366920938463463374607431768211456 - 340282366920938463463374607431768211456) / 18446744073709551616 / 9223372036854775808 = -1 := by omega
              by_cases hf : -170141183460469231731687303715884105728 ≤ x - y ∧ x - y < 170141183460469231731687303715884105728
              · simp [wide_Sub.c, wd, lb, sWBits, sWFrom, sLimbSub, fitW, dx, dy, d1, d2, d3, hxn, hyn, ho, hh, wz, hxs, hys, hs, hf] <;> omega
              · simp [wide_Sub.c, wd, lb, sWBits, sWFrom, sLimbSub, fitW, dx, dy, d1, d2, d3, hxn, hyn, ho, hh, wz, hxs, hys, hs, hf] <;> omega
          · have e : x + 340282366920938463463374607431768211456 - (y + 340282366920938463463374607431768211456) = x + 340282366920938463463374607431768211456 - (y + 340282366920938463463374607431768211456) := rfl
            have d3 := dL_lb (show 0 ≤ x + 340282366920938463463374607431768211456 - (y + 340282366920938463463374607431768211456) by omega) (show x + 340282366920938463463374607431768211456 - (y + 340282366920938463463374607431768211456) < 340282366920938463463374607431768211456 by omega)
            by_cases hh : x + 340282366920938463463374607431768211456 - (y + 340282366920938463463374607431768211456) < 170141183460469231731687303715884105728
            · have hs : (x + 340282366920938463463374607431768211456 - (y + 340282366920938463463374607431768211456)) / 18446744073709551616 / 9223372036854775808 = 0 := by omega
              by_cases hf : -170141183460469231731687303715884105728 ≤ x - y ∧ x - y < 170141183460469231731687303715884105728
              · simp [wide_Sub.c, wd, lb, sWBits, sWFrom, sLimbSub, fitW, dx, dy, d1, d2, d3, hxn, hyn, ho, hh, wz, hxs, hys, hs, hf] <;> omega
              · simp [wide_Sub.c, wd, lb, sWBits, sWFrom, sLimbSub, fitW, dx, dy, d1, d2, d3, hxn, hyn, ho, hh, wz, hxs, hys, hs, hf] <;> omega
            · have hs : (x + 340282366920938463463374607431768211456 - (y + 340282366920938463463374607431768211456) - 340282366920938463463374607431768211456) / 18446744073709551616 / 9223372036854775808 = -1 := by omega
              by_cases hf : -170141183460469231731687303715884105728 ≤ x - y ∧ x - y < 170141183460469231731687303715884105728
              · simp [wide_Sub.c, wd, lb, sWBits, sWFrom, sLimbSub, fitW, dx, dy, d1, d2, d3, hxn, hyn, ho, hh, wz, hxs, hys, hs, hf] <;> omega
              · simp [wide_Sub.c, wd, lb, sWBits, sWFrom, sLimbSub, fitW, dx, dy, d1, d2, d3, hxn, hyn, ho, hh, wz, hxs, hys, hs, hf] <;> omega
        · skip
          have hxs : x / 18446744073709551616 / 9223372036854775808 = -1 := by omega
          have hys : y / 18446744073709551616 / 9223372036854775808 = 0 := by omega
          have d1 := dL_lb (show 0 ≤ x + 340282366920938463463374607431768211456 by omega) (show x + 340282366920938463463374607431768211456 < 340282366920938463463374607431768211456 by omega)
          have d2 := dL_lb (show 0 ≤ y by omega) (show y < 340282366920938463463374607431768211456 by omega)
          by_cases ho : x + 340282366920938463463374607431768211456 < y
          · have e : x + 340282366920938463463374607431768211456 - y + 340282366920938463463374607431768211456 = x + 340282366920938463463374607431768211456 - y + 340282366920938463463374607431768211456 := rfl
            have d3 := dL_lb (show 0 ≤ x + 340282366920938463463374607431768211456 - y + 340282366920938463463374607431768211456 by omega) (show x + 340282366920938463463374607431768211456 - y + 340282366920938463463374607431768211456 < 340282366920938463463374607431768211456 by omega)
            by_cases hh : x + 340282366920938463463374607431768211456 - y + 340282366920938463463374607431768211456 < 170141183460469231731687303715884105728
            · have hs : (x + 340282366920938463463374607431768211456 - y + 340282366920938463463374607431768211456) / 18446744073709551616 / 9223372036854775808 = 0 := by omega
              by_cases hf : -170141183460469231731687303715884105728 ≤ x - y ∧ x - y < 170141183460469231731687303715884105728
              · simp [wide_Sub.c, wd, lb, sWBits, sWFrom, sLimbSub, fitW, dx, dy, d1, d2, d3, hxn, hyn, ho, hh, wz, hxs, hys, hs, hf] <;> omega
              · simp [wide_Sub.c, wd, lb, sWBits, sWFrom, sLimbSub, fitW, dx, dy, d1, d2, d3, hxn, hyn, ho, hh, wz, hxs, hys, hs, hf] <;> omega
            · have hs : (x + 340282366920938463463374607431768211456 - y + 340282366920938463463374607431768211456 - 340282366920938463463374607431768211456) / 18446744073709551616 / 9223372036854775808 = -1 := by omega
              by_cases hf : -170141183460469231731687303715884105728 ≤ x - y ∧ x - y < 170141183460469231731687303715884105728
              · simp [wide_Sub.c, wd, lb, sWBits, sWFrom, sLimbSub, fitW, dx, dy, d1, d2, d3, hxn, hyn, ho, hh, wz, hxs, hys, hs, hf] <;> omega
              · simp [wide_Sub.c, wd, lb, sWBits, sWFrom, sLimbSub, fitW, dx, dy, d1, d2, d3, hxn, hyn, ho, hh, wz, hxs, hys, hs, hf] <;> omega
          · have e : x + 340282366920938463463374607431768211456 - y = x + 340282366920938463463374607431768211456 - y := rfl
            have d3 := dL_lb (show 0 ≤ x + 340282366920938463463374607431768211456 - y by omega) (show x + 340282366920938463463374607431768211456 - y < 340282366920938463463374607431768211456 by omega)
            by_cases hh : x + 340282366920938463463374607431768211456 - y < 170141183460469231731687303715884105728
            · have hs : (x + 340282366920938463463374607431768211456 - y) / 18446744073709551616 / 9223372036854775808 = 0 := by omega
              by_cases hf : -170141183460469231731687303715884105728 ≤ x - y ∧ x - y < 170141183460469231731687303715884105728
              · simp [wide_Sub.c, wd, lb, sWBits, sWFrom, sLimbSub, fitW, dx, dy, d1, d2, d3, hxn, hyn, ho, hh, wz, hxs, hys, hs, hf] <;> omega
              · simp [wide_Sub.c, wd, lb, sWBits, sWFrom, sLimbSub, fitW, dx, dy, d1, d2, d3, hxn, hyn, ho, hh, wz, hxs, hys, hs, hf] <;> omega
            · have hs : (x + 340282366920938463463374607431768211456 - y - 340282366920938463463374607431768211456) / 18446744073709551616 / 9223372036854775808 = -1 := by omega
              by_cases hf : -170141183460469231731687303715884105728 ≤ x - y ∧ x - y < 170141183460469231731687303715884105728
              · simp [wide_Sub.c, wd, lb, sWBits, sWFrom, sLimbSub, fitW, dx, dy, d1, d2, d3, hxn, hyn, ho, hh, wz, hxs, hys, hs, hf] <;> omega
              · simp [wide_Sub.c, wd, lb, sWBits, sWFrom, sLimbSub, fitW, dx, dy, d1, d2, d3, hxn, hyn, ho, hh, wz, hxs, hys, hs, hf] <;> omega
      · by_cases hyn : y < 0
        · skip
          have hxs : x / 18446744073709551616 / 9223372036854775808 = 0 := by omega
          have hys : y / 18446744073709551616 / 9223372036854775808 = -1 := by omega
          have d1 := dL_lb (show 0 ≤ x by omega) (show x < 340282366920938463463374607431768211456 by omega)
          have d2 := dL_lb (show 0 ≤ y + 340282366920938463463374607431768211456 by omega) (show y + 340282366920938463463374607431768211456 < 340282366920938463463374607431768211456 by omega)
          by_cases ho : x < y + 340282366920938463463374607431768211456
          · have e : x - (y + 340282366920938463463374607431768211456) + 340282366920938463463374607431768211456 = x - (y + 340282366920938463463374607431768211456) + 340282366920938463463374607431768211456 := rfl
            have d3 := dL_lb (show 0 ≤ x - (y + 340282366920938463463374607431768211456) + 340282366920938463463374607431768211456 by omega) (show x - (y + 340282366920938463463374607431768211456) + 340282366920938463463374607431768211456 < 340282366920938463463374607431768211456 by omega)
            by_cases hh : x - (y + 340282366920938463463374607431768211456) + 340282366920938463463374607431768211456 < 170141183460469231731687303715884105728
            · have hs : (x - (y + 340282366920938463463374607431768211456) + 340282366920938463463374607431768211456) / 18446744073709551616 / 9223372036854775808 = 0 := by omega
              by_cases hf : -170141183460469231731687303715884105728 ≤ x - y ∧ x - y < 170141183460469231731687303715884105728
              · simp [wide_Sub.c, wd, lb, sWBits, sWFrom, sLimbSub, fitW, dx, dy, d1, d2, d3, hxn, hyn, ho, hh, wz, hxs, hys, hs, hf] <;> omega
              · simp [wide_Sub.c, wd, lb, sWBits, sWFrom, sLimbSub, fitW, dx, dy, d1, d2, d3, hxn, hyn, ho, hh, wz, hxs, hys, hs, hf] <;> omega
            · have hs : (x - (y + 340282366920938463463374607431768211456) + 340282366920938463463374607431768211456 - 340282366920938463463374607431768211456) / 18446744073709551616 / 9223372036854775808 = -1 := by omega
              by_cases hf : -170141183460469231731687303715884105728 ≤ x - y ∧ x - y < 170141183460469231731687303715884105728
              · simp [wide_Sub.c, wd, lb, sWBits, sWFrom, sLimbSub, fitW, dx, dy, d1, d2, d3, hxn, hyn, ho, hh, wz, hxs, hys, hs, hf] <;> omega
              · simp [wide_Sub.c, wd, lb, sWBits, sWFrom, sLimbSub, fitW, dx, dy, d1, d2, d3, hxn, hyn, ho, hh, wz, hxs, hys, hs, hf] <;> omega
          · have e : x - (y + 340282366920938463463374607431768211456) = x - (y + 340282366920938463463374607431768211456) := rfl
            have d3 := dL_lb (show 0 ≤ x - (y + 340282366920938463463374607431768211456) by omega) (show x - (y + 340282366920938463463374607431768211456) < 340282366920938463463374607431768211456 by omega)
            by_cases hh : x - (y + 340282366920938463463374607431768211456) < 170141183460469231731687303715884105728
            · have hs : (x - (y + 340282366920938463463374607431768211456)) / 18446744073709551616 / 9223372036854775808 = 0 := by omega
              by_cases hf : -170141183460469231731687303715884105728 ≤ x - y ∧ x - y < 170141183460469231731687303715884105728
              · simp [wide_Sub.c, wd, lb, sWBits, sWFrom, sLimbSub, fitW, dx, dy, d1, d2, d3, hxn, hyn, ho, hh, wz, hxs, hys, hs, hf] <;> omega
              · simp [wide_Sub.c, wd, lb, sWBits, sWFrom, sLimbSub, fitW, dx, dy, d1, d2, d3, hxn, hyn, ho, hh, wz, hxs, hys, hs, hf] <;> omega
            · have hs : (x - (y + 340282366920938463463374607431768211456) - 340282366920938463463374607431768211456) / 18446744073709551616 / 9223372036854775808 = -1 := by omega
              by_cases hf : -170141183460469231731687303715884105728 ≤ x - y ∧ x - y < 170141183460469231731687303715884105728
              · simp [wide_Sub.c, wd, lb, sWBits, sWFrom, sLimbSub, fitW, dx, dy, d1, d2, d3, hxn, hyn, ho, hh, wz, hxs, hys, hs, hf] <;> omega
              · simp [wide_Sub.c, wd, lb, sWBits, sWFrom, sLimbSub, fitW, dx, dy, d1, d2, d3, hxn, hyn, ho, hh, wz, hxs, hys, hs, hf] <;> omega
        · skip
          have hxs : x / 18446744073709551616 / 9223372036854775808 = 0 := by omega
          have hys : y / 18446744073709551616 / 9223372036854775808 = 0 := by omega
          have d1 := dL_lb (show 0 ≤ x by omega) (show x < 340282366920938463463374607431768211456 by omega)
          have d2 := dL_lb (show 0 ≤ y by omega) (show y < 340282366920938463463374607431768211456 by omega)
          by_cases ho : x < y
          · have e : x - y + 340282366920938463463374607431768211456 = x - y + 340282366920938463463374607431768211456 := rfl
            have d3 := dL_lb (show 0 ≤ x - y + 340282366920938463463374607431768211456 by omega) (show x - y + 340282366920938463463374607431768211456 < 340282366920938463463374607431768211456 by omega)
            by_cases hh : x - y + 340282366920938463463374607431768211456 < 170141183460469231731687303715884105728
            · have hs : (x - y + 340282366920938463463374607431768211456) / 18446744073709551616 / 9223372036854775808 = 0 := by omega
              by_cases hf : -170141183460469231731687303715884105728 ≤ x - y ∧ x - y < 170141183460469231731687303715884105728
              · simp [wide_Sub.c, wd, lb, sWBits, sWFrom, sLimbSub, fitW, dx, dy, d1, d2, d3, hxn, hyn, ho, hh, wz, hxs, hys, hs, hf] <;> omega
              · simp [wide_Sub.c, wd, lb, sWBits, sWFrom, sLimbSub, fitW, dx, dy, d1, d2, d3, hxn, hyn, ho, hh, wz, hxs, hys, hs, hf] <;> omega
            · have hs : (x - y + 340282366920938463463374607431768211456 - 340282366920938463463374607431768211456) / 18446744073709551616 / 9223372036854775808 = -1 := by omega
              by_cases hf : -170141183460469231731687303715884105728 ≤ x - y ∧ x - y < 170141183460469231731687303715884105728
              · simp [wide_Sub.c, wd, lb, sWBits, sWFrom, sLimbSub, fitW, dx, dy, d1, d2, d3, hxn, hyn, ho, hh, wz, hxs, hys, hs, hf] <;> omega
              · simp [wide_Sub.c, wd, lb, sWBits, sWFrom, sLimbSub, fitW, dx, dy, d1, d2, d3, hxn, hyn, ho, hh, wz, hxs, hys, hs, hf] <;> omega
          · have e : x - y = x - y := rfl
            have d3 := dL_lb (show 0 ≤ x - y by omega) (show x - y < 340282366920938463463374607431768211456 by omega)
            by_cases hh : x - y < 170141183460469231731687303715884105728
            · have hs : (x - y) / 18446744073709551616 / 9223372036854775808 = 0 := by omega
              by_cases hf : -170141183460469231731687303715884105728 ≤ x - y ∧ x - y < 170141183460469231731687303715884105728
              · simp [wide_Sub.c, wd, lb, sWBits, sWFrom, sLimbSub, fitW, dx, dy, d1, d2, d3, hxn, hyn, ho, hh, wz, hxs, hys, hs, hf] <;> omega
              · simp [wide_Sub.c, wd, lb, sWBits, sWFrom, sLimbSub, fitW, dx, dy, d1, d2, d3, hxn, hyn, ho, hh, wz, hxs, hys, hs, hf] <;> omega
            · have hs : (x - y - 340282366920938463463374607431768211456) / 18446744073709551616 / 9223372036854775808 = -1 := by omega
              by_cases hf : -170141183460469231731687303715884105728 ≤ x - y ∧ x - y < 170141183460469231731687303715884105728
              · simp [wide_Sub.c, wd, lb, sWBits, sWFrom, sLimbSub, fitW, dx, dy, d1, d2, d3, hxn, hyn, ho, hh, wz, hxs, hys, hs, hf] <;> omega
              · simp [wide_Sub.c, wd, lb, sWBits, sWFrom, sLimbSub, fitW, dx, dy, d1, d2, d3, hxn, hyn, ho, hh, wz, hxs, hys, hs, hf] <;> omega
    · cases h
  · cases h
end Go.Proofs.Ytanolecbepjkcaa.E
/- What wide.Mul, wide.MulDiv and wide.Div do. -/
namespace Go.Proofs.Ytanolecbepjkcaa.E
open Go.VC Go.RowKit

def sWMul : List AP → Option AV
  | [a, b] => match dW a, dW b with
    | some x, some y => some (fitW (x * y))
    | _, _ => none
  | _ => none
theorem okWMul : Ok Try.prog 85 sWMul := ok_of' Try.func85 wide_Mul.ent wide_Mul.chk (specOk_cons okWSize (specOk_cons okLimbMul (specOk_cons okWSigned specOk_nil))) fun av r h => by
  unfold sWMul at h
  split at h
  · split at h
    · rename_i a b x1 x2 x y hx hy
      cases h
      obtain ⟨rfl, hx0, hx1⟩ := dW_some hx
      obtain ⟨rfl, hy0, hy1⟩ := dW_some hy
      have dx := dW_wd hx0 hx1
      have dy := dW_wd hy0 hy1
      refine ⟨by simp [wide_Mul.c], 0, ?_⟩
      by_cases hxn : x < 0
      · by_cases hyn : y < 0
        · have hxs : x / 18446744073709551616 < 0 := by omega
          have hys : y / 18446744073709551616 < 0 := by omega
          have d1 := dL_lb (show 0 ≤ -x by omega) (show -x < 340282366920938463463374607431768211456 by omega)
          have d2 := dL_lb (show 0 ≤ -y by omega) (show -y < 340282366920938463463374607431768211456 by omega)
          obtain ⟨Q, hQ⟩ : ∃ Q, Q = (-x) * (-y) := ⟨_, rfl⟩
          have hQ0 : 0 ≤ Q := by rw [hQ]; exact Int.mul_nonneg (by omega) (by omega)
          have hQ1 : Q ≤ 170141183460469231731687303715884105728 * 170141183460469231731687303715884105728 := by rw [hQ]; exact Int.mul_le_mul (by omega) (by omega) (by omega) (by decide)
          have hxy : x * y = Q := by rw [hQ] <;> grind
          have hQs : -x * -y = Q := hQ.symm
          clear hQ
          by_cases hM : Q < 340282366920938463463374607431768211456
          · have z1 : Q / 340282366920938463463374607431768211456 = 0 := by omega
            have z2 : Q % 340282366920938463463374607431768211456 = Q := by omega
            have z3 := dL_lb hQ0 hM
            by_cases hf : Q < 170141183460469231731687303715884105728
            · have hf2 : -170141183460469231731687303715884105728 ≤ Q := by omega
              simp [wide_Mul.c, wd, lb, sWSize, sLimbMul, sWSigned, fitW, dx, dy, d1, d2, hxn, hyn, hxs, hys, hQs, hxy, z1, z2, z3, hf, hf2]
            · simp [wide_Mul.c, wd, lb, sWSize, sLimbMul, sWSigned, fitW, dx, dy, d1, d2, hxn, hyn, hxs, hys, hQs, hxy, z1, z2, z3, hf]
          · have hf : ¬ Q < 170141183460469231731687303715884105728 := by omega
            by_cases z1 : Q / 340282366920938463463374607431768211456 / 18446744073709551616 = 0
            · have z2 : ¬ Q / 340282366920938463463374607431768211456 % 18446744073709551616 = 0 := by omega
              simp [wide_Mul.c, wd, lb, sWSize, sLimbMul, sWSigned, fitW, dx, dy, d1, d2, hxn, hyn, hxs, hys, hQs, hxy, z1, z2, hf] <;> omega
            · simp [wide_Mul.c, wd, lb, sWSize, sLimbMul, sWSigned, fitW, dx, dy, d1, d2, hxn, hyn, hxs, hys, hQs, hxy, z1, hf] <;> omega
        · have hxs : x / 18446744073709551616 < 0 := by omega
          have hys : ¬ y / 18446744073709551616 < 0 := by omega
          have d1 := dL_lb (show 0 ≤ -x by omega) (show -x < 340282366920938463463374607431768211456 by omega)
          have d2 := dL_lb (show 0 ≤ y by omega) (show y < 340282366920938463463374607431768211456 by omega)
          obtain ⟨Q, hQ⟩ : ∃ Q, Q = (-x) * y := ⟨_, rfl⟩
          have hQ0 : 0 ≤ Q := by rw [hQ]; exact Int.mul_nonneg (by omega) (by omega)
          have hQ1 : Q ≤ 170141183460469231731687303715884105728 * 170141183460469231731687303715884105728 := by rw [hQ]; exact Int.mul_le_mul (by omega) (by omega) (by omega) (by decide)
          have hxy : x * y = -Q := by rw [hQ] <;> grind
          have hQs : -x * y = Q := hQ.symm
          clear hQ
          by_cases hM : Q < 340282366920938463463374607431768211456
          · have z1 : Q / 340282366920938463463374607431768211456 = 0 := by omega
            have z2 : Q % 340282366920938463463374607431768211456 = Q := by omega
            have z3 := dL_lb hQ0 hM
            by_cases hf : Q ≤ 170141183460469231731687303715884105728
            · have hf2 : -170141183460469231731687303715884105728 ≤ -Q ∧ -Q < 170141183460469231731687303715884105728 := by omega
              simp [wide_Mul.c, wd, lb, sWSize, sLimbMul, sWSigned, fitW, dx, dy, d1, d2, hxn, hyn, hxs, hys, hQs, hxy, z1, z2, z3, hf, hf2]
            · have hf2 : ¬ (-170141183460469231731687303715884105728 ≤ -Q ∧ -Q < 170141183460469231731687303715884105728) := by omega
              simp [wide_Mul.c, wd, lb, sWSize, sLimbMul, sWSigned, fitW, dx, dy, d1, d2, hxn, hyn, hxs, hys, hQs, hxy, z1, z2, z3, hf, hf2]
          · have hf : ¬ (-170141183460469231731687303715884105728 ≤ -Q ∧ -Q < 170141183460469231731687303715884105728) := by omega
            by_cases z1 : Q / 340282366920938463463374607431768211456 / 18446744073709551616 = 0
            · have z2 : ¬ Q / 340282366920938463463374607431768211456 % 18446744073709551616 = 0 := by omega
              simp [wide_Mul.c, wd, lb, sWSize, sLimbMul, sWSigned, fitW, dx, dy, d1, d2, hxn, hyn, hxs, hys, hQs, hxy, z1, z2, hf] <;> omega
            · simp [wide_Mul.c, wd, lb, sWSize, sLimbMul, sWSigned, fitW, dx, dy, d1, d2, hxn, hyn, hxs, hys, hQs, hxy, z1, hf] <;> omega
      · by_cases hyn : y < 0
        · have hxs : ¬ x / 18446744073709551616 < 0 := by omega
          have hys : y / 18446744073709551616 < 0 := by omega
          have d1 := dL_lb (show 0 ≤ x by omega) (show x < 340282366920938463463374607431768211456 by omega)
          have d2 := dL_lb (show 0 ≤ -y by omega) (show -y < 340282366920938463463374607431768211456 by omega)
          obtain ⟨Q, hQ⟩ : ∃ Q, Q = x * (-y) := ⟨_, rfl⟩
          have hQ0 : 0 ≤ Q := by rw [hQ]; exact Int.mul_nonneg (by omega) (by omega)
          have hQ1 : Q ≤ 170141183460469231731687303715884105728 * 170141183460469231731687303715884105728 := by rw [hQ]; exact Int.mul_le_mul (by omega) (by omega) (by omega) (by decide)
          have hxy : x * y = -Q := by rw [hQ] <;> grind
          have hQs : x * -y = Q := hQ.symm
          clear hQ
          by_cases hM : Q < 340282366920938463463374607431768211456
          · have z1 : Q / 340282366920938463463374607431768211456 = 0 := by omega
            have z2 : Q % 340282366920938463463374607431768211456 = Q := by omega
            have z3 := dL_lb hQ0 hM
            by_cases hf : Q ≤ 170141183460469231731687303715884105728
            · have hf2 : -170141183460469231731687303715884105728 ≤ -Q ∧ -Q < 170141183460469231731687303715884105728 := by omega
              simp [wide_Mul.c, wd, lb, sWSize, sLimbMul, sWSigned, fitW, dx, dy, d1, d2, hxn, hyn, hxs, hys, hQs, hxy, z1, z2, z3, hf, hf2]
            · have hf2 : ¬ (-170141183460469231731687303715884105728 ≤ -Q ∧ -Q < 170141183460469231731687303715884105728) := by omega
              simp [wide_Mul.c, wd, lb, sWSize, sLimbMul, sWSigned, fitW, dx, dy, d1, d2, hxn, hyn, hxs, hys, hQs, hxy, z1, z2, z3, hf, hf2]
          · have hf : ¬ (-170141183460469231731687303715884105728 ≤ -Q ∧ -Q < 170141183460469231731687303715884105728) := by omega
            by_cases z1 : Q / 340282366920938463463374607431768211456 / 18446744073709551616 = 0
            · have z2 : ¬ Q / 340282366920938463463374607431768211456 % 18446744073709551616 = 0 := by omega
              simp [wide_Mul.c, wd, lb, sWSize, sLimbMul, sWSigned, fitW, dx, dy, d1, d2, hxn, hyn, hxs, hys, hQs, hxy, z1, z2, hf] <;> omega
            · simp [wide_Mul.c, wd, lb, sWSize, sLimbMul, sWSigned, fitW, dx, dy, d1, d2, hxn, hyn, hxs, hys, hQs, hxy, z1, hf] <;> omega
        · have hxs : ¬ x / 18446744073709551616 < 0 := by omega
          have hys : ¬ y / 18446744073709551616 < 0 := by omega
          have d1 := dL_lb (show 0 ≤ x by omega) (show x < 340282366920938463463374607431768211456 by omega)
          have d2 := dL_lb (show 0 ≤ y by omega) (show y < 340282366920938463463374607431768211456 by omega)
          obtain ⟨Q, hQ⟩ : ∃ Q, Q = x * y := ⟨_, rfl⟩
          have hQ0 : 0 ≤ Q := by rw [hQ]; exact Int.mul_nonneg (by omega) (by omega)
          have hQ1 : Q ≤ 170141183460469231731687303715884105728 * 170141183460469231731687303715884105728 := by rw [hQ]; exact Int.mul_le_mul (by omega) (by omega) (by omega) (by decide)
          have hxy : x * y = Q := by rw [hQ] <;> grind
          have hQs : x * y = Q := hQ.symm
          clear hQ
          by_cases hM : Q < 340282366920938463463374607431768211456
          · have z1 : Q / 340282366920938463463374607431768211456 = 0 := by omega
            have z2 : Q % 340282366920938463463374607431768211456 = Q := by omega
            have z3 := dL_lb hQ0 hM
            by_cases hf : Q < 170141183460469231731687303715884105728
            · have hf2 : -170141183460469231731687303715884105728 ≤ Q := by omega
              simp [wide_Mul.c, wd, lb, sWSize, sLimbMul, sWSigned, fitW, dx, dy, d1, d2, hxn, hyn, hxs, hys, hQs, hxy, z1, z2, z3, hf, hf2]
            · simp [wide_Mul.c, wd, lb, sWSize, sLimbMul, sWSigned, fitW, dx, dy, d1, d2, hxn, hyn, hxs, hys, hQs, hxy, z1, z2, z3, hf]
          · have hf : ¬ Q < 170141183460469231731687303715884105728 := by omega
            by_cases z1 : Q / 340282366920938463463374607431768211456 / 18446744073709551616 = 0
            · have z2 : ¬ Q / 340282366920938463463374607431768211456 % 18446744073709551616 = 0 := by omega
              simp [wide_Mul.c, wd, lb, sWSize, sLimbMul, sWSigned, fitW, dx, dy, d1, d2, hxn, hyn, hxs, hys, hQs, hxy, z1, z2, hf] <;> omega
            · simp [wide_Mul.c, wd, lb, sWSize, sLimbMul, sWSigned, fitW, dx, dy, d1, d2, hxn, hyn, hxs, hys, hQs, hxy, z1, hf] <;> omega
    · cases h
  · cases h

/-- A quotient and what is left; whether it fits. -/
def divW (P d : Int) : AV := if d ≤ 0 then .t [wd 0, wd 0, iv .i64 3] else if -170141183460469231731687303715884105728 ≤ P / d ∧ P / d < 170141183460469231731687303715884105728 then .t [wd (P / d), wd (P % d), iv .i64 0] else .t [wd 0, wd 0, iv .i64 2]
def sWMulDiv : List AP → Option AV
  | [a, b, c] => match dW a, dW b, dW c with
    | some x, some y, some d => some (divW (x * y) d)
    | _, _, _ => none
  | _ => none
abbrev spMD : List (Nat × (List AP → Option AV)) := [(111, sWAbove), (108, sWSize), (107, sLimbMul), (105, sWBits), (112, sLimbDiv), (109, sWSigned), (106, sWFrom), (113, sWLeast), (78, sWOf), (99, sWSub), (114, sLimbSub)]
theorem okSpMD : SpecOk Try.prog (spOf spMD) := specOk_cons okWAbove (specOk_cons okWSize (specOk_cons okLimbMul (specOk_cons okWBits (specOk_cons okLimbDiv (specOk_cons okWSigned (specOk_cons okWFrom (specOk_cons okWLeast (specOk_cons okWOf (specOk_cons okWSub (specOk_cons okLimbSub specOk_nil))))))))))
theorem dL00 : dL (.g [.v (.int .u64 0), .v (.int .u64 0)]) = some 0 := by decide
theorem dLh : dL (.g [.v (.int .u64 9223372036854775808), .v (.int .u64 0)]) = some 170141183460469231731687303715884105728 := by decide
theorem dW1 : dW (.g [.v (.int .i64 0), .v (.int .u64 1)]) = some 1 := by decide
theorem dWm : dW (.g [.v (.int .i64 (-9223372036854775808)), .v (.int .u64 0)]) = some (-170141183460469231731687303715884105728) := by decide
theorem okWMulDiv : Ok Try.prog 96 sWMulDiv := ok_of' Try.func96 wide_MulDiv.ent wide_MulDiv.chk okSpMD fun av r h => by
  unfold sWMulDiv at h
  split at h
  · split at h
    · rename_i a b c x1 x2 x3 x y d hx hy hz
      cases h
      obtain ⟨rfl, hx0, hx1⟩ := dW_some hx
      obtain ⟨rfl, hy0, hy1⟩ := dW_some hy
      obtain ⟨rfl, hd0, hd1⟩ := dW_some hz
      have dx := dW_wd hx0 hx1
      have dy := dW_wd hy0 hy1
      have dd := dW_wd hd0 hd1
      refine ⟨by simp [wide_MulDiv.c], 0, ?_⟩
      unfold divW
      by_cases hd : 0 < d
      · have hdn : ¬ d < 0 := by omega
        have hdl : ¬ d ≤ 0 := by omega
        rw [if_neg hdl]
        have dD := dL_lb (show 0 ≤ d by omega) (show d < 340282366920938463463374607431768211456 by omega)
        by_cases hxn : x < 0
        · by_cases hyn : y < 0
          · have hxs : x / 18446744073709551616 < 0 := by omega
            have hys : y / 18446744073709551616 < 0 := by omega
            have d1 := dL_lb (show 0 ≤ -x by omega) (show -x < 340282366920938463463374607431768211456 by omega)
            have d2 := dL_lb (show 0 ≤ -y by omega) (show -y < 340282366920938463463374607431768211456 by omega)
            obtain ⟨Q, hQ⟩ : ∃ Q, Q = (-x) * (-y) := ⟨_, rfl⟩
            have hQ0 : 0 ≤ Q := by rw [hQ]; exact Int.mul_nonneg (by omega) (by omega)
            have hQ1 : Q ≤ 170141183460469231731687303715884105728 * 170141183460469231731687303715884105728 := by rw [hQ]; exact Int.mul_le_mul (by omega) (by omega) (by omega) (by decide)
            have hxy : x * y = Q := by rw [hQ] <;> grind
            have hQs : -x * -y = Q := hQ.symm
            clear hQ
            have dhi := dL_lb (show 0 ≤ Q / 340282366920938463463374607431768211456 by omega) (show Q / 340282366920938463463374607431768211456 < 340282366920938463463374607431768211456 by omega)
            have dlo := dL_lb (show 0 ≤ Q % 340282366920938463463374607431768211456 by omega) (show Q % 340282366920938463463374607431768211456 < 340282366920938463463374607431768211456 by omega)
            rw [show Q % 340282366920938463463374607431768211456 % 18446744073709551616 = Q % 18446744073709551616 by omega] at dlo
            have hN : Q / 340282366920938463463374607431768211456 * 340282366920938463463374607431768211456 + Q % 340282366920938463463374607431768211456 = Q := by omega
            have n2 := Int.mul_ediv_add_emod Q d
            have n0 : 0 ≤ Q / d := Int.ediv_nonneg hQ0 (by omega)
            have l0 : 0 ≤ Q % d := Int.emod_nonneg _ (by omega)
            have l1 : Q % d < d := Int.emod_lt_of_pos _ (by omega)
            by_cases hk : Q / 340282366920938463463374607431768211456 < d
            · have n1 : Q / d < 340282366920938463463374607431768211456 := Int.ediv_lt_of_lt_mul (by omega) (by omega)
              generalize hnd : Q / d = n at *
              generalize hld : Q % d = t at *
              have dn := dL_lb n0 n1
              have dt := dL_lb l0 (show t < 340282366920938463463374607431768211456 by omega)
              have ht : t < 170141183460469231731687303715884105728 := by omega
              by_cases hf : n < 170141183460469231731687303715884105728
              · have hf2 : -170141183460469231731687303715884105728 ≤ n := by omega
                simp [wide_MulDiv.c, wd, lb, sWAbove, sWSize, sLimbMul, sWBits, sLimbDiv, sWSigned, sWFrom, sWLeast, sWOf, sWSub, sLimbSub, fitW, dx, dy, dd, dD, hd, hdn, d1, d2, hxn, hyn, hxs, hys, hQs, hxy, dhi, dlo, hN, dL00, dLh, hk, hnd, hld, dn, dt, ht, hf, hf2]
              · simp [wide_MulDiv.c, wd, lb, sWAbove, sWSize, sLimbMul, sWBits, sLimbDiv, sWSigned, sWFrom, sWLeast, sWOf, sWSub, sLimbSub, fitW, dx, dy, dd, dD, hd, hdn, d1, d2, hxn, hyn, hxs, hys, hQs, hxy, dhi, dlo, hN, dL00, dLh, hk, hnd, hld, dn, dt, hf]
            · have hf : ¬ Q / d < 170141183460469231731687303715884105728 := by
                intro h
                have h2 : (Q / d + 1) * d ≤ 170141183460469231731687303715884105728 * d := Int.mul_le_mul_of_nonneg_right (by omega) (by omega)
                have h3 : Q < (Q / d + 1) * d := by rw [Int.add_mul, Int.one_mul, Int.mul_comm]; omega
                omega
              simp [wide_MulDiv.c, wd, lb, sWAbove, sWSize, sLimbMul, sWBits, sLimbDiv, sWSigned, sWFrom, sWLeast, sWOf, sWSub, sLimbSub, fitW, dx, dy, dd, dD, hd, hdn, d1, d2, hxn, hyn, hxs, hys, hQs, hxy, dhi, dlo, hN, dL00, dLh, hk, hf]
          · have hxs : x / 18446744073709551616 < 0 := by omega
            have hys : ¬ y / 18446744073709551616 < 0 := by omega
            have d1 := dL_lb (show 0 ≤ -x by omega) (show -x < 340282366920938463463374607431768211456 by omega)
            have d2 := dL_lb (show 0 ≤ y by omega) (show y < 340282366920938463463374607431768211456 by omega)
            obtain ⟨Q, hQ⟩ : ∃ Q, Q = (-x) * y := ⟨_, rfl⟩
            have hQ0 : 0 ≤ Q := by rw [hQ]; exact Int.mul_nonneg (by omega) (by omega)
            have hQ1 : Q ≤ 170141183460469231731687303715884105728 * 170141183460469231731687303715884105728 := by rw [hQ]; exact Int.mul_le_mul (by omega) (by omega) (by omega) (by decide)
            have hxy : x * y = -Q := by rw [hQ] <;> grind
            have hQs : -x * y = Q := hQ.symm
            clear hQ
            have dhi := dL_lb (show 0 ≤ Q / 340282366920938463463374607431768211456 by omega) (show Q / 340282366920938463463374607431768211456 < 340282366920938463463374607431768211456 by omega)
            have dlo := dL_lb (show 0 ≤ Q % 340282366920938463463374607431768211456 by omega) (show Q % 340282366920938463463374607431768211456 < 340282366920938463463374607431768211456 by omega)
            rw [show Q % 340282366920938463463374607431768211456 % 18446744073709551616 = Q % 18446744073709551616 by omega] at dlo
            have hN : Q / 340282366920938463463374607431768211456 * 340282366920938463463374607431768211456 + Q % 340282366920938463463374607431768211456 = Q := by omega
            have n2 := Int.mul_ediv_add_emod Q d
            have n0 : 0 ≤ Q / d := Int.ediv_nonneg hQ0 (by omega)
            have l0 : 0 ≤ Q % d := Int.emod_nonneg _ (by omega)
            have l1 : Q % d < d := Int.emod_lt_of_pos _ (by omega)
            have hdiv : -Q / d = (if Q % d = 0 then -(Q / d) else -(Q / d) - 1) ∧ -Q % d = (if Q % d = 0 then 0 else d - Q % d) := by
              rw [Int.ediv_emod_unique (by omega)]
              split
              · refine ⟨?_, by omega, by omega⟩; rw [Int.mul_neg]; omega
              · refine ⟨?_, by omega, by omega⟩; rw [Int.mul_sub, Int.mul_neg, Int.mul_one]; omega
            by_cases hk : Q / 340282366920938463463374607431768211456 < d
            · have n1 : Q / d < 340282366920938463463374607431768211456 := Int.ediv_lt_of_lt_mul (by omega) (by omega)
              obtain ⟨hdv, hdm⟩ := hdiv
              generalize hnd : Q / d = n at *
              generalize hld : Q % d = t at *
              have dn := dL_lb n0 n1
              have dt := dL_lb l0 (show t < 340282366920938463463374607431768211456 by omega)
              have ht : t < 170141183460469231731687303715884105728 := by omega
              by_cases ht0 : t = 0
              · rw [if_pos ht0] at hdv hdm
                subst ht0
                by_cases hf : n ≤ 170141183460469231731687303715884105728
                · have hf2 : -170141183460469231731687303715884105728 ≤ -n ∧ -n < 170141183460469231731687303715884105728 := by omega
                  simp [wide_MulDiv.c, wd, lb, sWAbove, sWSize, sLimbMul, sWBits, sLimbDiv, sWSigned, sWFrom, sWLeast, sWOf, sWSub, sLimbSub, fitW, dx, dy, dd, dD, hd, hdn, d1, d2, hxn, hyn, hxs, hys, hQs, hxy, dhi, dlo, hN, dL00, dLh, hk, hnd, hld, dn, dt, ht, hf, hf2, hdv, hdm]
                · have hf2 : ¬ (-170141183460469231731687303715884105728 ≤ -n ∧ -n < 170141183460469231731687303715884105728) := by omega
                  simp [wide_MulDiv.c, wd, lb, sWAbove, sWSize, sLimbMul, sWBits, sLimbDiv, sWSigned, sWFrom, sWLeast, sWOf, sWSub, sLimbSub, fitW, dx, dy, dd, dD, hd, hdn, d1, d2, hxn, hyn, hxs, hys, hQs, hxy, dhi, dlo, hN, dL00, dLh, hk, hnd, hld, dn, dt, hf, hf2, hdv, hdm]
              · rw [if_neg ht0] at hdv hdm
                by_cases hf : n ≤ 170141183460469231731687303715884105728
                · have dqn := dW_wd (show -170141183460469231731687303715884105728 ≤ -n by omega) (show -n < 170141183460469231731687303715884105728 by omega)
                  by_cases hl : n = 170141183460469231731687303715884105728
                  · subst hl
                    by_cases z1 : t / 18446744073709551616 = 0
                    · have z2 : ¬ t % 18446744073709551616 = 0 := by omega
                      simp [wide_MulDiv.c, wd, lb, sWAbove, sWSize, sLimbMul, sWBits, sLimbDiv, sWSigned, sWFrom, sWLeast, sWOf, sWSub, sLimbSub, fitW, dx, dy, dd, dD, hd, hdn, d1, d2, hxn, hyn, hxs, hys, hQs, hxy, dhi, dlo, hN, dL00, dLh, hk, hnd, hld, dn, dt, ht0, hf, hdv, hdm, z1, z2, dWm]
                    · simp [wide_MulDiv.c, wd, lb, sWAbove, sWSize, sLimbMul, sWBits, sLimbDiv, sWSigned, sWFrom, sWLeast, sWOf, sWSub, sLimbSub, fitW, dx, dy, dd, dD, hd, hdn, d1, d2, hxn, hyn, hxs, hys, hQs, hxy, dhi, dlo, hN, dL00, dLh, hk, hnd, hld, dn, dt, ht0, hf, hdv, hdm, z1, dWm]
                  · have hl2 : ¬ -n = -170141183460469231731687303715884105728 := by omega
                    have hf2 : -170141183460469231731687303715884105728 ≤ -n - 1 ∧ -n - 1 < 170141183460469231731687303715884105728 := by omega
                    have hs : ¬ d < t := by omega
                    have dr := dL_lb (show 0 ≤ d - t by omega) (show d - t < 340282366920938463463374607431768211456 by omega)
                    have hr : d - t < 170141183460469231731687303715884105728 := by omega
                    by_cases z1 : t / 18446744073709551616 = 0
                    · have z2 : ¬ t % 18446744073709551616 = 0 := by omega
                      have dt0 := dt
                      rw [z1] at dt0
                      simp [wide_MulDiv.c, wd, lb, sWAbove, sWSize, sLimbMul, sWBits, sLimbDiv, sWSigned, sWFrom, sWLeast, sWOf, sWSub, sLimbSub, fitW, dx, dy, dd, dD, hd, hdn, d1, d2, hxn, hyn, hxs, hys, hQs, hxy, dhi, dlo, hN, dL00, dLh, hk, hnd, hld, dn, dt0, ht, ht0, hf, hdv, hdm, z1, z2, dqn, hl, hl2, hf2, dW1, hs, dr, hr]
                    · simp [wide_MulDiv.c, wd, lb, sWAbove, sWSize, sLimbMul, sWBits, sLimbDiv, sWSigned, sWFrom, sWLeast, sWOf, sWSub, sLimbSub, fitW, dx, dy, dd, dD, hd, hdn, d1, d2, hxn, hyn, hxs, hys, hQs, hxy, dhi, dlo, hN, dL00, dLh, hk, hnd, hld, dn, dt, ht, ht0, hf, hdv, hdm, z1, dqn, hl, hl2, hf2, dW1, hs, dr, hr]
                · have hf2 : ¬ (-170141183460469231731687303715884105728 ≤ -n - 1 ∧ -n - 1 < 170141183460469231731687303715884105728) := by omega
                  simp [wide_MulDiv.c, wd, lb, sWAbove, sWSize, sLimbMul, sWBits, sLimbDiv, sWSigned, sWFrom, sWLeast, sWOf, sWSub, sLimbSub, fitW, dx, dy, dd, dD, hd, hdn, d1, d2, hxn, hyn, hxs, hys, hQs, hxy, dhi, dlo, hN, dL00, dLh, hk, hnd, hld, dn, dt, hf, hf2, hdv, hdm]
            · have hf : ¬ (-170141183460469231731687303715884105728 ≤ -Q / d ∧ -Q / d < 170141183460469231731687303715884105728) := by
                intro h
                have h1 := hdiv.1
                have h4 : Q / d ≤ 170141183460469231731687303715884105728 := by split at h1 <;> omega
                have h2 : (Q / d + 1) * d ≤ (170141183460469231731687303715884105728 + 1) * d := Int.mul_le_mul_of_nonneg_right (by omega) (by omega)
                have h3 : Q < (Q / d + 1) * d := by rw [Int.add_mul, Int.one_mul, Int.mul_comm]; omega
                omega
              simp [wide_MulDiv.c, wd, lb, sWAbove, sWSize, sLimbMul, sWBits, sLimbDiv, sWSigned, sWFrom, sWLeast, sWOf, sWSub, sLimbSub, fitW, dx, dy, dd, dD, hd, hdn, d1, d2, hxn, hyn, hxs, hys, hQs, hxy, dhi, dlo, hN, dL00, dLh, hk, hf]
        · by_cases hyn : y < 0
          · have hxs : ¬ x / 18446744073709551616 < 0 := by omega
            have hys : y / 18446744073709551616 < 0 := by omega
            have d1 := dL_lb (show 0 ≤ x by omega) (show x < 340282366920938463463374607431768211456 by omega)
            have d2 := dL_lb (show 0 ≤ -y by omega) (show -y < 340282366920938463463374607431768211456 by omega)
            obtain ⟨Q, hQ⟩ : ∃ Q, Q = x * (-y) := ⟨_, rfl⟩
            have hQ0 : 0 ≤ Q := by rw [hQ]; exact Int.mul_nonneg (by omega) (by omega)
            have hQ1 : Q ≤ 170141183460469231731687303715884105728 * 170141183460469231731687303715884105728 := by rw [hQ]; exact Int.mul_le_mul (by omega) (by omega) (by omega) (by decide)
            have hxy : x * y = -Q := by rw [hQ] <;> grind
            have hQs : x * -y = Q := hQ.symm
            clear hQ
            have dhi := dL_lb (show 0 ≤ Q / 340282366920938463463374607431768211456 by omega) (show Q / 340282366920938463463374607431768211456 < 340282366920938463463374607431768211456 by omega)
            have dlo := dL_lb (show 0 ≤ Q % 340282366920938463463374607431768211456 by omega) (show Q % 340282366920938463463374607431768211456 < 340282366920938463463374607431768211456 by omega)
            rw [show Q % 340282366920938463463374607431768211456 % 18446744073709551616 = Q % 18446744073709551616 by omega] at dlo
            have hN : Q / 340282366920938463463374607431768211456 * 340282366920938463463374607431768211456 + Q % 340282366920938463463374607431768211456 = Q := by omega
            have n2 := Int.mul_ediv_add_emod Q d
            have n0 : 0 ≤ Q / d := Int.ediv_nonneg hQ0 (by omega)
            have l0 : 0 ≤ Q % d := Int.emod_nonneg _ (by omega)
            have l1 : Q % d < d := Int.emod_lt_of_pos _ (by omega)
            have hdiv : -Q / d = (if Q % d = 0 then -(Q / d) else -(Q / d) - 1) ∧ -Q % d = (if Q % d = 0 then 0 else d - Q % d) := by
              rw [Int.ediv_emod_unique (by omega)]
              split
              · refine ⟨?_, by omega, by omega⟩; rw [Int.mul_neg]; omega
              · refine ⟨?_, by omega, by omega⟩; rw [Int.mul_sub, Int.mul_neg, Int.mul_one]; omega
            by_cases hk : Q / 340282366920938463463374607431768211456 < d
            · have n1 : Q / d < 340282366920938463463374607431768211456 := Int.ediv_lt_of_lt_mul (by omega) (by omega)
              obtain ⟨hdv, hdm⟩ := hdiv
              generalize hnd : Q / d = n at *
              generalize hld : Q % d = t at *
              have dn := dL_lb n0 n1
              have dt := dL_lb l0 (show t < 340282366920938463463374607431768211456 by omega)
              have ht : t < 170141183460469231731687303715884105728 := by omega
              by_cases ht0 : t = 0
              · rw [if_pos ht0] at hdv hdm
                subst ht0
                by_cases hf : n ≤ 170141183460469231731687303715884105728
                · have hf2 : -170141183460469231731687303715884105728 ≤ -n ∧ -n < 170141183460469231731687303715884105728 := by omega
                  simp [wide_MulDiv.c, wd, lb, sWAbove, sWSize, sLimbMul, sWBits, sLimbDiv, sWSigned, sWFrom, sWLeast, sWOf, sWSub, sLimbSub, fitW, dx, dy, dd, dD, hd, hdn, d1, d2, hxn, hyn, hxs, hys, hQs, hxy, dhi, dlo, hN, dL00, dLh, hk, hnd, hld, dn, dt, ht, hf, hf2, hdv, hdm]
                · have hf2 : ¬ (-170141183460469231731687303715884105728 ≤ -n ∧ -n < 170141183460469231731687303715884105728) := by omega
                  simp [wide_MulDiv.c, wd, lb, sWAbove, sWSize, sLimbMul, sWBits, sLimbDiv, sWSigned, sWFrom, sWLeast, sWOf, sWSub, sLimbSub, fitW, dx, dy, dd, dD, hd, hdn, d1, d2, hxn, hyn, hxs, hys, hQs, hxy, dhi, dlo, hN, dL00, dLh, hk, hnd, hld, dn, dt, hf, hf2, hdv, hdm]
              · rw [if_neg ht0] at hdv hdm
                by_cases hf : n ≤ 170141183460469231731687303715884105728
                · have dqn := dW_wd (show -170141183460469231731687303715884105728 ≤ -n by omega) (show -n < 170141183460469231731687303715884105728 by omega)
                  by_cases hl : n = 170141183460469231731687303715884105728
                  · subst hl
                    by_cases z1 : t / 18446744073709551616 = 0
                    · have z2 : ¬ t % 18446744073709551616 = 0 := by omega
                      simp [wide_MulDiv.c, wd, lb, sWAbove, sWSize, sLimbMul, sWBits, sLimbDiv, sWSigned, sWFrom, sWLeast, sWOf, sWSub, sLimbSub, fitW, dx, dy, dd, dD, hd, hdn, d1, d2, hxn, hyn, hxs, hys, hQs, hxy, dhi, dlo, hN, dL00, dLh, hk, hnd, hld, dn, dt, ht0, hf, hdv, hdm, z1, z2, dWm]
                    · simp [wide_MulDiv.c, wd, lb, sWAbove, sWSize, sLimbMul, sWBits, sLimbDiv, sWSigned, sWFrom, sWLeast, sWOf, sWSub, sLimbSub, fitW, dx, dy, dd, dD, hd, hdn, d1, d2, hxn, hyn, hxs, hys, hQs, hxy, dhi, dlo, hN, dL00, dLh, hk, hnd, hld, dn, dt, ht0, hf, hdv, hdm, z1, dWm]
                  · have hl2 : ¬ -n = -170141183460469231731687303715884105728 := by omega
                    have hf2 : -170141183460469231731687303715884105728 ≤ -n - 1 ∧ -n - 1 < 170141183460469231731687303715884105728 := by omega
                    have hs : ¬ d < t := by omega
                    have dr := dL_lb (show 0 ≤ d - t by omega) (show d - t < 340282366920938463463374607431768211456 by omega)
                    have hr : d - t < 170141183460469231731687303715884105728 := by omega
                    by_cases z1 : t / 18446744073709551616 = 0
                    · have z2 : ¬ t % 18446744073709551616 = 0 := by omega
                      have dt0 := dt
                      rw [z1] at dt0
                      simp [wide_MulDiv.c, wd, lb, sWAbove, sWSize, sLimbMul, sWBits, sLimbDiv, sWSigned, sWFrom, sWLeast, sWOf, sWSub, sLimbSub, fitW, dx, dy, dd, dD, hd, hdn, d1, d2, hxn, hyn, hxs, hys, hQs, hxy, dhi, dlo, hN, dL00, dLh, hk, hnd, hld, dn, dt0, ht, ht0, hf, hdv, hdm, z1, z2, dqn, hl, hl2, hf2, dW1, hs, dr, hr]
                    · simp [wide_MulDiv.c, wd, lb, sWAbove, sWSize, sLimbMul, sWBits, sLimbDiv, sWSigned, sWFrom, sWLeast, sWOf, sWSub, sLimbSub, fitW, dx, dy, dd, dD, hd, hdn, d1, d2, hxn, hyn, hxs, hys, hQs, hxy, dhi, dlo, hN, dL00, dLh, hk, hnd, hld, dn, dt, ht, ht0, hf, hdv, hdm, z1, dqn, hl, hl2, hf2, dW1, hs, dr, hr]
                · have hf2 : ¬ (-170141183460469231731687303715884105728 ≤ -n - 1 ∧ -n - 1 < 170141183460469231731687303715884105728) := by omega
                  simp [wide_MulDiv.c, wd, lb, sWAbove, sWSize, sLimbMul, sWBits, sLimbDiv, sWSigned, sWFrom, sWLeast, sWOf, sWSub, sLimbSub, fitW, dx, dy, dd, dD, hd, hdn, d1, d2, hxn, hyn, hxs, hys, hQs, hxy, dhi, dlo, hN, dL00, dLh, hk, hnd, hld, dn, dt, hf, hf2, hdv, hdm]
            · have hf : ¬ (-170141183460469231731687303715884105728 ≤ -Q / d ∧ -Q / d < 170141183460469231731687303715884105728) := by
                intro h
                have h1 := hdiv.1
                have h4 : Q / d ≤ 170141183460469231731687303715884105728 := by split at h1 <;> omega
                have h2 : (Q / d + 1) * d ≤ (170141183460469231731687303715884105728 + 1) * d := Int.mul_le_mul_of_nonneg_right (by omega) (by omega)
                have h3 : Q < (Q / d + 1) * d := by rw [Int.add_mul, Int.one_mul, Int.mul_comm]; omega
                omega
              simp [wide_MulDiv.c, wd, lb, sWAbove, sWSize, sLimbMul, sWBits, sLimbDiv, sWSigned, sWFrom, sWLeast, sWOf, sWSub, sLimbSub, fitW, dx, dy, dd, dD, hd, hdn, d1, d2, hxn, hyn, hxs, hys, hQs, hxy, dhi, dlo, hN, dL00, dLh, hk, hf]
          · have hxs : ¬ x / 18446744073709551616 < 0 := by omega
            have hys : ¬ y / 18446744073709551616 < 0 := by omega
            have d1 := dL_lb (show 0 ≤ x by omega) (show x < 340282366920938463463374607431768211456 by omega)
            have d2 := dL_lb (show 0 ≤ y by omega) (show y < 340282366920938463463374607431768211456 by omega)
            obtain ⟨Q, hQ⟩ : ∃ Q, Q = x * y := ⟨_, rfl⟩
            have hQ0 : 0 ≤ Q := by rw [hQ]; exact Int.mul_nonneg (by omega) (by omega)
            have hQ1 : Q ≤ 170141183460469231731687303715884105728 * 170141183460469231731687303715884105728 := by rw [hQ]; exact Int.mul_le_mul (by omega) (by omega) (by omega) (by decide)
            have hxy : x * y = Q := by rw [hQ] <;> grind
            have hQs : x * y = Q := hQ.symm
            clear hQ
            have dhi := dL_lb (show 0 ≤ Q / 340282366920938463463374607431768211456 by omega) (show Q / 340282366920938463463374607431768211456 < 340282366920938463463374607431768211456 by omega)
            have dlo := dL_lb (show 0 ≤ Q % 340282366920938463463374607431768211456 by omega) (show Q % 340282366920938463463374607431768211456 < 340282366920938463463374607431768211456 by omega)
            rw [show Q % 340282366920938463463374607431768211456 % 18446744073709551616 = Q % 18446744073709551616 by omega] at dlo
            have hN : Q / 340282366920938463463374607431768211456 * 340282366920938463463374607431768211456 + Q % 340282366920938463463374607431768211456 = Q := by omega
            have n2 := Int.mul_ediv_add_emod Q d
            have n0 : 0 ≤ Q / d := Int.ediv_nonneg hQ0 (by omega)
            have l0 : 0 ≤ Q % d := Int.emod_nonneg _ (by omega)
            have l1 : Q % d < d := Int.emod_lt_of_pos _ (by omega)
            by_cases hk : Q / 340282366920938463463374607431768211456 < d
            · have n1 : Q / d < 340282366920938463463374607431768211456 := Int.ediv_lt_of_lt_mul (by omega) (by omega)
              generalize hnd : Q / d = n at *
              generalize hld : Q % d = t at *
              have dn := dL_lb n0 n1
              have dt := dL_lb l0 (show t < 340282366920938463463374607431768211456 by omega)
              have ht : t < 170141183460469231731687303715884105728 := by omega
              by_cases hf : n < 170141183460469231731687303715884105728
              · have hf2 : -170141183460469231731687303715884105728 ≤ n := by omega
                simp [wide_MulDiv.c, wd, lb, sWAbove, sWSize, sLimbMul, sWBits, sLimbDiv, sWSigned, sWFrom, sWLeast, sWOf, sWSub, sLimbSub, fitW, dx, dy, dd, dD, hd, hdn, d1, d2, hxn, hyn, hxs, hys, hQs, hxy, dhi, dlo, hN, dL00, dLh, hk, hnd, hld, dn, dt, ht, hf, hf2]
              · simp [wide_MulDiv.c, wd, lb, sWAbove, sWSize, sLimbMul, sWBits, sLimbDiv, sWSigned, sWFrom, sWLeast, sWOf, sWSub, sLimbSub, fitW, dx, dy, dd, dD, hd, hdn, d1, d2, hxn, hyn, hxs, hys, hQs, hxy, dhi, dlo, hN, dL00, dLh, hk, hnd, hld, dn, dt, hf]
            · have hf : ¬ Q / d < 170141183460469231731687303715884105728 := by
                intro h
                have h2 : (Q / d + 1) * d ≤ 170141183460469231731687303715884105728 * d := Int.mul_le_mul_of_nonneg_right (by omega) (by omega)
                have h3 : Q < (Q / d + 1) * d := by rw [Int.add_mul, Int.one_mul, Int.mul_comm]; omega
                omega
              simp [wide_MulDiv.c, wd, lb, sWAbove, sWSize, sLimbMul, sWBits, sLimbDiv, sWSigned, sWFrom, sWLeast, sWOf, sWSub, sLimbSub, fitW, dx, dy, dd, dD, hd, hdn, d1, d2, hxn, hyn, hxs, hys, hQs, hxy, dhi, dlo, hN, dL00, dLh, hk, hf]
      · have hdl : d ≤ 0 := by omega
        rw [if_pos hdl]
        simp [wide_MulDiv.c, wd, sWAbove, dd, hd]
    · cases h
  · cases h

def sWDiv : List AP → Option AV
  | [a, b] => match dW a, dW b with
    | some x, some d => some (divW x d)
    | _, _ => none
  | _ => none
theorem okWDiv : Ok Try.prog 73 sWDiv := ok_of' Try.func73 wide_Div.ent wide_Div.chk (specOk_cons okWOf (specOk_cons okWMulDiv specOk_nil)) fun av r h => by
  unfold sWDiv at h
  split at h
  · split at h
    · rename_i a b x1 x2 x d hx hd
      cases h
      obtain ⟨rfl, hx0, hx1⟩ := dW_some hx
      obtain ⟨rfl, hd0, hd1⟩ := dW_some hd
      have dx := dW_wd hx0 hx1
      have dd := dW_wd hd0 hd1
      refine ⟨by simp [wide_Div.c], 0, ?_⟩
      by_cases c1 : d ≤ 0
      · simp [wide_Div.c, wd, sWOf, sWMulDiv, divW, dx, dd, dW1, c1]
      · by_cases c2 : -170141183460469231731687303715884105728 ≤ x / d ∧ x / d < 170141183460469231731687303715884105728
        · simp [wide_Div.c, wd, sWOf, sWMulDiv, divW, dx, dd, dW1, c1, c2]
        · simp [wide_Div.c, wd, sWOf, sWMulDiv, divW, dx, dd, dW1, c1, c2]
    · cases h
  · cases h
end Go.Proofs.Ytanolecbepjkcaa.E
/- What the packages limb and wide do, by decoders. -/
namespace Go.Proofs.Ytanolecbepjkcaa.E
open Go.VC Go.RowKit

theorem div_fits {x d : Int} (h0 : -170141183460469231731687303715884105728 ≤ x) (h1 : x < 170141183460469231731687303715884105728) (hd : 0 < d) : -170141183460469231731687303715884105728 ≤ x / d ∧ x / d < 170141183460469231731687303715884105728 := by
  constructor
  · refine Int.le_ediv_of_mul_le hd ?_
    have : -170141183460469231731687303715884105728 * d ≤ -170141183460469231731687303715884105728 * 1 := by rw [Int.neg_mul, Int.neg_mul]; have : 170141183460469231731687303715884105728 * 1 ≤ 170141183460469231731687303715884105728 * d := Int.mul_le_mul_of_nonneg_left (by omega) (by decide); omega
    omega
  · refine Int.ediv_lt_of_lt_mul hd ?_
    have : 170141183460469231731687303715884105728 * 1 ≤ 170141183460469231731687303715884105728 * d := Int.mul_le_mul_of_nonneg_left (by omega) (by decide)
    omega
theorem av_eq_ite {c : Prop} [Decidable c] {a x y : AV} : (a = if c then x else y) = (if c then a = x else a = y) := by
  by_cases h : c <;> simp [h]
theorem cmpI_eq0 {x y : Int} : (cmpI x y = 0) ↔ x = y := by unfold cmpI; split <;> (try split) <;> omega
attribute [simp] cmpI_le cmpI_lt cmpI_gt cmpI_ge cmpI_eq0 iv bv wd_eq lb_eq fitW divW av_eq_ite
abbrev Tt1 {α : Type} : α → Prop := fun _ => True
abbrev Tt2 {α β : Type} : α → β → Prop := fun _ _ => True
abbrev Tt3 {α β γ : Type} : α → β → γ → Prop := fun _ _ _ => True
abbrev tLAdd := s2 coL coL Tt2 fun x y => .t [lb (if 340282366920938463463374607431768211456 ≤ x + y then x + y - 340282366920938463463374607431768211456 else x + y), bv (decide (340282366920938463463374607431768211456 ≤ x + y))]
abbrev tLSub := s2 coL coL Tt2 fun x y => .t [lb (if x < y then x - y + 340282366920938463463374607431768211456 else x - y), bv (decide (x < y))]
abbrev tLCmp := s2 coL coL Tt2 fun x y => .o (iv .i64 (cmpI x y))
abbrev tLMul := s2 coL coL Tt2 fun x y => .t [lb (x * y / 340282366920938463463374607431768211456), lb (x * y % 340282366920938463463374607431768211456)]
abbrev tLDiv := s3 coL coL coL Tt3 fun h l d => if h < d then .t [lb ((h * 340282366920938463463374607431768211456 + l) / d), lb ((h * 340282366920938463463374607431768211456 + l) % d), bv true] else .t [lb 0, lb 0, bv false]
theorem eL {x : Int} (h : coL.p x) : dL (coL.e x) = some x := dL_lb h.1 h.2
theorem eW {x : Int} (h : coW.p x) : dW (coW.e x) = some x := dW_wd h.1 h.2
theorem okTLAdd : Ok Try.prog 104 tLAdd := okLimbAdd.via fun av r h => by
  obtain ⟨x, y, rfl, h1, h2, -, rfl⟩ := s2_some h
  simp only [sLimbAdd, eL h1, eL h2]
theorem okTLSub : Ok Try.prog 114 tLSub := okLimbSub.via fun av r h => by
  obtain ⟨x, y, rfl, h1, h2, -, rfl⟩ := s2_some h
  simp only [sLimbSub, eL h1, eL h2]
theorem okTLCmp : Ok Try.prog 119 tLCmp := okLimbCmp.via fun av r h => by
  obtain ⟨x, y, rfl, h1, h2, -, rfl⟩ := s2_some h
  simp only [sLimbCmp, eL h1, eL h2]
theorem okTLMul : Ok Try.prog 107 tLMul := okLimbMul.via fun av r h => by
  obtain ⟨x, y, rfl, h1, h2, -, rfl⟩ := s2_some h
  simp only [sLimbMul, eL h1, eL h2]
theorem okTLDiv : Ok Try.prog 112 tLDiv := okLimbDiv.via fun av r h => by
  obtain ⟨x, y, z, rfl, h1, h2, h3, -, rfl⟩ := s3_some h
  simp only [sLimbDiv, eL h1, eL h2, eL h3]
  split <;> rfl
/-! ### wide -/
abbrev tWOf := s1 coI Tt1 fun n => .o (wd n)
abbrev tWInt := s1 coW Tt1 fun x => if -9223372036854775808 ≤ x ∧ x < 9223372036854775808 then .t [iv .i64 x, iv .i64 0] else .t [iv .i64 0, iv .i64 2]
abbrev tWCmp := s2 coW coW Tt2 fun x y => .o (iv .i64 (cmpI x y))
abbrev tWAdd := s2 coW coW Tt2 fun x y => fitW (x + y)
abbrev tWSub := s2 coW coW Tt2 fun x y => fitW (x - y)
abbrev tWMul := s2 coW coW Tt2 fun x y => fitW (x * y)
abbrev tWDiv := s2 coW coW Tt2 fun x d => divW x d
abbrev tWMulDiv := s3 coW coW coW Tt3 fun x y d => divW (x * y) d
theorem okTWOf : Ok Try.prog 78 tWOf := okWOf.via fun av r h => by
  obtain ⟨x, rfl, h1, -, rfl⟩ := s1_some h
  exact if_pos h1
theorem okTWInt : Ok Try.prog 87 tWInt := okWInt.via fun av r h => by
  obtain ⟨x, rfl, h1, -, rfl⟩ := s1_some h
  simp only [sWInt, eW h1]
  split <;> rfl
theorem okTWCmp : Ok Try.prog 71 tWCmp := okWCmp.via fun av r h => by
  obtain ⟨x, y, rfl, h1, h2, -, rfl⟩ := s2_some h
  simp only [sWCmp, eW h1, eW h2]
theorem okTWAdd : Ok Try.prog 83 tWAdd := okWAdd.via fun av r h => by
  obtain ⟨x, y, rfl, h1, h2, -, rfl⟩ := s2_some h
  simp only [sWAdd, eW h1, eW h2]
theorem okTWSub : Ok Try.prog 99 tWSub := okWSub.via fun av r h => by
  obtain ⟨x, y, rfl, h1, h2, -, rfl⟩ := s2_some h
  simp only [sWSub, eW h1, eW h2]
theorem okTWMul : Ok Try.prog 85 tWMul := okWMul.via fun av r h => by
  obtain ⟨x, y, rfl, h1, h2, -, rfl⟩ := s2_some h
  simp only [sWMul, eW h1, eW h2]
theorem okTWDiv : Ok Try.prog 73 tWDiv := okWDiv.via fun av r h => by
  obtain ⟨x, y, rfl, h1, h2, -, rfl⟩ := s2_some h
  simp only [sWDiv, eW h1, eW h2]
theorem okTWMulDiv : Ok Try.prog 96 tWMulDiv := okWMulDiv.via fun av r h => by
  obtain ⟨x, y, z, rfl, h1, h2, h3, -, rfl⟩ := s3_some h
  simp only [sWMulDiv, eW h1, eW h2, eW h3]
end Go.Proofs.Ytanolecbepjkcaa.E

/- What the words of math/bits and the product of two Limbs do. -/
import Derived.Test.YtichmemhahbhnaaProg
import Derived.WalkKit
import Derived.WalkSpells
import Derived.StillTactics
import Derived.Laws.Pointers
import Derived.Deep.RegionHeld3
import Derived.RegionTactic
import Derived.BigRegion
import Derived.Outline
import Derived.Lib.Hide
import Derived.Shelf.Bits.Mul64
import Derived.Shelf.Spec.BitsCarry
import Derived.RowKit3
import Derived.Below
import Derived.KernelRfl
import Derived.Laws.Externs
set_option linter.unusedVariables false
set_option linter.unusedSimpArgs false
namespace Go.Proofs.Ytichmemhahbhnaa.E
open Go.RowKit

theorem below_alloc {w W : World} (h : Below w.heap.size w W) (o : Obj) : Below w.heap.size w (W.alloc o) := h.alloc h.size o
theorem below_set {w W : World} {g j : Nat} {v : Value} (h : Below w.heap.size w W) (hg : w.heap.size ≤ g) : Below w.heap.size w (W.setCell ⟨g, j, none⟩ v) := h.setCell hg _
theorem below_drew1 {base : Nat} {w W : World} (h : Below base w W) : Below base w W.drew := h.drew
/-- Two words as they may be. -/
def w64 (x : Int) : Prop := 0 ≤ x ∧ x < 18446744073709551616
instance (x : Int) : Decidable (w64 x) := inferInstanceAs (Decidable (_ ∧ _))

theorem giv_add64 (x y c : Int) (hx : 0 ≤ x) (hy : 0 ≤ y) (hc0 : 0 ≤ c) (hc : c ≤ 1) (w : World) : (callFunc 59 #[.int .u64 x, .int .u64 y, .int .u64 c]).run Try.prog w =
    .ok (.value (.tuple #[.int .u64 ((x + y + c) % 18446744073709551616), .int .u64 ((x + y + c) / 18446744073709551616)])) w := by
  rw [run_callFunc_extern Try.func59 (by kernel_rfl) (by kernel_rfl) (by kernel_rfl) (e := add64Entry) (by kernel_rfl), run_add64 x y c hx hy hc0 hc]
  rfl
theorem giv_add64_0 (x y : Int) (hx : 0 ≤ x) (hy : 0 ≤ y) (w : World) : (callFunc 59 #[.int .u64 x, .int .u64 y, .int .u64 0]).run Try.prog w =
    .ok (.value (.tuple #[.int .u64 ((x + y) % 18446744073709551616), .int .u64 ((x + y) / 18446744073709551616)])) w := by
  simpa using giv_add64 x y 0 hx hy (Int.le_refl 0) (by decide) w
/-- A borrow. -/
def bor (x y : Int) : Int := if x < y then 1 else 0
theorem giv_sub64 (x y b : Int) (hx : 0 ≤ x) (hy : 0 ≤ y) (hy' : y < 18446744073709551616) (hb0 : 0 ≤ b) (hb : b ≤ 1) (w : World) : (callFunc 60 #[.int .u64 x, .int .u64 y, .int .u64 b]).run Try.prog w =
    .ok (.value (.tuple #[.int .u64 ((x - y - b) % 18446744073709551616), .int .u64 (bor x (y + b))])) w := by
  obtain ⟨x, rfl⟩ := Int.eq_ofNat_of_zero_le hx
  obtain ⟨y, rfl⟩ := Int.eq_ofNat_of_zero_le hy
  obtain ⟨b, rfl⟩ := Int.eq_ofNat_of_zero_le hb0
  have e1 : (((x + 18446744073709551616 - y - b) % 18446744073709551616 : Nat) : Int) = ((x : Int) - y - b) % 18446744073709551616 := by omega
  have e2 : ((if x < y + b then 1 else 0 : Nat) : Int) = bor x (y + b) := by unfold bor; split <;> split <;> omega
  rw [← e1, ← e2, run_callFunc_extern Try.func60 (by kernel_rfl) (by kernel_rfl) (by kernel_rfl) (e := Go.Proofs.sub64Entry) (by kernel_rfl), Go.Proofs.run_sub64 x y b (by omega)]
  rfl
theorem giv_sub64_0 (x y : Int) (hx : 0 ≤ x) (hy : 0 ≤ y) (hy' : y < 18446744073709551616) (w : World) : (callFunc 60 #[.int .u64 x, .int .u64 y, .int .u64 0]).run Try.prog w =
    .ok (.value (.tuple #[.int .u64 ((x - y) % 18446744073709551616), .int .u64 (bor x y)])) w := by
  simpa using giv_sub64 x y 0 hx hy hy' (Int.le_refl 0) (by decide) w
theorem bor_0 (x y : Int) : 0 ≤ bor x y := by unfold bor; split <;> decide
theorem bor_1 (x y : Int) : bor x y ≤ 1 := by unfold bor; split <;> decide
set_option maxHeartbeats 1000000 in
theorem giv_mul64 (x y : Int) (hx : w64 x) (hy : w64 y) (w : World) : Calls Try.prog 69 #[.int .u64 x, .int .u64 y] w fun e w' => e = .returned (.tuple #[.int .u64 (x * y / 18446744073709551616), .int .u64 (x * y % 18446744073709551616)]) ∧ w' = w := by
  obtain ⟨hx0, hx1⟩ := hx
  obtain ⟨hy0, hy1⟩ := hy
  obtain ⟨x, rfl⟩ := Int.eq_ofNat_of_zero_le hx0
  obtain ⟨y, rfl⟩ := Int.eq_ofNat_of_zero_le hy0
  have hx : x < 18446744073709551616 := by omega
  have hy : y < 18446744073709551616 := by omega
  obtain ⟨bd, bt, bw, hhi⟩ := Lib.mul64_hi x y hx hy
  have ba := Lib.half_mul_le (a := x / 4294967296) (b := y / 4294967296) (by omega) (by omega)
  have bb := Lib.half_mul_le (a := x / 4294967296) (b := y % 4294967296) (by omega) (by omega)
  have bc := Lib.half_mul_le (a := x % 4294967296) (b := y / 4294967296) (by omega) (by omega)
  have ba' : x / 4294967296 * (y / 4294967296) < 18446744073709551616 := by omega
  have bb' : x / 4294967296 * (y % 4294967296) < 18446744073709551616 := by omega
  have bc' : x % 4294967296 * (y / 4294967296) < 18446744073709551616 := by omega
  have bh1 : x / 4294967296 * (y / 4294967296) + (x / 4294967296 * (y % 4294967296) + x % 4294967296 * (y % 4294967296) / 4294967296) / 4294967296 < 18446744073709551616 := by omega
  have bh : x / 4294967296 * (y / 4294967296) + (x / 4294967296 * (y % 4294967296) + x % 4294967296 * (y % 4294967296) / 4294967296) / 4294967296 + ((x / 4294967296 * (y % 4294967296) + x % 4294967296 * (y % 4294967296) / 4294967296) % 4294967296 + x % 4294967296 * (y / 4294967296)) / 4294967296 < 18446744073709551616 := by omega
  go_enter Try.func69, Try.ntmps69
  go_wp2
  simp only [Go.Proofs.Mul64.maskN x hx, Go.Proofs.Mul64.maskN y hy, Go.Proofs.Mul64.divN, Go.Proofs.Mul64.mulN, Go.Proofs.Mul64.addN, Go.Proofs.Mul64.wrapN _ bd, Go.Proofs.Mul64.wrapN _ bb', Go.Proofs.Mul64.wrapN _ bt, Go.Proofs.Mul64.maskN _ bt, Go.Proofs.Mul64.wrapN _ bc', Go.Proofs.Mul64.wrapN _ bw, Go.Proofs.Mul64.wrapN _ ba', Go.Proofs.Mul64.wrapN _ bh1, Go.Proofs.Mul64.wrapN _ bh, Go.Proofs.Mul64.wrapM (x * y)]
  rw [hhi]
  go_ret2
  exact ⟨rfl, rfl⟩
theorem words_add0 (b : Nat) (x y lo hi z0 z1 z2 z3 s0 k0 s1 k1 s2 k2 s3 k3 : Int) (hx : w64 x) (hy : w64 y) (hlo : x * y % 18446744073709551616 = lo) (hhi : x * y / 18446744073709551616 = hi) (w : World)
   (A0 : ∀ w, (callFunc 59 #[.int .u64 z0, .int .u64 lo, .int .u64 0]).run Try.prog w = .ok (.value (.tuple #[.int .u64 s0, .int .u64 k0])) w)
   (A1 : ∀ w, (callFunc 59 #[.int .u64 z1, .int .u64 hi, .int .u64 k0]).run Try.prog w = .ok (.value (.tuple #[.int .u64 s1, .int .u64 k1])) w)
   (A2 : ∀ w, (callFunc 59 #[.int .u64 z2, .int .u64 0, .int .u64 k1]).run Try.prog w = .ok (.value (.tuple #[.int .u64 s2, .int .u64 k2])) w)
   (A3 : ∀ w, (callFunc 59 #[.int .u64 z3, .int .u64 0, .int .u64 k2]).run Try.prog w = .ok (.value (.tuple #[.int .u64 s3, .int .u64 k3])) w)
   (c0 : w.cell? ⟨b, 0, none⟩ = some (.int .u64 z0)) (c1 : w.cell? ⟨b, 1, none⟩ = some (.int .u64 z1)) (c2 : w.cell? ⟨b, 2, none⟩ = some (.int .u64 z2)) (c3 : w.cell? ⟨b, 3, none⟩ = some (.int .u64 z3))
   (f0 : w.frozen? ⟨b, 0, none⟩ = false) (f1 : w.frozen? ⟨b, 1, none⟩ = false) (f2 : w.frozen? ⟨b, 2, none⟩ = false) (f3 : w.frozen? ⟨b, 3, none⟩ = false) :
   Calls Try.prog 51 #[.pointer (some ⟨b, 0, none⟩), .int .u64 x, .int .u64 y, .int .i64 0] w fun e w' => e = .returned (.tuple #[]) ∧ w' = ((((w.setCell ⟨b, 0, none⟩ (.int .u64 s0)).setCell ⟨b, 1, none⟩ (.int .u64 s1)).setCell ⟨b, 2, none⟩ (.int .u64 s2)).setCell ⟨b, 3, none⟩ (.int .u64 s3)).drew.drew.drew.drew := by
  go_enter Try.func51, Try.ntmps51
  go_wp2_with (go_at_call 69; refine (giv_mul64 x y hx hy _).mono ?_; rintro e w' ⟨rfl, rfl⟩; rw [hlo, hhi]; clear hlo hhi)
  go_region
  go_wp2
  go_region
  go_wp2
  refine wp_loop_rounds 3 ?_
  rw [rounds_succ]
  go_wp2
  go_region
  go_wp2
  rw [rounds_succ]
  go_wp2
  go_region
  go_wp2
  rw [rounds_succ]
  go_wp2
  go_end0
  exact ⟨rfl, rfl⟩

theorem words_add1 (b : Nat) (x y lo hi z0 z1 z2 z3 s1 k1 s2 k2 s3 k3 : Int) (hx : w64 x) (hy : w64 y) (hlo : x * y % 18446744073709551616 = lo) (hhi : x * y / 18446744073709551616 = hi) (w : World)
   (A1 : ∀ w, (callFunc 59 #[.int .u64 z1, .int .u64 lo, .int .u64 0]).run Try.prog w = .ok (.value (.tuple #[.int .u64 s1, .int .u64 k1])) w)
   (A2 : ∀ w, (callFunc 59 #[.int .u64 z2, .int .u64 hi, .int .u64 k1]).run Try.prog w = .ok (.value (.tuple #[.int .u64 s2, .int .u64 k2])) w)
   (A3 : ∀ w, (callFunc 59 #[.int .u64 z3, .int .u64 0, .int .u64 k2]).run Try.prog w = .ok (.value (.tuple #[.int .u64 s3, .int .u64 k3])) w)
   (c1 : w.cell? ⟨b, 1, none⟩ = some (.int .u64 z1)) (c2 : w.cell? ⟨b, 2, none⟩ = some (.int .u64 z2)) (c3 : w.cell? ⟨b, 3, none⟩ = some (.int .u64 z3))
   (f1 : w.frozen? ⟨b, 1, none⟩ = false) (f2 : w.frozen? ⟨b, 2, none⟩ = false) (f3 : w.frozen? ⟨b, 3, none⟩ = false) :
   Calls Try.prog 51 #[.pointer (some ⟨b, 0, none⟩), .int .u64 x, .int .u64 y, .int .i64 1] w fun e w' => e = .returned (.tuple #[]) ∧ w' = (((w.setCell ⟨b, 1, none⟩ (.int .u64 s1)).setCell ⟨b, 2, none⟩ (.int .u64 s2)).setCell ⟨b, 3, none⟩ (.int .u64 s3)).drew.drew.drew := by
  go_enter Try.func51, Try.ntmps51
  go_wp2_with (go_at_call 69; refine (giv_mul64 x y hx hy _).mono ?_; rintro e w' ⟨rfl, rfl⟩; rw [hlo, hhi]; clear hlo hhi)
  go_region
  go_wp2
  go_region
  go_wp2
  refine wp_loop_rounds 2 ?_
  rw [rounds_succ]
  go_wp2
  go_region
  go_wp2
  rw [rounds_succ]
  go_wp2
  go_end0
  exact ⟨rfl, rfl⟩

theorem words_add2 (b : Nat) (x y lo hi z0 z1 z2 z3 s2 k2 s3 k3 : Int) (hx : w64 x) (hy : w64 y) (hlo : x * y % 18446744073709551616 = lo) (hhi : x * y / 18446744073709551616 = hi) (w : World)
   (A2 : ∀ w, (callFunc 59 #[.int .u64 z2, .int .u64 lo, .int .u64 0]).run Try.prog w = .ok (.value (.tuple #[.int .u64 s2, .int .u64 k2])) w)
   (A3 : ∀ w, (callFunc 59 #[.int .u64 z3, .int .u64 hi, .int .u64 k2]).run Try.prog w = .ok (.value (.tuple #[.int .u64 s3, .int .u64 k3])) w)
   (c2 : w.cell? ⟨b, 2, none⟩ = some (.int .u64 z2)) (c3 : w.cell? ⟨b, 3, none⟩ = some (.int .u64 z3))
   (f2 : w.frozen? ⟨b, 2, none⟩ = false) (f3 : w.frozen? ⟨b, 3, none⟩ = false) :
   Calls Try.prog 51 #[.pointer (some ⟨b, 0, none⟩), .int .u64 x, .int .u64 y, .int .i64 2] w fun e w' => e = .returned (.tuple #[]) ∧ w' = ((w.setCell ⟨b, 2, none⟩ (.int .u64 s2)).setCell ⟨b, 3, none⟩ (.int .u64 s3)).drew.drew := by
  go_enter Try.func51, Try.ntmps51
  go_wp2_with (go_at_call 69; refine (giv_mul64 x y hx hy _).mono ?_; rintro e w' ⟨rfl, rfl⟩; rw [hlo, hhi]; clear hlo hhi)
  go_region
  go_wp2
  go_region
  go_wp2
  refine wp_loop_rounds 1 ?_
  rw [rounds_succ]
  go_wp2
  go_end0
  exact ⟨rfl, rfl⟩

theorem words_sum0 (b : Nat) (x y z0 z1 z2 z3 : Int) (hx : w64 x) (hy : w64 y) (Z00 : 0 ≤ z0) (Z01 : z0 < 18446744073709551616) (Z10 : 0 ≤ z1) (Z11 : z1 < 18446744073709551616) (Z20 : 0 ≤ z2) (Z21 : z2 < 18446744073709551616) (Z30 : 0 ≤ z3) (Z31 : z3 < 18446744073709551616) (hV : z0 + z1 * 18446744073709551616 + z2 * 340282366920938463463374607431768211456 + z3 * 6277101735386680763835789423207666416102355444464034512896 + x * y * 1 < 115792089237316195423570985008687907853269984665640564039457584007913129639936) (w : World)
   (c0 : w.cell? ⟨b, 0, none⟩ = some (.int .u64 z0)) (c1 : w.cell? ⟨b, 1, none⟩ = some (.int .u64 z1)) (c2 : w.cell? ⟨b, 2, none⟩ = some (.int .u64 z2)) (c3 : w.cell? ⟨b, 3, none⟩ = some (.int .u64 z3))
   (f0 : w.frozen? ⟨b, 0, none⟩ = false) (f1 : w.frozen? ⟨b, 1, none⟩ = false) (f2 : w.frozen? ⟨b, 2, none⟩ = false) (f3 : w.frozen? ⟨b, 3, none⟩ = false) :
   Calls Try.prog 51 #[.pointer (some ⟨b, 0, none⟩), .int .u64 x, .int .u64 y, .int .i64 0] w fun e w' => e = .returned (.tuple #[]) ∧ ∃ s0 s1 s2 s3 : Int, (0 ≤ s0 ∧ s0 < 18446744073709551616 ∧ 0 ≤ s1 ∧ s1 < 18446744073709551616 ∧ 0 ≤ s2 ∧ s2 < 18446744073709551616 ∧ 0 ≤ s3 ∧ s3 < 18446744073709551616 ∧ s0 + s1 * 18446744073709551616 + s2 * 340282366920938463463374607431768211456 + s3 * 6277101735386680763835789423207666416102355444464034512896 = z0 + z1 * 18446744073709551616 + z2 * 340282366920938463463374607431768211456 + z3 * 6277101735386680763835789423207666416102355444464034512896 + x * y * 1) ∧ w' = ((((w.setCell ⟨b, 0, none⟩ (.int .u64 s0)).setCell ⟨b, 1, none⟩ (.int .u64 s1)).setCell ⟨b, 2, none⟩ (.int .u64 s2)).setCell ⟨b, 3, none⟩ (.int .u64 s3)).drew.drew.drew.drew := by
  have ⟨hx0, hx1⟩ := hx
  have ⟨hy0, hy1⟩ := hy
  have p0 : 0 ≤ x * y := Int.mul_nonneg hx0 hy0
  have p1 : x * y < 340282366920938463463374607431768211456 := by
    have := Int.mul_le_mul (show x ≤ 18446744073709551615 by omega) (show y ≤ 18446744073709551615 by omega) hy0 (by decide)
    omega
  have d0 : 0 ≤ x * y / 18446744073709551616 := by omega
  have d1 : x * y / 18446744073709551616 < 18446744073709551616 := by omega
  have m0 : 0 ≤ x * y % 18446744073709551616 := by omega
  have m1 : x * y % 18446744073709551616 < 18446744073709551616 := by omega
  have hp : x * y = x * y % 18446744073709551616 + x * y / 18446744073709551616 * 18446744073709551616 := by omega
  generalize hlo : x * y % 18446744073709551616 = lo at m0 m1 hp
  generalize hhi : x * y / 18446744073709551616 = hi at d0 d1 hp
  obtain ⟨s0, hs0⟩ : ∃ s, (z0 + lo) % 18446744073709551616 = s := ⟨_, rfl⟩
  obtain ⟨k0, hk0⟩ : ∃ k, (z0 + lo) / 18446744073709551616 = k := ⟨_, rfl⟩
  have sb0 : 0 ≤ s0 ∧ s0 < 18446744073709551616 := by omega
  have kb0 : 0 ≤ k0 ∧ k0 ≤ 1 := by omega
  obtain ⟨s1, hs1⟩ : ∃ s, (z1 + hi + k0) % 18446744073709551616 = s := ⟨_, rfl⟩
  obtain ⟨k1, hk1⟩ : ∃ k, (z1 + hi + k0) / 18446744073709551616 = k := ⟨_, rfl⟩
  have sb1 : 0 ≤ s1 ∧ s1 < 18446744073709551616 := by omega
  have kb1 : 0 ≤ k1 ∧ k1 ≤ 1 := by omega
  obtain ⟨s2, hs2⟩ : ∃ s, (z2 + 0 + k1) % 18446744073709551616 = s := ⟨_, rfl⟩
  obtain ⟨k2, hk2⟩ : ∃ k, (z2 + 0 + k1) / 18446744073709551616 = k := ⟨_, rfl⟩
  have sb2 : 0 ≤ s2 ∧ s2 < 18446744073709551616 := by omega
  have kb2 : 0 ≤ k2 ∧ k2 ≤ 1 := by omega
  obtain ⟨s3, hs3⟩ : ∃ s, (z3 + 0 + k2) % 18446744073709551616 = s := ⟨_, rfl⟩
  obtain ⟨k3, hk3⟩ : ∃ k, (z3 + 0 + k2) / 18446744073709551616 = k := ⟨_, rfl⟩
  have sb3 : 0 ≤ s3 ∧ s3 < 18446744073709551616 := by omega
  have kb3 : 0 ≤ k3 ∧ k3 ≤ 1 := by omega
  have key : s0 + s1 * 18446744073709551616 + s2 * 340282366920938463463374607431768211456 + s3 * 6277101735386680763835789423207666416102355444464034512896 = z0 + z1 * 18446744073709551616 + z2 * 340282366920938463463374607431768211456 + z3 * 6277101735386680763835789423207666416102355444464034512896 + x * y * 1 := by
    rw [hp] at hV ⊢
    omega
  refine (words_add0 b x y lo hi z0 z1 z2 z3 s0 k0 s1 k1 s2 k2 s3 k3 hx hy hlo hhi w (fun w => by rw [giv_add64_0 z0 lo Z00 m0 w, hs0, hk0]) (fun w => by rw [giv_add64 z1 hi k0 Z10 d0 kb0.1 kb0.2 w, hs1, hk1]) (fun w => by rw [giv_add64 z2 0 k1 Z20 (by decide) kb1.1 kb1.2 w, hs2, hk2]) (fun w => by rw [giv_add64 z3 0 k2 Z30 (by decide) kb2.1 kb2.2 w, hs3, hk3]) c0 c1 c2 c3 f0 f1 f2 f3).mono ?_
  rintro e w' ⟨rfl, rfl⟩
  exact ⟨rfl, s0, s1, s2, s3, ⟨sb0.1, sb0.2, sb1.1, sb1.2, sb2.1, sb2.2, sb3.1, sb3.2, key⟩, rfl⟩

theorem words_sum1 (b : Nat) (x y z0 z1 z2 z3 : Int) (hx : w64 x) (hy : w64 y) (Z00 : 0 ≤ z0) (Z01 : z0 < 18446744073709551616) (Z10 : 0 ≤ z1) (Z11 : z1 < 18446744073709551616) (Z20 : 0 ≤ z2) (Z21 : z2 < 18446744073709551616) (Z30 : 0 ≤ z3) (Z31 : z3 < 18446744073709551616) (hV : z0 + z1 * 18446744073709551616 + z2 * 340282366920938463463374607431768211456 + z3 * 6277101735386680763835789423207666416102355444464034512896 + x * y * 18446744073709551616 < 115792089237316195423570985008687907853269984665640564039457584007913129639936) (w : World)
   (c1 : w.cell? ⟨b, 1, none⟩ = some (.int .u64 z1)) (c2 : w.cell? ⟨b, 2, none⟩ = some (.int .u64 z2)) (c3 : w.cell? ⟨b, 3, none⟩ = some (.int .u64 z3))
   (f1 : w.frozen? ⟨b, 1, none⟩ = false) (f2 : w.frozen? ⟨b, 2, none⟩ = false) (f3 : w.frozen? ⟨b, 3, none⟩ = false) :
   Calls Try.prog 51 #[.pointer (some ⟨b, 0, none⟩), .int .u64 x, .int .u64 y, .int .i64 1] w fun e w' => e = .returned (.tuple #[]) ∧ ∃ s1 s2 s3 : Int, (0 ≤ s1 ∧ s1 < 18446744073709551616 ∧ 0 ≤ s2 ∧ s2 < 18446744073709551616 ∧ 0 ≤ s3 ∧ s3 < 18446744073709551616 ∧ z0 + s1 * 18446744073709551616 + s2 * 340282366920938463463374607431768211456 + s3 * 6277101735386680763835789423207666416102355444464034512896 = z0 + z1 * 18446744073709551616 + z2 * 340282366920938463463374607431768211456 + z3 * 6277101735386680763835789423207666416102355444464034512896 + x * y * 18446744073709551616) ∧ w' = (((w.setCell ⟨b, 1, none⟩ (.int .u64 s1)).setCell ⟨b, 2, none⟩ (.int .u64 s2)).setCell ⟨b, 3, none⟩ (.int .u64 s3)).drew.drew.drew := by
  have ⟨hx0, hx1⟩ := hx
  have ⟨hy0, hy1⟩ := hy
  have p0 : 0 ≤ x * y := Int.mul_nonneg hx0 hy0
  have p1 : x * y < 340282366920938463463374607431768211456 := by
    have := Int.mul_le_mul (show x ≤ 18446744073709551615 by omega) (show y ≤ 18446744073709551615 by omega) hy0 (by decide)
    omega
  have d0 : 0 ≤ x * y / 18446744073709551616 := by omega
  have d1 : x * y / 18446744073709551616 < 18446744073709551616 := by omega
  have m0 : 0 ≤ x * y % 18446744073709551616 := by omega
  have m1 : x * y % 18446744073709551616 < 18446744073709551616 := by omega
  have hp : x * y = x * y % 18446744073709551616 + x * y / 18446744073709551616 * 18446744073709551616 := by omega
  generalize hlo : x * y % 18446744073709551616 = lo at m0 m1 hp
  generalize hhi : x * y / 18446744073709551616 = hi at d0 d1 hp
  obtain ⟨s1, hs1⟩ : ∃ s, (z1 + lo) % 18446744073709551616 = s := ⟨_, rfl⟩
  obtain ⟨k1, hk1⟩ : ∃ k, (z1 + lo) / 18446744073709551616 = k := ⟨_, rfl⟩
  have sb1 : 0 ≤ s1 ∧ s1 < 18446744073709551616 := by omega
  have kb1 : 0 ≤ k1 ∧ k1 ≤ 1 := by omega
  obtain ⟨s2, hs2⟩ : ∃ s, (z2 + hi + k1) % 18446744073709551616 = s := ⟨_, rfl⟩
  obtain ⟨k2, hk2⟩ : ∃ k, (z2 + hi + k1) / 18446744073709551616 = k := ⟨_, rfl⟩
  have sb2 : 0 ≤ s2 ∧ s2 < 18446744073709551616 := by omega
  have kb2 : 0 ≤ k2 ∧ k2 ≤ 1 := by omega
  obtain ⟨s3, hs3⟩ : ∃ s, (z3 + 0 + k2) % 18446744073709551616 = s := ⟨_, rfl⟩
  obtain ⟨k3, hk3⟩ : ∃ k, (z3 + 0 + k2) / 18446744073709551616 = k := ⟨_, rfl⟩
  have sb3 : 0 ≤ s3 ∧ s3 < 18446744073709551616 := by omega
  have kb3 : 0 ≤ k3 ∧ k3 ≤ 1 := by omega
  have key : z0 + s1 * 18446744073709551616 + s2 * 340282366920938463463374607431768211456 + s3 * 6277101735386680763835789423207666416102355444464034512896 = z0 + z1 * 18446744073709551616 + z2 * 340282366920938463463374607431768211456 + z3 * 6277101735386680763835789423207666416102355444464034512896 + x * y * 18446744073709551616 := by
    rw [hp] at hV ⊢
    omega
  refine (words_add1 b x y lo hi z0 z1 z2 z3 s1 k1 s2 k2 s3 k3 hx hy hlo hhi w (fun w => by rw [giv_add64_0 z1 lo Z10 m0 w, hs1, hk1]) (fun w => by rw [giv_add64 z2 hi k1 Z20 d0 kb1.1 kb1.2 w, hs2, hk2]) (fun w => by rw [giv_add64 z3 0 k2 Z30 (by decide) kb2.1 kb2.2 w, hs3, hk3]) c1 c2 c3 f1 f2 f3).mono ?_
  rintro e w' ⟨rfl, rfl⟩
  exact ⟨rfl, s1, s2, s3, ⟨sb1.1, sb1.2, sb2.1, sb2.2, sb3.1, sb3.2, key⟩, rfl⟩

theorem words_sum2 (b : Nat) (x y z0 z1 z2 z3 : Int) (hx : w64 x) (hy : w64 y) (Z00 : 0 ≤ z0) (Z01 : z0 < 18446744073709551616) (Z10 : 0 ≤ z1) (Z11 : z1 < 18446744073709551616) (Z20 : 0 ≤ z2) (Z21 : z2 < 18446744073709551616) (Z30 : 0 ≤ z3) (Z31 : z3 < 18446744073709551616) (hV : z0 + z1 * 18446744073709551616 + z2 * 340282366920938463463374607431768211456 + z3 * 6277101735386680763835789423207666416102355444464034512896 + x * y * 340282366920938463463374607431768211456 < 115792089237316195423570985008687907853269984665640564039457584007913129639936) (w : World)
   (c2 : w.cell? ⟨b, 2, none⟩ = some (.int .u64 z2)) (c3 : w.cell? ⟨b, 3, none⟩ = some (.int .u64 z3))
   (f2 : w.frozen? ⟨b, 2, none⟩ = false) (f3 : w.frozen? ⟨b, 3, none⟩ = false) :
   Calls Try.prog 51 #[.pointer (some ⟨b, 0, none⟩), .int .u64 x, .int .u64 y, .int .i64 2] w fun e w' => e = .returned (.tuple #[]) ∧ ∃ s2 s3 : Int, (0 ≤ s2 ∧ s2 < 18446744073709551616 ∧ 0 ≤ s3 ∧ s3 < 18446744073709551616 ∧ z0 + z1 * 18446744073709551616 + s2 * 340282366920938463463374607431768211456 + s3 * 6277101735386680763835789423207666416102355444464034512896 = z0 + z1 * 18446744073709551616 + z2 * 340282366920938463463374607431768211456 + z3 * 6277101735386680763835789423207666416102355444464034512896 + x * y * 340282366920938463463374607431768211456) ∧ w' = ((w.setCell ⟨b, 2, none⟩ (.int .u64 s2)).setCell ⟨b, 3, none⟩ (.int .u64 s3)).drew.drew := by
  have ⟨hx0, hx1⟩ := hx
  have ⟨hy0, hy1⟩ := hy
  have p0 : 0 ≤ x * y := Int.mul_nonneg hx0 hy0
  have p1 : x * y < 340282366920938463463374607431768211456 := by
    have := Int.mul_le_mul (show x ≤ 18446744073709551615 by omega) (show y ≤ 18446744073709551615 by omega) hy0 (by decide)
    omega
  have d0 : 0 ≤ x * y / 18446744073709551616 := by omega
  have d1 : x * y / 18446744073709551616 < 18446744073709551616 := by omega
  have m0 : 0 ≤ x * y % 18446744073709551616 := by omega
  have m1 : x * y % 18446744073709551616 < 18446744073709551616 := by omega
  have hp : x * y = x * y % 18446744073709551616 + x * y / 18446744073709551616 * 18446744073709551616 := by omega
  generalize hlo : x * y % 18446744073709551616 = lo at m0 m1 hp
  generalize hhi : x * y / 18446744073709551616 = hi at d0 d1 hp
  obtain ⟨s2, hs2⟩ : ∃ s, (z2 + lo) % 18446744073709551616 = s := ⟨_, rfl⟩
  obtain ⟨k2, hk2⟩ : ∃ k, (z2 + lo) / 18446744073709551616 = k := ⟨_, rfl⟩
  have sb2 : 0 ≤ s2 ∧ s2 < 18446744073709551616 := by omega
  have kb2 : 0 ≤ k2 ∧ k2 ≤ 1 := by omega
  obtain ⟨s3, hs3⟩ : ∃ s, (z3 + hi + k2) % 18446744073709551616 = s := ⟨_, rfl⟩
  obtain ⟨k3, hk3⟩ : ∃ k, (z3 + hi + k2) / 18446744073709551616 = k := ⟨_, rfl⟩
  have sb3 : 0 ≤ s3 ∧ s3 < 18446744073709551616 := by omega
  have kb3 : 0 ≤ k3 ∧ k3 ≤ 1 := by omega
  have key : z0 + z1 * 18446744073709551616 + s2 * 340282366920938463463374607431768211456 + s3 * 6277101735386680763835789423207666416102355444464034512896 = z0 + z1 * 18446744073709551616 + z2 * 340282366920938463463374607431768211456 + z3 * 6277101735386680763835789423207666416102355444464034512896 + x * y * 340282366920938463463374607431768211456 := by
    rw [hp] at hV ⊢
    omega
  refine (words_add2 b x y lo hi z0 z1 z2 z3 s2 k2 s3 k3 hx hy hlo hhi w (fun w => by rw [giv_add64_0 z2 lo Z20 m0 w, hs2, hk2]) (fun w => by rw [giv_add64 z3 hi k2 Z30 d0 kb2.1 kb2.2 w, hs3, hk3]) c2 c3 f2 f3).mono ?_
  rintro e w' ⟨rfl, rfl⟩
  exact ⟨rfl, s2, s3, ⟨sb2.1, sb2.2, sb3.1, sb3.2, key⟩, rfl⟩
/-- The product of two numbers of two words, word by word. -/
def limb_Mul.f (a0_0 a0_1 a1_0 a1_1 : Int) : Option (Int × Int × Int × Int) :=
  if w64 a0_0 ∧ w64 a0_1 ∧ w64 a1_0 ∧ w64 a1_1 then
    some ((a0_0 * 18446744073709551616 + a0_1) * (a1_0 * 18446744073709551616 + a1_1) / 6277101735386680763835789423207666416102355444464034512896, (a0_0 * 18446744073709551616 + a0_1) * (a1_0 * 18446744073709551616 + a1_1) / 340282366920938463463374607431768211456 % 18446744073709551616, (a0_0 * 18446744073709551616 + a0_1) * (a1_0 * 18446744073709551616 + a1_1) / 18446744073709551616 % 18446744073709551616, (a0_0 * 18446744073709551616 + a0_1) * (a1_0 * 18446744073709551616 + a1_1) % 18446744073709551616)
  else none
theorem limb_Mul.calls (a0_0 : Int) (a0_1 : Int) (a1_0 : Int) (a1_1 : Int) (r1 : Int) (r2 : Int) (r3 : Int) (r4 : Int) (w : World) (h : limb_Mul.f a0_0 a0_1 a1_0 a1_1 = some (r1, r2, r3, r4)) :
    Calls Try.prog 17 #[.agg #[.int .u64 a0_0, .int .u64 a0_1], .agg #[.int .u64 a1_0, .int .u64 a1_1]] w fun e w' => e = .returned (.tuple #[.agg #[.int .u64 r1, .int .u64 r2], .agg #[.int .u64 r3, .int .u64 r4]]) ∧ Below w.heap.size w w' := by
  unfold limb_Mul.f at h
  split at h
  · rename_i hr
    obtain ⟨q1, q2, q3, q4⟩ := hr
    simp only [Option.some.injEq, Prod.mk.injEq] at h
    have e0 : (a0_0 * 18446744073709551616 + a0_1) * (a1_0 * 18446744073709551616 + a1_1) = a0_1 * a1_1 * 1 + a0_1 * a1_0 * 18446744073709551616 + a0_0 * a1_1 * 18446744073709551616 + a0_0 * a1_0 * 340282366920938463463374607431768211456 := by grind
    have n1 : 0 ≤ a0_1 * a1_1 := Int.mul_nonneg q2.1 q4.1
    have n2 : 0 ≤ a0_1 * a1_0 := Int.mul_nonneg q2.1 q3.1
    have n3 : 0 ≤ a0_0 * a1_1 := Int.mul_nonneg q1.1 q4.1
    have n4 : 0 ≤ a0_0 * a1_0 := Int.mul_nonneg q1.1 q3.1
    have e1 : (a0_0 * 18446744073709551616 + a0_1) * (a1_0 * 18446744073709551616 + a1_1) < 115792089237316195423570985008687907853269984665640564039457584007913129639936 := by
      have h1 : 0 ≤ a0_0 * 18446744073709551616 + a0_1 := by have := q1.1; have := q2.1; omega
      have h2 : 0 ≤ a1_0 * 18446744073709551616 + a1_1 := by have := q3.1; have := q4.1; omega
      have h3 : a0_0 * 18446744073709551616 + a0_1 < 340282366920938463463374607431768211456 := by have := q1.2; have := q2.2; omega
      have h4 : a1_0 * 18446744073709551616 + a1_1 < 340282366920938463463374607431768211456 := by have := q3.2; have := q4.2; omega
      have := Int.mul_le_mul (Int.le_sub_one_of_lt h3) (Int.le_sub_one_of_lt h4) h2 (by decide)
      omega
    rw [e0] at h e1
    clear e0
    have E := Lib.hid e1
    have HR := Lib.hid h
    have N1 := Lib.hid n1
    have N2 := Lib.hid n2
    have N3 := Lib.hid n3
    have N4 := Lib.hid n4
    clear e1 h n1 n2 n3 n4
    go_enter Try.func17, Try.ntmps17
    go_wp2_with fail
    refine (words_sum0 _ a0_1 a1_1 0 0 0 0 q2 q4 (by decide) (by decide) (by decide) (by decide) (by decide) (by decide) (by decide) (by decide) (by have := E.out; have := N1.out; have := N2.out; have := N3.out; have := N4.out; omega) _ (by simp [go_sem]) (by simp [go_sem]) (by simp [go_sem]) (by simp [go_sem]) (by simp [go_sem]) (by simp [go_sem]) (by simp [go_sem]) (by simp [go_sem])).mono ?_
    rintro e w1 ⟨rfl, s0, s1, s2, s3, ⟨b0, b0', b1, b1', b2, b2', b3, b3', key⟩, rfl⟩
    have K1 := Lib.hid key
    clear key
    go_wp2_with fail
    refine (words_sum1 _ a0_1 a1_0 s0 s1 s2 s3 q2 q3 b0 b0' b1 b1' b2 b2' b3 b3' (by have := E.out; have := N1.out; have := N2.out; have := N3.out; have := N4.out; have := K1.out; omega) _ (by simp [go_sem]) (by simp [go_sem]) (by simp [go_sem]) (by simp [go_sem]) (by simp [go_sem]) (by simp [go_sem])).mono ?_
    rintro e w1 ⟨rfl, t1, t2, t3, ⟨d1, d1', d2, d2', d3, d3', key⟩, rfl⟩
    have K2 := Lib.hid key
    clear key
    go_wp2_with fail
    refine (words_sum1 _ a0_0 a1_1 s0 t1 t2 t3 q1 q4 b0 b0' d1 d1' d2 d2' d3 d3' (by have := E.out; have := N1.out; have := N2.out; have := N3.out; have := N4.out; have := K1.out; have := K2.out; omega) _ (by simp [go_sem]) (by simp [go_sem]) (by simp [go_sem]) (by simp [go_sem]) (by simp [go_sem]) (by simp [go_sem])).mono ?_
    rintro e w1 ⟨rfl, u1, u2, u3, ⟨g1, g1', g2, g2', g3, g3', key⟩, rfl⟩
    have K3 := Lib.hid key
    clear key
    go_wp2_with fail
    refine (words_sum2 _ a0_0 a1_0 s0 u1 u2 u3 q1 q3 b0 b0' g1 g1' g2 g2' g3 g3' (by have := E.out; have := N1.out; have := N2.out; have := N3.out; have := N4.out; have := K1.out; have := K2.out; have := K3.out; omega) _ (by simp [go_sem]) (by simp [go_sem]) (by simp [go_sem]) (by simp [go_sem])).mono ?_
    rintro e w1 ⟨rfl, v2, v3, ⟨j2, j2', j3, j3', key⟩, rfl⟩
    have K4 := Lib.hid key
    clear key
    go_wp2_with fail
    have F : r1 = v3 ∧ r2 = v2 ∧ r3 = u1 ∧ r4 = s0 := by
      obtain ⟨z1, z2, z3, z4⟩ := HR.out
      have := K1.out
      have := K2.out
      have := K3.out
      have := K4.out
      generalize a0_1 * a1_1 = p1 at *
      generalize a0_1 * a1_0 = p2 at *
      generalize a0_0 * a1_1 = p3 at *
      generalize a0_0 * a1_0 = p4 at *
      clear E HR K1 K2 K3 K4
      omega
    clear HR E K1 K2 K3 K4 N1 N2 N3 N4
    obtain ⟨rfl, rfl, rfl, rfl⟩ := F
    go_region
    go_wp2
    simp [bodyPost, results, Try.results17, go_sem]
    repeat (with_reducible first | exact Below.refl _ _ | apply below_alloc | apply below_drew1 | refine below_set ?_ (by omega))
  · cases h
end Go.Proofs.Ytichmemhahbhnaa.E

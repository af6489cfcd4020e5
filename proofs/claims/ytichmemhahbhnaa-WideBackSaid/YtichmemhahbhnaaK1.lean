/- The words of math/bits and the product of two Limbs, as specifications. -/
import Derived.Test.YtichmemhahbhnaaC1
import Derived.Test.YtichmemhahbhnaaN2
import Derived.Test.YtichmemhahbhnaaG1
import Derived.Test.YtichmemhahbhnaaG2
set_option linter.unusedVariables false
set_option linter.unusedSimpArgs false
namespace Go.Proofs.Ytichmemhahbhnaa.E
open Go.VC Go.RowKit

abbrev iv (k : IntKind) (x : Int) : AP := .c (.v (.int k x))
abbrev bv (b : Bool) : AP := .c (.v (.bool b))
theorem rep1 {L : Lie} {w : World} {k : IntKind} {x : Int} {y : Value} (h : (iv k x).rep L w y) : y = .int k x := h.1

def sAdd64 : List AP → Option AV
  | [.c (.v (.int .u64 x)), .c (.v (.int .u64 y)), .c (.v (.int .u64 c))] => if 0 ≤ x ∧ 0 ≤ y ∧ 0 ≤ c ∧ c ≤ 1 then some (.t [iv .u64 ((x + y + c) % 18446744073709551616), iv .u64 ((x + y + c) / 18446744073709551616)]) else none
  | _ => none
theorem okAdd64 : Ok Try.prog 59 sAdd64 := by
  intro av r h
  unfold sAdd64 at h
  split at h
  · rename_i x y c
    split at h
    · rename_i hc
      cases h
      refine .inr (.inl fun w vs hr => ?_)
      match vs, hr with
      | [a, b, d], hr =>
        obtain ⟨h1, h2, h3, _⟩ := hr
        obtain rfl := rep1 h1
        obtain rfl := rep1 h2
        obtain rfl := rep1 h3
        exact ⟨_, giv_add64 x y c hc.1 hc.2.1 hc.2.2.1 hc.2.2.2 w, fun L w' => ⟨_, rfl, ⟨rfl, rfl⟩, ⟨rfl, rfl⟩, trivial⟩⟩
      | [], hr => exact hr.elim
      | [a], hr => exact hr.2.elim
      | [a, b], hr => exact hr.2.2.elim
      | a :: b :: d :: e :: l, hr => exact hr.2.2.2.elim
    · cases h
  · cases h

def sSub64 : List AP → Option AV
  | [.c (.v (.int .u64 x)), .c (.v (.int .u64 y)), .c (.v (.int .u64 c))] => if 0 ≤ x ∧ 0 ≤ y ∧ y < 18446744073709551616 ∧ 0 ≤ c ∧ c ≤ 1 then some (.t [iv .u64 ((x - y - c) % 18446744073709551616), iv .u64 (if x < y + c then 1 else 0)]) else none
  | _ => none
theorem okSub64 : Ok Try.prog 60 sSub64 := by
  intro av r h
  unfold sSub64 at h
  split at h
  · rename_i x y c
    split at h
    · rename_i hc
      cases h
      refine .inr (.inl fun w vs hr => ?_)
      match vs, hr with
      | [a, b, d], hr =>
        obtain ⟨h1, h2, h3, _⟩ := hr
        obtain rfl := rep1 h1
        obtain rfl := rep1 h2
        obtain rfl := rep1 h3
        exact ⟨_, giv_sub64 x y c hc.1 hc.2.1 hc.2.2.1 hc.2.2.2.1 hc.2.2.2.2 w, fun L w' => ⟨_, rfl, ⟨rfl, rfl⟩, ⟨rfl, rfl⟩, trivial⟩⟩
      | [], hr => exact hr.elim
      | [a], hr => exact hr.2.elim
      | [a, b], hr => exact hr.2.2.elim
      | a :: b :: d :: e :: l, hr => exact hr.2.2.2.elim
    · cases h
  · cases h

def sLz64 : List AP → Option AV
  | [.c (.v (.int .u64 x))] => if 0 ≤ x ∧ x < 18446744073709551616 then some (.o (iv .i64 (64 - (Lib.bitLen x.toNat : Int)))) else none
  | _ => none
theorem okLz64 : Ok Try.prog 71 sLz64 := by
  intro av r h
  unfold sLz64 at h
  split at h
  · rename_i x
    split at h
    · rename_i hc
      cases h
      refine .inl ⟨bits_LeadingZeros64.ent, fun S w vs hS hr => ?_⟩
      match vs, hr with
      | [a], hr =>
        obtain rfl := rep1 hr.1
        refine (lz64 x w hc.1 hc.2).mono ?_
        rintro e w' ⟨rfl, rfl⟩
        exact ⟨_, rfl, ⟨rfl, rfl⟩, Below.refl _ _⟩
      | [], hr => exact hr.elim
      | a :: b :: l, hr => exact hr.2.elim
    · cases h
  · cases h

def sLimbMul : List AP → Option AV
  | [a, b] => match dL a, dL b with
    | some x, some y => some (.t [lb (x * y / 340282366920938463463374607431768211456), lb (x * y % 340282366920938463463374607431768211456)])
    | _, _ => none
  | _ => none
theorem okLimbMul : Ok Try.prog 17 sLimbMul := by
  intro av r h
  unfold sLimbMul at h
  split at h
  · rename_i a b
    split at h
    · rename_i x y hx hy
      cases h
      obtain ⟨rfl, hx0, hx1⟩ := dL_some hx
      obtain ⟨rfl, hy0, hy1⟩ := dL_some hy
      refine .inl ⟨enters Try.func17 (by kernel_rfl) (by kernel_rfl), fun S w vs hS hr => ?_⟩
      match vs, hr with
      | [u, v], hr =>
        obtain ⟨⟨us, rfl, h1⟩, ⟨vs, rfl, h2⟩, _⟩ := hr
        match us, h1, vs, h2 with
        | [u1, u0], h1, [v1, v0], h2 =>
          obtain rfl := h1.1.1
          obtain rfl := h1.2.1.1
          obtain rfl := h2.1.1
          obtain rfl := h2.2.1.1
          have ex : x / 18446744073709551616 * 18446744073709551616 + x % 18446744073709551616 = x := by omega
          have ey : y / 18446744073709551616 * 18446744073709551616 + y % 18446744073709551616 = y := by omega
          have h := limb_Mul.calls (x / 18446744073709551616) (x % 18446744073709551616) (y / 18446744073709551616) (y % 18446744073709551616) (x * y / 6277101735386680763835789423207666416102355444464034512896) (x * y / 340282366920938463463374607431768211456 % 18446744073709551616) (x * y / 18446744073709551616 % 18446744073709551616) (x * y % 18446744073709551616) w (by
            unfold limb_Mul.f
            rw [if_pos ⟨⟨by omega, by omega⟩, ⟨by omega, by omega⟩, ⟨by omega, by omega⟩, ⟨by omega, by omega⟩⟩, ex, ey])
          refine h.mono ?_
          rintro e w' ⟨rfl, hb⟩
          refine ⟨_, rfl, ⟨_, rfl, ⟨_, rfl, ⟨?_, rfl⟩, ⟨rfl, rfl⟩, trivial⟩, ⟨_, rfl, ⟨?_, rfl⟩, ⟨?_, rfl⟩, trivial⟩, trivial⟩, hb⟩
          · generalize x * y = z; congr 1; omega
          · generalize x * y = z; congr 1; omega
          · generalize x * y = z; congr 1; omega
        | [], h1, _, _ => exact h1.elim
        | [_], h1, _, _ => exact h1.2.elim
        | _ :: _ :: _ :: _, h1, _, _ => exact h1.2.2.elim
        | [_, _], _, [], h2 => exact h2.elim
        | [_, _], _, [_], h2 => exact h2.2.elim
        | [_, _], _, _ :: _ :: _ :: _, h2 => exact h2.2.2.elim
      | [], hr => exact hr.elim
      | [_], hr => exact hr.2.elim
      | _ :: _ :: _ :: _, hr => exact hr.2.2.elim
    · cases h
  · cases h
end Go.Proofs.Ytichmemhahbhnaa.E

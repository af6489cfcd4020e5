/- Twice a Limb. -/
import Derived.Test.YtichmemhahbhnaaK2
set_option linter.unusedVariables false
set_option linter.unusedSimpArgs false
namespace Go.Proofs.Ytichmemhahbhnaa.E
open Go.VC Go.RowKit

def sDouble : List AP → Option AV
  | [a, .c (.v (.int .u64 b))] => match dL a with
    | some x => if 0 ≤ b ∧ b ≤ 1 then some (.t [lb (if 340282366920938463463374607431768211456 ≤ 2 * x then 2 * x + b - 340282366920938463463374607431768211456 else 2 * x + b), bv (decide (340282366920938463463374607431768211456 ≤ 2 * x))]) else none
    | _ => none
  | _ => none
theorem okDouble : Ok Try.prog 55 sDouble := ok_of' Try.func55 limb_double.ent limb_double.chk specOk_nil fun av r h => by
  unfold sDouble at h
  split at h
  · split at h
    · rename_i a b y x hx
      split at h
      · rename_i hb
        cases h
        obtain ⟨rfl, hx0, hx1⟩ := dL_some hx
        refine ⟨by simp [limb_double.c], 0, ?_⟩
        have e1 : bitsV .or .u64 (x / 18446744073709551616 * 2 % 18446744073709551616) (x % 18446744073709551616 / 9223372036854775808) = x / 18446744073709551616 * 2 % 18446744073709551616 + x % 18446744073709551616 / 9223372036854775808 :=
          or_u64_add 1 (by decide) (by omega) (by omega) (by omega) (by omega) (by omega) (by omega)
        have e2 : bitsV .or .u64 (x % 18446744073709551616 * 2 % 18446744073709551616) b = x % 18446744073709551616 * 2 % 18446744073709551616 + b :=
          or_u64_add 1 (by decide) (by omega) (by omega) (by omega) (by omega) (by omega) (by omega)
        by_cases hov : 340282366920938463463374607431768211456 ≤ 2 * x
        · simp [limb_double.c, lb, wrap_u64_eq, fdiv_pos, e1, e2, hov]
          omega
        · simp [limb_double.c, lb, wrap_u64_eq, fdiv_pos, e1, e2, hov]
          omega
      · cases h
    · cases h
  · cases h
end Go.Proofs.Ytichmemhahbhnaa.E

/- The leading noughts of a word. -/
import Derived.Test.YtichmemhahbhnaaShelf
import Derived.Below
set_option linter.unusedVariables false
set_option linter.unusedSimpArgs false
namespace Go.Proofs.Ytichmemhahbhnaa.E
open Go.RowKit
theorem lz64 (x : Int) (w : World) (h1 : 0 ≤ x) (h2 : x < 18446744073709551616) : Calls Try.prog 71 #[.int .u64 x] w fun e w' => e = .returned (.int .i64 (64 - (Lib.bitLen x.toNat : Int))) ∧ w' = w := by
  refine (Try.bits_LeadingZeros64 x w h1 (by omega)).mono ?_
  rintro e w' ⟨rfl, rfl⟩
  exact ⟨rfl, rfl⟩
end Go.Proofs.Ytichmemhahbhnaa.E

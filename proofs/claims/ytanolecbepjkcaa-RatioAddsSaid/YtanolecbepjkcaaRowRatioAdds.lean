/- The law RatioAdds holds of the given program, for whatever arguments; what came in reads as it did. -/
import Derived.Test.YtanolecbepjkcaaRows
import Derived.Test.YtanolecbepjkcaaR4
import Derived.Test.YtanolecbepjkcaaO1
import Derived.WalkKit
import Derived.ProofKit
import Derived.OpenShut
import Derived.ShutString
import Derived.ChangeOld
import Derived.Below
import Derived.SizedLaws
import Derived.Carry
import Derived.Lib.SmallJoins
set_option linter.unusedVariables false
set_option linter.unusedSimpArgs false
namespace Go.Proofs.Ytanolecbepjkcaa.ratioAdds
open Go.ChangeShapes Go.WideShapes Go.ChangeAt Go.RowKit Go.Joins
theorem own : ownKnob Try.prog.godebug = none := by kernel_rfl
theorem laidOut : laidOutB Try.prog = true := by kernel_rfl
set_option maxRecDepth 100000 in
theorem lifted (os : Os) (started : os.Started) (H : Type) (enc : TypeId × Value → H) :
    ReturnsInHanded {} Try.checked os 8 .any (Rows.ratioAddsSpec.pre6 enc Try.prog Try.f8 Rows.ratioAddsRow.domain false) (Rows.ratioAddsSpec.post enc Try.prog Try.f8 false true false false) := by
  refine returnsInHanded_of_change_sized (C := Try.checked) own started (by kernel_rfl) Try.func8
    (ChangeSpec.witness6 (enc := enc) (C := Try.checked) false ⟨#[], #[.agg #[.int .i64 0, .int .u64 0, .int .i64 0, .int .u64 0], .agg #[.int .i64 0, .int .u64 0, .int .i64 0, .int .u64 0]], []⟩ 8 (by kernel_rfl) (by kernel_rfl) (by kernel_rfl) (by kernel_rfl)) ?_
  intro W base args ds gs before hval0 hW hcnd hsz0 _
  have hval : ∀ (j : Nat) t v, Try.f8.params[j]? = some t → args[j]? = some v → Value.okWide Try.prog W .any base t v := hval0
  have hW' := hW
  obtain ⟨p, q, hA0, hV, rfl, hfz, hnd⟩ := hW
  have hA : DataW.TrodAll enc Try.prog W 0 (fun _ => true) true Try.f8.params.toList args.toList ds p := hA0
  rw [Try.params8] at hA hval
  obtain ⟨v0, vs0, d0, ds0, p0, q0, hargs, rfl, rfl, h0, r0⟩ := trodAll_cons hA
  obtain ⟨v1, vs1, d1, ds1, p1, q1, rfl, rfl, rfl, h1, r1⟩ := trodAll_cons r0
  obtain ⟨rfl, rfl, rfl⟩ := trodAll_nil r1
  obtain rfl : args = #[v0, v1] := by cases args; simp_all
  obtain ⟨rfl, rfl⟩ := trodVars_none hV
  have k0 := h0
  have lt0 : ∀ x ∈ p0, x.block < W.heap.size := by obtain ⟨m, hm⟩ := k0; exact DataW.trod_lt m _ _ _ hm
  obtain ⟨a0_0, a0_1, a0_2, a0_3, rfl, w0_0, w0_1, w0_2, w0_3⟩ := E.open_ratio Try.underlying26 Try.underlying24 Try.underlying24 Try.underlying2 Try.underlying22 ⟨rfl, rfl, rfl, rfl⟩ (by kernel_rfl) (by kernel_rfl) (by kernel_rfl) (by kernel_rfl) (by kernel_rfl) (hval 0 26 v0 rfl rfl) h0
  have ba0_0 : -9223372036854775808 ≤ a0_0 ∧ a0_0 < 9223372036854775808 := by have := bounds_i64 w0_0; omega
  have ba0_1 : 0 ≤ a0_1 ∧ a0_1 < 18446744073709551616 := by have := bounds_u64 w0_1; omega
  have ba0_2 : -9223372036854775808 ≤ a0_2 ∧ a0_2 < 9223372036854775808 := by have := bounds_i64 w0_2; omega
  have ba0_3 : 0 ≤ a0_3 ∧ a0_3 < 18446744073709551616 := by have := bounds_u64 w0_3; omega
  have k1 := h1
  have lt1 : ∀ x ∈ p1, x.block < W.heap.size := by obtain ⟨m, hm⟩ := k1; exact DataW.trod_lt m _ _ _ hm
  obtain ⟨a1_0, a1_1, a1_2, a1_3, rfl, w1_0, w1_1, w1_2, w1_3⟩ := E.open_ratio Try.underlying26 Try.underlying24 Try.underlying24 Try.underlying2 Try.underlying22 ⟨rfl, rfl, rfl, rfl⟩ (by kernel_rfl) (by kernel_rfl) (by kernel_rfl) (by kernel_rfl) (by kernel_rfl) (hval 1 26 v1 rfl rfl) h1
  have ba1_0 : -9223372036854775808 ≤ a1_0 ∧ a1_0 < 9223372036854775808 := by have := bounds_i64 w1_0; omega
  have ba1_1 : 0 ≤ a1_1 ∧ a1_1 < 18446744073709551616 := by have := bounds_u64 w1_1; omega
  have ba1_2 : -9223372036854775808 ≤ a1_2 ∧ a1_2 < 9223372036854775808 := by have := bounds_i64 w1_2; omega
  have ba1_3 : 0 ≤ a1_3 ∧ a1_3 < 18446744073709551616 := by have := bounds_u64 w1_3; omega
  clear hA0 hval0 hsz0
  have hp : E.lawRR [VC.AP.g [VC.AC.v (.int .i64 a0_0), VC.AC.v (.int .u64 a0_1), VC.AC.v (.int .i64 a0_2), VC.AC.v (.int .u64 a0_3)], VC.AP.g [VC.AC.v (.int .i64 a1_0), VC.AC.v (.int .u64 a1_1), VC.AC.v (.int .i64 a1_2), VC.AC.v (.int .u64 a1_3)]] = some (.o (E.bv true)) := by simp [E.lawRR, E.bv, E.iv, VC.dL, VC.dW, VC.s1, VC.s2, VC.s3, VC.s4, ba0_0, ba0_1, ba0_2, ba0_3, ba1_0, ba1_1, ba1_2, ba1_3]
  refine (E.mRatioAdds _ _ hp (fun _ => False) W [.agg #[.int .i64 a0_0, .int .u64 a0_1, .int .i64 a0_2, .int .u64 a0_3], .agg #[.int .i64 a1_0, .int .u64 a1_1, .int .i64 a1_2, .int .u64 a1_3]] (fun _ h => h.elim) ⟨⟨[.int .i64 a0_0, .int .u64 a0_1, .int .i64 a0_2, .int .u64 a0_3], rfl, ⟨rfl, rfl⟩, ⟨rfl, rfl⟩, ⟨rfl, rfl⟩, ⟨rfl, rfl⟩, trivial⟩, ⟨[.int .i64 a1_0, .int .u64 a1_1, .int .i64 a1_2, .int .u64 a1_3], rfl, ⟨rfl, rfl⟩, ⟨rfl, rfl⟩, ⟨rfl, rfl⟩, ⟨rfl, rfl⟩, trivial⟩, trivial⟩).mono ?_
  rintro e W' ⟨y, rfl, hy, bel⟩
  obtain rfl : y = .bool true := hy.1
  exact ⟨_, rfl, _, _, _, [], _, [], hW', trodAll_mk1 (shut_bool Try.underlying4 _), (trodAll_cons_mk (Below.trod laidOut (by kernel_rfl) (of_decide_eq_true (by kernel_rfl)) k0 bel lt0) (trodAll_cons_mk (Below.trod laidOut (by kernel_rfl) (of_decide_eq_true (by kernel_rfl)) k1 bel lt1) trodAll_mk0)), rfl, bel.frame _, fun h => by cases h⟩
theorem over : Rows.ratioAddsRow.holds Try.pinned (OpenSpec.ofChange Rows.ratioAddsSpec) :=
  OpenClaim.holds_of_wide 8 Try.f8 rfl rfl rfl rfl rfl rfl rfl ⟨rfl, rfl, rfl, rfl, rfl⟩ rfl rfl rfl rfl rfl (by kernel_rfl) Try.func8 (by kernel_rfl)
    (of_decide_eq_true (by kernel_rfl)) (by unfold Func.isWrapper; first | (rw [if_pos (by decide +kernel)]; kernel_rfl) | (rw [if_neg (by decide +kernel)]; exact ⟨rfl, rfl⟩))
    (fun os started H enc _ => lifted os started H enc)
theorem proved : Rows.RatioAddsSaid := over
end Go.Proofs.Ytanolecbepjkcaa.ratioAdds
namespace Go.Proofs.Ytanolecbepjkcaa
/-- The row, under a short name, for the claim. -/
theorem ratioAdds_holds : Rows.RatioAddsSaid := ratioAdds.proved
end Go.Proofs.Ytanolecbepjkcaa

/- The law PtpFloors holds of the given program, for whatever arguments; what came in reads as it did. -/
import Derived.Test.YtanolecbepjkcaaRows
import Derived.Test.YtanolecbepjkcaaT1
import Derived.Test.YtanolecbepjkcaaO1
import Derived.WalkKit
import Derived.ProofKit
import Derived.OpenShut
import Derived.ShutString
import Derived.ChangeOld
import Derived.Below
import Derived.SizedLaws
import Derived.Carry
import Derived.Lib.SmallJoins
set_option linter.unusedVariables false
set_option linter.unusedSimpArgs false
namespace Go.Proofs.Ytanolecbepjkcaa.ptpFloors
open Go.ChangeShapes Go.WideShapes Go.ChangeAt Go.RowKit Go.Joins
theorem own : ownKnob Try.prog.godebug = none := by kernel_rfl
theorem laidOut : laidOutB Try.prog = true := by kernel_rfl
set_option maxRecDepth 100000 in
theorem lifted (os : Os) (started : os.Started) (H : Type) (enc : TypeId × Value → H) :
    ReturnsInHanded {} Try.checked os 21 .any (Rows.ptpFloorsSpec.pre6 enc Try.prog Try.f21 Rows.ptpFloorsRow.domain false) (Rows.ptpFloorsSpec.post enc Try.prog Try.f21 false true false false) := by
  refine returnsInHanded_of_change_sized (C := Try.checked) own started (by kernel_rfl) Try.func21
    (ChangeSpec.witness6 (enc := enc) (C := Try.checked) false ⟨#[], #[.agg #[.int .i64 0, .int .u64 0]], []⟩ 8 (by kernel_rfl) (by kernel_rfl) (by kernel_rfl) (by kernel_rfl)) ?_
  intro W base args ds gs before hval0 hW hcnd hsz0 _
  have hval : ∀ (j : Nat) t v, Try.f21.params[j]? = some t → args[j]? = some v → Value.okWide Try.prog W .any base t v := hval0
  have hW' := hW
  obtain ⟨p, q, hA0, hV, rfl, hfz, hnd⟩ := hW
  have hA : DataW.TrodAll enc Try.prog W 0 (fun _ => true) true Try.f21.params.toList args.toList ds p := hA0
  rw [Try.params21] at hA hval
  obtain ⟨v0, vs0, d0, ds0, p0, q0, hargs, rfl, rfl, h0, r0⟩ := trodAll_cons hA
  obtain ⟨rfl, rfl, rfl⟩ := trodAll_nil r0
  obtain rfl : args = #[v0] := by cases args; simp_all
  obtain ⟨rfl, rfl⟩ := trodVars_none hV
  have k0 := h0
  have lt0 : ∀ x ∈ p0, x.block < W.heap.size := by obtain ⟨m, hm⟩ := k0; exact DataW.trod_lt m _ _ _ hm
  obtain ⟨c0_0, c0_1, y0_0, y0_1, m0, rfl, rfl, rfl, hy0_0, hy0_1⟩ := open_agg2 Try.underlying24 (by kernel_rfl) (by kernel_rfl) (hval 0 24 v0 rfl rfl) h0
  obtain ⟨a0_0, e0_0, rfl, w0_0⟩ := DataW.trod_int Try.underlying2 hy0_0
  simp at e0_0
  subst e0_0
  obtain ⟨a0_1, e0_1, rfl, w0_1⟩ := DataW.trod_int Try.underlying22 hy0_1
  simp at e0_1
  subst e0_1
  have ba0_0 : -9223372036854775808 ≤ a0_0 ∧ a0_0 < 9223372036854775808 := by have := bounds_i64 w0_0; omega
  have ba0_1 : 0 ≤ a0_1 ∧ a0_1 < 18446744073709551616 := by have := bounds_u64 w0_1; omega
  clear hA0 hval0 hsz0
  have hp : E.lawW [VC.AP.g [VC.AC.v (.int .i64 a0_0), VC.AC.v (.int .u64 a0_1)]] = some (.o (E.bv true)) := by simp [E.lawW, E.bv, E.iv, VC.dL, VC.dW, VC.s1, VC.s2, VC.s3, VC.s4, ba0_0, ba0_1]
  refine (E.mPtpFloors _ _ hp (fun _ => False) W [.agg #[.int .i64 a0_0, .int .u64 a0_1]] (fun _ h => h.elim) ⟨⟨[.int .i64 a0_0, .int .u64 a0_1], rfl, ⟨rfl, rfl⟩, ⟨rfl, rfl⟩, trivial⟩, trivial⟩).mono ?_
  rintro e W' ⟨y, rfl, hy, bel⟩
  obtain rfl : y = .bool true := hy.1
  exact ⟨_, rfl, _, _, _, [], _, [], hW', trodAll_mk1 (shut_bool Try.underlying4 _), (trodAll_cons_mk (Below.trod laidOut (by kernel_rfl) (of_decide_eq_true (by kernel_rfl)) k0 bel lt0) trodAll_mk0), rfl, bel.frame _, fun h => by cases h⟩
theorem over : Rows.ptpFloorsRow.holds Try.pinned (OpenSpec.ofChange Rows.ptpFloorsSpec) :=
  OpenClaim.holds_of_wide 21 Try.f21 rfl rfl rfl rfl rfl rfl rfl ⟨rfl, rfl, rfl, rfl, rfl⟩ rfl rfl rfl rfl rfl (by kernel_rfl) Try.func21 (by kernel_rfl)
    (of_decide_eq_true (by kernel_rfl)) (by unfold Func.isWrapper; first | (rw [if_pos (by decide +kernel)]; kernel_rfl) | (rw [if_neg (by decide +kernel)]; exact ⟨rfl, rfl⟩))
    (fun os started H enc _ => lifted os started H enc)
theorem proved : Rows.PtpFloorsSaid := over
end Go.Proofs.Ytanolecbepjkcaa.ptpFloors
namespace Go.Proofs.Ytanolecbepjkcaa
/-- The row, under a short name, for the claim. -/
theorem ptpFloors_holds : Rows.PtpFloorsSaid := ptpFloors.proved
end Go.Proofs.Ytanolecbepjkcaa

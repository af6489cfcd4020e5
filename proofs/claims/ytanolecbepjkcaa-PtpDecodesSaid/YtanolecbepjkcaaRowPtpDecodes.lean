/- The law PtpDecodes holds of the given program, for whatever arguments; what came in reads as it did. -/
import Derived.Test.YtanolecbepjkcaaRows
import Derived.Test.YtanolecbepjkcaaT1
import Derived.Test.YtanolecbepjkcaaO1
import Derived.WalkKit
import Derived.ProofKit
import Derived.OpenShut
import Derived.ShutString
import Derived.ChangeOld
import Derived.Below
import Derived.SizedLaws
import Derived.Carry
import Derived.Lib.SmallJoins
set_option linter.unusedVariables false
set_option linter.unusedSimpArgs false
namespace Go.Proofs.Ytanolecbepjkcaa.ptpDecodes
open Go.ChangeShapes Go.WideShapes Go.ChangeAt Go.RowKit Go.Joins
theorem own : ownKnob Try.prog.godebug = none := by kernel_rfl
theorem laidOut : laidOutB Try.prog = true := by kernel_rfl
set_option maxRecDepth 100000 in
theorem lifted (os : Os) (started : os.Started) (H : Type) (enc : TypeId × Value → H) :
    ReturnsInHanded {} Try.checked os 20 .any (Rows.ptpDecodesSpec.pre6 enc Try.prog Try.f20 Rows.ptpDecodesRow.domain false) (Rows.ptpDecodesSpec.post enc Try.prog Try.f20 false true false false) := by
  refine returnsInHanded_of_change_sized (C := Try.checked) own started (by kernel_rfl) Try.func20
    (ChangeSpec.witness6 (enc := enc) (C := Try.checked) false ⟨#[], #[.slice none 0 0], []⟩ 8 (by kernel_rfl) (by kernel_rfl) (by kernel_rfl) (by kernel_rfl)) ?_
  intro W base args ds gs before hval0 hW hcnd hsz0 _
  have hval : ∀ (j : Nat) t v, Try.f20.params[j]? = some t → args[j]? = some v → Value.okWide Try.prog W .any base t v := hval0
  have hW' := hW
  obtain ⟨p, q, hA0, hV, rfl, hfz, hnd⟩ := hW
  have hA : DataW.TrodAll enc Try.prog W 0 (fun _ => true) true Try.f20.params.toList args.toList ds p := hA0
  rw [Try.params20] at hA hval
  obtain ⟨v0, vs0, d0, ds0, p0, q0, hargs, rfl, rfl, h0, r0⟩ := trodAll_cons hA
  obtain ⟨rfl, rfl, rfl⟩ := trodAll_nil r0
  obtain rfl : args = #[v0] := by cases args; simp_all
  obtain ⟨rfl, rfl⟩ := trodVars_none hV
  have k0 := h0
  have lt0 : ∀ x ∈ p0, x.block < W.heap.size := by obtain ⟨m, hm⟩ := k0; exact DataW.trod_lt m _ _ _ hm
  obtain ⟨a0, len0, cap0, rfl⟩ := okWide_slice Try.underlying72 (hval 0 72 v0 rfl rfl)
  obtain ⟨z0, hz0, hb0⟩ := E.bytes_in Try.underlying72 Try.underlying5 (by kernel_rfl) (hval 0 72 (.slice a0 len0 cap0) rfl rfl) h0
  clear hA0 hval0 hsz0
  have hp : E.lawY [VC.AP.c (.r .u8 z0)] = some (.o (E.bv true)) := by simp [E.lawY, E.bv, E.iv, VC.dL, VC.dW, VC.s1, VC.s2, VC.s3, VC.s4, hb0]
  refine (E.mPtpDecodes _ _ hp (fun _ => False) W [.slice a0 len0 cap0] (fun _ h => h.elim) ⟨hz0, trivial⟩).mono ?_
  rintro e W' ⟨y, rfl, hy, bel⟩
  obtain rfl : y = .bool true := hy.1
  exact ⟨_, rfl, _, _, _, [], _, [], hW', trodAll_mk1 (shut_bool Try.underlying4 _), (trodAll_cons_mk (Below.trod laidOut (by kernel_rfl) (of_decide_eq_true (by kernel_rfl)) k0 bel lt0) trodAll_mk0), rfl, bel.frame _, fun h => by cases h⟩
theorem over : Rows.ptpDecodesRow.holds Try.pinned (OpenSpec.ofChange Rows.ptpDecodesSpec) :=
  OpenClaim.holds_of_wide 20 Try.f20 rfl rfl rfl rfl rfl rfl rfl ⟨rfl, rfl, rfl, rfl, rfl⟩ rfl rfl rfl rfl rfl (by kernel_rfl) Try.func20 (by kernel_rfl)
    (of_decide_eq_true (by kernel_rfl)) (by unfold Func.isWrapper; first | (rw [if_pos (by decide +kernel)]; kernel_rfl) | (rw [if_neg (by decide +kernel)]; exact ⟨rfl, rfl⟩))
    (fun os started H enc _ => lifted os started H enc)
theorem proved : Rows.PtpDecodesSaid := over
end Go.Proofs.Ytanolecbepjkcaa.ptpDecodes
namespace Go.Proofs.Ytanolecbepjkcaa
/-- The row, under a short name, for the claim. -/
theorem ptpDecodes_holds : Rows.PtpDecodesSaid := ptpDecodes.proved
end Go.Proofs.Ytanolecbepjkcaa

/- The law CucSame holds of the given program, for whatever arguments; what came in reads as it did. -/
import Derived.Test.YtnjipdicfbkfdaaRows
import Derived.Test.YtnjipdicfbkfdaaCU3
import Derived.Test.YtnjipdicfbkfdaaO1
import Derived.WalkKit
import Derived.ProofKit
import Derived.OpenShut
import Derived.ShutString
import Derived.ChangeOld
import Derived.Below
import Derived.SizedLaws
import Derived.Carry
import Derived.Lib.SmallJoins
set_option linter.unusedVariables false
set_option linter.unusedSimpArgs false
namespace Go.Proofs.Ytnjipdicfbkfdaa.cucSame
open Go.ChangeShapes Go.WideShapes Go.ChangeAt Go.RowKit Go.Joins
theorem own : ownKnob Try.prog.godebug = none := by kernel_rfl
theorem laidOut : laidOutB Try.prog = true := by kernel_rfl
set_option maxRecDepth 100000 in
theorem lifted (os : Os) (started : os.Started) (H : Type) (enc : TypeId × Value → H) :
    ReturnsInHanded {} Try.checked os 19 .any (Rows.cucSameSpec.pre6 enc Try.prog Try.f19 Rows.cucSameRow.domain false) (Rows.cucSameSpec.post enc Try.prog Try.f19 false true false false) := by
  refine returnsInHanded_of_change_sized (C := Try.checked) own started (by kernel_rfl) Try.func19
    (ChangeSpec.witness6 (enc := enc) (C := Try.checked) false ⟨#[], #[.slice none 0 0, .agg #[.int .i64 0, .int .u64 0]], []⟩ 8 (by kernel_rfl) (by kernel_rfl) (by kernel_rfl) (by kernel_rfl)) ?_
  intro W base args ds gs before hval0 hW hcnd hsz0 _
  have hval : ∀ (j : Nat) t v, Try.f19.params[j]? = some t → args[j]? = some v → Value.okWide Try.prog W .any base t v := hval0
  have hW' := hW
  obtain ⟨p, q, hA0, hV, rfl, hfz, hnd⟩ := hW
  have hA : DataW.TrodAll enc Try.prog W 0 (fun _ => true) true Try.f19.params.toList args.toList ds p := hA0
  rw [Try.params19] at hA hval
  obtain ⟨v0, vs0, d0, ds0, p0, q0, hargs, rfl, rfl, h0, r0⟩ := trodAll_cons hA
  obtain ⟨v1, vs1, d1, ds1, p1, q1, rfl, rfl, rfl, h1, r1⟩ := trodAll_cons r0
  obtain ⟨rfl, rfl, rfl⟩ := trodAll_nil r1
  obtain rfl : args = #[v0, v1] := by cases args; simp_all
  obtain ⟨rfl, rfl⟩ := trodVars_none hV
  have k0 := h0
  have lt0 : ∀ x ∈ p0, x.block < W.heap.size := by obtain ⟨m, hm⟩ := k0; exact DataW.trod_lt m _ _ _ hm
  obtain ⟨a0, len0, cap0, rfl⟩ := okWide_slice Try.underlying41 (hval 0 41 v0 rfl rfl)
  obtain ⟨z0, hz0, hb0⟩ := E.bytes_in Try.underlying41 Try.underlying5 (by kernel_rfl) (hval 0 41 (.slice a0 len0 cap0) rfl rfl) h0
  have k1 := h1
  have lt1 : ∀ x ∈ p1, x.block < W.heap.size := by obtain ⟨m, hm⟩ := k1; exact DataW.trod_lt m _ _ _ hm
  obtain ⟨c1_0, c1_1, y1_0, y1_1, m1, rfl, rfl, rfl, hy1_0, hy1_1⟩ := open_agg2 Try.underlying24 (by kernel_rfl) (by kernel_rfl) (hval 1 24 v1 rfl rfl) h1
  obtain ⟨a1_0, e1_0, rfl, w1_0⟩ := DataW.trod_int Try.underlying2 hy1_0
  simp at e1_0
  subst e1_0
  obtain ⟨a1_1, e1_1, rfl, w1_1⟩ := DataW.trod_int Try.underlying22 hy1_1
  simp at e1_1
  subst e1_1
  have ba1_0 : -9223372036854775808 ≤ a1_0 ∧ a1_0 < 9223372036854775808 := by have := bounds_i64 w1_0; omega
  have ba1_1 : 0 ≤ a1_1 ∧ a1_1 < 18446744073709551616 := by have := bounds_u64 w1_1; omega
  clear hA0 hval0 hsz0
  have hp : E.lawYW [VC.AP.c (.r .u8 z0), VC.AP.g [VC.AC.v (.int .i64 a1_0), VC.AC.v (.int .u64 a1_1)]] = some (.o (E.bv true)) := by simp [E.lawYW, E.bv, E.iv, VC.dL, VC.dW, VC.s1, VC.s2, VC.s3, VC.s4, hb0, ba1_0, ba1_1]
  refine (E.mCucSame _ _ hp (fun _ => False) W [.slice a0 len0 cap0, .agg #[.int .i64 a1_0, .int .u64 a1_1]] (fun _ h => h.elim) ⟨hz0, ⟨[.int .i64 a1_0, .int .u64 a1_1], rfl, ⟨rfl, rfl⟩, ⟨rfl, rfl⟩, trivial⟩, trivial⟩).mono ?_
  rintro e W' ⟨y, rfl, hy, bel⟩
  obtain rfl : y = .bool true := hy.1
  exact ⟨_, rfl, _, _, _, [], _, [], hW', trodAll_mk1 (shut_bool Try.underlying4 _), (trodAll_cons_mk (Below.trod laidOut (by kernel_rfl) (of_decide_eq_true (by kernel_rfl)) k0 bel lt0) (trodAll_cons_mk (Below.trod laidOut (by kernel_rfl) (of_decide_eq_true (by kernel_rfl)) k1 bel lt1) trodAll_mk0)), rfl, bel.frame _, fun h => by cases h⟩
theorem over : Rows.cucSameRow.holds Try.pinned (OpenSpec.ofChange Rows.cucSameSpec) :=
  OpenClaim.holds_of_wide 19 Try.f19 rfl rfl rfl rfl rfl rfl rfl ⟨rfl, rfl, rfl, rfl, rfl⟩ rfl rfl rfl rfl rfl (by kernel_rfl) Try.func19 (by kernel_rfl)
    (of_decide_eq_true (by kernel_rfl)) (by unfold Func.isWrapper; first | (rw [if_pos (by decide +kernel)]; kernel_rfl) | (rw [if_neg (by decide +kernel)]; exact ⟨rfl, rfl⟩))
    (fun os started H enc _ => lifted os started H enc)
theorem proved : Rows.CucSameSaid := over
end Go.Proofs.Ytnjipdicfbkfdaa.cucSame
namespace Go.Proofs.Ytnjipdicfbkfdaa
/-- The row, under a short name, for the claim. -/
theorem cucSame_holds : Rows.CucSameSaid := cucSame.proved
end Go.Proofs.Ytnjipdicfbkfdaa

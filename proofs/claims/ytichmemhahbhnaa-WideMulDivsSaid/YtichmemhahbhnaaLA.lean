/- What the code of the laws of the chapters 01 and 02 answers. -/
import Derived.Test.YtichmemhahbhnaaKA
import Derived.Test.YtichmemhahbhnaaP0
set_option linter.unusedVariables false
set_option linter.unusedSimpArgs false
set_option maxHeartbeats 2000000
set_option maxRecDepth 100000
/- The law LimbTurns: what the code of the law answers. -/
namespace Go.Proofs.Ytichmemhahbhnaa.E
open Go.VC Go.RowKit

def sTrue : List AP → Option AV
  | [] => some (.o (bv true))
  | _ => none
abbrev spLimb : List (Nat × (List AP → Option AV)) := [(31, sLimbCmp), (26, sLimbAdd), (27, sLimbSub), (17, sLimbMul), (23, sLimbDiv)]
theorem okSpLimb : SpecOk Try.prog (spOf spLimb) := specOk_cons okLimbCmp (specOk_cons okLimbAdd (specOk_cons okLimbSub (specOk_cons okLimbMul (specOk_cons okLimbDiv specOk_nil))))
theorem okAnswers01 : Ok Try.prog 18 sTrue := ok_of Try.func18 epactlaw01_answers.ent epactlaw01_answers.chk okSpLimb fun av r h => by
  unfold sTrue at h
  split at h
  · cases h
    exact ⟨Nat.zero_le _, 5, by kernel_rfl⟩
  · cases h

/-- A law of two Limbs holds. -/
def sLaw2 : List AP → Option AV
  | [a, b] => match dL a, dL b with
    | some _, some _ => some (.o (bv true))
    | _, _ => none
  | _ => none
theorem mLimbTurns : MeetsAll Try.prog 7 sLaw2 := meets_all Try.func7 epactlaw01_LimbTurns.chk (specOk_cons okAnswers01 okSpLimb) fun av r h => by
  unfold sLaw2 at h
  split at h
  · split at h
    · rename_i a b x1 x2 x y hx hy
      cases h
      obtain ⟨rfl, hx0, hx1⟩ := dL_some hx
      obtain ⟨rfl, hy0, hy1⟩ := dL_some hy
      have dx := dL_lb hx0 hx1
      have dy := dL_lb hy0 hy1
      refine ⟨by simp [epactlaw01_LimbTurns.c], 5, ?_⟩
      have hw : IntKind.i64.wrap (0 - cmpI y x) = cmpI x y := by
        unfold cmpI
        split <;> split <;> (try split) <;> (try split) <;> first | omega | rfl
      have hw' : IntKind.i64.wrap (- cmpI y x) = cmpI x y := by rw [← hw]; simp
      have e : y + x = x + y := Int.add_comm _ _
      by_cases hov : 340282366920938463463374607431768211456 ≤ x + y
      · have ds := dL_lb (show 0 ≤ x + y - 340282366920938463463374607431768211456 by omega) (show x + y - 340282366920938463463374607431768211456 < 340282366920938463463374607431768211456 by omega)
        have hb : x + y - 340282366920938463463374607431768211456 < y := by omega
        have e1 : x + y - 340282366920938463463374607431768211456 - y + 340282366920938463463374607431768211456 = x := by omega
        simp [epactlaw01_LimbTurns.c, lb, sTrue, sLimbAdd, sLimbSub, sLimbCmp, dx, dy, e, hov, ds, hb, e1, hw, hw']
      · have ds := dL_lb (show 0 ≤ x + y by omega) (show x + y < 340282366920938463463374607431768211456 by omega)
        have hb : ¬ x + y < y := by omega
        have e1 : x + y - y = x := by omega
        simp [epactlaw01_LimbTurns.c, lb, sTrue, sLimbAdd, sLimbSub, sLimbCmp, dx, dy, e, hov, ds, hb, e1, hw, hw']
    · cases h
  · cases h
end Go.Proofs.Ytichmemhahbhnaa.E
/- The law LimbBack: what the code of the law answers. -/
namespace Go.Proofs.Ytichmemhahbhnaa.E
open Go.VC Go.RowKit

/-- A law of three Limbs holds. -/
def sLaw3 : List AP → Option AV
  | [a, b, c] => match dL a, dL b, dL c with
    | some _, some _, some _ => some (.o (bv true))
    | _, _, _ => none
  | _ => none
theorem mLimbBack : MeetsAll Try.prog 6 sLaw3 := meets_all Try.func6 epactlaw01_LimbBack.chk (specOk_cons okAnswers01 okSpLimb) fun av r h => by
  unfold sLaw3 at h
  split at h
  · split at h
    · rename_i a b c x1 x2 x3 x d m hx hd hm
      cases h
      obtain ⟨rfl, hx0, hx1⟩ := dL_some hx
      obtain ⟨rfl, hd0, hd1⟩ := dL_some hd
      obtain ⟨rfl, hm0, hm1⟩ := dL_some hm
      have dx := dL_lb hx0 hx1
      have dd := dL_lb hd0 hd1
      have dm := dL_lb hm0 hm1
      refine ⟨by simp [epactlaw01_LimbBack.c], 5, ?_⟩
      by_cases hc : d ≤ m
      · have h1 : 0 ≤ cmpI m d := by rw [cmpI_ge]; omega
        simp [epactlaw01_LimbBack.c, lb, sTrue, sLimbCmp, dd, dm, h1]
      · have h1 : ¬ 0 ≤ cmpI m d := by rw [cmpI_ge]; omega
        have hP0 : 0 ≤ x * d := Int.mul_nonneg hx0 hd0
        have hP1 : x * d + m < 340282366920938463463374607431768211456 * d := by
          have := Int.mul_le_mul_of_nonneg_right (show x + 1 ≤ 340282366920938463463374607431768211456 by omega) hd0
          rw [Int.add_mul, Int.one_mul] at this
          omega
        have hq : (x * d + m) / d = x := by rw [Int.add_comm, Int.add_mul_ediv_right _ _ (by omega), Int.ediv_eq_zero_of_lt hm0 (by omega), Int.zero_add]
        have hr : (x * d + m) % d = m := by rw [Int.add_comm, Int.add_mul_emod_self_right]; exact Int.emod_eq_of_lt hm0 (by omega)
        generalize hPd : x * d = P at *
        have dhi := dL_lb (show 0 ≤ P / 340282366920938463463374607431768211456 by omega) (show P / 340282366920938463463374607431768211456 < 340282366920938463463374607431768211456 by omega)
        have dlo := dL_lb (show 0 ≤ P % 340282366920938463463374607431768211456 by omega) (show P % 340282366920938463463374607431768211456 < 340282366920938463463374607431768211456 by omega)
        rw [show P % 340282366920938463463374607431768211456 % 18446744073709551616 = P % 18446744073709551616 by omega] at dlo
        by_cases ho : 340282366920938463463374607431768211456 ≤ P % 340282366920938463463374607431768211456 + m
        · have e1 : dL (.g [.v (.int .u64 0), .v (.int .u64 1)]) = some 1 := by decide
          have h2 : ¬ 340282366920938463463374607431768211456 ≤ P / 340282366920938463463374607431768211456 + 1 := by omega
          have dh2 := dL_lb (show 0 ≤ P / 340282366920938463463374607431768211456 + 1 by omega) (show P / 340282366920938463463374607431768211456 + 1 < 340282366920938463463374607431768211456 by omega)
          have dl2 := dL_lb (show 0 ≤ P % 340282366920938463463374607431768211456 + m - 340282366920938463463374607431768211456 by omega) (show P % 340282366920938463463374607431768211456 + m - 340282366920938463463374607431768211456 < 340282366920938463463374607431768211456 by omega)
          have h3 : P / 340282366920938463463374607431768211456 + 1 < d := by omega
          have e2 : (P / 340282366920938463463374607431768211456 + 1) * 340282366920938463463374607431768211456 + (P % 340282366920938463463374607431768211456 + m - 340282366920938463463374607431768211456) = P + m := by omega
          simp [epactlaw01_LimbBack.c, lb, sTrue, sLimbCmp, sLimbMul, sLimbAdd, sLimbDiv, dx, dd, dm, h1, hPd, dhi, dlo, ho, e1, h2, dh2, dl2, h3, e2, hq, hr]
        · have dl2 := dL_lb (show 0 ≤ P % 340282366920938463463374607431768211456 + m by omega) (show P % 340282366920938463463374607431768211456 + m < 340282366920938463463374607431768211456 by omega)
          have h3 : P / 340282366920938463463374607431768211456 < d := by omega
          have e2 : P / 340282366920938463463374607431768211456 * 340282366920938463463374607431768211456 + (P % 340282366920938463463374607431768211456 + m) = P + m := by omega
          simp [epactlaw01_LimbBack.c, lb, sTrue, sLimbCmp, sLimbMul, sLimbAdd, sLimbDiv, dx, dd, dm, h1, hPd, dhi, dlo, ho, dl2, h3, e2, hq, hr]
    · cases h
  · cases h
end Go.Proofs.Ytichmemhahbhnaa.E
/- The law WideBack: what the code of the law answers. -/
namespace Go.Proofs.Ytichmemhahbhnaa.E
open Go.VC Go.RowKit

def sTrue2 : List AP → Option AV
  | [] => some (.o (bv true))
  | _ => none
def sWNeg : List AP → Option AV
  | [a] => match dW a with
    | some x => some (fitW (-x))
    | _ => none
  | _ => none
theorem okWNeg : Ok Try.prog 44 sWNeg := ok_of' Try.func44 wide_Neg.ent wide_Neg.chk (specOk_cons okWSize (specOk_cons okWSigned specOk_nil)) fun av r h => by
  unfold sWNeg at h
  split at h
  · split at h
    · rename_i a x1 x hx
      cases h
      obtain ⟨rfl, hx0, hx1⟩ := dW_some hx
      have dx := dW_wd hx0 hx1
      refine ⟨by simp [wide_Neg.c], 0, ?_⟩
      by_cases hc : x < 0
      · have h1 : ¬ 0 ≤ x / 18446744073709551616 := by omega
        have d1 := dL_lb (show 0 ≤ -x by omega) (show -x < 340282366920938463463374607431768211456 by omega)
        by_cases h2 : -x < 170141183460469231731687303715884105728
        · have h3 : -170141183460469231731687303715884105728 ≤ -x := by omega
          simp [wide_Neg.c, wd, lb, sWSize, sWSigned, fitW, dx, d1, h1, hc, h2, h3]
        · simp [wide_Neg.c, wd, lb, sWSize, sWSigned, fitW, dx, d1, h1, hc, h2]
      · have h1 : 0 ≤ x / 18446744073709551616 := by omega
        have d1 := dL_lb (show 0 ≤ x by omega) (show x < 340282366920938463463374607431768211456 by omega)
        have h2 : x ≤ 170141183460469231731687303715884105728 := by omega
        have h3 : -170141183460469231731687303715884105728 ≤ -x ∧ -x < 170141183460469231731687303715884105728 := by omega
        simp [wide_Neg.c, wd, lb, sWSize, sWSigned, fitW, dx, d1, h1, hc, h2, h3]
    · cases h
  · cases h

abbrev spWide : List (Nat × (List AP → Option AV)) := [(33, sWOf), (32, sWInt), (37, sWCmp), (44, sWNeg), (42, sWAdd), (43, sWSub), (41, sWMul), (38, sWDiv), (39, sWMulDiv)]
theorem okSpWide : SpecOk Try.prog (spOf spWide) := specOk_cons okWOf (specOk_cons okWInt (specOk_cons okWCmp (specOk_cons okWNeg (specOk_cons okWAdd (specOk_cons okWSub (specOk_cons okWMul (specOk_cons okWDiv (specOk_cons okWMulDiv specOk_nil))))))))
theorem okAnswers02 : Ok Try.prog 36 sTrue2 := ok_of Try.func36 epactlaw02_answers.ent epactlaw02_answers.chk okSpWide fun av r h => by
  unfold sTrue2 at h
  split at h
  · cases h
    exact ⟨Nat.zero_le _, 5, by kernel_rfl⟩
  · cases h

/-- A law of three Wides holds. -/
def sLawW3 : List AP → Option AV
  | [a, b, c] => match dW a, dW b, dW c with
    | some _, some _, some _ => some (.o (bv true))
    | _, _, _ => none
  | _ => none
theorem mWideBack : MeetsAll Try.prog 13 sLawW3 := meets_all Try.func13 epactlaw02_WideBack.chk (specOk_cons okAnswers02 okSpWide) fun av r h => by
  unfold sLawW3 at h
  split at h
  · split at h
    · rename_i a b c x1 x2 x3 x y d hx hy hd
      cases h
      obtain ⟨rfl, hx0, hx1⟩ := dW_some hx
      obtain ⟨rfl, hy0, hy1⟩ := dW_some hy
      obtain ⟨rfl, hd0, hd1⟩ := dW_some hd
      have dx := dW_wd hx0 hx1
      have dy := dW_wd hy0 hy1
      have dd := dW_wd hd0 hd1
      refine ⟨by simp [epactlaw02_WideBack.c], 5, ?_⟩
      have hxf : -170141183460469231731687303715884105728 ≤ x ∧ x < 170141183460469231731687303715884105728 := ⟨hx0, hx1⟩
      by_cases cd : d ≤ 0
      · have c2 : cmpI d 0 ≤ 0 := cmpI_le.2 cd
        by_cases cf : -170141183460469231731687303715884105728 ≤ x + y ∧ x + y < 170141183460469231731687303715884105728
        · have ds := dW_wd cf.1 cf.2
          simp [epactlaw02_WideBack.c, wd, sTrue2, sWAdd, sWSub, sWDiv, sWMul, sWCmp, fitW, divW, dx, dy, dd, cf, ds, hxf, cd, c2, dW0]
        · simp [epactlaw02_WideBack.c, wd, sTrue2, sWAdd, sWSub, sWDiv, sWMul, sWCmp, fitW, divW, dx, dy, dd, cf, hxf, cd, c2, dW0]
      · have hdp : 0 < d := by omega
        have hq := div_fits hx0 hx1 hdp
        have dq := dW_wd hq.1 hq.2
        have r0 : 0 ≤ x % d := Int.emod_nonneg _ (by omega)
        have r1 : x % d < d := Int.emod_lt_of_pos _ hdp
        have hm := Int.mul_ediv_add_emod x d
        rw [Int.mul_comm] at hm
        have dr := dW_wd (show -170141183460469231731687303715884105728 ≤ x % d by omega) (show x % d < 170141183460469231731687303715884105728 by omega)
        have c3 : cmpI (x % d) d < 0 := cmpI_lt.2 r1
        have c4 : 0 ≤ x % d / 18446744073709551616 := by omega
        generalize hqd : x / d = q at *
        generalize hrd : x % d = t at *
        generalize hPd : q * d = P at *
        by_cases cp : -170141183460469231731687303715884105728 ≤ P ∧ P < 170141183460469231731687303715884105728
        · have dp := dW_wd cp.1 cp.2
          by_cases cf : -170141183460469231731687303715884105728 ≤ x + y ∧ x + y < 170141183460469231731687303715884105728
          · have ds := dW_wd cf.1 cf.2
            simp [epactlaw02_WideBack.c, wd, sTrue2, sWAdd, sWSub, sWDiv, sWMul, sWCmp, fitW, divW, dx, dy, dd, cf, ds, hxf, cd, hqd, hrd, hPd, hq, dq, dr, dp, cp, hm, c3, c4, dW0]
          · simp [epactlaw02_WideBack.c, wd, sTrue2, sWAdd, sWSub, sWDiv, sWMul, sWCmp, fitW, divW, dx, dy, dd, cf, hxf, cd, hqd, hrd, hPd, hq, dq, dr, dp, cp, hm, c3, c4, dW0]
        · have c5 : cmpI x 0 < 0 := cmpI_lt.2 (by omega)
          by_cases cf : -170141183460469231731687303715884105728 ≤ x + y ∧ x + y < 170141183460469231731687303715884105728
          · have ds := dW_wd cf.1 cf.2
            simp [epactlaw02_WideBack.c, wd, sTrue2, sWAdd, sWSub, sWDiv, sWMul, sWCmp, fitW, divW, dx, dy, dd, cf, ds, hxf, cd, hqd, hrd, hPd, hq, dq, dr, cp, hm, c5, dW0]
          · simp [epactlaw02_WideBack.c, wd, sTrue2, sWAdd, sWSub, sWDiv, sWMul, sWCmp, fitW, divW, dx, dy, dd, cf, hxf, cd, hqd, hrd, hPd, hq, dq, dr, cp, hm, c5, dW0]
    · cases h
  · cases h
end Go.Proofs.Ytichmemhahbhnaa.E
/- The laws LimbAdds, LimbMuls and LimbDivs: what their code answers. -/
namespace Go.Proofs.Ytichmemhahbhnaa.E
open Go.VC Go.RowKit

/-! ### The law's own: a Limb as a number -/
abbrev tLOf := s1 coL Tt1 fun x => .o (mkB x)
theorem okLOf : Ok Try.prog 22 tLOf := ok1 (code_mk Try.func22 epactlaw01_of.ent epactlaw01_of.chk (specOk_cons okPow2 (specOk_cons okMulB (specOk_cons okTWord (specOk_cons okTAddB specOk_nil))))) (by simp [epactlaw01_of.c]) fun x hx _ => by
  simp at hx
  refine ⟨0, ?_⟩
  have h1 : 0 ≤ whi x ∧ whi x < 18446744073709551616 := by unfold whi; omega
  have h2 : 0 ≤ wlo x ∧ wlo x < 18446744073709551616 := by unfold wlo; omega
  have s1 : smB (whi x) := by unfold smB; omega
  have s2 : smB 18446744073709551616 := by decide
  have s3 : smB (whi x * 18446744073709551616) := by unfold smB; omega
  have s4 : smB (wlo x) := by unfold smB; omega
  simp [epactlaw01_of.c, h1, h2, s1, s2, s3, s4, whi_wlo, q64]
abbrev tLBoth := s2 coL coL Tt2 fun x y => .o (mkB (x * 340282366920938463463374607431768211456 + y))
theorem okLBoth : Ok Try.prog 20 tLBoth := ok2 (code_mk Try.func20 epactlaw01_both.ent epactlaw01_both.chk (specOk_cons okLOf (specOk_cons okPow2 (specOk_cons okMulB (specOk_cons okTAddB specOk_nil))))) (by simp [epactlaw01_both.c]) fun x y hx hy _ => by
  simp at hx hy
  refine ⟨0, ?_⟩
  have s1 : smB x := by unfold smB; omega
  have s2 : smB 340282366920938463463374607431768211456 := by decide
  have s3 : smB (x * 340282366920938463463374607431768211456) := by unfold smB; omega
  have s4 : smB y := by unfold smB; omega
  simp [epactlaw01_both.c, hx, hy, s1, s2, s3, s4, q128]
theorem okAns01 : Ok Try.prog 18 tTrue := okAnswers01.via fun av r h => by
  unfold tTrue s0 at h
  split at h
  · exact h
  · cases h
abbrev lawLL := s2 coL coL Tt2 fun _ _ => .o (bv true)
abbrev lawLLL := s3 coL coL coL Tt3 fun _ _ _ => .o (bv true)
abbrev spLaw1 : List (Nat × (List AP → Option AV)) := [(18, tTrue), (22, tLOf), (20, tLBoth), (26, tLAdd), (27, tLSub), (31, tLCmp), (17, tLMul), (23, tLDiv), (28, tAddB), (29, tSubB), (21, tMulB), (25, tDivB), (24, tCmpB), (19, tSameB), (30, tPow2)]
theorem okSpLaw1 : SpecOk Try.prog (spOf spLaw1) := specOk_cons okAns01 (specOk_cons okLOf (specOk_cons okLBoth (specOk_cons okTLAdd (specOk_cons okTLSub (specOk_cons okTLCmp (specOk_cons okTLMul (specOk_cons okTLDiv (specOk_cons okTAddB (specOk_cons okTSubB (specOk_cons okMulB (specOk_cons okDivB (specOk_cons okTCmpB (specOk_cons okTSameB (specOk_cons okPow2 specOk_nil))))))))))))))
theorem smB_l {x : Int} (h0 : 0 ≤ x) (h1 : x ≤ 340282366920938463463374607431768211456 * 340282366920938463463374607431768211456 * 340282366920938463463374607431768211456) : smB x := by unfold smB; omega
theorem mLimbAdds : MeetsAll Try.prog 5 lawLL := all2 (code_mk Try.func5 epactlaw01_LimbAdds.ent epactlaw01_LimbAdds.chk okSpLaw1) (by simp [epactlaw01_LimbAdds.c]) fun x y hx hy _ => by
  simp at hx hy
  refine ⟨0, ?_⟩
  have s1 : smB x := by unfold smB; omega
  have s2 : smB y := by unfold smB; omega
  have s3 : smB (x + y) := by unfold smB; omega
  have s4 : smB (x - y) := by unfold smB; omega
  have s5 : smB 340282366920938463463374607431768211456 := by decide
  have s6 : smB (x + y - 340282366920938463463374607431768211456) := by unfold smB; omega
  have s7 : smB (x - y + 340282366920938463463374607431768211456) := by unfold smB; omega
  by_cases hov : 340282366920938463463374607431768211456 ≤ x + y
  · have f1 : 0 ≤ x + y - 340282366920938463463374607431768211456 ∧ x + y - 340282366920938463463374607431768211456 < 340282366920938463463374607431768211456 := by omega
    by_cases hlt : x < y
    · have hlt' := Int.not_le.2 hlt
      have f2 : 0 ≤ x - y + 340282366920938463463374607431768211456 ∧ x - y + 340282366920938463463374607431768211456 < 340282366920938463463374607431768211456 := by omega
      have n1 : ngB (x - y) = true := ngB_neg (by omega)
      have n2 : x - y < 0 := by omega
      simp (maxSteps := 4000000) [epactlaw01_LimbAdds.c, hx, hy, s1, s2, s3, s4, s5, s6, s7, hov, hlt, hlt', f1, f2, q128, n2]
    · have hlt' := Int.not_lt.1 hlt
      have f2 : 0 ≤ x - y ∧ x - y < 340282366920938463463374607431768211456 := by omega
      have n1 : ngB (x - y) = false := ngB_pos (by omega)
      have n2 : 0 ≤ x - y := by omega
      simp (maxSteps := 4000000) [epactlaw01_LimbAdds.c, hx, hy, s1, s2, s3, s4, s5, s6, s7, hov, hlt, hlt', f1, f2, q128, n2]
  · have hov' := Int.not_le.1 hov
    have f1 : 0 ≤ x + y ∧ x + y < 340282366920938463463374607431768211456 := by omega
    by_cases hlt : x < y
    · have hlt' := Int.not_le.2 hlt
      have f2 : 0 ≤ x - y + 340282366920938463463374607431768211456 ∧ x - y + 340282366920938463463374607431768211456 < 340282366920938463463374607431768211456 := by omega
      have n1 : ngB (x - y) = true := ngB_neg (by omega)
      have n2 : x - y < 0 := by omega
      simp (maxSteps := 4000000) [epactlaw01_LimbAdds.c, hx, hy, s1, s2, s3, s4, s5, s6, s7, hov, hov', hlt, hlt', f1, f2, q128, n2]
    · have hlt' := Int.not_lt.1 hlt
      have f2 : 0 ≤ x - y ∧ x - y < 340282366920938463463374607431768211456 := by omega
      have n1 : ngB (x - y) = false := ngB_pos (by omega)
      have n2 : 0 ≤ x - y := by omega
      simp (maxSteps := 4000000) [epactlaw01_LimbAdds.c, hx, hy, s1, s2, s3, s4, s5, s6, s7, hov, hov', hlt, hlt', f1, f2, q128, n2]
theorem mul_rng {x y m : Int} (h1 : 0 ≤ x) (h2 : x ≤ m) (h3 : 0 ≤ y) (h4 : y ≤ m) : 0 ≤ x * y ∧ x * y ≤ m * m := ⟨Int.mul_nonneg h1 h3, Int.mul_le_mul h2 h4 h3 (by omega)⟩
theorem mLimbMuls : MeetsAll Try.prog 3 lawLL := all2 (code_mk Try.func3 epactlaw01_LimbMuls.ent epactlaw01_LimbMuls.chk okSpLaw1) (by simp [epactlaw01_LimbMuls.c]) fun x y hx hy _ => by
  simp at hx hy
  refine ⟨0, ?_⟩
  obtain ⟨p0, p1⟩ := mul_rng (m := 340282366920938463463374607431768211456) hx.1 (by omega) hy.1 (by omega)
  have p2 : x * y < 340282366920938463463374607431768211456 * 340282366920938463463374607431768211456 := by
    have : x * y ≤ (340282366920938463463374607431768211456 - 1) * (340282366920938463463374607431768211456 - 1) := (mul_rng hx.1 (by omega) hy.1 (by omega)).2
    omega
  have s1 : smB x := by unfold smB; omega
  have s2 : smB y := by unfold smB; omega
  generalize hP : x * y = P at *
  have s3 : smB P := smB_l p0 (by omega)
  have f1 : 0 ≤ P / 340282366920938463463374607431768211456 ∧ P / 340282366920938463463374607431768211456 < 340282366920938463463374607431768211456 := by omega
  have f2 : 0 ≤ P % 340282366920938463463374607431768211456 ∧ P % 340282366920938463463374607431768211456 < 340282366920938463463374607431768211456 := by omega
  have e : P / 340282366920938463463374607431768211456 * 340282366920938463463374607431768211456 + P % 340282366920938463463374607431768211456 = P := by omega
  simp [epactlaw01_LimbMuls.c, hx, hy, s1, s2, s3, hP, f1, f2, e]
theorem mLimbDivs : MeetsAll Try.prog 4 lawLLL := all3 (code_mk Try.func4 epactlaw01_LimbDivs.ent epactlaw01_LimbDivs.chk okSpLaw1) (by simp [epactlaw01_LimbDivs.c]) fun h l d hh hl hd _ => by
  simp at hh hl hd
  refine ⟨0, ?_⟩
  have s1 : smB h := by unfold smB; omega
  have s2 : smB l := by unfold smB; omega
  have s3 : smB d := by unfold smB; omega
  have s4 : smB (h * 340282366920938463463374607431768211456 + l) := by unfold smB; omega
  by_cases hlt : h < d
  · have hlt' := Int.not_le.2 hlt
    have d0 : 0 < d := by omega
    have d1 : 65536 * d < 4562440617622195218641171605700291324893228507248559930579192517899275167208677386505912811317371399778642309573594407310688704721375437998252661319722214188251994674360264950082874192246603776 := by omega
    have q0 : 0 ≤ (h * 340282366920938463463374607431768211456 + l) / d := Int.ediv_nonneg (by omega) (by omega)
    have q1 : (h * 340282366920938463463374607431768211456 + l) / d < 340282366920938463463374607431768211456 := Int.ediv_lt_of_lt_mul d0 (by omega)
    have r0 := Int.emod_nonneg (h * 340282366920938463463374607431768211456 + l) (show d ≠ 0 by omega)
    have r1 := Int.emod_lt_of_pos (h * 340282366920938463463374607431768211456 + l) d0
    have r2 : (h * 340282366920938463463374607431768211456 + l) % d < 340282366920938463463374607431768211456 := by omega
    have s5 : smB ((h * 340282366920938463463374607431768211456 + l) / d) := smB_l q0 (by omega)
    have s6 : smB ((h * 340282366920938463463374607431768211456 + l) % d) := smB_l r0 (by omega)
    simp [epactlaw01_LimbDivs.c, hh, hl, hd, s1, s2, s3, s4, s5, s6, hlt, hlt', d0, d1, q0, q1, r0, r2]
  · have hlt' := Int.not_lt.1 hlt
    simp [epactlaw01_LimbDivs.c, hh, hl, hd, s1, s2, s3, s4, hlt, hlt']
end Go.Proofs.Ytichmemhahbhnaa.E
/- The laws of the chapter 02: what their code answers. -/
namespace Go.Proofs.Ytichmemhahbhnaa.E
open Go.VC Go.RowKit

theorem okAns02 : Ok Try.prog 36 tTrue := okAnswers02.via fun av r h => by
  unfold tTrue s0 at h
  split at h
  · exact h
  · cases h
abbrev tFits := s3 coW coI coB (fun a e b => smB b) fun a e b => if -170141183460469231731687303715884105728 ≤ b ∧ b < 170141183460469231731687303715884105728 then .o (bv (decide (e = 0 ∧ a = b))) else .o (bv (decide (e = 2 ∧ a = 0)))
theorem okFits : Ok Try.prog 40 tFits := ok3 (code_mk Try.func40 epactlaw02_fits.ent epactlaw02_fits.chk (specOk_cons okWideB specOk_nil)) (by simp [epactlaw02_fits.c]) fun a e b ha he _ hg => by
  simp at ha he
  refine ⟨0, ?_⟩
  by_cases hf : -170141183460469231731687303715884105728 ≤ b ∧ b < 170141183460469231731687303715884105728
  · by_cases h0 : e = 0
    · simp [epactlaw02_fits.c, ha, he, hg, hf, h0]
    · simp [epactlaw02_fits.c, ha, he, hg, hf, h0]
  · by_cases h0 : e = 2
    · simp [epactlaw02_fits.c, ha, he, hg, hf, h0]
    · simp [epactlaw02_fits.c, ha, he, hg, hf, h0]
abbrev tWNeg := s1 coW Tt1 fun x => fitW (-x)
theorem okTWNeg : Ok Try.prog 44 tWNeg := okWNeg.via fun av r h => by
  obtain ⟨x, rfl, h1, -, rfl⟩ := s1_some h
  simp only [sWNeg, eW h1]
abbrev spLaw2 : List (Nat × (List AP → Option AV)) := (36, tTrue) :: (40, tFits) :: (33, tWOf) :: (32, tWInt) :: (37, tWCmp) :: (44, tWNeg) :: (42, tWAdd) :: (43, tWSub) :: (41, tWMul) :: (38, tWDiv) :: (39, tWMulDiv) :: spRef
theorem okSpLaw2 : SpecOk Try.prog (spOf spLaw2) := specOk_cons okAns02 (specOk_cons okFits (specOk_cons okTWOf (specOk_cons okTWInt (specOk_cons okTWCmp (specOk_cons okTWNeg (specOk_cons okTWAdd (specOk_cons okTWSub (specOk_cons okTWMul (specOk_cons okTWDiv (specOk_cons okTWMulDiv okSpRef))))))))))
theorem mWideInts : MeetsAll Try.prog 8 lawIWW := all3 (code_mk Try.func8 epactlaw02_WideInts.ent epactlaw02_WideInts.chk okSpLaw2) (by simp [epactlaw02_WideInts.c]) fun n x y hn hx hy _ => by
  simp at hn hx hy
  refine ⟨0, ?_⟩
  have s1 : smB x := by unfold smB; omega
  have s2 : smB y := by unfold smB; omega
  have s3 : smB n := by unfold smB; omega
  have hn2 : -170141183460469231731687303715884105728 ≤ n ∧ n < 170141183460469231731687303715884105728 := by omega
  have hw : -9223372036854775808 ≤ IntKind.i64.wrap (wlo x) ∧ IntKind.i64.wrap (wlo x) < 9223372036854775808 := by rw [IntKind.wrap_i64]; unfold wlo; omega
  have s4 : smB (IntKind.i64.wrap (wlo x)) := by unfold smB; omega
  by_cases hf : -9223372036854775808 ≤ x ∧ x < 9223372036854775808
  · have e : IntKind.i64.wrap (wlo x) = x := by rw [IntKind.wrap_i64]; unfold wlo; omega
    simp [epactlaw02_WideInts.c, hn, hn2, hx, hy, s1, s2, s3, hf, e]
  · have e : ¬ x = IntKind.i64.wrap (wlo x) := by rw [IntKind.wrap_i64]; unfold wlo; omega
    simp [epactlaw02_WideInts.c, hn, hn2, hx, hy, s1, s2, s3, s4, hf, hw, e]
theorem mWideAdds : MeetsAll Try.prog 12 lawWW := all2 (code_mk Try.func12 epactlaw02_WideAdds.ent epactlaw02_WideAdds.chk okSpLaw2) (by simp [epactlaw02_WideAdds.c]) fun x y hx hy _ => by
  simp at hx hy
  refine ⟨0, ?_⟩
  have s1 : smB x := by unfold smB; omega
  have s2 : smB y := by unfold smB; omega
  have s3 : smB (x + y) := by unfold smB; omega
  have s4 : smB (x - y) := by unfold smB; omega
  have s5 : smB (-x) := by unfold smB; omega
  by_cases f1 : -170141183460469231731687303715884105728 ≤ x + y ∧ x + y < 170141183460469231731687303715884105728 <;> by_cases f2 : -170141183460469231731687303715884105728 ≤ x - y ∧ x - y < 170141183460469231731687303715884105728 <;> by_cases f3 : -170141183460469231731687303715884105728 ≤ -x ∧ -x < 170141183460469231731687303715884105728 <;>
    simp [epactlaw02_WideAdds.c, hx, hy, s1, s2, s3, s4, s5, f1, f2, f3]
theorem wmul_rng {x y : Int} (hx : -170141183460469231731687303715884105728 ≤ x ∧ x < 170141183460469231731687303715884105728) (hy : -170141183460469231731687303715884105728 ≤ y ∧ y < 170141183460469231731687303715884105728) : -(170141183460469231731687303715884105728 * 170141183460469231731687303715884105728) ≤ x * y ∧ x * y ≤ 170141183460469231731687303715884105728 * 170141183460469231731687303715884105728 := by
  have h1 : x.natAbs ≤ 170141183460469231731687303715884105728 := by omega
  have h2 : y.natAbs ≤ 170141183460469231731687303715884105728 := by omega
  have h3 := Nat.mul_le_mul h1 h2
  rw [← Int.natAbs_mul] at h3
  omega
theorem mWideMuls : MeetsAll Try.prog 11 lawWW := all2 (code_mk Try.func11 epactlaw02_WideMuls.ent epactlaw02_WideMuls.chk okSpLaw2) (by simp [epactlaw02_WideMuls.c]) fun x y hx hy _ => by
  simp at hx hy
  refine ⟨0, ?_⟩
  have s1 : smB x := by unfold smB; omega
  have s2 : smB y := by unfold smB; omega
  have hm := wmul_rng hx hy
  generalize hP : x * y = P at *
  have s3 : smB P := by unfold smB; omega
  by_cases f1 : -170141183460469231731687303715884105728 ≤ P ∧ P < 170141183460469231731687303715884105728 <;> simp [epactlaw02_WideMuls.c, hx, hy, s1, s2, s3, hP, f1]
theorem mWideDivs : MeetsAll Try.prog 9 lawWW := all2 (code_mk Try.func9 epactlaw02_WideDivs.ent epactlaw02_WideDivs.chk okSpLaw2) (by simp [epactlaw02_WideDivs.c]) fun x d hx hd _ => by
  simp at hx hd
  refine ⟨0, ?_⟩
  have s1 : smB x := by unfold smB; omega
  have s2 : smB d := by unfold smB; omega
  have s0 : smB 0 := by decide
  by_cases h : 0 < d
  · have h' := Int.not_le.2 h
    have hq := div_fits hx.1 hx.2 h
    have r0 := Int.emod_nonneg x (show d ≠ 0 by omega)
    have r1 := Int.emod_lt_of_pos x h
    have d1 : 65536 * d < 4562440617622195218641171605700291324893228507248559930579192517899275167208677386505912811317371399778642309573594407310688704721375437998252661319722214188251994674360264950082874192246603776 := by omega
    have f1 : -170141183460469231731687303715884105728 ≤ x % d ∧ x % d < 170141183460469231731687303715884105728 := by omega
    have s3 : smB (x / d) := by unfold smB; omega
    have s4 : smB (x % d) := by unfold smB; omega
    simp [epactlaw02_WideDivs.c, hx, hd, s0, s1, s2, s3, s4, h, h', hq, f1, d1]
  · have h' := Int.not_lt.1 h
    simp [epactlaw02_WideDivs.c, hx, hd, s0, s1, s2, h, h']
theorem mWideMulDivs : MeetsAll Try.prog 10 lawWWW := all3 (code_mk Try.func10 epactlaw02_WideMulDivs.ent epactlaw02_WideMulDivs.chk okSpLaw2) (by simp [epactlaw02_WideMulDivs.c]) fun x y d hx hy hd _ => by
  simp at hx hy hd
  refine ⟨0, ?_⟩
  have s1 : smB x := by unfold smB; omega
  have s2 : smB y := by unfold smB; omega
  have s3 : smB d := by unfold smB; omega
  have s0 : smB 0 := by decide
  by_cases h : 0 < d
  · have h' := Int.not_le.2 h
    have hm := wmul_rng hx hy
    generalize hP : x * y = P at *
    have s4 : smB P := by unfold smB; omega
    have r0 := Int.emod_nonneg P (show d ≠ 0 by omega)
    have r1 := Int.emod_lt_of_pos P h
    have d1 : 65536 * d < 4562440617622195218641171605700291324893228507248559930579192517899275167208677386505912811317371399778642309573594407310688704721375437998252661319722214188251994674360264950082874192246603776 := by omega
    have f1 : -170141183460469231731687303715884105728 ≤ P % d ∧ P % d < 170141183460469231731687303715884105728 := by omega
    have q0 : -(170141183460469231731687303715884105728 * 170141183460469231731687303715884105728) ≤ P / d := by
      refine Int.le_ediv_of_mul_le h ?_
      have : (170141183460469231731687303715884105728 * 170141183460469231731687303715884105728) * 1 ≤ (170141183460469231731687303715884105728 * 170141183460469231731687303715884105728) * d := Int.mul_le_mul_of_nonneg_left (by omega) (by decide)
      omega
    have q1 : P / d ≤ 170141183460469231731687303715884105728 * 170141183460469231731687303715884105728 := by
      have : P / d < 170141183460469231731687303715884105728 * 170141183460469231731687303715884105728 + 1 := Int.ediv_lt_of_lt_mul h (by
        have : (170141183460469231731687303715884105728 * 170141183460469231731687303715884105728 + 1) * 1 ≤ (170141183460469231731687303715884105728 * 170141183460469231731687303715884105728 + 1) * d := Int.mul_le_mul_of_nonneg_left (by omega) (by decide)
        omega)
      omega
    have s5 : smB (P / d) := by unfold smB; omega
    have s6 : smB (P % d) := by unfold smB; omega
    by_cases hq : -170141183460469231731687303715884105728 ≤ P / d ∧ P / d < 170141183460469231731687303715884105728
    · simp [epactlaw02_WideMulDivs.c, hx, hy, hd, s0, s1, s2, s3, s4, s5, s6, h, h', hq, f1, d1, hP]
    · simp [epactlaw02_WideMulDivs.c, hx, hy, hd, s0, s1, s2, s3, s4, s5, s6, h, h', hq, f1, d1, hP]
  · have h' := Int.not_lt.1 h
    simp [epactlaw02_WideMulDivs.c, hx, hy, hd, s0, s1, s2, s3, h, h']
end Go.Proofs.Ytichmemhahbhnaa.E

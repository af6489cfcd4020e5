/- Words of all laws: the packages wide and the reference, as lists of specifications. -/
import Derived.Test.YtanolecbepjkcaaBA
set_option linter.unusedVariables false
set_option linter.unusedSimpArgs false
set_option maxHeartbeats 2000000
set_option maxRecDepth 100000
namespace Go.Proofs.Ytanolecbepjkcaa.E
open Go.VC Go.RowKit

abbrev spW : List (Nat × (List AP → Option AV)) := [(78, tWOf), (87, tWInt), (71, tWCmp), (83, tWAdd), (99, tWSub), (85, tWMul), (73, tWDiv), (96, tWMulDiv)]
theorem okSpW : SpecOk Try.prog (spOf spW) := specOk_cons okTWOf (specOk_cons okTWInt (specOk_cons okTWCmp (specOk_cons okTWAdd (specOk_cons okTWSub (specOk_cons okTWMul (specOk_cons okTWDiv (specOk_cons okTWMulDiv specOk_nil)))))))
abbrev tTrue : List AP → Option AV := s0 (.o (bv true))
abbrev lawW := s1 coW Tt1 fun _ => .o (bv true)
abbrev lawWW := s2 coW coW Tt2 fun _ _ => .o (bv true)
abbrev lawIWW := s3 coI coW coW Tt3 fun _ _ _ => .o (bv true)
abbrev lawWWW := s3 coW coW coW Tt3 fun _ _ _ => .o (bv true)
/-- Not great. -/
def md (x : Int) : Prop := -2037035976334486086268445688409378161051468393665936250636140449354381299763336706183397376 < x ∧ x < 2037035976334486086268445688409378161051468393665936250636140449354381299763336706183397376
instance (x : Int) : Decidable (md x) := inferInstanceAs (Decidable (_ ∧ _))
theorem w_md {x : Int} (h : -170141183460469231731687303715884105728 ≤ x ∧ x < 170141183460469231731687303715884105728) : md x := by unfold md; omega
theorem md_sm {x : Int} (h : md x) : smB x := by unfold md at h; unfold smB; omega
abbrev spRef : List (Nat × (List AP → Option AV)) := [(24, tOf), (25, tIntB), (31, tAddB), (47, tSubB), (77, tNegB), (34, tMulB), (29, tDivB), (23, tCmpB), (30, tSameB), (91, tWideB)]
theorem okSpRef : SpecOk Try.prog (spOf spRef) := specOk_cons okOf (specOk_cons okTIntB (specOk_cons okTAddB (specOk_cons okTSubB (specOk_cons okTNegB (specOk_cons okMulB (specOk_cons okDivB (specOk_cons okTCmpB (specOk_cons okTSameB (specOk_cons okWideB specOk_nil)))))))))
end Go.Proofs.Ytanolecbepjkcaa.E

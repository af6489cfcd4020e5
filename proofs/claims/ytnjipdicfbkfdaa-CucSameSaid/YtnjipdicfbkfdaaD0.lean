/- Labels; a number as an int. -/
import Derived.Test.YtnjipdicfbkfdaaP0
set_option linter.unusedVariables false
set_option linter.unusedSimpArgs false
set_option maxHeartbeats 2000000
set_option maxRecDepth 100000
namespace Go.Proofs.Ytnjipdicfbkfdaa.E
open Go.VC Go.RowKit

/-! ### Labels -/
abbrev lab (d s a : Int) : AP := .g [.v (.int .i64 d), .v (.int .i64 s), .v (.int .i64 a)]
def vLab : AP → Bool
  | .g [.v (.int .i64 d), .v (.int .i64 s), .v (.int .i64 a)] => decide ((-9223372036854775808 ≤ d ∧ d < 9223372036854775808) ∧ (-9223372036854775808 ≤ s ∧ s < 9223372036854775808) ∧ (-9223372036854775808 ≤ a ∧ a < 9223372036854775808))
  | _ => false
def tLab : AP → Int × Int × Int
  | .g [.v (.int _ d), .v (.int _ s), .v (.int _ a)] => (d, s, a)
  | _ => (0, 0, 0)
theorem vLab_g {d s a : Int} : (vLab (.g [.v (.int .i64 d), .v (.int .i64 s), .v (.int .i64 a)]) = true) = ((-9223372036854775808 ≤ d ∧ d < 9223372036854775808) ∧ (-9223372036854775808 ≤ s ∧ s < 9223372036854775808) ∧ (-9223372036854775808 ≤ a ∧ a < 9223372036854775808)) := by simp only [vLab, decide_eq_true_eq]
theorem tLab_g {d s a : Int} {k k' k'' : IntKind} : tLab (.g [.v (.int k d), .v (.int k' s), .v (.int k'' a)]) = (d, s, a) := _root_.id rfl
def coLab : Co (Int × Int × Int) where
  e := fun l => lab l.1 l.2.1 l.2.2
  p := fun l => (-9223372036854775808 ≤ l.1 ∧ l.1 < 9223372036854775808) ∧ (-9223372036854775808 ≤ l.2.1 ∧ l.2.1 < 9223372036854775808) ∧ (-9223372036854775808 ≤ l.2.2 ∧ l.2.2 < 9223372036854775808)
  v a := vLab a = true
  dv a := inferInstance
  t := tLab
  some {a} h := by
    unfold vLab at h
    split at h
    · exact ⟨rfl, of_decide_eq_true h⟩
    · cases h
  enc {x} h := ⟨by rw [vLab_g]; exact h, rfl⟩
theorem coLab_e {l : Int × Int × Int} : coLab.e l = .g [.v (.int .i64 l.1), .v (.int .i64 l.2.1), .v (.int .i64 l.2.2)] := _root_.id rfl
theorem coLab_v {a : AP} : coLab.v a = (vLab a = true) := _root_.id rfl
theorem coLab_t {a : AP} : coLab.t a = tLab a := _root_.id rfl
theorem coLab_p {l : Int × Int × Int} : coLab.p l = ((-9223372036854775808 ≤ l.1 ∧ l.1 < 9223372036854775808) ∧ (-9223372036854775808 ≤ l.2.1 ∧ l.2.1 < 9223372036854775808) ∧ (-9223372036854775808 ≤ l.2.2 ∧ l.2.2 < 9223372036854775808)) := _root_.id rfl
attribute [simp] vLab_g tLab_g coLab_e coLab_v coLab_t coLab_p
/-- Of a day of 86400 seconds. -/
def pla (l : Int × Int × Int) : Prop := 0 ≤ l.2.1 ∧ l.2.1 < 86400 ∧ 0 ≤ l.2.2 ∧ l.2.2 < 1000000000000000000
instance (l : Int × Int × Int) : Decidable (pla l) := inferInstanceAs (Decidable (_ ∧ _))
/-- In range. -/
def inD (n : Int) : Prop := -1099511627776 ≤ n ∧ n ≤ 1099511627776
instance (n : Int) : Decidable (inD n) := inferInstanceAs (Decidable (_ ∧ _))
/-- A label's attoseconds. -/
def jn (l : Int × Int × Int) : Int := (l.1 * 86400 + l.2.1) * 1000000000000000000 + l.2.2
/-- The label of attoseconds. -/
def spl (t : Int) : Int × Int × Int := (t / 1000000000000000000 / 86400, t / 1000000000000000000 % 86400, t % 1000000000000000000)
abbrev labT (l : Int × Int × Int) : AP := lab l.1 l.2.1 l.2.2
abbrev tDIn := s1 coI Tt1 fun n => .o (bv (decide (inD n)))
abbrev tRIn := tDIn
theorem okRIn : Ok Try.prog 40 tRIn := ok1 (code_mk Try.func40 epactref05_In.ent epactref05_In.chk specOk_nil) (by simp [epactref05_In.c]) fun n hn _ => by
  refine ⟨0, ?_⟩
  simp [epactref05_In.c, inD]
  grind
abbrev tSmall := s1 coB (fun x => smB x) fun x => if -9223372036854775808 ≤ x ∧ x < 9223372036854775808 then .t [iv .i64 x, bv true] else .t [iv .i64 0, bv false]
theorem okSmall : Ok Try.prog 25 tSmall := ok1 (code_mk Try.func25 epactref05_Small.ent epactref05_Small.chk okSpRef) (by simp [epactref05_Small.c]) fun x _ hg => by
  refine ⟨0, ?_⟩
  have hw : -9223372036854775808 ≤ IntKind.i64.wrap (wlo x) ∧ IntKind.i64.wrap (wlo x) < 9223372036854775808 := by rw [IntKind.wrap_i64]; unfold wlo; omega
  have s4 : smB (IntKind.i64.wrap (wlo x)) := by unfold smB; omega
  by_cases hf : -9223372036854775808 ≤ x ∧ x < 9223372036854775808
  · have e : IntKind.i64.wrap (wlo x) = x := by rw [IntKind.wrap_i64]; unfold wlo; omega
    have f : -170141183460469231731687303715884105728 ≤ x ∧ x < 170141183460469231731687303715884105728 := by omega
    simp [epactref05_Small.c, hg, hf, f, e]
  · by_cases f : -170141183460469231731687303715884105728 ≤ x ∧ x < 170141183460469231731687303715884105728
    · have e : ¬ x = IntKind.i64.wrap (wlo x) := by rw [IntKind.wrap_i64]; unfold wlo; omega
      simp [epactref05_Small.c, hg, hf, f, e, hw, s4]
    · simp [epactref05_Small.c, hg, hf, f]
end Go.Proofs.Ytnjipdicfbkfdaa.E

/- Words of the chapters 19 to 24. -/
import Derived.Test.YtnjipdicfbkfdaaF5
set_option linter.unusedVariables false
set_option linter.unusedSimpArgs false
set_option maxHeartbeats 2000000
set_option maxRecDepth 100000
namespace Go.Proofs.Ytnjipdicfbkfdaa.E
open Go.VC Go.RowKit

theorem allB_oct (n : Int) (k : Nat) : allB (oct n k) := oct_rng k n
theorem allB_app {a b : List Int} (ha : allB a) (hb : allB b) : allB (a ++ b) := fun x hx => by
  rcases List.mem_append.1 hx with h | h
  · exact ha x h
  · exact hb x h
theorem allB_take {a : List Int} (n : Nat) (ha : allB a) : allB (a.take n) := fun x hx => ha x (List.mem_of_mem_take hx)
theorem allB_drop {a : List Int} (n : Nat) (ha : allB a) : allB (a.drop n) := fun x hx => ha x (List.mem_of_mem_drop hx)
theorem allB_nil : allB [] := fun x hx => by cases hx
attribute [simp] allB_oct allB_nil
abbrev tJoin8 := s2 coY coY (fun a b => a.length ≤ 1000 ∧ b.length ≤ 1000) fun a b => .o (.c (.r .u8 (a ++ b)))
theorem okJoin8 : Ok Try.prog 70 tJoin8 := ok2 (code_mk Try.func70 epactref19_join.ent epactref19_join.chk specOk_nil) (by simp [epactref19_join.c]) fun a b ha hb hg => by
  refine ⟨0, ?_⟩
  have c1 : a.length ≤ 1000000000000 := by omega
  have c2 : a.length + b.length ≤ 1000000000000 := by omega
  have tk : List.take a.length (c8 a) = c8 a := List.take_of_length_le (by simp)
  have tk2 : List.take (a.length + b.length) (a ++ b) = a ++ b := List.take_of_length_le (by simp)
  simp [epactref19_join.c, c1, c2, tk, tk2]
  exact ⟨known_c8 _, known_c8 _⟩
abbrev tCut := s1 coB (fun n => md n) fun n => .t [mkB (n / 1000000000000000000), iv .i64 (n % 1000000000000000000)]
theorem okCut : Ok Try.prog 21 tCut := ok1 (code_mk Try.func21 epactref19_Cut.ent epactref19_Cut.chk (specOk_cons okSmall okSpRef)) (by simp [epactref19_Cut.c]) fun n _ hg => by
  refine ⟨0, ?_⟩
  have s0 := md_sm hg
  have s1 : smB 1000000000000000000 := by decide
  have s2 : smB (n % 1000000000000000000) := by unfold smB; omega
  have f : -9223372036854775808 ≤ n % 1000000000000000000 ∧ n % 1000000000000000000 < 9223372036854775808 := by omega
  simp [epactref19_Cut.c, s0, s1, s2, f]
abbrev tSeconds := s1 coB (fun n => md n) fun n => .o (mkB (n * 1000000000000000000))
theorem okSeconds : Ok Try.prog 94 tSeconds := ok1 (code_mk Try.func94 epactref19_Seconds.ent epactref19_Seconds.chk okSpRef) (by simp [epactref19_Seconds.c]) fun n _ hg => by
  refine ⟨0, ?_⟩
  have s0 := md_sm hg
  have s1 : smB 1000000000000000000 := by decide
  simp [epactref19_Seconds.c, s0, s1]
end Go.Proofs.Ytnjipdicfbkfdaa.E

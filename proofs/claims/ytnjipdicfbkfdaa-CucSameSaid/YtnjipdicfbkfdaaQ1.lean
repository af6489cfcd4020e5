/- The number about a pivot, by the program and by the reference. -/
import Derived.Test.YtnjipdicfbkfdaaF6
import Derived.Test.YtnjipdicfbkfdaaP1
set_option linter.unusedVariables false
set_option linter.unusedSimpArgs false
set_option maxHeartbeats 2000000
set_option maxRecDepth 100000
namespace Go.Proofs.Ytnjipdicfbkfdaa.E
open Go.VC Go.RowKit

/-- The number that leaves f by n, in the era about p. -/
def abo (f n p : Int) : Int := p - n / 2 + (f - (p - n / 2)) % n
def abOk (f n p : Int) : Prop := (-170141183460469231731687303715884105728 ≤ p - n / 2 ∧ p - n / 2 < 170141183460469231731687303715884105728) ∧ (-170141183460469231731687303715884105728 ≤ abo f n p ∧ abo f n p < 170141183460469231731687303715884105728)
instance (f n p : Int) : Decidable (abOk f n p) := inferInstanceAs (Decidable (_ ∧ _))
abbrev abt (f n p : Int) : AV := if abOk f n p then .t [wd (abo f n p), iv .i64 0] else .t [wd 0, iv .i64 2]
abbrev tNearA := s3 coW coW coW (fun f n p => 0 < n ∧ 0 ≤ f ∧ f < n) fun f n p => abt f n p
theorem okNearA : Ok Try.prog 75 tNearA := okNear.via fun av r h => by
  obtain ⟨f, n, p, rfl, hf, hn, hp, ⟨h1, h2, h3⟩, rfl⟩ := s3_some h
  have v1 := (coW.enc hf)
  have v2 := (coW.enc hn)
  have v3 := (coW.enc hp)
  simp only [tNear, s3, v1.1, v2.1, v3.1, v1.2, v2.2, v3.2, and_self, if_true]
  simp at hf hn hp
  rw [if_neg (by omega), if_neg (by omega)]
  have f2 : p - n / 2 < 170141183460469231731687303715884105728 := by omega
  by_cases hl : p - n / 2 < -170141183460469231731687303715884105728
  · rw [if_pos hl, abt, if_neg (by unfold abOk; omega)]
  · rw [if_neg hl, abt, fitW]
    by_cases hw : -170141183460469231731687303715884105728 ≤ p - n / 2 + (f - (p - n / 2)) % n ∧ p - n / 2 + (f - (p - n / 2)) % n < 170141183460469231731687303715884105728
    · rw [if_pos hw, if_pos (by unfold abOk abo; omega)]; rfl
    · rw [if_neg hw, if_neg (by unfold abOk abo; omega)]
abbrev tAbout := s3 coB coB coB (fun f n p => md f ∧ md n ∧ md p ∧ 0 < n) fun f n p => abt f n p
theorem okAbout : Ok Try.prog 77 tAbout := ok3 (code_mk Try.func77 epactref19_About.ent epactref19_About.chk okSpRef) (by simp [epactref19_About.c]) fun f n p _ _ _ hg => by
  obtain ⟨g1, g2, g3, g4⟩ := hg
  refine ⟨0, ?_⟩
  have s1 := md_sm g1
  have s2 := md_sm g2
  have s3 := md_sm g3
  have s4 : smB 2 := by decide
  unfold md at g1 g2 g3
  have r0 := Int.emod_nonneg (f - (p - n / 2)) (show n ≠ 0 by omega)
  have r1 := Int.emod_lt_of_pos (f - (p - n / 2)) g4
  have s5 : smB (n / 2) := by unfold smB; omega
  have s6 : smB (p - n / 2) := by unfold smB; omega
  have s7 : smB (f - (p - n / 2)) := by unfold smB; omega
  have s8 : smB ((f - (p - n / 2)) % n) := by unfold smB; omega
  have s9 : smB (p - n / 2 + (f - (p - n / 2)) % n) := by unfold smB; omega
  have d1 : 65536 * n < 4562440617622195218641171605700291324893228507248559930579192517899275167208677386505912811317371399778642309573594407310688704721375437998252661319722214188251994674360264950082874192246603776 := by omega
  by_cases h1 : -170141183460469231731687303715884105728 ≤ p - n / 2 ∧ p - n / 2 < 170141183460469231731687303715884105728
  · by_cases h2 : -170141183460469231731687303715884105728 ≤ p - n / 2 + (f - (p - n / 2)) % n ∧ p - n / 2 + (f - (p - n / 2)) % n < 170141183460469231731687303715884105728
    · simp [epactref19_About.c, s1, s2, s3, s4, s5, s6, s7, s8, s9, d1, g4, h1, h2, abOk, abo]
    · simp [epactref19_About.c, s1, s2, s3, s4, s5, s6, s7, s8, s9, d1, g4, h1, h2, abOk, abo]
  · simp [epactref19_About.c, s1, s2, s3, s4, s5, s6, s7, s8, s9, d1, g4, h1, abOk, abo]
abbrev tRFold := s2 coB coI (fun n o => md n ∧ 0 ≤ o ∧ o ≤ 30) fun n o => .o (mkB (n % pw o))
theorem pw_30 {n : Int} (h : n ≤ 30) : pw n ≤ 1766847064778384329583297500742918515827483896875618958121606201292619776 := pw_mono h
theorem okRFold : Ok Try.prog 84 tRFold := ok2 (code_mk Try.func84 epactref19_fold.ent epactref19_fold.chk (specOk_cons okRPower okSpRef)) (by simp [epactref19_fold.c]) fun n o _ ho hg => by
  simp at ho
  obtain ⟨g1, g2, g3⟩ := hg
  refine ⟨0, ?_⟩
  have s1 := md_sm g1
  have hp := pw_pos o
  have h30 := pw_30 g3
  have s2 : smB (pw o) := by unfold smB; omega
  have d1 : 65536 * pw o < 4562440617622195218641171605700291324893228507248559930579192517899275167208677386505912811317371399778642309573594407310688704721375437998252661319722214188251994674360264950082874192246603776 := by omega
  have c1 : o ≤ 1000 := by omega
  simp [epactref19_fold.c, ho, g1, g2, g3, s1, s2, d1, hp, c1]
/-- It leaves the same, and is in the window. -/
theorem abo_mod {f n p : Int} (hn : 0 < n) : abo f n p % n = f % n := by
  unfold abo
  rw [Int.add_emod_emod]; congr 1; omega
theorem abo_win {f n p : Int} (hn : 0 < n) : p - n / 2 ≤ abo f n p ∧ abo f n p < p - n / 2 + n := by
  have r0 := Int.emod_nonneg (f - (p - n / 2)) (show n ≠ 0 by omega)
  have r1 := Int.emod_lt_of_pos (f - (p - n / 2)) hn
  unfold abo; omega
/-- The only one that leaves the same and is in the window. -/
theorem abo_only {f n p x : Int} (hn : 0 < n) (h : x % n = f % n) (h1 : p - n / 2 ≤ x) (h2 : x < p - n / 2 + n) : abo f n p = x := by
  have e : (f - (p - n / 2)) % n = (x - (p - n / 2)) % n := by rw [Int.sub_emod, ← h, ← Int.sub_emod]
  have e2 : (x - (p - n / 2)) % n = x - (p - n / 2) := Int.emod_eq_of_lt (by omega) (by omega)
  unfold abo; omega
end Go.Proofs.Ytnjipdicfbkfdaa.E

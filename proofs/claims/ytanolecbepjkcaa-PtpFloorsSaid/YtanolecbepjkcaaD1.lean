/- What the package day and the reference's labels do. -/
import Derived.Test.YtanolecbepjkcaaP0
set_option linter.unusedVariables false
set_option linter.unusedSimpArgs false
set_option maxHeartbeats 2000000
set_option maxRecDepth 100000
namespace Go.Proofs.Ytanolecbepjkcaa.E
open Go.VC Go.RowKit

/-! ### Labels -/
abbrev lab (d s a : Int) : AP := .g [.v (.int .i64 d), .v (.int .i64 s), .v (.int .i64 a)]
def vLab : AP → Bool
  | .g [.v (.int .i64 d), .v (.int .i64 s), .v (.int .i64 a)] => decide ((-9223372036854775808 ≤ d ∧ d < 9223372036854775808) ∧ (-9223372036854775808 ≤ s ∧ s < 9223372036854775808) ∧ (-9223372036854775808 ≤ a ∧ a < 9223372036854775808))
  | _ => false
def tLab : AP → Int × Int × Int
  | .g [.v (.int _ d), .v (.int _ s), .v (.int _ a)] => (d, s, a)
  | _ => (0, 0, 0)
theorem vLab_g {d s a : Int} : (vLab (.g [.v (.int .i64 d), .v (.int .i64 s), .v (.int .i64 a)]) = true) = ((-9223372036854775808 ≤ d ∧ d < 9223372036854775808) ∧ (-9223372036854775808 ≤ s ∧ s < 9223372036854775808) ∧ (-9223372036854775808 ≤ a ∧ a < 9223372036854775808)) := by simp only [vLab, decide_eq_true_eq]
theorem tLab_g {d s a : Int} {k k' k'' : IntKind} : tLab (.g [.v (.int k d), .v (.int k' s), .v (.int k'' a)]) = (d, s, a) := _root_.id rfl
def coLab : Co (Int × Int × Int) where
  e := fun l => lab l.1 l.2.1 l.2.2
  p := fun l => (-9223372036854775808 ≤ l.1 ∧ l.1 < 9223372036854775808) ∧ (-9223372036854775808 ≤ l.2.1 ∧ l.2.1 < 9223372036854775808) ∧ (-9223372036854775808 ≤ l.2.2 ∧ l.2.2 < 9223372036854775808)
  v a := vLab a = true
  dv a := inferInstance
  t := tLab
  some {a} h := by
    unfold vLab at h
    split at h
    · exact ⟨rfl, of_decide_eq_true h⟩
    · cases h
  enc {x} h := ⟨by rw [vLab_g]; exact h, rfl⟩
theorem coLab_e {l : Int × Int × Int} : coLab.e l = .g [.v (.int .i64 l.1), .v (.int .i64 l.2.1), .v (.int .i64 l.2.2)] := _root_.id rfl
theorem coLab_v {a : AP} : coLab.v a = (vLab a = true) := _root_.id rfl
theorem coLab_t {a : AP} : coLab.t a = tLab a := _root_.id rfl
theorem coLab_p {l : Int × Int × Int} : coLab.p l = ((-9223372036854775808 ≤ l.1 ∧ l.1 < 9223372036854775808) ∧ (-9223372036854775808 ≤ l.2.1 ∧ l.2.1 < 9223372036854775808) ∧ (-9223372036854775808 ≤ l.2.2 ∧ l.2.2 < 9223372036854775808)) := _root_.id rfl
attribute [simp] vLab_g tLab_g coLab_e coLab_v coLab_t coLab_p
/-- Of a day of 86400 seconds. -/
def pla (l : Int × Int × Int) : Prop := 0 ≤ l.2.1 ∧ l.2.1 < 86400 ∧ 0 ≤ l.2.2 ∧ l.2.2 < 1000000000000000000
instance (l : Int × Int × Int) : Decidable (pla l) := inferInstanceAs (Decidable (_ ∧ _))
/-- In range. -/
def inD (n : Int) : Prop := -1099511627776 ≤ n ∧ n ≤ 1099511627776
instance (n : Int) : Decidable (inD n) := inferInstanceAs (Decidable (_ ∧ _))
/-- A label's attoseconds. -/
def jn (l : Int × Int × Int) : Int := (l.1 * 86400 + l.2.1) * 1000000000000000000 + l.2.2
/-- The label of attoseconds. -/
def spl (t : Int) : Int × Int × Int := (t / 1000000000000000000 / 86400, t / 1000000000000000000 % 86400, t % 1000000000000000000)
abbrev labT (l : Int × Int × Int) : AP := lab l.1 l.2.1 l.2.2
abbrev tPlain := s1 coLab Tt1 fun l => .o (bv (decide (pla l)))
theorem okPlain : Ok Try.prog 92 tPlain := ok1 (code_mk Try.func92 day_plain.ent day_plain.chk specOk_nil) (by simp [day_plain.c]) fun l hl _ => by
  obtain ⟨d, s, a⟩ := l
  refine ⟨0, ?_⟩
  simp [day_plain.c, pla]
  grind
abbrev tDIn := s1 coI Tt1 fun n => .o (bv (decide (inD n)))
theorem okDIn : Ok Try.prog 88 tDIn := ok1 (code_mk Try.func88 day_in.ent day_in.chk specOk_nil) (by simp [day_in.c]) fun n hn _ => by
  refine ⟨0, ?_⟩
  simp [day_in.c, inD]
  grind
abbrev tRIn := tDIn
theorem okRIn : Ok Try.prog 86 tRIn := ok1 (code_mk Try.func86 epactref05_In.ent epactref05_In.chk specOk_nil) (by simp [epactref05_In.c]) fun n hn _ => by
  refine ⟨0, ?_⟩
  simp [epactref05_In.c, inD]
  grind
theorem okRPlain : Ok Try.prog 48 tPlain := ok1 (code_mk Try.func48 epactref05_Plain.ent epactref05_Plain.chk specOk_nil) (by simp [epactref05_Plain.c]) fun l hl _ => by
  obtain ⟨d, s, a⟩ := l
  refine ⟨0, ?_⟩
  simp [epactref05_Plain.c, pla]
  grind
/-- Why a label may not be. -/
def why (l : Int × Int × Int) : Int := if pla l then (if inD l.1 then 0 else 2) else 1
abbrev tCheck := s1 coLab Tt1 fun l => .o (iv .i64 (why l))
theorem okCheck : Ok Try.prog 84 tCheck := ok1 (code_mk Try.func84 day_check.ent day_check.chk (specOk_cons okPlain (specOk_cons okDIn specOk_nil))) (by simp [day_check.c]) fun l hl _ => by
  obtain ⟨d, s, a⟩ := l
  simp at hl
  refine ⟨0, ?_⟩
  by_cases h1 : pla (d, s, a)
  · by_cases h2 : inD d <;> simp [day_check.c, why, h1, h2, hl]
  · simp [day_check.c, why, h1, hl]
theorem why0 {l : Int × Int × Int} (h1 : pla l) (h2 : inD l.1) : why l = 0 := by simp [why, h1, h2]
theorem why2 {l : Int × Int × Int} (h1 : pla l) (h2 : ¬ inD l.1) : why l = 2 := by simp [why, h1, h2]
theorem why1 {l : Int × Int × Int} (h1 : ¬ pla l) : why l = 1 := by simp [why, h1]
abbrev tJoin := s1 coLab Tt1 fun l => if why l = 0 then .t [wd (jn l), iv .i64 0] else .t [wd 0, iv .i64 (why l)]
theorem jn_rng {d s a : Int} (h1 : pla (d, s, a)) (h2 : inD d) : -170141183460469231731687303715884105728 ≤ jn (d, s, a) ∧ jn (d, s, a) < 170141183460469231731687303715884105728 := by
  simp only [pla, inD, jn] at *; omega
theorem okJoin : Ok Try.prog 36 tJoin := ok1 (code_mk Try.func36 day_Join.ent day_Join.chk (specOk_cons okCheck okSpW)) (by simp [day_Join.c]) fun l hl _ => by
  obtain ⟨d, s, a⟩ := l
  simp at hl
  refine ⟨0, ?_⟩
  by_cases h0 : why (d, s, a) = 0
  · have h1 : pla (d, s, a) := by unfold why at h0; split at h0; assumption; cases h0
    have h2 : inD d := by unfold why at h0; rw [if_pos h1] at h0; split at h0; assumption; cases h0
    have hr := jn_rng h1 h2
    simp only [pla, inD, jn] at h1 h2 hr
    have w1 : IntKind.i64.wrap (d * 86400) = d * 86400 := wrap_i64_in (by omega) (by omega)
    have w2 : IntKind.i64.wrap (d * 86400 + s) = d * 86400 + s := wrap_i64_in (by omega) (by omega)
    have f1 : -9223372036854775808 ≤ d * 86400 + s ∧ d * 86400 + s < 9223372036854775808 := by omega
    have f2 : -170141183460469231731687303715884105728 ≤ d * 86400 + s ∧ d * 86400 + s < 170141183460469231731687303715884105728 := by omega
    have f3 : -170141183460469231731687303715884105728 ≤ (d * 86400 + s) * 1000000000000000000 ∧ (d * 86400 + s) * 1000000000000000000 < 170141183460469231731687303715884105728 := by omega
    have f4 : -170141183460469231731687303715884105728 ≤ a ∧ a < 170141183460469231731687303715884105728 := by omega
    simp [day_Join.c, hl, h0, w1, w2, f1, f2, f3, f4, hr, jn]
  · simp [day_Join.c, hl, h0]
theorem spl_rng {t : Int} (h : -170141183460469231731687303715884105728 ≤ t ∧ t < 170141183460469231731687303715884105728) : (-10000000000000000 ≤ t / 1000000000000000000 / 86400 ∧ t / 1000000000000000000 / 86400 < 10000000000000000) ∧ (0 ≤ t / 1000000000000000000 % 86400 ∧ t / 1000000000000000000 % 86400 < 86400) ∧ (0 ≤ t % 1000000000000000000 ∧ t % 1000000000000000000 < 1000000000000000000) := by omega
abbrev tSplit := s1 coW Tt1 fun t => if inD (t / 1000000000000000000 / 86400) then .t [labT (spl t), iv .i64 0] else .t [lab 0 0 0, iv .i64 2]
theorem okSplit : Ok Try.prog 39 tSplit := ok1 (code_mk Try.func39 day_Split.ent day_Split.chk (specOk_cons okDIn okSpW)) (by simp [day_Split.c]) fun t ht _ => by
  simp at ht
  refine ⟨0, ?_⟩
  have q1 := div_fits ht.1 ht.2 (show (0 : Int) < 1000000000000000000 by decide)
  have q2 := div_fits q1.1 q1.2 (show (0 : Int) < 86400 by decide)
  obtain ⟨r1, r2, r3⟩ := spl_rng ht
  have f1 : -9223372036854775808 ≤ t / 1000000000000000000 / 86400 ∧ t / 1000000000000000000 / 86400 < 9223372036854775808 := by omega
  have f2 : -9223372036854775808 ≤ t / 1000000000000000000 % 86400 ∧ t / 1000000000000000000 % 86400 < 9223372036854775808 := by omega
  have f3 : -9223372036854775808 ≤ t % 1000000000000000000 ∧ t % 1000000000000000000 < 9223372036854775808 := by omega
  have f4 : -170141183460469231731687303715884105728 ≤ t / 1000000000000000000 % 86400 ∧ t / 1000000000000000000 % 86400 < 170141183460469231731687303715884105728 := by omega
  have f5 : -170141183460469231731687303715884105728 ≤ t % 1000000000000000000 ∧ t % 1000000000000000000 < 170141183460469231731687303715884105728 := by omega
  by_cases h : inD (t / 1000000000000000000 / 86400)
  · simp [day_Split.c, ht, q1, q2, f1, f2, f3, f4, f5, h, spl]
  · simp [day_Split.c, ht, q1, q2, f1, f2, f3, f4, f5, h, spl]
/-! ### Julian dates -/
def jul (l : Int × Int × Int) : Int × Int × Int := if 43200 ≤ l.2.1 then (l.1 + 2400001, l.2.1 - 43200, l.2.2) else (l.1 + 2400000, l.2.1 + 43200, l.2.2)
abbrev tJulian := s1 coLab Tt1 fun l => if why l = 0 then .t [labT (jul l), iv .i64 0] else .t [lab 0 0 0, iv .i64 (why l)]
theorem okJulian : Ok Try.prog 45 tJulian := ok1 (code_mk Try.func45 day_Julian.ent day_Julian.chk (specOk_cons okCheck specOk_nil)) (by simp [day_Julian.c]) fun l hl _ => by
  obtain ⟨d, s, a⟩ := l
  simp at hl
  refine ⟨0, ?_⟩
  by_cases h0 : why (d, s, a) = 0
  · have h1 : pla (d, s, a) := by unfold why at h0; split at h0; assumption; cases h0
    have h2 : inD d := by unfold why at h0; rw [if_pos h1] at h0; split at h0; assumption; cases h0
    simp only [pla, inD] at h1 h2
    have w1 : IntKind.i64.wrap (d + 2400001) = d + 2400001 := wrap_i64_in (by omega) (by omega)
    have w2 : IntKind.i64.wrap (d + 2400001 - 1) = d + 2400000 := by rw [wrap_i64_in (by omega) (by omega)]; omega
    have w3 : IntKind.i64.wrap (s + 43200) = s + 43200 := wrap_i64_in (by omega) (by omega)
    have w4 : IntKind.i64.wrap (d + 2400000 + 1) = d + 2400001 := by rw [wrap_i64_in (by omega) (by omega)]; omega
    have w5 : IntKind.i64.wrap (s + 43200 - 86400) = s - 43200 := by rw [wrap_i64_in (by omega) (by omega)]; omega
    by_cases h3 : 43200 ≤ s
    · have h3' : 86400 ≤ s + 43200 := by omega
      simp [day_Julian.c, hl, h0, w1, w2, w3, w4, w5, h3, h3', jul]
    · have h3' : ¬ 86400 ≤ s + 43200 := by omega
      simp [day_Julian.c, hl, h0, w1, w2, w3, w4, w5, h3, h3', jul]
  · simp [day_Julian.c, hl, h0]
def civ (l : Int × Int × Int) : Int × Int × Int := if 43200 ≤ l.2.1 then (l.1 - 2400000, l.2.1 - 43200, l.2.2) else (l.1 - 2400001, l.2.1 + 43200, l.2.2)
abbrev tCivil := s1 coLab Tt1 fun l => if pla l then (if inD (civ l).1 then .t [labT (civ l), iv .i64 0] else .t [lab 0 0 0, iv .i64 2]) else .t [lab 0 0 0, iv .i64 1]
theorem okCivil : Ok Try.prog 46 tCivil := ok1 (code_mk Try.func46 day_Civil.ent day_Civil.chk (specOk_cons okPlain (specOk_cons okDIn specOk_nil))) (by simp [day_Civil.c]) fun l hl _ => by
  obtain ⟨d, s, a⟩ := l
  simp at hl
  refine ⟨0, ?_⟩
  by_cases h1 : pla (d, s, a)
  · have h1' := h1
    simp only [pla] at h1'
    by_cases h2 : -2199023255552 ≤ d
    · have h2' := Int.not_lt.2 h2
      by_cases h3 : d ≤ 2199023255552
      · have h3' := Int.not_lt.2 h3
        have w1 : IntKind.i64.wrap (d - 2400001) = d - 2400001 := wrap_i64_in (by omega) (by omega)
        have w3 : IntKind.i64.wrap (s + 43200) = s + 43200 := wrap_i64_in (by omega) (by omega)
        have w4 : IntKind.i64.wrap (d - 2400001 + 1) = d - 2400000 := by rw [wrap_i64_in (by omega) (by omega)]; omega
        have w5 : IntKind.i64.wrap (s + 43200 - 86400) = s - 43200 := by rw [wrap_i64_in (by omega) (by omega)]; omega
        have f1 : -9223372036854775808 ≤ d - 2400001 ∧ d - 2400001 < 9223372036854775808 := by omega
        have f2 : -9223372036854775808 ≤ d - 2400000 ∧ d - 2400000 < 9223372036854775808 := by omega
        by_cases h4 : 43200 ≤ s
        · have h4' : 86400 ≤ s + 43200 := by omega
          by_cases h5 : inD (d - 2400000) <;> simp [day_Civil.c, hl, h1, h2, h2', h3, h3', w1, w3, w4, w5, h4, h4', civ, h5, f1, f2]
        · have h4' : ¬ 86400 ≤ s + 43200 := by omega
          by_cases h5 : inD (d - 2400001) <;> simp [day_Civil.c, hl, h1, h2, h2', h3, h3', w1, w3, w4, w5, h4, h4', civ, h5, f1, f2]
      · have h3' := Int.not_le.1 h3
        have h5 : ¬ inD (civ (d, s, a)).1 := by unfold civ inD; split <;> simp <;> omega
        simp [day_Civil.c, hl, h1, h2, h2', h3, h3', h5]
    · have h2' := Int.not_le.1 h2
      have h5 : ¬ inD (civ (d, s, a)).1 := by unfold civ inD; split <;> simp <;> omega
      simp [day_Civil.c, hl, h1, h2, h2', h5]
  · simp [day_Civil.c, hl, h1]
/-! ### The reference -/
abbrev tRJoin := s1 coLab Tt1 fun l => .o (mkB (jn l))
theorem okRJoin : Ok Try.prog 40 tRJoin := ok1 (code_mk Try.func40 epactref05_Join.ent epactref05_Join.chk okSpRef) (by simp [epactref05_Join.c]) fun l hl _ => by
  obtain ⟨d, s, a⟩ := l
  simp at hl
  refine ⟨0, ?_⟩
  have s1 : smB d := by unfold smB; omega
  have s2 : smB s := by unfold smB; omega
  have s3 : smB a := by unfold smB; omega
  have s4 : smB 86400 := by decide
  have s5 : smB 1000000000000000000 := by decide
  have s6 : smB (d * 86400) := by unfold smB; omega
  have s7 : smB (d * 86400 + s) := by unfold smB; omega
  have s8 : smB ((d * 86400 + s) * 1000000000000000000) := by unfold smB; omega
  simp [epactref05_Join.c, hl, s1, s2, s3, s4, s5, s6, s7, s8, jn]
abbrev tSmall := s1 coB (fun x => smB x) fun x => if -9223372036854775808 ≤ x ∧ x < 9223372036854775808 then .t [iv .i64 x, bv true] else .t [iv .i64 0, bv false]
theorem okSmall : Ok Try.prog 89 tSmall := ok1 (code_mk Try.func89 epactref05_Small.ent epactref05_Small.chk okSpRef) (by simp [epactref05_Small.c]) fun x _ hg => by
  refine ⟨0, ?_⟩
  have hw : -9223372036854775808 ≤ IntKind.i64.wrap (wlo x) ∧ IntKind.i64.wrap (wlo x) < 9223372036854775808 := by rw [IntKind.wrap_i64]; unfold wlo; omega
  have s4 : smB (IntKind.i64.wrap (wlo x)) := by unfold smB; omega
  by_cases hf : -9223372036854775808 ≤ x ∧ x < 9223372036854775808
  · have e : IntKind.i64.wrap (wlo x) = x := by rw [IntKind.wrap_i64]; unfold wlo; omega
    have f : -170141183460469231731687303715884105728 ≤ x ∧ x < 170141183460469231731687303715884105728 := by omega
    simp [epactref05_Small.c, hg, hf, f, e]
  · by_cases f : -170141183460469231731687303715884105728 ≤ x ∧ x < 170141183460469231731687303715884105728
    · have e : ¬ x = IntKind.i64.wrap (wlo x) := by rw [IntKind.wrap_i64]; unfold wlo; omega
      simp [epactref05_Small.c, hg, hf, f, e, hw, s4]
    · simp [epactref05_Small.c, hg, hf, f]
abbrev tRSplit := s1 coB (fun x => smB x) fun t => if inD (t / 1000000000000000000 / 86400) then .t [labT (spl t), bv true] else .t [lab 0 0 0, bv false]
theorem okRSplit : Ok Try.prog 41 tRSplit := ok1 (code_mk Try.func41 epactref05_Split.ent epactref05_Split.chk (specOk_cons okSmall (specOk_cons okRIn okSpRef))) (by simp [epactref05_Split.c]) fun t _ hg => by
  refine ⟨0, ?_⟩
  have s1 : smB 1000000000000000000 := by decide
  have s2 : smB 86400 := by decide
  have s3 : smB (t / 1000000000000000000) := by unfold smB at hg ⊢; omega
  have s4 : smB (t / 1000000000000000000 / 86400) := by unfold smB at hg ⊢; omega
  have s5 : smB (t / 1000000000000000000 % 86400) := by unfold smB; omega
  have s6 : smB (t % 1000000000000000000) := by unfold smB; omega
  have f2 : -9223372036854775808 ≤ t / 1000000000000000000 % 86400 ∧ t / 1000000000000000000 % 86400 < 9223372036854775808 := by omega
  have f3 : -9223372036854775808 ≤ t % 1000000000000000000 ∧ t % 1000000000000000000 < 9223372036854775808 := by omega
  by_cases h : inD (t / 1000000000000000000 / 86400)
  · have f1 : -9223372036854775808 ≤ t / 1000000000000000000 / 86400 ∧ t / 1000000000000000000 / 86400 < 9223372036854775808 := by unfold inD at h; omega
    simp [epactref05_Split.c, hg, s1, s2, s3, s4, s5, s6, f1, f2, f3, h, spl]
  · by_cases f1 : -9223372036854775808 ≤ t / 1000000000000000000 / 86400 ∧ t / 1000000000000000000 / 86400 < 9223372036854775808
    · simp [epactref05_Split.c, hg, s1, s2, s3, s4, s5, s6, f1, f2, f3, h]
    · simp [epactref05_Split.c, hg, s1, s2, s3, s4, s5, s6, f1, f2, f3, h]
end Go.Proofs.Ytanolecbepjkcaa.E

/- What the package cds does. -/
import Derived.Test.YtnjipdicfbkfdaaNT2
set_option linter.unusedVariables false
set_option linter.unusedSimpArgs false
set_option maxHeartbeats 4000000
set_option maxRecDepth 100000
namespace Go.Proofs.Ytnjipdicfbkfdaa.E
open Go.VC Go.RowKit

/-- A loop's first round. -/
theorem loopW_succ {sp : VC.Spec} {k : Nat} {c : SC} {n : Nat} {s : St} {Q : AX → St → Prop} : loopW sp k c (n + 1) s Q = codeW sp k c s (roundW (fun s' => loopW sp k c n s' Q) Q) := by
  unfold loopW codeW EndsIn
  rw [iter]
  cases absCode sp k c s with
  | none => rfl
  | some x =>
    obtain ⟨a, s'⟩ := x
    cases a <;> rfl
def cUnit (f : Int) : Int := if f = 0 then 1000000000000000 else if f = 2 then 1000000000000 else if f = 4 then 1000000 else 0
abbrev tCUnit := s1 coI Tt1 fun f => .o (iv .i64 (cUnit f))
theorem okCUnit : Ok Try.prog 78 tCUnit := ok1 (code_mk Try.func78 cds_unit.ent cds_unit.chk specOk_nil) (by simp [cds_unit.c]) fun f hf _ => by
  refine ⟨0, ?_⟩
  by_cases h1 : f = 0
  · simp [cds_unit.c, cUnit, h1]
  · by_cases h2 : f = 2
    · simp [cds_unit.c, cUnit, h1, h2]
    · by_cases h3 : f = 4
      · simp [cds_unit.c, cUnit, h1, h2, h3]
      · simp [cds_unit.c, cUnit, h1, h2, h3]
abbrev tCHead := s2 coI coI (fun d f => (2 ≤ d ∧ d ≤ 3) ∧ (0 ≤ f ∧ f ≤ 4)) fun d f => .o (iv .u8 (64 + (d - 2) * 4 + f / 2))
theorem okCHead : Ok Try.prog 81 tCHead := ok2 (code_mk Try.func81 cds_head.ent cds_head.chk specOk_nil) (by simp [cds_head.c]) fun d f hd hf hg => by
  refine ⟨0, ?_⟩
  have w1 : IntKind.i64.wrap (d - 2) = d - 2 := wrap_i64_in (by omega) (by omega)
  have w2 : IntKind.i64.wrap ((d - 2) * 4) = (d - 2) * 4 := wrap_i64_in (by omega) (by omega)
  have w3 : IntKind.i64.wrap (64 + (d - 2) * 4) = 64 + (d - 2) * 4 := wrap_i64_in (by omega) (by omega)
  have e1 : f.tdiv 2 = f / 2 := Int.tdiv_eq_ediv_of_nonneg (by omega)
  have w4 : IntKind.i64.wrap (f / 2) = f / 2 := wrap_i64_in (by omega) (by omega)
  have w5 : IntKind.i64.wrap (64 + (d - 2) * 4 + f / 2) = 64 + (d - 2) * 4 + f / 2 := wrap_i64_in (by omega) (by omega)
  have w6 : IntKind.u8.wrap (64 + (d - 2) * 4 + f / 2) = 64 + (d - 2) * 4 + f / 2 := by rw [wrap_u8_eq]; omega
  simp [cds_head.c, w1, w2, w3, e1, w4, w5, w6]
theorem okCIn : Ok Try.prog 79 tDIn := ok1 (code_mk Try.func79 cds_in.ent cds_in.chk specOk_nil) (by simp [cds_in.c]) fun n hn _ => by
  refine ⟨0, ?_⟩
  simp [cds_in.c, inD]
  grind
abbrev tCEra := s1 coI (fun d => d = 2 ∨ d = 3) fun d => .o (wd (pw d))
theorem okCEra : Ok Try.prog 80 tCEra := ok1 (code_mk Try.func80 cds_era.ent cds_era.chk okSpW) (by simp [cds_era.c]) fun d hd hg => by
  refine ⟨0, ?_⟩
  rcases hg with rfl | rfl
  · have x1 : IntKind.i64.wrap 16 = 16 := rfl
    have x2 : IntKind.i64.wrap 65536 = 65536 := rfl
    have pk : pw 2 = 65536 := rfl
    simp [cds_era.c, x1, x2, pk]
  · have x1 : IntKind.i64.wrap 24 = 24 := rfl
    have x2 : IntKind.i64.wrap 16777216 = 16777216 := rfl
    have pk : pw 3 = 16777216 := rfl
    simp [cds_era.c, x1, x2, pk]
abbrev tPut8 := s2 coI coI (fun n o => (0 ≤ n ∧ n < pw o) ∧ (0 ≤ o ∧ o ≤ 15)) fun n o => .o (.c (.r .u8 (oct n o.toNat)))
theorem okPut8 : Ok Try.prog 82 tPut8 := ok2 (code_mk Try.func82 cds_put.ent cds_put.chk (specOk_cons okPut okSpW)) (by simp [cds_put.c]) fun n o hn ho hg => by
  simp at hn ho
  refine ⟨0, ?_⟩
  have f1 : -170141183460469231731687303715884105728 ≤ n ∧ n < 170141183460469231731687303715884105728 := by omega
  simp [cds_put.c, hn, ho, hg, f1]
abbrev tGet8 := s1 coY (fun b => b.length ≤ 7) fun b => .o (iv .i64 (num b))
theorem okGet8 : Ok Try.prog 86 tGet8 := ok1 (code_mk Try.func86 cds_get.ent cds_get.chk (specOk_cons okGet okSpW)) (by simp [cds_get.c]) fun b hb hg => by
  simp at hb
  refine ⟨0, ?_⟩
  have hr := num_rng hb
  have hp := pw_7 (n := (b.length : Int)) (by omega)
  have f1 : -170141183460469231731687303715884105728 ≤ num b ∧ num b < 170141183460469231731687303715884105728 := by omega
  have f2 : -9223372036854775808 ≤ num b ∧ num b < 9223372036854775808 := by omega
  have c1 : ¬ 15 < b.length := by omega
  simp [cds_get.c, hb, f1, f2, c1]
/-! ### The codes -/
def cpl (x : Int × Int × Int) : Prop := 0 ≤ x.2.1 ∧ x.2.1 ≤ 86400 ∧ 0 ≤ x.2.2 ∧ x.2.2 < 1000000000000000000
instance (x : Int × Int × Int) : Decidable (cpl x) := inferInstanceAs (Decidable (_ ∧ _))
/-- The octets of a label: the first is h; d octets of days, f of units of u attoseconds. -/
def cform (h : Int) (d f : Nat) (u : Int) (x : Int × Int × Int) : List Int := [h] ++ oct ((x.1 - 36204) % pw d) d ++ oct (x.2.1 * 1000 + x.2.2 / 1000000000000000) 4 ++ oct (x.2.2 % 1000000000000000 / u) f
abbrev cEr (e : Int) : AV := .t [.c (.r .u8 []), iv .i64 e]
abbrev cE (h : Int) (d f : Nat) (u : Int) (x : Int × Int × Int) : AV := if cpl x then (if inD x.1 then .t [.c (.r .u8 (cform h d f u x)), iv .i64 0] else cEr 2) else cEr 1
abbrev cEnc (x : Int × Int × Int) (d f : Int) : AV := if d = 2 then (if f = 0 then cE 64 2 0 1000000000000000 x else if f = 2 then cE 65 2 2 1000000000000 x else if f = 4 then cE 66 2 4 1000000 x else cEr 1) else if d = 3 then (if f = 0 then cE 68 3 0 1000000000000000 x else if f = 2 then cE 69 3 2 1000000000000 x else if f = 4 then cE 70 3 4 1000000 x else cEr 1) else cEr 1
abbrev tCEnc := s3 coLab coI coI Tt3 fun x d f => cEnc x d f
theorem oct_0 (n : Int) : oct n 0 = [] := rfl
theorem okCEnc : Ok Try.prog 34 tCEnc := ok3 (code_mk Try.func34 cds_Encode.ent cds_Encode.chk (specOk_cons okCUnit (specOk_cons okCHead (specOk_cons okCIn (specOk_cons okCEra (specOk_cons okPut8 (specOk_cons okPut (specOk_cons okFold (specOk_cons okConcat okSpW)))))))))  (by simp [cds_Encode.c]) fun x d f hx hd hf _ => by
  obtain ⟨D, S, A⟩ := x
  simp at hx hd hf
  refine ⟨0, ?_⟩
  by_cases d2 : d = 2
  · subst d2
    by_cases f0 : f = 0
    · subst f0
      by_cases p1 : 0 ≤ S
      · have p1' := Int.not_lt.2 p1
        by_cases p2 : S ≤ 86400
        · have p2' := Int.not_lt.2 p2
          by_cases p3 : 0 ≤ A
          · have p3' := Int.not_lt.2 p3
            by_cases p4 : A < 1000000000000000000
            · have p4' := Int.not_le.2 p4
              by_cases hI : inD D
              · have hI2 : -1099511627776 ≤ D ∧ D ≤ 1099511627776 := hI
                have bH : allB [64] := by decide
                have pk : pw 2 = 65536 := rfl
                have pf : pw 0 = 1 := rfl
                have p44 : pw 4 = 4294967296 := rfl
                have w1 : IntKind.i64.wrap (D - 36204) = D - 36204 := wrap_i64_in (by omega) (by omega)
                have f1 : -9223372036854775808 ≤ D - 36204 ∧ D - 36204 < 9223372036854775808 := by omega
                have f2 : -170141183460469231731687303715884105728 ≤ D - 36204 ∧ D - 36204 < 170141183460469231731687303715884105728 := by omega
                have g1 : -170141183460469231731687303715884105728 ≤ (D - 36204) % 65536 ∧ (D - 36204) % 65536 < 170141183460469231731687303715884105728 := by omega
                have g2 : 0 ≤ (D - 36204) % 65536 ∧ (D - 36204) % 65536 < 65536 := by omega
                have w2 : IntKind.i64.wrap (S * 1000) = S * 1000 := wrap_i64_in (by omega) (by omega)
                have e1 : A.tdiv 1000000000000000 = A / 1000000000000000 := Int.tdiv_eq_ediv_of_nonneg (by omega)
                have w3 : IntKind.i64.wrap (A / 1000000000000000) = A / 1000000000000000 := wrap_i64_in (by omega) (by omega)
                have w4 : IntKind.i64.wrap (S * 1000 + A / 1000000000000000) = S * 1000 + A / 1000000000000000 := wrap_i64_in (by omega) (by omega)
                have g3 : 0 ≤ S * 1000 + A / 1000000000000000 ∧ S * 1000 + A / 1000000000000000 < 4294967296 := by omega
                have g4 : -9223372036854775808 ≤ S * 1000 + A / 1000000000000000 ∧ S * 1000 + A / 1000000000000000 < 9223372036854775808 := by omega
                have e2 : A.tmod 1000000000000000 = A % 1000000000000000 := Int.tmod_eq_emod_of_nonneg (by omega)
                have w5 : IntKind.i64.wrap (A % 1000000000000000) = A % 1000000000000000 := wrap_i64_in (by omega) (by omega)
                have e3 : (A % 1000000000000000).tdiv 1000000000000000 = A % 1000000000000000 / 1000000000000000 := Int.tdiv_eq_ediv_of_nonneg (by omega)
                have w6 : IntKind.i64.wrap (A % 1000000000000000 / 1000000000000000) = A % 1000000000000000 / 1000000000000000 := wrap_i64_in (by omega) (by omega)
                have g5 : 0 ≤ A % 1000000000000000 / 1000000000000000 ∧ A % 1000000000000000 / 1000000000000000 < 1 := by omega
                have g6 : -9223372036854775808 ≤ A % 1000000000000000 / 1000000000000000 ∧ A % 1000000000000000 / 1000000000000000 < 9223372036854775808 := by omega
                simp [cds_Encode.c, hx, p1, p1', p2, p2', p3, p3', p4, p4', hI, cpl, cUnit, bH, pk, pf, p44, w1, w2, w3, w4, w5, w6, f1, f2, g1, g2, g3, g4, g5, g6, e1, e2, e3, oct_len, oct_0, relRow, rowQ, rowInts, cform]
              · simp [cds_Encode.c, hx, p1, p1', p2, p2', p3, p3', p4, p4', hI, cpl, cUnit]
            · have p4' := Int.not_lt.1 p4
              simp [cds_Encode.c, hx, p1, p1', p2, p2', p3, p3', p4, p4', cpl, cUnit]
          · have p3' := Int.not_le.1 p3
            simp [cds_Encode.c, hx, p1, p1', p2, p2', p3, p3', cpl, cUnit]
        · have p2' := Int.not_le.1 p2
          simp [cds_Encode.c, hx, p1, p1', p2, p2', cpl, cUnit]
      · have p1' := Int.not_le.1 p1
        simp [cds_Encode.c, hx, p1, p1', cpl, cUnit]
    · by_cases f2 : f = 2
      · subst f2
        by_cases p1 : 0 ≤ S
        · have p1' := Int.not_lt.2 p1
          by_cases p2 : S ≤ 86400
          · have p2' := Int.not_lt.2 p2
            by_cases p3 : 0 ≤ A
            · have p3' := Int.not_lt.2 p3
              by_cases p4 : A < 1000000000000000000
              · have p4' := Int.not_le.2 p4
                by_cases hI : inD D
                · have hI2 : -1099511627776 ≤ D ∧ D ≤ 1099511627776 := hI
                  have bH : allB [65] := by decide
                  have pk : pw 2 = 65536 := rfl
                  have pf : pw 2 = 65536 := rfl
                  have p44 : pw 4 = 4294967296 := rfl
                  have w1 : IntKind.i64.wrap (D - 36204) = D - 36204 := wrap_i64_in (by omega) (by omega)
                  have f1 : -9223372036854775808 ≤ D - 36204 ∧ D - 36204 < 9223372036854775808 := by omega
                  have f2 : -170141183460469231731687303715884105728 ≤ D - 36204 ∧ D - 36204 < 170141183460469231731687303715884105728 := by omega
                  have g1 : -170141183460469231731687303715884105728 ≤ (D - 36204) % 65536 ∧ (D - 36204) % 65536 < 170141183460469231731687303715884105728 := by omega
                  have g2 : 0 ≤ (D - 36204) % 65536 ∧ (D - 36204) % 65536 < 65536 := by omega
                  have w2 : IntKind.i64.wrap (S * 1000) = S * 1000 := wrap_i64_in (by omega) (by omega)
                  have e1 : A.tdiv 1000000000000000 = A / 1000000000000000 := Int.tdiv_eq_ediv_of_nonneg (by omega)
                  have w3 : IntKind.i64.wrap (A / 1000000000000000) = A / 1000000000000000 := wrap_i64_in (by omega) (by omega)
                  have w4 : IntKind.i64.wrap (S * 1000 + A / 1000000000000000) = S * 1000 + A / 1000000000000000 := wrap_i64_in (by omega) (by omega)
                  have g3 : 0 ≤ S * 1000 + A / 1000000000000000 ∧ S * 1000 + A / 1000000000000000 < 4294967296 := by omega
                  have g4 : -9223372036854775808 ≤ S * 1000 + A / 1000000000000000 ∧ S * 1000 + A / 1000000000000000 < 9223372036854775808 := by omega
                  have e2 : A.tmod 1000000000000000 = A % 1000000000000000 := Int.tmod_eq_emod_of_nonneg (by omega)
                  have w5 : IntKind.i64.wrap (A % 1000000000000000) = A % 1000000000000000 := wrap_i64_in (by omega) (by omega)
                  have e3 : (A % 1000000000000000).tdiv 1000000000000 = A % 1000000000000000 / 1000000000000 := Int.tdiv_eq_ediv_of_nonneg (by omega)
                  have w6 : IntKind.i64.wrap (A % 1000000000000000 / 1000000000000) = A % 1000000000000000 / 1000000000000 := wrap_i64_in (by omega) (by omega)
                  have g5 : 0 ≤ A % 1000000000000000 / 1000000000000 ∧ A % 1000000000000000 / 1000000000000 < 65536 := by omega
                  have g6 : -9223372036854775808 ≤ A % 1000000000000000 / 1000000000000 ∧ A % 1000000000000000 / 1000000000000 < 9223372036854775808 := by omega
                  simp [cds_Encode.c, hx, p1, p1', p2, p2', p3, p3', p4, p4', hI, cpl, cUnit, bH, pk, pf, p44, w1, w2, w3, w4, w5, w6, f1, f2, g1, g2, g3, g4, g5, g6, e1, e2, e3, oct_len, oct_0, relRow, rowQ, rowInts, cform]
                · simp [cds_Encode.c, hx, p1, p1', p2, p2', p3, p3', p4, p4', hI, cpl, cUnit]
              · have p4' := Int.not_lt.1 p4
                simp [cds_Encode.c, hx, p1, p1', p2, p2', p3, p3', p4, p4', cpl, cUnit]
            · have p3' := Int.not_le.1 p3
              simp [cds_Encode.c, hx, p1, p1', p2, p2', p3, p3', cpl, cUnit]
          · have p2' := Int.not_le.1 p2
            simp [cds_Encode.c, hx, p1, p1', p2, p2', cpl, cUnit]
        · have p1' := Int.not_le.1 p1
          simp [cds_Encode.c, hx, p1, p1', cpl, cUnit]
      · by_cases f4 : f = 4
        · subst f4
          by_cases p1 : 0 ≤ S
          · have p1' := Int.not_lt.2 p1
            by_cases p2 : S ≤ 86400
            · have p2' := Int.not_lt.2 p2
              by_cases p3 : 0 ≤ A
              · have p3' := Int.not_lt.2 p3
                by_cases p4 : A < 1000000000000000000
                · have p4' := Int.not_le.2 p4
                  by_cases hI : inD D
                  · have hI2 : -1099511627776 ≤ D ∧ D ≤ 1099511627776 := hI
                    have bH : allB [66] := by decide
                    have pk : pw 2 = 65536 := rfl
                    have pf : pw 4 = 4294967296 := rfl
                    have p44 : pw 4 = 4294967296 := rfl
                    have w1 : IntKind.i64.wrap (D - 36204) = D - 36204 := wrap_i64_in (by omega) (by omega)
                    have f1 : -9223372036854775808 ≤ D - 36204 ∧ D - 36204 < 9223372036854775808 := by omega
                    have f2 : -170141183460469231731687303715884105728 ≤ D - 36204 ∧ D - 36204 < 170141183460469231731687303715884105728 := by omega
                    have g1 : -170141183460469231731687303715884105728 ≤ (D - 36204) % 65536 ∧ (D - 36204) % 65536 < 170141183460469231731687303715884105728 := by omega
                    have g2 : 0 ≤ (D - 36204) % 65536 ∧ (D - 36204) % 65536 < 65536 := by omega
                    have w2 : IntKind.i64.wrap (S * 1000) = S * 1000 := wrap_i64_in (by omega) (by omega)
                    have e1 : A.tdiv 1000000000000000 = A / 1000000000000000 := Int.tdiv_eq_ediv_of_nonneg (by omega)
                    have w3 : IntKind.i64.wrap (A / 1000000000000000) = A / 1000000000000000 := wrap_i64_in (by omega) (by omega)
                    have w4 : IntKind.i64.wrap (S * 1000 + A / 1000000000000000) = S * 1000 + A / 1000000000000000 := wrap_i64_in (by omega) (by omega)
                    have g3 : 0 ≤ S * 1000 + A / 1000000000000000 ∧ S * 1000 + A / 1000000000000000 < 4294967296 := by omega
                    have g4 : -9223372036854775808 ≤ S * 1000 + A / 1000000000000000 ∧ S * 1000 + A / 1000000000000000 < 9223372036854775808 := by omega
                    have e2 : A.tmod 1000000000000000 = A % 1000000000000000 := Int.tmod_eq_emod_of_nonneg (by omega)
                    have w5 : IntKind.i64.wrap (A % 1000000000000000) = A % 1000000000000000 := wrap_i64_in (by omega) (by omega)
                    have e3 : (A % 1000000000000000).tdiv 1000000 = A % 1000000000000000 / 1000000 := Int.tdiv_eq_ediv_of_nonneg (by omega)
                    have w6 : IntKind.i64.wrap (A % 1000000000000000 / 1000000) = A % 1000000000000000 / 1000000 := wrap_i64_in (by omega) (by omega)
                    have g5 : 0 ≤ A % 1000000000000000 / 1000000 ∧ A % 1000000000000000 / 1000000 < 4294967296 := by omega
                    have g6 : -9223372036854775808 ≤ A % 1000000000000000 / 1000000 ∧ A % 1000000000000000 / 1000000 < 9223372036854775808 := by omega
                    simp [cds_Encode.c, hx, p1, p1', p2, p2', p3, p3', p4, p4', hI, cpl, cUnit, bH, pk, pf, p44, w1, w2, w3, w4, w5, w6, f1, f2, g1, g2, g3, g4, g5, g6, e1, e2, e3, oct_len, oct_0, relRow, rowQ, rowInts, cform]
                  · simp [cds_Encode.c, hx, p1, p1', p2, p2', p3, p3', p4, p4', hI, cpl, cUnit]
                · have p4' := Int.not_lt.1 p4
                  simp [cds_Encode.c, hx, p1, p1', p2, p2', p3, p3', p4, p4', cpl, cUnit]
              · have p3' := Int.not_le.1 p3
                simp [cds_Encode.c, hx, p1, p1', p2, p2', p3, p3', cpl, cUnit]
            · have p2' := Int.not_le.1 p2
              simp [cds_Encode.c, hx, p1, p1', p2, p2', cpl, cUnit]
          · have p1' := Int.not_le.1 p1
            simp [cds_Encode.c, hx, p1, p1', cpl, cUnit]
        · simp [cds_Encode.c, hx, hd, hf, cUnit, f0, f2, f4]
  · by_cases d3 : d = 3
    · subst d3
      by_cases f0 : f = 0
      · subst f0
        by_cases p1 : 0 ≤ S
        · have p1' := Int.not_lt.2 p1
          by_cases p2 : S ≤ 86400
          · have p2' := Int.not_lt.2 p2
            by_cases p3 : 0 ≤ A
            · have p3' := Int.not_lt.2 p3
              by_cases p4 : A < 1000000000000000000
              · have p4' := Int.not_le.2 p4
                by_cases hI : inD D
                · have hI2 : -1099511627776 ≤ D ∧ D ≤ 1099511627776 := hI
                  have bH : allB [68] := by decide
                  have pk : pw 3 = 16777216 := rfl
                  have pf : pw 0 = 1 := rfl
                  have p44 : pw 4 = 4294967296 := rfl
                  have w1 : IntKind.i64.wrap (D - 36204) = D - 36204 := wrap_i64_in (by omega) (by omega)
                  have f1 : -9223372036854775808 ≤ D - 36204 ∧ D - 36204 < 9223372036854775808 := by omega
                  have f2 : -170141183460469231731687303715884105728 ≤ D - 36204 ∧ D - 36204 < 170141183460469231731687303715884105728 := by omega
                  have g1 : -170141183460469231731687303715884105728 ≤ (D - 36204) % 16777216 ∧ (D - 36204) % 16777216 < 170141183460469231731687303715884105728 := by omega
                  have g2 : 0 ≤ (D - 36204) % 16777216 ∧ (D - 36204) % 16777216 < 16777216 := by omega
                  have w2 : IntKind.i64.wrap (S * 1000) = S * 1000 := wrap_i64_in (by omega) (by omega)
                  have e1 : A.tdiv 1000000000000000 = A / 1000000000000000 := Int.tdiv_eq_ediv_of_nonneg (by omega)
                  have w3 : IntKind.i64.wrap (A / 1000000000000000) = A / 1000000000000000 := wrap_i64_in (by omega) (by omega)
                  have w4 : IntKind.i64.wrap (S * 1000 + A / 1000000000000000) = S * 1000 + A / 1000000000000000 := wrap_i64_in (by omega) (by omega)
                  have g3 : 0 ≤ S * 1000 + A / 1000000000000000 ∧ S * 1000 + A / 1000000000000000 < 4294967296 := by omega
                  have g4 : -9223372036854775808 ≤ S * 1000 + A / 1000000000000000 ∧ S * 1000 + A / 1000000000000000 < 9223372036854775808 := by omega
                  have e2 : A.tmod 1000000000000000 = A % 1000000000000000 := Int.tmod_eq_emod_of_nonneg (by omega)
                  have w5 : IntKind.i64.wrap (A % 1000000000000000) = A % 1000000000000000 := wrap_i64_in (by omega) (by omega)
                  have e3 : (A % 1000000000000000).tdiv 1000000000000000 = A % 1000000000000000 / 1000000000000000 := Int.tdiv_eq_ediv_of_nonneg (by omega)
                  have w6 : IntKind.i64.wrap (A % 1000000000000000 / 1000000000000000) = A % 1000000000000000 / 1000000000000000 := wrap_i64_in (by omega) (by omega)
                  have g5 : 0 ≤ A % 1000000000000000 / 1000000000000000 ∧ A % 1000000000000000 / 1000000000000000 < 1 := by omega
                  have g6 : -9223372036854775808 ≤ A % 1000000000000000 / 1000000000000000 ∧ A % 1000000000000000 / 1000000000000000 < 9223372036854775808 := by omega
                  simp [cds_Encode.c, hx, p1, p1', p2, p2', p3, p3', p4, p4', hI, cpl, cUnit, bH, pk, pf, p44, w1, w2, w3, w4, w5, w6, f1, f2, g1, g2, g3, g4, g5, g6, e1, e2, e3, oct_len, oct_0, relRow, rowQ, rowInts, cform]
                · simp [cds_Encode.c, hx, p1, p1', p2, p2', p3, p3', p4, p4', hI, cpl, cUnit]
              · have p4' := Int.not_lt.1 p4
                simp [cds_Encode.c, hx, p1, p1', p2, p2', p3, p3', p4, p4', cpl, cUnit]
            · have p3' := Int.not_le.1 p3
              simp [cds_Encode.c, hx, p1, p1', p2, p2', p3, p3', cpl, cUnit]
          · have p2' := Int.not_le.1 p2
            simp [cds_Encode.c, hx, p1, p1', p2, p2', cpl, cUnit]
        · have p1' := Int.not_le.1 p1
          simp [cds_Encode.c, hx, p1, p1', cpl, cUnit]
      · by_cases f2 : f = 2
        · subst f2
          by_cases p1 : 0 ≤ S
          · have p1' := Int.not_lt.2 p1
            by_cases p2 : S ≤ 86400
            · have p2' := Int.not_lt.2 p2
              by_cases p3 : 0 ≤ A
              · have p3' := Int.not_lt.2 p3
                by_cases p4 : A < 1000000000000000000
                · have p4' := Int.not_le.2 p4
                  by_cases hI : inD D
                  · have hI2 : -1099511627776 ≤ D ∧ D ≤ 1099511627776 := hI
                    have bH : allB [69] := by decide
                    have pk : pw 3 = 16777216 := rfl
                    have pf : pw 2 = 65536 := rfl
                    have p44 : pw 4 = 4294967296 := rfl
                    have w1 : IntKind.i64.wrap (D - 36204) = D - 36204 := wrap_i64_in (by omega) (by omega)
                    have f1 : -9223372036854775808 ≤ D - 36204 ∧ D - 36204 < 9223372036854775808 := by omega
                    have f2 : -170141183460469231731687303715884105728 ≤ D - 36204 ∧ D - 36204 < 170141183460469231731687303715884105728 := by omega
                    have g1 : -170141183460469231731687303715884105728 ≤ (D - 36204) % 16777216 ∧ (D - 36204) % 16777216 < 170141183460469231731687303715884105728 := by omega
                    have g2 : 0 ≤ (D - 36204) % 16777216 ∧ (D - 36204) % 16777216 < 16777216 := by omega
                    have w2 : IntKind.i64.wrap (S * 1000) = S * 1000 := wrap_i64_in (by omega) (by omega)
                    have e1 : A.tdiv 1000000000000000 = A / 1000000000000000 := Int.tdiv_eq_ediv_of_nonneg (by omega)
                    have w3 : IntKind.i64.wrap (A / 1000000000000000) = A / 1000000000000000 := wrap_i64_in (by omega) (by omega)
                    have w4 : IntKind.i64.wrap (S * 1000 + A / 1000000000000000) = S * 1000 + A / 1000000000000000 := wrap_i64_in (by omega) (by omega)
                    have g3 : 0 ≤ S * 1000 + A / 1000000000000000 ∧ S * 1000 + A / 1000000000000000 < 4294967296 := by omega
                    have g4 : -9223372036854775808 ≤ S * 1000 + A / 1000000000000000 ∧ S * 1000 + A / 1000000000000000 < 9223372036854775808 := by omega
                    have e2 : A.tmod 1000000000000000 = A % 1000000000000000 := Int.tmod_eq_emod_of_nonneg (by omega)
                    have w5 : IntKind.i64.wrap (A % 1000000000000000) = A % 1000000000000000 := wrap_i64_in (by omega) (by omega)
                    have e3 : (A % 1000000000000000).tdiv 1000000000000 = A % 1000000000000000 / 1000000000000 := Int.tdiv_eq_ediv_of_nonneg (by omega)
                    have w6 : IntKind.i64.wrap (A % 1000000000000000 / 1000000000000) = A % 1000000000000000 / 1000000000000 := wrap_i64_in (by omega) (by omega)
                    have g5 : 0 ≤ A % 1000000000000000 / 1000000000000 ∧ A % 1000000000000000 / 1000000000000 < 65536 := by omega
                    have g6 : -9223372036854775808 ≤ A % 1000000000000000 / 1000000000000 ∧ A % 1000000000000000 / 1000000000000 < 9223372036854775808 := by omega
                    simp [cds_Encode.c, hx, p1, p1', p2, p2', p3, p3', p4, p4', hI, cpl, cUnit, bH, pk, pf, p44, w1, w2, w3, w4, w5, w6, f1, f2, g1, g2, g3, g4, g5, g6, e1, e2, e3, oct_len, oct_0, relRow, rowQ, rowInts, cform]
                  · simp [cds_Encode.c, hx, p1, p1', p2, p2', p3, p3', p4, p4', hI, cpl, cUnit]
                · have p4' := Int.not_lt.1 p4
                  simp [cds_Encode.c, hx, p1, p1', p2, p2', p3, p3', p4, p4', cpl, cUnit]
              · have p3' := Int.not_le.1 p3
                simp [cds_Encode.c, hx, p1, p1', p2, p2', p3, p3', cpl, cUnit]
            · have p2' := Int.not_le.1 p2
              simp [cds_Encode.c, hx, p1, p1', p2, p2', cpl, cUnit]
          · have p1' := Int.not_le.1 p1
            simp [cds_Encode.c, hx, p1, p1', cpl, cUnit]
        · by_cases f4 : f = 4
          · subst f4
            by_cases p1 : 0 ≤ S
            · have p1' := Int.not_lt.2 p1
              by_cases p2 : S ≤ 86400
              · have p2' := Int.not_lt.2 p2
                by_cases p3 : 0 ≤ A
                · have p3' := Int.not_lt.2 p3
                  by_cases p4 : A < 1000000000000000000
                  · have p4' := Int.not_le.2 p4
                    by_cases hI : inD D
                    · have hI2 : -1099511627776 ≤ D ∧ D ≤ 1099511627776 := hI
                      have bH : allB [70] := by decide
                      have pk : pw 3 = 16777216 := rfl
                      have pf : pw 4 = 4294967296 := rfl
                      have p44 : pw 4 = 4294967296 := rfl
                      have w1 : IntKind.i64.wrap (D - 36204) = D - 36204 := wrap_i64_in (by omega) (by omega)
                      have f1 : -9223372036854775808 ≤ D - 36204 ∧ D - 36204 < 9223372036854775808 := by omega
                      have f2 : -170141183460469231731687303715884105728 ≤ D - 36204 ∧ D - 36204 < 170141183460469231731687303715884105728 := by omega
                      have g1 : -170141183460469231731687303715884105728 ≤ (D - 36204) % 16777216 ∧ (D - 36204) % 16777216 < 170141183460469231731687303715884105728 := by omega
                      have g2 : 0 ≤ (D - 36204) % 16777216 ∧ (D - 36204) % 16777216 < 16777216 := by omega
                      have w2 : IntKind.i64.wrap (S * 1000) = S * 1000 := wrap_i64_in (by omega) (by omega)
                      have e1 : A.tdiv 1000000000000000 = A / 1000000000000000 := Int.tdiv_eq_ediv_of_nonneg (by omega)
                      have w3 : IntKind.i64.wrap (A / 1000000000000000) = A / 1000000000000000 := wrap_i64_in (by omega) (by omega)
                      have w4 : IntKind.i64.wrap (S * 1000 + A / 1000000000000000) = S * 1000 + A / 1000000000000000 := wrap_i64_in (by omega) (by omega)
                      have g3 : 0 ≤ S * 1000 + A / 1000000000000000 ∧ S * 1000 + A / 1000000000000000 < 4294967296 := by omega
                      have g4 : -9223372036854775808 ≤ S * 1000 + A / 1000000000000000 ∧ S * 1000 + A / 1000000000000000 < 9223372036854775808 := by omega
                      have e2 : A.tmod 1000000000000000 = A % 1000000000000000 := Int.tmod_eq_emod_of_nonneg (by omega)
                      have w5 : IntKind.i64.wrap (A % 1000000000000000) = A % 1000000000000000 := wrap_i64_in (by omega) (by omega)
                      have e3 : (A % 1000000000000000).tdiv 1000000 = A % 1000000000000000 / 1000000 := Int.tdiv_eq_ediv_of_nonneg (by omega)
                      have w6 : IntKind.i64.wrap (A % 1000000000000000 / 1000000) = A % 1000000000000000 / 1000000 := wrap_i64_in (by omega) (by omega)
                      have g5 : 0 ≤ A % 1000000000000000 / 1000000 ∧ A % 1000000000000000 / 1000000 < 4294967296 := by omega
                      have g6 : -9223372036854775808 ≤ A % 1000000000000000 / 1000000 ∧ A % 1000000000000000 / 1000000 < 9223372036854775808 := by omega
                      simp [cds_Encode.c, hx, p1, p1', p2, p2', p3, p3', p4, p4', hI, cpl, cUnit, bH, pk, pf, p44, w1, w2, w3, w4, w5, w6, f1, f2, g1, g2, g3, g4, g5, g6, e1, e2, e3, oct_len, oct_0, relRow, rowQ, rowInts, cform]
                    · simp [cds_Encode.c, hx, p1, p1', p2, p2', p3, p3', p4, p4', hI, cpl, cUnit]
                  · have p4' := Int.not_lt.1 p4
                    simp [cds_Encode.c, hx, p1, p1', p2, p2', p3, p3', p4, p4', cpl, cUnit]
                · have p3' := Int.not_le.1 p3
                  simp [cds_Encode.c, hx, p1, p1', p2, p2', p3, p3', cpl, cUnit]
              · have p2' := Int.not_le.1 p2
                simp [cds_Encode.c, hx, p1, p1', p2, p2', cpl, cUnit]
            · have p1' := Int.not_le.1 p1
              simp [cds_Encode.c, hx, p1, p1', cpl, cUnit]
          · simp [cds_Encode.c, hx, hd, hf, cUnit, f0, f2, f4]
    · simp [cds_Encode.c, hx, hd, hf, cUnit, d2, d3]
/-! ### Read again -/
theorem sl_rng {b : List Int} (hb : allB b) (i n : Nat) (h : i + n ≤ b.length) : 0 ≤ num (List.drop i (List.take (i + n) b)) ∧ num (List.drop i (List.take (i + n) b)) < pw (n : Int) := by
  have r := num_rng (allB_drop i (allB_take (i + n) hb))
  rw [List.length_drop, List.length_take, Nat.min_eq_left h, show i + n - i = n by omega] at r
  exact r
theorem dr_rng {b : List Int} (hb : allB b) (i n : Nat) (h : b.length = i + n) : 0 ≤ num (List.drop i b) ∧ num (List.drop i b) < pw (n : Int) := by
  have r := num_rng (allB_drop i hb)
  rw [List.length_drop, h, show i + n - i = n by omega] at r
  exact r
abbrev cNo (e : Int) : AV := .t [lab 0 0 0, iv .i64 0, iv .i64 0, iv .i64 e]
def cm20 (b : List Int) : Prop := b.length = 7 ∧ b.getD 0 0 = 64
instance (b : List Int) : Decidable (cm20 b) := inferInstanceAs (Decidable (_ ∧ _))
def cA20 (b : List Int) : Prop := num (List.drop 3 (List.take 7 b)) ≤ 86400999 ∧ num (List.drop 7 b) < 1
instance (b : List Int) : Decidable (cA20 b) := inferInstanceAs (Decidable (_ ∧ _))
def cday20 (b : List Int) (p : Int) : Int := abo (num (List.drop 1 (List.take 3 b))) 65536 (p - 36204) + 36204
def clab20 (b : List Int) (p : Int) : Int × Int × Int := (cday20 b p, num (List.drop 3 (List.take 7 b)) / 1000, num (List.drop 3 (List.take 7 b)) % 1000 * 1000000000000000 + num (List.drop 7 b) * 1000000000000000)
abbrev cD20 (b : List Int) (p : Int) : AV := if cA20 b then (if inD p then (if inD (cday20 b p) then .t [labT (clab20 b p), iv .i64 2, iv .i64 0, iv .i64 0] else cNo 2) else cNo 2) else cNo 4
def cm22 (b : List Int) : Prop := b.length = 9 ∧ b.getD 0 0 = 65
instance (b : List Int) : Decidable (cm22 b) := inferInstanceAs (Decidable (_ ∧ _))
def cA22 (b : List Int) : Prop := num (List.drop 3 (List.take 7 b)) ≤ 86400999 ∧ num (List.drop 7 b) < 1000
instance (b : List Int) : Decidable (cA22 b) := inferInstanceAs (Decidable (_ ∧ _))
def cday22 (b : List Int) (p : Int) : Int := abo (num (List.drop 1 (List.take 3 b))) 65536 (p - 36204) + 36204
def clab22 (b : List Int) (p : Int) : Int × Int × Int := (cday22 b p, num (List.drop 3 (List.take 7 b)) / 1000, num (List.drop 3 (List.take 7 b)) % 1000 * 1000000000000000 + num (List.drop 7 b) * 1000000000000)
abbrev cD22 (b : List Int) (p : Int) : AV := if cA22 b then (if inD p then (if inD (cday22 b p) then .t [labT (clab22 b p), iv .i64 2, iv .i64 2, iv .i64 0] else cNo 2) else cNo 2) else cNo 4
def cm24 (b : List Int) : Prop := b.length = 11 ∧ b.getD 0 0 = 66
instance (b : List Int) : Decidable (cm24 b) := inferInstanceAs (Decidable (_ ∧ _))
def cA24 (b : List Int) : Prop := num (List.drop 3 (List.take 7 b)) ≤ 86400999 ∧ num (List.drop 7 b) < 1000000000
instance (b : List Int) : Decidable (cA24 b) := inferInstanceAs (Decidable (_ ∧ _))
def cday24 (b : List Int) (p : Int) : Int := abo (num (List.drop 1 (List.take 3 b))) 65536 (p - 36204) + 36204
def clab24 (b : List Int) (p : Int) : Int × Int × Int := (cday24 b p, num (List.drop 3 (List.take 7 b)) / 1000, num (List.drop 3 (List.take 7 b)) % 1000 * 1000000000000000 + num (List.drop 7 b) * 1000000)
abbrev cD24 (b : List Int) (p : Int) : AV := if cA24 b then (if inD p then (if inD (cday24 b p) then .t [labT (clab24 b p), iv .i64 2, iv .i64 4, iv .i64 0] else cNo 2) else cNo 2) else cNo 4
def cm30 (b : List Int) : Prop := b.length = 8 ∧ b.getD 0 0 = 68
instance (b : List Int) : Decidable (cm30 b) := inferInstanceAs (Decidable (_ ∧ _))
def cA30 (b : List Int) : Prop := num (List.drop 4 (List.take 8 b)) ≤ 86400999 ∧ num (List.drop 8 b) < 1
instance (b : List Int) : Decidable (cA30 b) := inferInstanceAs (Decidable (_ ∧ _))
def cday30 (b : List Int) (p : Int) : Int := abo (num (List.drop 1 (List.take 4 b))) 16777216 (p - 36204) + 36204
def clab30 (b : List Int) (p : Int) : Int × Int × Int := (cday30 b p, num (List.drop 4 (List.take 8 b)) / 1000, num (List.drop 4 (List.take 8 b)) % 1000 * 1000000000000000 + num (List.drop 8 b) * 1000000000000000)
abbrev cD30 (b : List Int) (p : Int) : AV := if cA30 b then (if inD p then (if inD (cday30 b p) then .t [labT (clab30 b p), iv .i64 3, iv .i64 0, iv .i64 0] else cNo 2) else cNo 2) else cNo 4
def cm32 (b : List Int) : Prop := b.length = 10 ∧ b.getD 0 0 = 69
instance (b : List Int) : Decidable (cm32 b) := inferInstanceAs (Decidable (_ ∧ _))
def cA32 (b : List Int) : Prop := num (List.drop 4 (List.take 8 b)) ≤ 86400999 ∧ num (List.drop 8 b) < 1000
instance (b : List Int) : Decidable (cA32 b) := inferInstanceAs (Decidable (_ ∧ _))
def cday32 (b : List Int) (p : Int) : Int := abo (num (List.drop 1 (List.take 4 b))) 16777216 (p - 36204) + 36204
def clab32 (b : List Int) (p : Int) : Int × Int × Int := (cday32 b p, num (List.drop 4 (List.take 8 b)) / 1000, num (List.drop 4 (List.take 8 b)) % 1000 * 1000000000000000 + num (List.drop 8 b) * 1000000000000)
abbrev cD32 (b : List Int) (p : Int) : AV := if cA32 b then (if inD p then (if inD (cday32 b p) then .t [labT (clab32 b p), iv .i64 3, iv .i64 2, iv .i64 0] else cNo 2) else cNo 2) else cNo 4
def cm34 (b : List Int) : Prop := b.length = 12 ∧ b.getD 0 0 = 70
instance (b : List Int) : Decidable (cm34 b) := inferInstanceAs (Decidable (_ ∧ _))
def cA34 (b : List Int) : Prop := num (List.drop 4 (List.take 8 b)) ≤ 86400999 ∧ num (List.drop 8 b) < 1000000000
instance (b : List Int) : Decidable (cA34 b) := inferInstanceAs (Decidable (_ ∧ _))
def cday34 (b : List Int) (p : Int) : Int := abo (num (List.drop 1 (List.take 4 b))) 16777216 (p - 36204) + 36204
def clab34 (b : List Int) (p : Int) : Int × Int × Int := (cday34 b p, num (List.drop 4 (List.take 8 b)) / 1000, num (List.drop 4 (List.take 8 b)) % 1000 * 1000000000000000 + num (List.drop 8 b) * 1000000)
abbrev cD34 (b : List Int) (p : Int) : AV := if cA34 b then (if inD p then (if inD (cday34 b p) then .t [labT (clab34 b p), iv .i64 3, iv .i64 4, iv .i64 0] else cNo 2) else cNo 2) else cNo 4
abbrev cDec (b : List Int) (p : Int) : AV := if cm20 b then cD20 b p else if cm22 b then cD22 b p else if cm24 b then cD24 b p else if cm30 b then cD30 b p else if cm32 b then cD32 b p else if cm34 b then cD34 b p else cNo 4
abbrev cW (d f : Int) (t : Bool) : AV := .t [iv .i64 d, iv .i64 f, bv t]
abbrev tWidths := s1 coY Tt1 fun b => if b.length = 0 then cW 0 0 false else if b.getD 0 0 = 64 then cW 2 0 (decide (b.length = 7)) else if b.getD 0 0 = 65 then cW 2 2 (decide (b.length = 9)) else if b.getD 0 0 = 66 then cW 2 4 (decide (b.length = 11)) else if b.getD 0 0 = 68 then cW 3 0 (decide (b.length = 8)) else if b.getD 0 0 = 69 then cW 3 2 (decide (b.length = 10)) else if b.getD 0 0 = 70 then cW 3 4 (decide (b.length = 12)) else cW 0 0 false
theorem okWidths : Ok Try.prog 85 tWidths := ok1 (code_mk Try.func85 cds_widths.ent cds_widths.chk (specOk_cons okCHead specOk_nil)) (by simp [cds_widths.c]) fun b hb _ => by
  simp at hb
  refine ⟨10, ?_⟩
  by_cases hl : b.length = 0
  · simp [-List.getD_eq_getElem?_getD, cds_widths.c, hl]
  · have hl' : ¬ (b.length : Int) = 0 := by omega
    have hl2 : 0 < b.length := by omega
    have x5 : IntKind.i64.wrap 5 = 5 := rfl
    generalize hh : b.getD 0 0 = h
    have xw1 : IntKind.i64.wrap 1 = 1 := rfl
    have xw2 : IntKind.i64.wrap 2 = 2 := rfl
    have xw3 : IntKind.i64.wrap 3 = 3 := rfl
    have xw4 : IntKind.i64.wrap 4 = 4 := rfl
    have xw5 : IntKind.i64.wrap 5 = 5 := rfl
    have xw6 : IntKind.i64.wrap 6 = 6 := rfl
    have xw7 : IntKind.i64.wrap 7 = 7 := rfl
    have xw8 : IntKind.i64.wrap 8 = 8 := rfl
    have xw9 : IntKind.i64.wrap 9 = 9 := rfl
    have xw10 : IntKind.i64.wrap 10 = 10 := rfl
    have xw11 : IntKind.i64.wrap 11 = 11 := rfl
    have xw12 : IntKind.i64.wrap 12 = 12 := rfl
    by_cases h64 : h = 64
    · subst h64
      by_cases hL : b.length = 7
      · simp [-List.getD_eq_getElem?_getD, cds_widths.c, cds_widths.l1, cds_widths.l2, loopW_succ, hh, hL, xw1, xw2, xw3, xw4, xw5, xw6, xw7, xw8, xw9, xw10, xw11, xw12]
      · have hL' : ¬ (b.length : Int) = 7 := by omega
        simp [-List.getD_eq_getElem?_getD, cds_widths.c, cds_widths.l1, cds_widths.l2, loopW_succ, hh, hl, hl', hl2, hL, hL', xw1, xw2, xw3, xw4, xw5, xw6, xw7, xw8, xw9, xw10, xw11, xw12]
    · by_cases h65 : h = 65
      · subst h65
        by_cases hL : b.length = 9
        · simp [-List.getD_eq_getElem?_getD, cds_widths.c, cds_widths.l1, cds_widths.l2, loopW_succ, hh, hL, xw1, xw2, xw3, xw4, xw5, xw6, xw7, xw8, xw9, xw10, xw11, xw12]
        · have hL' : ¬ (b.length : Int) = 9 := by omega
          simp [-List.getD_eq_getElem?_getD, cds_widths.c, cds_widths.l1, cds_widths.l2, loopW_succ, hh, hl, hl', hl2, hL, hL', xw1, xw2, xw3, xw4, xw5, xw6, xw7, xw8, xw9, xw10, xw11, xw12]
      · by_cases h66 : h = 66
        · subst h66
          by_cases hL : b.length = 11
          · simp [-List.getD_eq_getElem?_getD, cds_widths.c, cds_widths.l1, cds_widths.l2, loopW_succ, hh, hL, xw1, xw2, xw3, xw4, xw5, xw6, xw7, xw8, xw9, xw10, xw11, xw12]
          · have hL' : ¬ (b.length : Int) = 11 := by omega
            simp [-List.getD_eq_getElem?_getD, cds_widths.c, cds_widths.l1, cds_widths.l2, loopW_succ, hh, hl, hl', hl2, hL, hL', xw1, xw2, xw3, xw4, xw5, xw6, xw7, xw8, xw9, xw10, xw11, xw12]
        · by_cases h68 : h = 68
          · subst h68
            by_cases hL : b.length = 8
            · simp [-List.getD_eq_getElem?_getD, cds_widths.c, cds_widths.l1, cds_widths.l2, loopW_succ, hh, hL, xw1, xw2, xw3, xw4, xw5, xw6, xw7, xw8, xw9, xw10, xw11, xw12]
            · have hL' : ¬ (b.length : Int) = 8 := by omega
              simp [-List.getD_eq_getElem?_getD, cds_widths.c, cds_widths.l1, cds_widths.l2, loopW_succ, hh, hl, hl', hl2, hL, hL', xw1, xw2, xw3, xw4, xw5, xw6, xw7, xw8, xw9, xw10, xw11, xw12]
          · by_cases h69 : h = 69
            · subst h69
              by_cases hL : b.length = 10
              · simp [-List.getD_eq_getElem?_getD, cds_widths.c, cds_widths.l1, cds_widths.l2, loopW_succ, hh, hL, xw1, xw2, xw3, xw4, xw5, xw6, xw7, xw8, xw9, xw10, xw11, xw12]
              · have hL' : ¬ (b.length : Int) = 10 := by omega
                simp [-List.getD_eq_getElem?_getD, cds_widths.c, cds_widths.l1, cds_widths.l2, loopW_succ, hh, hl, hl', hl2, hL, hL', xw1, xw2, xw3, xw4, xw5, xw6, xw7, xw8, xw9, xw10, xw11, xw12]
            · by_cases h70 : h = 70
              · subst h70
                by_cases hL : b.length = 12
                · simp [-List.getD_eq_getElem?_getD, cds_widths.c, cds_widths.l1, cds_widths.l2, loopW_succ, hh, hL, xw1, xw2, xw3, xw4, xw5, xw6, xw7, xw8, xw9, xw10, xw11, xw12]
                · have hL' : ¬ (b.length : Int) = 12 := by omega
                  simp [-List.getD_eq_getElem?_getD, cds_widths.c, cds_widths.l1, cds_widths.l2, loopW_succ, hh, hl, hl', hl2, hL, hL', xw1, xw2, xw3, xw4, xw5, xw6, xw7, xw8, xw9, xw10, xw11, xw12]
              · simp [-List.getD_eq_getElem?_getD, cds_widths.c, cds_widths.l1, cds_widths.l2, loopW_succ, hh, hl, hl', hl2, xw1, xw2, xw3, xw4, xw5, xw6, xw7, xw8, xw9, xw10, xw11, xw12, h64, h65, h66, h68, h69, h70]
abbrev tCDec := s2 coY coI Tt2 fun b p => cDec b p
theorem okCDec : Ok Try.prog 37 tCDec := ok2 (code_mk Try.func37 cds_Decode.ent cds_Decode.chk (specOk_cons okCUnit (specOk_cons okCIn (specOk_cons okCEra (specOk_cons okGet8 (specOk_cons okWidths (specOk_cons okNearA okSpW))))))) (by simp [cds_Decode.c]) fun b p hb hp _ => by
  simp at hb hp
  refine ⟨0, ?_⟩
  by_cases hl : b.length = 0
  · simp [-List.getD_eq_getElem?_getD, cds_Decode.c, hb, hl, cm20, cm22, cm24, cm30, cm32, cm34]
  · generalize hh : b.getD 0 0 = h
    have xw1 : IntKind.i64.wrap 1 = 1 := rfl
    have xw2 : IntKind.i64.wrap 2 = 2 := rfl
    have xw3 : IntKind.i64.wrap 3 = 3 := rfl
    have xw4 : IntKind.i64.wrap 4 = 4 := rfl
    have xw5 : IntKind.i64.wrap 5 = 5 := rfl
    have xw6 : IntKind.i64.wrap 6 = 6 := rfl
    have xw7 : IntKind.i64.wrap 7 = 7 := rfl
    have xw8 : IntKind.i64.wrap 8 = 8 := rfl
    have xw9 : IntKind.i64.wrap 9 = 9 := rfl
    have xw10 : IntKind.i64.wrap 10 = 10 := rfl
    have xw11 : IntKind.i64.wrap 11 = 11 := rfl
    have xw12 : IntKind.i64.wrap 12 = 12 := rfl
    have xw1000 : IntKind.i64.wrap 1000 = 1000 := rfl
    have xwG : IntKind.i64.wrap 1000000000 = 1000000000 := rfl
    by_cases h64 : h = 64
    · subst h64
      by_cases hL : b.length = 7
      · have hL' : (b.length : Int) = 7 := by omega
        have pk : pw 2 = 65536 := rfl
        have b1 : allB (List.drop 1 (List.take 3 b)) := allB_drop 1 (allB_take 3 hb)
        have b2 : allB (List.drop 3 (List.take 7 b)) := allB_drop 3 (allB_take 7 hb)
        have b3 : allB (List.drop 7 b) := allB_drop 7 hb
        have tk : List.take 7 b = b := List.take_of_length_le (by omega)
        have n1 : 0 ≤ num (List.drop 1 (List.take 3 b)) ∧ num (List.drop 1 (List.take 3 b)) < 65536 := sl_rng hb 1 2 (by omega)
        have n2 : 0 ≤ num (List.drop 3 (List.take 7 b)) ∧ num (List.drop 3 (List.take 7 b)) < 4294967296 := sl_rng hb 3 4 (by omega)
        have n3 : 0 ≤ num (List.drop 7 b) ∧ num (List.drop 7 b) < 1 := dr_rng hb 7 0 (by omega)
        generalize hF : num (List.drop 1 (List.take 3 b)) = F at *
        generalize hM : num (List.drop 3 (List.take 7 b)) = M at *
        generalize hR : num (List.drop 7 b) = R at *
        have hM2 : num (List.drop 3 b) = M := by rw [← hM, tk]
        have b2x : allB (List.drop 3 b) := allB_drop 3 hb
        by_cases m1 : M ≤ 86400999
        · have m1' := Int.not_lt.2 m1
          by_cases m2 : R < 1
          · have m2' := Int.not_le.2 m2
            by_cases hi : inD p
            · have hi' : -1099511627776 ≤ p ∧ p ≤ 1099511627776 := hi
              have w0 : IntKind.i64.wrap (p - 36204) = p - 36204 := wrap_i64_in (by omega) (by omega)
              have f1 : -9223372036854775808 ≤ p - 36204 ∧ p - 36204 < 9223372036854775808 := by omega
              have f2 : -170141183460469231731687303715884105728 ≤ p - 36204 ∧ p - 36204 < 170141183460469231731687303715884105728 := by omega
              have f3 : -9223372036854775808 ≤ F ∧ F < 9223372036854775808 := by omega
              have f4 : -170141183460469231731687303715884105728 ≤ F ∧ F < 170141183460469231731687303715884105728 := by omega
              have hw := abo_win (f := F) (n := 65536) (p := p - 36204) (by decide)
              have ha : abOk F 65536 (p - 36204) := by unfold abOk; omega
              generalize hB : abo F 65536 (p - 36204) = B at *
              have f5 : -170141183460469231731687303715884105728 ≤ B ∧ B < 170141183460469231731687303715884105728 := by omega
              have f6 : -9223372036854775808 ≤ B ∧ B < 9223372036854775808 := by omega
              have f7 : -9223372036854775808 ≤ B + 36204 ∧ B + 36204 < 9223372036854775808 := by omega
              have w1 : IntKind.i64.wrap (B + 36204) = B + 36204 := wrap_i64_in (by omega) (by omega)
              have e1 : M.tdiv 1000 = M / 1000 := Int.tdiv_eq_ediv_of_nonneg (by omega)
              have w2 : IntKind.i64.wrap (M / 1000) = M / 1000 := wrap_i64_in (by omega) (by omega)
              have e2 : M.tmod 1000 = M % 1000 := Int.tmod_eq_emod_of_nonneg (by omega)
              have w3 : IntKind.i64.wrap (M % 1000) = M % 1000 := wrap_i64_in (by omega) (by omega)
              have w4 : IntKind.i64.wrap (M % 1000 * 1000000000000000) = M % 1000 * 1000000000000000 := wrap_i64_in (by omega) (by omega)
              have w5 : IntKind.i64.wrap (R * 1000000000000000) = R * 1000000000000000 := wrap_i64_in (by omega) (by omega)
              have w6 : IntKind.i64.wrap (M % 1000 * 1000000000000000 + R * 1000000000000000) = M % 1000 * 1000000000000000 + R * 1000000000000000 := wrap_i64_in (by omega) (by omega)
              have hL2 : IntKind.i64.wrap (wlo B) = B := by rw [IntKind.wrap_i64]; unfold wlo; omega
              by_cases hj : inD (B + 36204)
              · simp [-List.getD_eq_getElem?_getD, -List.drop_one, cds_Decode.c, hp, hb, hM2, b2x, hh, hL, hL', pk, b1, b2, b3, tk, hF, hM, hR, n1, n2, n3, m1, m1', m2, m2', cUnit, clab20, cday20, cA20, cm20, cm22, cm24, cm30, cm32, cm34, xw1, xw2, xw3, xw4, xw5, xw6, xw7, xw8, xw9, xw10, xw11, xw12, xw1000, xwG, ha, hB, hi, hL2, w0, w1, w2, w3, w4, w5, w6, f1, f2, f3, f4, f5, f6, f7, e1, e2, hj]
              · simp [-List.getD_eq_getElem?_getD, -List.drop_one, cds_Decode.c, hp, hb, hM2, b2x, hh, hL, hL', pk, b1, b2, b3, tk, hF, hM, hR, n1, n2, n3, m1, m1', m2, m2', cUnit, clab20, cday20, cA20, cm20, cm22, cm24, cm30, cm32, cm34, xw1, xw2, xw3, xw4, xw5, xw6, xw7, xw8, xw9, xw10, xw11, xw12, xw1000, xwG, ha, hB, hi, hL2, w0, w1, w2, w3, w4, w5, w6, f1, f2, f3, f4, f5, f6, f7, e1, e2, hj]
            · simp [-List.getD_eq_getElem?_getD, -List.drop_one, cds_Decode.c, hp, hb, hM2, b2x, hh, hL, hL', pk, b1, b2, b3, tk, hF, hM, hR, n1, n2, n3, m1, m1', m2, m2', cUnit, clab20, cday20, cA20, cm20, cm22, cm24, cm30, cm32, cm34, xw1, xw2, xw3, xw4, xw5, xw6, xw7, xw8, xw9, xw10, xw11, xw12, xw1000, xwG, hi]
          · have m2' := Int.not_lt.1 m2
            omega
        · have m1' := Int.not_le.1 m1
          have m2 := True.intro
          have m2' := True.intro
          simp [-List.getD_eq_getElem?_getD, -List.drop_one, cds_Decode.c, hp, hb, hM2, b2x, hh, hL, hL', pk, b1, b2, b3, tk, hF, hM, hR, n1, n2, n3, m1, m1', m2, m2', cUnit, clab20, cday20, cA20, cm20, cm22, cm24, cm30, cm32, cm34, xw1, xw2, xw3, xw4, xw5, xw6, xw7, xw8, xw9, xw10, xw11, xw12, xw1000, xwG]
      · simp [-List.getD_eq_getElem?_getD, cds_Decode.c, hp, hb, hh, hl, hL, cm20, cm22, cm24, cm30, cm32, cm34]
    · by_cases h65 : h = 65
      · subst h65
        by_cases hL : b.length = 9
        · have hL' : (b.length : Int) = 9 := by omega
          have pk : pw 2 = 65536 := rfl
          have b1 : allB (List.drop 1 (List.take 3 b)) := allB_drop 1 (allB_take 3 hb)
          have b2 : allB (List.drop 3 (List.take 7 b)) := allB_drop 3 (allB_take 7 hb)
          have b3 : allB (List.drop 7 b) := allB_drop 7 hb
          have tk : List.take 9 b = b := List.take_of_length_le (by omega)
          have n1 : 0 ≤ num (List.drop 1 (List.take 3 b)) ∧ num (List.drop 1 (List.take 3 b)) < 65536 := sl_rng hb 1 2 (by omega)
          have n2 : 0 ≤ num (List.drop 3 (List.take 7 b)) ∧ num (List.drop 3 (List.take 7 b)) < 4294967296 := sl_rng hb 3 4 (by omega)
          have n3 : 0 ≤ num (List.drop 7 b) ∧ num (List.drop 7 b) < 65536 := dr_rng hb 7 2 (by omega)
          generalize hF : num (List.drop 1 (List.take 3 b)) = F at *
          generalize hM : num (List.drop 3 (List.take 7 b)) = M at *
          generalize hR : num (List.drop 7 b) = R at *
          have hM2 := hM
          have b2x := b2
          by_cases m1 : M ≤ 86400999
          · have m1' := Int.not_lt.2 m1
            by_cases m2 : R < 1000
            · have m2' := Int.not_le.2 m2
              by_cases hi : inD p
              · have hi' : -1099511627776 ≤ p ∧ p ≤ 1099511627776 := hi
                have w0 : IntKind.i64.wrap (p - 36204) = p - 36204 := wrap_i64_in (by omega) (by omega)
                have f1 : -9223372036854775808 ≤ p - 36204 ∧ p - 36204 < 9223372036854775808 := by omega
                have f2 : -170141183460469231731687303715884105728 ≤ p - 36204 ∧ p - 36204 < 170141183460469231731687303715884105728 := by omega
                have f3 : -9223372036854775808 ≤ F ∧ F < 9223372036854775808 := by omega
                have f4 : -170141183460469231731687303715884105728 ≤ F ∧ F < 170141183460469231731687303715884105728 := by omega
                have hw := abo_win (f := F) (n := 65536) (p := p - 36204) (by decide)
                have ha : abOk F 65536 (p - 36204) := by unfold abOk; omega
                generalize hB : abo F 65536 (p - 36204) = B at *
                have f5 : -170141183460469231731687303715884105728 ≤ B ∧ B < 170141183460469231731687303715884105728 := by omega
                have f6 : -9223372036854775808 ≤ B ∧ B < 9223372036854775808 := by omega
                have f7 : -9223372036854775808 ≤ B + 36204 ∧ B + 36204 < 9223372036854775808 := by omega
                have w1 : IntKind.i64.wrap (B + 36204) = B + 36204 := wrap_i64_in (by omega) (by omega)
                have e1 : M.tdiv 1000 = M / 1000 := Int.tdiv_eq_ediv_of_nonneg (by omega)
                have w2 : IntKind.i64.wrap (M / 1000) = M / 1000 := wrap_i64_in (by omega) (by omega)
                have e2 : M.tmod 1000 = M % 1000 := Int.tmod_eq_emod_of_nonneg (by omega)
                have w3 : IntKind.i64.wrap (M % 1000) = M % 1000 := wrap_i64_in (by omega) (by omega)
                have w4 : IntKind.i64.wrap (M % 1000 * 1000000000000000) = M % 1000 * 1000000000000000 := wrap_i64_in (by omega) (by omega)
                have w5 : IntKind.i64.wrap (R * 1000000000000) = R * 1000000000000 := wrap_i64_in (by omega) (by omega)
                have w6 : IntKind.i64.wrap (M % 1000 * 1000000000000000 + R * 1000000000000) = M % 1000 * 1000000000000000 + R * 1000000000000 := wrap_i64_in (by omega) (by omega)
                have hL2 : IntKind.i64.wrap (wlo B) = B := by rw [IntKind.wrap_i64]; unfold wlo; omega
                by_cases hj : inD (B + 36204)
                · simp [-List.getD_eq_getElem?_getD, -List.drop_one, cds_Decode.c, hp, hb, hM2, b2x, hh, hL, hL', pk, b1, b2, b3, tk, hF, hM, hR, n1, n2, n3, m1, m1', m2, m2', cUnit, clab22, cday22, cA22, cm20, cm22, cm24, cm30, cm32, cm34, xw1, xw2, xw3, xw4, xw5, xw6, xw7, xw8, xw9, xw10, xw11, xw12, xw1000, xwG, ha, hB, hi, hL2, w0, w1, w2, w3, w4, w5, w6, f1, f2, f3, f4, f5, f6, f7, e1, e2, hj]
                · simp [-List.getD_eq_getElem?_getD, -List.drop_one, cds_Decode.c, hp, hb, hM2, b2x, hh, hL, hL', pk, b1, b2, b3, tk, hF, hM, hR, n1, n2, n3, m1, m1', m2, m2', cUnit, clab22, cday22, cA22, cm20, cm22, cm24, cm30, cm32, cm34, xw1, xw2, xw3, xw4, xw5, xw6, xw7, xw8, xw9, xw10, xw11, xw12, xw1000, xwG, ha, hB, hi, hL2, w0, w1, w2, w3, w4, w5, w6, f1, f2, f3, f4, f5, f6, f7, e1, e2, hj]
              · simp [-List.getD_eq_getElem?_getD, -List.drop_one, cds_Decode.c, hp, hb, hM2, b2x, hh, hL, hL', pk, b1, b2, b3, tk, hF, hM, hR, n1, n2, n3, m1, m1', m2, m2', cUnit, clab22, cday22, cA22, cm20, cm22, cm24, cm30, cm32, cm34, xw1, xw2, xw3, xw4, xw5, xw6, xw7, xw8, xw9, xw10, xw11, xw12, xw1000, xwG, hi]
            · have m2' := Int.not_lt.1 m2
              simp [-List.getD_eq_getElem?_getD, -List.drop_one, cds_Decode.c, hp, hb, hM2, b2x, hh, hL, hL', pk, b1, b2, b3, tk, hF, hM, hR, n1, n2, n3, m1, m1', m2, m2', cUnit, clab22, cday22, cA22, cm20, cm22, cm24, cm30, cm32, cm34, xw1, xw2, xw3, xw4, xw5, xw6, xw7, xw8, xw9, xw10, xw11, xw12, xw1000, xwG]
          · have m1' := Int.not_le.1 m1
            have m2 := True.intro
            have m2' := True.intro
            simp [-List.getD_eq_getElem?_getD, -List.drop_one, cds_Decode.c, hp, hb, hM2, b2x, hh, hL, hL', pk, b1, b2, b3, tk, hF, hM, hR, n1, n2, n3, m1, m1', m2, m2', cUnit, clab22, cday22, cA22, cm20, cm22, cm24, cm30, cm32, cm34, xw1, xw2, xw3, xw4, xw5, xw6, xw7, xw8, xw9, xw10, xw11, xw12, xw1000, xwG]
        · simp [-List.getD_eq_getElem?_getD, cds_Decode.c, hp, hb, hh, hl, hL, cm20, cm22, cm24, cm30, cm32, cm34]
      · by_cases h66 : h = 66
        · subst h66
          by_cases hL : b.length = 11
          · have hL' : (b.length : Int) = 11 := by omega
            have pk : pw 2 = 65536 := rfl
            have b1 : allB (List.drop 1 (List.take 3 b)) := allB_drop 1 (allB_take 3 hb)
            have b2 : allB (List.drop 3 (List.take 7 b)) := allB_drop 3 (allB_take 7 hb)
            have b3 : allB (List.drop 7 b) := allB_drop 7 hb
            have tk : List.take 11 b = b := List.take_of_length_le (by omega)
            have n1 : 0 ≤ num (List.drop 1 (List.take 3 b)) ∧ num (List.drop 1 (List.take 3 b)) < 65536 := sl_rng hb 1 2 (by omega)
            have n2 : 0 ≤ num (List.drop 3 (List.take 7 b)) ∧ num (List.drop 3 (List.take 7 b)) < 4294967296 := sl_rng hb 3 4 (by omega)
            have n3 : 0 ≤ num (List.drop 7 b) ∧ num (List.drop 7 b) < 4294967296 := dr_rng hb 7 4 (by omega)
            generalize hF : num (List.drop 1 (List.take 3 b)) = F at *
            generalize hM : num (List.drop 3 (List.take 7 b)) = M at *
            generalize hR : num (List.drop 7 b) = R at *
            have hM2 := hM
            have b2x := b2
            by_cases m1 : M ≤ 86400999
            · have m1' := Int.not_lt.2 m1
              by_cases m2 : R < 1000000000
              · have m2' := Int.not_le.2 m2
                by_cases hi : inD p
                · have hi' : -1099511627776 ≤ p ∧ p ≤ 1099511627776 := hi
                  have w0 : IntKind.i64.wrap (p - 36204) = p - 36204 := wrap_i64_in (by omega) (by omega)
                  have f1 : -9223372036854775808 ≤ p - 36204 ∧ p - 36204 < 9223372036854775808 := by omega
                  have f2 : -170141183460469231731687303715884105728 ≤ p - 36204 ∧ p - 36204 < 170141183460469231731687303715884105728 := by omega
                  have f3 : -9223372036854775808 ≤ F ∧ F < 9223372036854775808 := by omega
                  have f4 : -170141183460469231731687303715884105728 ≤ F ∧ F < 170141183460469231731687303715884105728 := by omega
                  have hw := abo_win (f := F) (n := 65536) (p := p - 36204) (by decide)
                  have ha : abOk F 65536 (p - 36204) := by unfold abOk; omega
                  generalize hB : abo F 65536 (p - 36204) = B at *
                  have f5 : -170141183460469231731687303715884105728 ≤ B ∧ B < 170141183460469231731687303715884105728 := by omega
                  have f6 : -9223372036854775808 ≤ B ∧ B < 9223372036854775808 := by omega
                  have f7 : -9223372036854775808 ≤ B + 36204 ∧ B + 36204 < 9223372036854775808 := by omega
                  have w1 : IntKind.i64.wrap (B + 36204) = B + 36204 := wrap_i64_in (by omega) (by omega)
                  have e1 : M.tdiv 1000 = M / 1000 := Int.tdiv_eq_ediv_of_nonneg (by omega)
                  have w2 : IntKind.i64.wrap (M / 1000) = M / 1000 := wrap_i64_in (by omega) (by omega)
                  have e2 : M.tmod 1000 = M % 1000 := Int.tmod_eq_emod_of_nonneg (by omega)
                  have w3 : IntKind.i64.wrap (M % 1000) = M % 1000 := wrap_i64_in (by omega) (by omega)
                  have w4 : IntKind.i64.wrap (M % 1000 * 1000000000000000) = M % 1000 * 1000000000000000 := wrap_i64_in (by omega) (by omega)
                  have w5 : IntKind.i64.wrap (R * 1000000) = R * 1000000 := wrap_i64_in (by omega) (by omega)
                  have w6 : IntKind.i64.wrap (M % 1000 * 1000000000000000 + R * 1000000) = M % 1000 * 1000000000000000 + R * 1000000 := wrap_i64_in (by omega) (by omega)
                  have hL2 : IntKind.i64.wrap (wlo B) = B := by rw [IntKind.wrap_i64]; unfold wlo; omega
                  by_cases hj : inD (B + 36204)
                  · simp [-List.getD_eq_getElem?_getD, -List.drop_one, cds_Decode.c, hp, hb, hM2, b2x, hh, hL, hL', pk, b1, b2, b3, tk, hF, hM, hR, n1, n2, n3, m1, m1', m2, m2', cUnit, clab24, cday24, cA24, cm20, cm22, cm24, cm30, cm32, cm34, xw1, xw2, xw3, xw4, xw5, xw6, xw7, xw8, xw9, xw10, xw11, xw12, xw1000, xwG, ha, hB, hi, hL2, w0, w1, w2, w3, w4, w5, w6, f1, f2, f3, f4, f5, f6, f7, e1, e2, hj]
                  · simp [-List.getD_eq_getElem?_getD, -List.drop_one, cds_Decode.c, hp, hb, hM2, b2x, hh, hL, hL', pk, b1, b2, b3, tk, hF, hM, hR, n1, n2, n3, m1, m1', m2, m2', cUnit, clab24, cday24, cA24, cm20, cm22, cm24, cm30, cm32, cm34, xw1, xw2, xw3, xw4, xw5, xw6, xw7, xw8, xw9, xw10, xw11, xw12, xw1000, xwG, ha, hB, hi, hL2, w0, w1, w2, w3, w4, w5, w6, f1, f2, f3, f4, f5, f6, f7, e1, e2, hj]
                · simp [-List.getD_eq_getElem?_getD, -List.drop_one, cds_Decode.c, hp, hb, hM2, b2x, hh, hL, hL', pk, b1, b2, b3, tk, hF, hM, hR, n1, n2, n3, m1, m1', m2, m2', cUnit, clab24, cday24, cA24, cm20, cm22, cm24, cm30, cm32, cm34, xw1, xw2, xw3, xw4, xw5, xw6, xw7, xw8, xw9, xw10, xw11, xw12, xw1000, xwG, hi]
              · have m2' := Int.not_lt.1 m2
                simp [-List.getD_eq_getElem?_getD, -List.drop_one, cds_Decode.c, hp, hb, hM2, b2x, hh, hL, hL', pk, b1, b2, b3, tk, hF, hM, hR, n1, n2, n3, m1, m1', m2, m2', cUnit, clab24, cday24, cA24, cm20, cm22, cm24, cm30, cm32, cm34, xw1, xw2, xw3, xw4, xw5, xw6, xw7, xw8, xw9, xw10, xw11, xw12, xw1000, xwG]
            · have m1' := Int.not_le.1 m1
              have m2 := True.intro
              have m2' := True.intro
              simp [-List.getD_eq_getElem?_getD, -List.drop_one, cds_Decode.c, hp, hb, hM2, b2x, hh, hL, hL', pk, b1, b2, b3, tk, hF, hM, hR, n1, n2, n3, m1, m1', m2, m2', cUnit, clab24, cday24, cA24, cm20, cm22, cm24, cm30, cm32, cm34, xw1, xw2, xw3, xw4, xw5, xw6, xw7, xw8, xw9, xw10, xw11, xw12, xw1000, xwG]
          · simp [-List.getD_eq_getElem?_getD, cds_Decode.c, hp, hb, hh, hl, hL, cm20, cm22, cm24, cm30, cm32, cm34]
        · by_cases h68 : h = 68
          · subst h68
            by_cases hL : b.length = 8
            · have hL' : (b.length : Int) = 8 := by omega
              have pk : pw 3 = 16777216 := rfl
              have b1 : allB (List.drop 1 (List.take 4 b)) := allB_drop 1 (allB_take 4 hb)
              have b2 : allB (List.drop 4 (List.take 8 b)) := allB_drop 4 (allB_take 8 hb)
              have b3 : allB (List.drop 8 b) := allB_drop 8 hb
              have tk : List.take 8 b = b := List.take_of_length_le (by omega)
              have n1 : 0 ≤ num (List.drop 1 (List.take 4 b)) ∧ num (List.drop 1 (List.take 4 b)) < 16777216 := sl_rng hb 1 3 (by omega)
              have n2 : 0 ≤ num (List.drop 4 (List.take 8 b)) ∧ num (List.drop 4 (List.take 8 b)) < 4294967296 := sl_rng hb 4 4 (by omega)
              have n3 : 0 ≤ num (List.drop 8 b) ∧ num (List.drop 8 b) < 1 := dr_rng hb 8 0 (by omega)
              generalize hF : num (List.drop 1 (List.take 4 b)) = F at *
              generalize hM : num (List.drop 4 (List.take 8 b)) = M at *
              generalize hR : num (List.drop 8 b) = R at *
              have hM2 : num (List.drop 4 b) = M := by rw [← hM, tk]
              have b2x : allB (List.drop 4 b) := allB_drop 4 hb
              by_cases m1 : M ≤ 86400999
              · have m1' := Int.not_lt.2 m1
                by_cases m2 : R < 1
                · have m2' := Int.not_le.2 m2
                  by_cases hi : inD p
                  · have hi' : -1099511627776 ≤ p ∧ p ≤ 1099511627776 := hi
                    have w0 : IntKind.i64.wrap (p - 36204) = p - 36204 := wrap_i64_in (by omega) (by omega)
                    have f1 : -9223372036854775808 ≤ p - 36204 ∧ p - 36204 < 9223372036854775808 := by omega
                    have f2 : -170141183460469231731687303715884105728 ≤ p - 36204 ∧ p - 36204 < 170141183460469231731687303715884105728 := by omega
                    have f3 : -9223372036854775808 ≤ F ∧ F < 9223372036854775808 := by omega
                    have f4 : -170141183460469231731687303715884105728 ≤ F ∧ F < 170141183460469231731687303715884105728 := by omega
                    have hw := abo_win (f := F) (n := 16777216) (p := p - 36204) (by decide)
                    have ha : abOk F 16777216 (p - 36204) := by unfold abOk; omega
                    generalize hB : abo F 16777216 (p - 36204) = B at *
                    have f5 : -170141183460469231731687303715884105728 ≤ B ∧ B < 170141183460469231731687303715884105728 := by omega
                    have f6 : -9223372036854775808 ≤ B ∧ B < 9223372036854775808 := by omega
                    have f7 : -9223372036854775808 ≤ B + 36204 ∧ B + 36204 < 9223372036854775808 := by omega
                    have w1 : IntKind.i64.wrap (B + 36204) = B + 36204 := wrap_i64_in (by omega) (by omega)
                    have e1 : M.tdiv 1000 = M / 1000 := Int.tdiv_eq_ediv_of_nonneg (by omega)
                    have w2 : IntKind.i64.wrap (M / 1000) = M / 1000 := wrap_i64_in (by omega) (by omega)
                    have e2 : M.tmod 1000 = M % 1000 := Int.tmod_eq_emod_of_nonneg (by omega)
                    have w3 : IntKind.i64.wrap (M % 1000) = M % 1000 := wrap_i64_in (by omega) (by omega)
                    have w4 : IntKind.i64.wrap (M % 1000 * 1000000000000000) = M % 1000 * 1000000000000000 := wrap_i64_in (by omega) (by omega)
                    have w5 : IntKind.i64.wrap (R * 1000000000000000) = R * 1000000000000000 := wrap_i64_in (by omega) (by omega)
                    have w6 : IntKind.i64.wrap (M % 1000 * 1000000000000000 + R * 1000000000000000) = M % 1000 * 1000000000000000 + R * 1000000000000000 := wrap_i64_in (by omega) (by omega)
                    have hL2 : IntKind.i64.wrap (wlo B) = B := by rw [IntKind.wrap_i64]; unfold wlo; omega
                    by_cases hj : inD (B + 36204)
                    · simp [-List.getD_eq_getElem?_getD, -List.drop_one, cds_Decode.c, hp, hb, hM2, b2x, hh, hL, hL', pk, b1, b2, b3, tk, hF, hM, hR, n1, n2, n3, m1, m1', m2, m2', cUnit, clab30, cday30, cA30, cm20, cm22, cm24, cm30, cm32, cm34, xw1, xw2, xw3, xw4, xw5, xw6, xw7, xw8, xw9, xw10, xw11, xw12, xw1000, xwG, ha, hB, hi, hL2, w0, w1, w2, w3, w4, w5, w6, f1, f2, f3, f4, f5, f6, f7, e1, e2, hj]
                    · simp [-List.getD_eq_getElem?_getD, -List.drop_one, cds_Decode.c, hp, hb, hM2, b2x, hh, hL, hL', pk, b1, b2, b3, tk, hF, hM, hR, n1, n2, n3, m1, m1', m2, m2', cUnit, clab30, cday30, cA30, cm20, cm22, cm24, cm30, cm32, cm34, xw1, xw2, xw3, xw4, xw5, xw6, xw7, xw8, xw9, xw10, xw11, xw12, xw1000, xwG, ha, hB, hi, hL2, w0, w1, w2, w3, w4, w5, w6, f1, f2, f3, f4, f5, f6, f7, e1, e2, hj]
                  · simp [-List.getD_eq_getElem?_getD, -List.drop_one, cds_Decode.c, hp, hb, hM2, b2x, hh, hL, hL', pk, b1, b2, b3, tk, hF, hM, hR, n1, n2, n3, m1, m1', m2, m2', cUnit, clab30, cday30, cA30, cm20, cm22, cm24, cm30, cm32, cm34, xw1, xw2, xw3, xw4, xw5, xw6, xw7, xw8, xw9, xw10, xw11, xw12, xw1000, xwG, hi]
                · have m2' := Int.not_lt.1 m2
                  omega
              · have m1' := Int.not_le.1 m1
                have m2 := True.intro
                have m2' := True.intro
                simp [-List.getD_eq_getElem?_getD, -List.drop_one, cds_Decode.c, hp, hb, hM2, b2x, hh, hL, hL', pk, b1, b2, b3, tk, hF, hM, hR, n1, n2, n3, m1, m1', m2, m2', cUnit, clab30, cday30, cA30, cm20, cm22, cm24, cm30, cm32, cm34, xw1, xw2, xw3, xw4, xw5, xw6, xw7, xw8, xw9, xw10, xw11, xw12, xw1000, xwG]
            · simp [-List.getD_eq_getElem?_getD, cds_Decode.c, hp, hb, hh, hl, hL, cm20, cm22, cm24, cm30, cm32, cm34]
          · by_cases h69 : h = 69
            · subst h69
              by_cases hL : b.length = 10
              · have hL' : (b.length : Int) = 10 := by omega
                have pk : pw 3 = 16777216 := rfl
                have b1 : allB (List.drop 1 (List.take 4 b)) := allB_drop 1 (allB_take 4 hb)
                have b2 : allB (List.drop 4 (List.take 8 b)) := allB_drop 4 (allB_take 8 hb)
                have b3 : allB (List.drop 8 b) := allB_drop 8 hb
                have tk : List.take 10 b = b := List.take_of_length_le (by omega)
                have n1 : 0 ≤ num (List.drop 1 (List.take 4 b)) ∧ num (List.drop 1 (List.take 4 b)) < 16777216 := sl_rng hb 1 3 (by omega)
                have n2 : 0 ≤ num (List.drop 4 (List.take 8 b)) ∧ num (List.drop 4 (List.take 8 b)) < 4294967296 := sl_rng hb 4 4 (by omega)
                have n3 : 0 ≤ num (List.drop 8 b) ∧ num (List.drop 8 b) < 65536 := dr_rng hb 8 2 (by omega)
                generalize hF : num (List.drop 1 (List.take 4 b)) = F at *
                generalize hM : num (List.drop 4 (List.take 8 b)) = M at *
                generalize hR : num (List.drop 8 b) = R at *
                have hM2 := hM
                have b2x := b2
                by_cases m1 : M ≤ 86400999
                · have m1' := Int.not_lt.2 m1
                  by_cases m2 : R < 1000
                  · have m2' := Int.not_le.2 m2
                    by_cases hi : inD p
                    · have hi' : -1099511627776 ≤ p ∧ p ≤ 1099511627776 := hi
                      have w0 : IntKind.i64.wrap (p - 36204) = p - 36204 := wrap_i64_in (by omega) (by omega)
                      have f1 : -9223372036854775808 ≤ p - 36204 ∧ p - 36204 < 9223372036854775808 := by omega
                      have f2 : -170141183460469231731687303715884105728 ≤ p - 36204 ∧ p - 36204 < 170141183460469231731687303715884105728 := by omega
                      have f3 : -9223372036854775808 ≤ F ∧ F < 9223372036854775808 := by omega
                      have f4 : -170141183460469231731687303715884105728 ≤ F ∧ F < 170141183460469231731687303715884105728 := by omega
                      have hw := abo_win (f := F) (n := 16777216) (p := p - 36204) (by decide)
                      have ha : abOk F 16777216 (p - 36204) := by unfold abOk; omega
                      generalize hB : abo F 16777216 (p - 36204) = B at *
                      have f5 : -170141183460469231731687303715884105728 ≤ B ∧ B < 170141183460469231731687303715884105728 := by omega
                      have f6 : -9223372036854775808 ≤ B ∧ B < 9223372036854775808 := by omega
                      have f7 : -9223372036854775808 ≤ B + 36204 ∧ B + 36204 < 9223372036854775808 := by omega
                      have w1 : IntKind.i64.wrap (B + 36204) = B + 36204 := wrap_i64_in (by omega) (by omega)
                      have e1 : M.tdiv 1000 = M / 1000 := Int.tdiv_eq_ediv_of_nonneg (by omega)
                      have w2 : IntKind.i64.wrap (M / 1000) = M / 1000 := wrap_i64_in (by omega) (by omega)
                      have e2 : M.tmod 1000 = M % 1000 := Int.tmod_eq_emod_of_nonneg (by omega)
                      have w3 : IntKind.i64.wrap (M % 1000) = M % 1000 := wrap_i64_in (by omega) (by omega)
                      have w4 : IntKind.i64.wrap (M % 1000 * 1000000000000000) = M % 1000 * 1000000000000000 := wrap_i64_in (by omega) (by omega)
                      have w5 : IntKind.i64.wrap (R * 1000000000000) = R * 1000000000000 := wrap_i64_in (by omega) (by omega)
                      have w6 : IntKind.i64.wrap (M % 1000 * 1000000000000000 + R * 1000000000000) = M % 1000 * 1000000000000000 + R * 1000000000000 := wrap_i64_in (by omega) (by omega)
                      have hL2 : IntKind.i64.wrap (wlo B) = B := by rw [IntKind.wrap_i64]; unfold wlo; omega
                      by_cases hj : inD (B + 36204)
                      · simp [-List.getD_eq_getElem?_getD, -List.drop_one, cds_Decode.c, hp, hb, hM2, b2x, hh, hL, hL', pk, b1, b2, b3, tk, hF, hM, hR, n1, n2, n3, m1, m1', m2, m2', cUnit, clab32, cday32, cA32, cm20, cm22, cm24, cm30, cm32, cm34, xw1, xw2, xw3, xw4, xw5, xw6, xw7, xw8, xw9, xw10, xw11, xw12, xw1000, xwG, ha, hB, hi, hL2, w0, w1, w2, w3, w4, w5, w6, f1, f2, f3, f4, f5, f6, f7, e1, e2, hj]
                      · simp [-List.getD_eq_getElem?_getD, -List.drop_one, cds_Decode.c, hp, hb, hM2, b2x, hh, hL, hL', pk, b1, b2, b3, tk, hF, hM, hR, n1, n2, n3, m1, m1', m2, m2', cUnit, clab32, cday32, cA32, cm20, cm22, cm24, cm30, cm32, cm34, xw1, xw2, xw3, xw4, xw5, xw6, xw7, xw8, xw9, xw10, xw11, xw12, xw1000, xwG, ha, hB, hi, hL2, w0, w1, w2, w3, w4, w5, w6, f1, f2, f3, f4, f5, f6, f7, e1, e2, hj]
                    · simp [-List.getD_eq_getElem?_getD, -List.drop_one, cds_Decode.c, hp, hb, hM2, b2x, hh, hL, hL', pk, b1, b2, b3, tk, hF, hM, hR, n1, n2, n3, m1, m1', m2, m2', cUnit, clab32, cday32, cA32, cm20, cm22, cm24, cm30, cm32, cm34, xw1, xw2, xw3, xw4, xw5, xw6, xw7, xw8, xw9, xw10, xw11, xw12, xw1000, xwG, hi]
                  · have m2' := Int.not_lt.1 m2
                    simp [-List.getD_eq_getElem?_getD, -List.drop_one, cds_Decode.c, hp, hb, hM2, b2x, hh, hL, hL', pk, b1, b2, b3, tk, hF, hM, hR, n1, n2, n3, m1, m1', m2, m2', cUnit, clab32, cday32, cA32, cm20, cm22, cm24, cm30, cm32, cm34, xw1, xw2, xw3, xw4, xw5, xw6, xw7, xw8, xw9, xw10, xw11, xw12, xw1000, xwG]
                · have m1' := Int.not_le.1 m1
                  have m2 := True.intro
                  have m2' := True.intro
                  simp [-List.getD_eq_getElem?_getD, -List.drop_one, cds_Decode.c, hp, hb, hM2, b2x, hh, hL, hL', pk, b1, b2, b3, tk, hF, hM, hR, n1, n2, n3, m1, m1', m2, m2', cUnit, clab32, cday32, cA32, cm20, cm22, cm24, cm30, cm32, cm34, xw1, xw2, xw3, xw4, xw5, xw6, xw7, xw8, xw9, xw10, xw11, xw12, xw1000, xwG]
              · simp [-List.getD_eq_getElem?_getD, cds_Decode.c, hp, hb, hh, hl, hL, cm20, cm22, cm24, cm30, cm32, cm34]
            · by_cases h70 : h = 70
              · subst h70
                by_cases hL : b.length = 12
                · have hL' : (b.length : Int) = 12 := by omega
                  have pk : pw 3 = 16777216 := rfl
                  have b1 : allB (List.drop 1 (List.take 4 b)) := allB_drop 1 (allB_take 4 hb)
                  have b2 : allB (List.drop 4 (List.take 8 b)) := allB_drop 4 (allB_take 8 hb)
                  have b3 : allB (List.drop 8 b) := allB_drop 8 hb
                  have tk : List.take 12 b = b := List.take_of_length_le (by omega)
                  have n1 : 0 ≤ num (List.drop 1 (List.take 4 b)) ∧ num (List.drop 1 (List.take 4 b)) < 16777216 := sl_rng hb 1 3 (by omega)
                  have n2 : 0 ≤ num (List.drop 4 (List.take 8 b)) ∧ num (List.drop 4 (List.take 8 b)) < 4294967296 := sl_rng hb 4 4 (by omega)
                  have n3 : 0 ≤ num (List.drop 8 b) ∧ num (List.drop 8 b) < 4294967296 := dr_rng hb 8 4 (by omega)
                  generalize hF : num (List.drop 1 (List.take 4 b)) = F at *
                  generalize hM : num (List.drop 4 (List.take 8 b)) = M at *
                  generalize hR : num (List.drop 8 b) = R at *
                  have hM2 := hM
                  have b2x := b2
                  by_cases m1 : M ≤ 86400999
                  · have m1' := Int.not_lt.2 m1
                    by_cases m2 : R < 1000000000
                    · have m2' := Int.not_le.2 m2
                      by_cases hi : inD p
                      · have hi' : -1099511627776 ≤ p ∧ p ≤ 1099511627776 := hi
                        have w0 : IntKind.i64.wrap (p - 36204) = p - 36204 := wrap_i64_in (by omega) (by omega)
                        have f1 : -9223372036854775808 ≤ p - 36204 ∧ p - 36204 < 9223372036854775808 := by omega
                        have f2 : -170141183460469231731687303715884105728 ≤ p - 36204 ∧ p - 36204 < 170141183460469231731687303715884105728 := by omega
                        have f3 : -9223372036854775808 ≤ F ∧ F < 9223372036854775808 := by omega
                        have f4 : -170141183460469231731687303715884105728 ≤ F ∧ F < 170141183460469231731687303715884105728 := by omega
                        have hw := abo_win (f := F) (n := 16777216) (p := p - 36204) (by decide)
                        have ha : abOk F 16777216 (p - 36204) := by unfold abOk; omega
                        generalize hB : abo F 16777216 (p - 36204) = B at *
                        have f5 : -170141183460469231731687303715884105728 ≤ B ∧ B < 170141183460469231731687303715884105728 := by omega
                        have f6 : -9223372036854775808 ≤ B ∧ B < 9223372036854775808 := by omega
                        have f7 : -9223372036854775808 ≤ B + 36204 ∧ B + 36204 < 9223372036854775808 := by omega
                        have w1 : IntKind.i64.wrap (B + 36204) = B + 36204 := wrap_i64_in (by omega) (by omega)
                        have e1 : M.tdiv 1000 = M / 1000 := Int.tdiv_eq_ediv_of_nonneg (by omega)
                        have w2 : IntKind.i64.wrap (M / 1000) = M / 1000 := wrap_i64_in (by omega) (by omega)
                        have e2 : M.tmod 1000 = M % 1000 := Int.tmod_eq_emod_of_nonneg (by omega)
                        have w3 : IntKind.i64.wrap (M % 1000) = M % 1000 := wrap_i64_in (by omega) (by omega)
                        have w4 : IntKind.i64.wrap (M % 1000 * 1000000000000000) = M % 1000 * 1000000000000000 := wrap_i64_in (by omega) (by omega)
                        have w5 : IntKind.i64.wrap (R * 1000000) = R * 1000000 := wrap_i64_in (by omega) (by omega)
                        have w6 : IntKind.i64.wrap (M % 1000 * 1000000000000000 + R * 1000000) = M % 1000 * 1000000000000000 + R * 1000000 := wrap_i64_in (by omega) (by omega)
                        have hL2 : IntKind.i64.wrap (wlo B) = B := by rw [IntKind.wrap_i64]; unfold wlo; omega
                        by_cases hj : inD (B + 36204)
                        · simp [-List.getD_eq_getElem?_getD, -List.drop_one, cds_Decode.c, hp, hb, hM2, b2x, hh, hL, hL', pk, b1, b2, b3, tk, hF, hM, hR, n1, n2, n3, m1, m1', m2, m2', cUnit, clab34, cday34, cA34, cm20, cm22, cm24, cm30, cm32, cm34, xw1, xw2, xw3, xw4, xw5, xw6, xw7, xw8, xw9, xw10, xw11, xw12, xw1000, xwG, ha, hB, hi, hL2, w0, w1, w2, w3, w4, w5, w6, f1, f2, f3, f4, f5, f6, f7, e1, e2, hj]
                        · simp [-List.getD_eq_getElem?_getD, -List.drop_one, cds_Decode.c, hp, hb, hM2, b2x, hh, hL, hL', pk, b1, b2, b3, tk, hF, hM, hR, n1, n2, n3, m1, m1', m2, m2', cUnit, clab34, cday34, cA34, cm20, cm22, cm24, cm30, cm32, cm34, xw1, xw2, xw3, xw4, xw5, xw6, xw7, xw8, xw9, xw10, xw11, xw12, xw1000, xwG, ha, hB, hi, hL2, w0, w1, w2, w3, w4, w5, w6, f1, f2, f3, f4, f5, f6, f7, e1, e2, hj]
                      · simp [-List.getD_eq_getElem?_getD, -List.drop_one, cds_Decode.c, hp, hb, hM2, b2x, hh, hL, hL', pk, b1, b2, b3, tk, hF, hM, hR, n1, n2, n3, m1, m1', m2, m2', cUnit, clab34, cday34, cA34, cm20, cm22, cm24, cm30, cm32, cm34, xw1, xw2, xw3, xw4, xw5, xw6, xw7, xw8, xw9, xw10, xw11, xw12, xw1000, xwG, hi]
                    · have m2' := Int.not_lt.1 m2
                      simp [-List.getD_eq_getElem?_getD, -List.drop_one, cds_Decode.c, hp, hb, hM2, b2x, hh, hL, hL', pk, b1, b2, b3, tk, hF, hM, hR, n1, n2, n3, m1, m1', m2, m2', cUnit, clab34, cday34, cA34, cm20, cm22, cm24, cm30, cm32, cm34, xw1, xw2, xw3, xw4, xw5, xw6, xw7, xw8, xw9, xw10, xw11, xw12, xw1000, xwG]
                  · have m1' := Int.not_le.1 m1
                    have m2 := True.intro
                    have m2' := True.intro
                    simp [-List.getD_eq_getElem?_getD, -List.drop_one, cds_Decode.c, hp, hb, hM2, b2x, hh, hL, hL', pk, b1, b2, b3, tk, hF, hM, hR, n1, n2, n3, m1, m1', m2, m2', cUnit, clab34, cday34, cA34, cm20, cm22, cm24, cm30, cm32, cm34, xw1, xw2, xw3, xw4, xw5, xw6, xw7, xw8, xw9, xw10, xw11, xw12, xw1000, xwG]
                · simp [-List.getD_eq_getElem?_getD, cds_Decode.c, hp, hb, hh, hl, hL, cm20, cm22, cm24, cm30, cm32, cm34]
              · simp [-List.getD_eq_getElem?_getD, cds_Decode.c, hp, hb, hh, hl, cm20, cm22, cm24, cm30, cm32, cm34, h64, h65, h66, h68, h69, h70]
end Go.Proofs.Ytnjipdicfbkfdaa.E

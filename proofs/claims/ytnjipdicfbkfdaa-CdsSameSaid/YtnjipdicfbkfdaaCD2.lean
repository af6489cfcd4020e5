/- What the reference says of CDS codes. -/
import Derived.Test.YtnjipdicfbkfdaaCD1
set_option linter.unusedVariables false
set_option linter.unusedSimpArgs false
set_option maxHeartbeats 4000000
set_option maxRecDepth 100000
namespace Go.Proofs.Ytnjipdicfbkfdaa.E
open Go.VC Go.RowKit

theorem allB_cons {x : Int} {l : List Int} (hx : 0 ≤ x ∧ x < 256) (hl : allB l) : allB (x :: l) := fun y hy => by
  rcases List.mem_cons.1 hy with rfl | h
  · exact hx
  · exact hl y h
abbrev tCPlain := s1 coLab Tt1 fun x => .o (bv (decide (cpl x)))
theorem okCPlain : Ok Try.prog 83 tCPlain := ok1 (code_mk Try.func83 epactref19_plain.ent epactref19_plain.chk specOk_nil) (by simp [epactref19_plain.c]) fun x hx _ => by
  obtain ⟨d, s, a⟩ := x
  refine ⟨0, ?_⟩
  simp [epactref19_plain.c, cpl]
  grind
abbrev tPart := s1 coI Tt1 fun f => if f = 2 then .t [iv .i64 1000000000000, iv .i64 1000] else .t [iv .i64 1000000, iv .i64 1000000000]
theorem okPart : Ok Try.prog 39 tPart := ok1 (code_mk Try.func39 epactref19_Part.ent epactref19_Part.chk specOk_nil) (by simp [epactref19_Part.c]) fun f hf _ => by
  refine ⟨0, ?_⟩
  by_cases h : f = 2
  · simp [epactref19_Part.c, h]
  · simp [epactref19_Part.c, h]
abbrev tRCds := s3 coLab coI coI Tt3 fun x d f => cEnc x d f
theorem okRCds : Ok Try.prog 35 tRCds := ok3 (code_mk Try.func35 epactref19_Cds.ent epactref19_Cds.chk (specOk_cons okCPlain (specOk_cons okRIn (specOk_cons okPart (specOk_cons okOctets (specOk_cons okJoin8 (specOk_cons okRFold okSpRef))))))) (by simp [epactref19_Cds.c]) fun x d f hx hd hf _ => by
  obtain ⟨D, S, A⟩ := x
  simp at hx hd hf
  refine ⟨0, ?_⟩
  by_cases d2 : d = 2
  · subst d2
    by_cases f0 : f = 0
    · subst f0
      by_cases hP : cpl (D, S, A)
      · obtain ⟨p1, p2, p3, p4⟩ : 0 ≤ S ∧ S ≤ 86400 ∧ 0 ≤ A ∧ A < 1000000000000000000 := id hP
        by_cases hI : inD D
        · have hI2 : -1099511627776 ≤ D ∧ D ≤ 1099511627776 := hI
          have bH : allB [64] := by decide
          have pk : pw 2 = 65536 := rfl
          have pf : pw 0 = 1 := rfl
          have p44 : pw 4 = 4294967296 := rfl
          have w1 : IntKind.i64.wrap (D - 36204) = D - 36204 := wrap_i64_in (by omega) (by omega)
          have f1 : -9223372036854775808 ≤ D - 36204 ∧ D - 36204 < 9223372036854775808 := by omega
          have f2 : -170141183460469231731687303715884105728 ≤ D - 36204 ∧ D - 36204 < 170141183460469231731687303715884105728 := by omega
          have g1 : -170141183460469231731687303715884105728 ≤ (D - 36204) % 65536 ∧ (D - 36204) % 65536 < 170141183460469231731687303715884105728 := by omega
          have g2 : 0 ≤ (D - 36204) % 65536 ∧ (D - 36204) % 65536 < 65536 := by omega
          have w2 : IntKind.i64.wrap (S * 1000) = S * 1000 := wrap_i64_in (by omega) (by omega)
          have e1 : A.tdiv 1000000000000000 = A / 1000000000000000 := Int.tdiv_eq_ediv_of_nonneg (by omega)
          have w3 : IntKind.i64.wrap (A / 1000000000000000) = A / 1000000000000000 := wrap_i64_in (by omega) (by omega)
          have w4 : IntKind.i64.wrap (S * 1000 + A / 1000000000000000) = S * 1000 + A / 1000000000000000 := wrap_i64_in (by omega) (by omega)
          have g3 : 0 ≤ S * 1000 + A / 1000000000000000 ∧ S * 1000 + A / 1000000000000000 < 4294967296 := by omega
          have g4 : -9223372036854775808 ≤ S * 1000 + A / 1000000000000000 ∧ S * 1000 + A / 1000000000000000 < 9223372036854775808 := by omega
          have e2 : A.tmod 1000000000000000 = A % 1000000000000000 := Int.tmod_eq_emod_of_nonneg (by omega)
          have w5 : IntKind.i64.wrap (A % 1000000000000000) = A % 1000000000000000 := wrap_i64_in (by omega) (by omega)
          have e3 : (A % 1000000000000000).tdiv 1000000000000000 = A % 1000000000000000 / 1000000000000000 := Int.tdiv_eq_ediv_of_nonneg (by omega)
          have w6 : IntKind.i64.wrap (A % 1000000000000000 / 1000000000000000) = A % 1000000000000000 / 1000000000000000 := wrap_i64_in (by omega) (by omega)
          have g5 : 0 ≤ A % 1000000000000000 / 1000000000000000 ∧ A % 1000000000000000 / 1000000000000000 < 1 := by omega
          have g6 : -9223372036854775808 ≤ A % 1000000000000000 / 1000000000000000 ∧ A % 1000000000000000 / 1000000000000000 < 9223372036854775808 := by omega
          have m1 : md (D - 36204) := by unfold md; omega
          have s1 : smB ((D - 36204) % 65536) := by unfold smB; omega
          have s2 : smB (S * 1000 + A / 1000000000000000) := by unfold smB; omega
          have s3 : smB (A % 1000000000000000 / 1000000000000000) := by unfold smB; omega
          have x1 : IntKind.u8.wrap 64 = 64 := rfl
          have x2 : IntKind.i64.wrap 64 = 64 := rfl
          have x3 : IntKind.i64.wrap 1 = 1 := rfl
          have x4 : IntKind.i64.wrap 2 = 2 := rfl
          have x5 : IntKind.i64.wrap 4 = 4 := rfl
          have x6 : IntKind.i64.wrap 68 = 68 := rfl
          have x7 : IntKind.i64.wrap 0 = 0 := rfl
          have x8 : IntKind.i64.wrap 64 = 64 := rfl
          have aH1 : allB (64 :: oct ((D - 36204) % 65536) 2) := allB_cons ⟨by decide, by decide⟩ (allB_oct _ _)
          have aH2 : allB (64 :: (oct ((D - 36204) % 65536) 2 ++ oct (S * 1000 + A / 1000000000000000) 4)) := allB_cons ⟨by decide, by decide⟩ (allB_app (allB_oct _ _) (allB_oct _ _))
          simp [epactref19_Cds.c, hx, hP, hI, bH, pk, pf, p44, w1, w2, w3, w4, w5, w6, f1, f2, g1, g2, g3, g4, g5, g6, e1, e2, e3, m1, s1, s2, s3, x1, x2, x3, x4, x5, x6, x7, x8, aH1, aH2, oct_len, oct_0, relRow, rowQ, rowInts, cform]
        · simp [epactref19_Cds.c, hx, hP, hI]
      · simp [epactref19_Cds.c, hx, hP]
    · by_cases f2 : f = 2
      · subst f2
        by_cases hP : cpl (D, S, A)
        · obtain ⟨p1, p2, p3, p4⟩ : 0 ≤ S ∧ S ≤ 86400 ∧ 0 ≤ A ∧ A < 1000000000000000000 := id hP
          by_cases hI : inD D
          · have hI2 : -1099511627776 ≤ D ∧ D ≤ 1099511627776 := hI
            have bH : allB [65] := by decide
            have pk : pw 2 = 65536 := rfl
            have pf : pw 2 = 65536 := rfl
            have p44 : pw 4 = 4294967296 := rfl
            have w1 : IntKind.i64.wrap (D - 36204) = D - 36204 := wrap_i64_in (by omega) (by omega)
            have f1 : -9223372036854775808 ≤ D - 36204 ∧ D - 36204 < 9223372036854775808 := by omega
            have f2 : -170141183460469231731687303715884105728 ≤ D - 36204 ∧ D - 36204 < 170141183460469231731687303715884105728 := by omega
            have g1 : -170141183460469231731687303715884105728 ≤ (D - 36204) % 65536 ∧ (D - 36204) % 65536 < 170141183460469231731687303715884105728 := by omega
            have g2 : 0 ≤ (D - 36204) % 65536 ∧ (D - 36204) % 65536 < 65536 := by omega
            have w2 : IntKind.i64.wrap (S * 1000) = S * 1000 := wrap_i64_in (by omega) (by omega)
            have e1 : A.tdiv 1000000000000000 = A / 1000000000000000 := Int.tdiv_eq_ediv_of_nonneg (by omega)
            have w3 : IntKind.i64.wrap (A / 1000000000000000) = A / 1000000000000000 := wrap_i64_in (by omega) (by omega)
            have w4 : IntKind.i64.wrap (S * 1000 + A / 1000000000000000) = S * 1000 + A / 1000000000000000 := wrap_i64_in (by omega) (by omega)
            have g3 : 0 ≤ S * 1000 + A / 1000000000000000 ∧ S * 1000 + A / 1000000000000000 < 4294967296 := by omega
            have g4 : -9223372036854775808 ≤ S * 1000 + A / 1000000000000000 ∧ S * 1000 + A / 1000000000000000 < 9223372036854775808 := by omega
            have e2 : A.tmod 1000000000000000 = A % 1000000000000000 := Int.tmod_eq_emod_of_nonneg (by omega)
            have w5 : IntKind.i64.wrap (A % 1000000000000000) = A % 1000000000000000 := wrap_i64_in (by omega) (by omega)
            have e3 : (A % 1000000000000000).tdiv 1000000000000 = A % 1000000000000000 / 1000000000000 := Int.tdiv_eq_ediv_of_nonneg (by omega)
            have w6 : IntKind.i64.wrap (A % 1000000000000000 / 1000000000000) = A % 1000000000000000 / 1000000000000 := wrap_i64_in (by omega) (by omega)
            have g5 : 0 ≤ A % 1000000000000000 / 1000000000000 ∧ A % 1000000000000000 / 1000000000000 < 65536 := by omega
            have g6 : -9223372036854775808 ≤ A % 1000000000000000 / 1000000000000 ∧ A % 1000000000000000 / 1000000000000 < 9223372036854775808 := by omega
            have m1 : md (D - 36204) := by unfold md; omega
            have s1 : smB ((D - 36204) % 65536) := by unfold smB; omega
            have s2 : smB (S * 1000 + A / 1000000000000000) := by unfold smB; omega
            have s3 : smB (A % 1000000000000000 / 1000000000000) := by unfold smB; omega
            have x1 : IntKind.u8.wrap 65 = 65 := rfl
            have x2 : IntKind.i64.wrap 65 = 65 := rfl
            have x3 : IntKind.i64.wrap 1 = 1 := rfl
            have x4 : IntKind.i64.wrap 2 = 2 := rfl
            have x5 : IntKind.i64.wrap 4 = 4 := rfl
            have x6 : IntKind.i64.wrap 68 = 68 := rfl
            have x7 : IntKind.i64.wrap 0 = 0 := rfl
            have x8 : IntKind.i64.wrap 64 = 64 := rfl
            have aH1 : allB (65 :: oct ((D - 36204) % 65536) 2) := allB_cons ⟨by decide, by decide⟩ (allB_oct _ _)
            have aH2 : allB (65 :: (oct ((D - 36204) % 65536) 2 ++ oct (S * 1000 + A / 1000000000000000) 4)) := allB_cons ⟨by decide, by decide⟩ (allB_app (allB_oct _ _) (allB_oct _ _))
            simp [epactref19_Cds.c, hx, hP, hI, bH, pk, pf, p44, w1, w2, w3, w4, w5, w6, f1, f2, g1, g2, g3, g4, g5, g6, e1, e2, e3, m1, s1, s2, s3, x1, x2, x3, x4, x5, x6, x7, x8, aH1, aH2, oct_len, oct_0, relRow, rowQ, rowInts, cform]
          · simp [epactref19_Cds.c, hx, hP, hI]
        · simp [epactref19_Cds.c, hx, hP]
      · by_cases f4 : f = 4
        · subst f4
          by_cases hP : cpl (D, S, A)
          · obtain ⟨p1, p2, p3, p4⟩ : 0 ≤ S ∧ S ≤ 86400 ∧ 0 ≤ A ∧ A < 1000000000000000000 := id hP
            by_cases hI : inD D
            · have hI2 : -1099511627776 ≤ D ∧ D ≤ 1099511627776 := hI
              have bH : allB [66] := by decide
              have pk : pw 2 = 65536 := rfl
              have pf : pw 4 = 4294967296 := rfl
              have p44 : pw 4 = 4294967296 := rfl
              have w1 : IntKind.i64.wrap (D - 36204) = D - 36204 := wrap_i64_in (by omega) (by omega)
              have f1 : -9223372036854775808 ≤ D - 36204 ∧ D - 36204 < 9223372036854775808 := by omega
              have f2 : -170141183460469231731687303715884105728 ≤ D - 36204 ∧ D - 36204 < 170141183460469231731687303715884105728 := by omega
              have g1 : -170141183460469231731687303715884105728 ≤ (D - 36204) % 65536 ∧ (D - 36204) % 65536 < 170141183460469231731687303715884105728 := by omega
              have g2 : 0 ≤ (D - 36204) % 65536 ∧ (D - 36204) % 65536 < 65536 := by omega
              have w2 : IntKind.i64.wrap (S * 1000) = S * 1000 := wrap_i64_in (by omega) (by omega)
              have e1 : A.tdiv 1000000000000000 = A / 1000000000000000 := Int.tdiv_eq_ediv_of_nonneg (by omega)
              have w3 : IntKind.i64.wrap (A / 1000000000000000) = A / 1000000000000000 := wrap_i64_in (by omega) (by omega)
              have w4 : IntKind.i64.wrap (S * 1000 + A / 1000000000000000) = S * 1000 + A / 1000000000000000 := wrap_i64_in (by omega) (by omega)
              have g3 : 0 ≤ S * 1000 + A / 1000000000000000 ∧ S * 1000 + A / 1000000000000000 < 4294967296 := by omega
              have g4 : -9223372036854775808 ≤ S * 1000 + A / 1000000000000000 ∧ S * 1000 + A / 1000000000000000 < 9223372036854775808 := by omega
              have e2 : A.tmod 1000000000000000 = A % 1000000000000000 := Int.tmod_eq_emod_of_nonneg (by omega)
              have w5 : IntKind.i64.wrap (A % 1000000000000000) = A % 1000000000000000 := wrap_i64_in (by omega) (by omega)
              have e3 : (A % 1000000000000000).tdiv 1000000 = A % 1000000000000000 / 1000000 := Int.tdiv_eq_ediv_of_nonneg (by omega)
              have w6 : IntKind.i64.wrap (A % 1000000000000000 / 1000000) = A % 1000000000000000 / 1000000 := wrap_i64_in (by omega) (by omega)
              have g5 : 0 ≤ A % 1000000000000000 / 1000000 ∧ A % 1000000000000000 / 1000000 < 4294967296 := by omega
              have g6 : -9223372036854775808 ≤ A % 1000000000000000 / 1000000 ∧ A % 1000000000000000 / 1000000 < 9223372036854775808 := by omega
              have m1 : md (D - 36204) := by unfold md; omega
              have s1 : smB ((D - 36204) % 65536) := by unfold smB; omega
              have s2 : smB (S * 1000 + A / 1000000000000000) := by unfold smB; omega
              have s3 : smB (A % 1000000000000000 / 1000000) := by unfold smB; omega
              have x1 : IntKind.u8.wrap 66 = 66 := rfl
              have x2 : IntKind.i64.wrap 66 = 66 := rfl
              have x3 : IntKind.i64.wrap 1 = 1 := rfl
              have x4 : IntKind.i64.wrap 2 = 2 := rfl
              have x5 : IntKind.i64.wrap 4 = 4 := rfl
              have x6 : IntKind.i64.wrap 68 = 68 := rfl
              have x7 : IntKind.i64.wrap 0 = 0 := rfl
              have x8 : IntKind.i64.wrap 64 = 64 := rfl
              have aH1 : allB (66 :: oct ((D - 36204) % 65536) 2) := allB_cons ⟨by decide, by decide⟩ (allB_oct _ _)
              have aH2 : allB (66 :: (oct ((D - 36204) % 65536) 2 ++ oct (S * 1000 + A / 1000000000000000) 4)) := allB_cons ⟨by decide, by decide⟩ (allB_app (allB_oct _ _) (allB_oct _ _))
              simp [epactref19_Cds.c, hx, hP, hI, bH, pk, pf, p44, w1, w2, w3, w4, w5, w6, f1, f2, g1, g2, g3, g4, g5, g6, e1, e2, e3, m1, s1, s2, s3, x1, x2, x3, x4, x5, x6, x7, x8, aH1, aH2, oct_len, oct_0, relRow, rowQ, rowInts, cform]
            · simp [epactref19_Cds.c, hx, hP, hI]
          · simp [epactref19_Cds.c, hx, hP]
        · simp [epactref19_Cds.c, hx, hd, hf, f0, f2, f4]
  · by_cases d3 : d = 3
    · subst d3
      by_cases f0 : f = 0
      · subst f0
        by_cases hP : cpl (D, S, A)
        · obtain ⟨p1, p2, p3, p4⟩ : 0 ≤ S ∧ S ≤ 86400 ∧ 0 ≤ A ∧ A < 1000000000000000000 := id hP
          by_cases hI : inD D
          · have hI2 : -1099511627776 ≤ D ∧ D ≤ 1099511627776 := hI
            have bH : allB [68] := by decide
            have pk : pw 3 = 16777216 := rfl
            have pf : pw 0 = 1 := rfl
            have p44 : pw 4 = 4294967296 := rfl
            have w1 : IntKind.i64.wrap (D - 36204) = D - 36204 := wrap_i64_in (by omega) (by omega)
            have f1 : -9223372036854775808 ≤ D - 36204 ∧ D - 36204 < 9223372036854775808 := by omega
            have f2 : -170141183460469231731687303715884105728 ≤ D - 36204 ∧ D - 36204 < 170141183460469231731687303715884105728 := by omega
            have g1 : -170141183460469231731687303715884105728 ≤ (D - 36204) % 16777216 ∧ (D - 36204) % 16777216 < 170141183460469231731687303715884105728 := by omega
            have g2 : 0 ≤ (D - 36204) % 16777216 ∧ (D - 36204) % 16777216 < 16777216 := by omega
            have w2 : IntKind.i64.wrap (S * 1000) = S * 1000 := wrap_i64_in (by omega) (by omega)
            have e1 : A.tdiv 1000000000000000 = A / 1000000000000000 := Int.tdiv_eq_ediv_of_nonneg (by omega)
            have w3 : IntKind.i64.wrap (A / 1000000000000000) = A / 1000000000000000 := wrap_i64_in (by omega) (by omega)
            have w4 : IntKind.i64.wrap (S * 1000 + A / 1000000000000000) = S * 1000 + A / 1000000000000000 := wrap_i64_in (by omega) (by omega)
            have g3 : 0 ≤ S * 1000 + A / 1000000000000000 ∧ S * 1000 + A / 1000000000000000 < 4294967296 := by omega
            have g4 : -9223372036854775808 ≤ S * 1000 + A / 1000000000000000 ∧ S * 1000 + A / 1000000000000000 < 9223372036854775808 := by omega
            have e2 : A.tmod 1000000000000000 = A % 1000000000000000 := Int.tmod_eq_emod_of_nonneg (by omega)
            have w5 : IntKind.i64.wrap (A % 1000000000000000) = A % 1000000000000000 := wrap_i64_in (by omega) (by omega)
            have e3 : (A % 1000000000000000).tdiv 1000000000000000 = A % 1000000000000000 / 1000000000000000 := Int.tdiv_eq_ediv_of_nonneg (by omega)
            have w6 : IntKind.i64.wrap (A % 1000000000000000 / 1000000000000000) = A % 1000000000000000 / 1000000000000000 := wrap_i64_in (by omega) (by omega)
            have g5 : 0 ≤ A % 1000000000000000 / 1000000000000000 ∧ A % 1000000000000000 / 1000000000000000 < 1 := by omega
            have g6 : -9223372036854775808 ≤ A % 1000000000000000 / 1000000000000000 ∧ A % 1000000000000000 / 1000000000000000 < 9223372036854775808 := by omega
            have m1 : md (D - 36204) := by unfold md; omega
            have s1 : smB ((D - 36204) % 16777216) := by unfold smB; omega
            have s2 : smB (S * 1000 + A / 1000000000000000) := by unfold smB; omega
            have s3 : smB (A % 1000000000000000 / 1000000000000000) := by unfold smB; omega
            have x1 : IntKind.u8.wrap 68 = 68 := rfl
            have x2 : IntKind.i64.wrap 68 = 68 := rfl
            have x3 : IntKind.i64.wrap 1 = 1 := rfl
            have x4 : IntKind.i64.wrap 2 = 2 := rfl
            have x5 : IntKind.i64.wrap 4 = 4 := rfl
            have x6 : IntKind.i64.wrap 68 = 68 := rfl
            have x7 : IntKind.i64.wrap 0 = 0 := rfl
            have x8 : IntKind.i64.wrap 64 = 64 := rfl
            have aH1 : allB (68 :: oct ((D - 36204) % 16777216) 3) := allB_cons ⟨by decide, by decide⟩ (allB_oct _ _)
            have aH2 : allB (68 :: (oct ((D - 36204) % 16777216) 3 ++ oct (S * 1000 + A / 1000000000000000) 4)) := allB_cons ⟨by decide, by decide⟩ (allB_app (allB_oct _ _) (allB_oct _ _))
            simp [epactref19_Cds.c, hx, hP, hI, bH, pk, pf, p44, w1, w2, w3, w4, w5, w6, f1, f2, g1, g2, g3, g4, g5, g6, e1, e2, e3, m1, s1, s2, s3, x1, x2, x3, x4, x5, x6, x7, x8, aH1, aH2, oct_len, oct_0, relRow, rowQ, rowInts, cform]
          · simp [epactref19_Cds.c, hx, hP, hI]
        · simp [epactref19_Cds.c, hx, hP]
      · by_cases f2 : f = 2
        · subst f2
          by_cases hP : cpl (D, S, A)
          · obtain ⟨p1, p2, p3, p4⟩ : 0 ≤ S ∧ S ≤ 86400 ∧ 0 ≤ A ∧ A < 1000000000000000000 := id hP
            by_cases hI : inD D
            · have hI2 : -1099511627776 ≤ D ∧ D ≤ 1099511627776 := hI
              have bH : allB [69] := by decide
              have pk : pw 3 = 16777216 := rfl
              have pf : pw 2 = 65536 := rfl
              have p44 : pw 4 = 4294967296 := rfl
              have w1 : IntKind.i64.wrap (D - 36204) = D - 36204 := wrap_i64_in (by omega) (by omega)
              have f1 : -9223372036854775808 ≤ D - 36204 ∧ D - 36204 < 9223372036854775808 := by omega
              have f2 : -170141183460469231731687303715884105728 ≤ D - 36204 ∧ D - 36204 < 170141183460469231731687303715884105728 := by omega
              have g1 : -170141183460469231731687303715884105728 ≤ (D - 36204) % 16777216 ∧ (D - 36204) % 16777216 < 170141183460469231731687303715884105728 := by omega
              have g2 : 0 ≤ (D - 36204) % 16777216 ∧ (D - 36204) % 16777216 < 16777216 := by omega
              have w2 : IntKind.i64.wrap (S * 1000) = S * 1000 := wrap_i64_in (by omega) (by omega)
              have e1 : A.tdiv 1000000000000000 = A / 1000000000000000 := Int.tdiv_eq_ediv_of_nonneg (by omega)
              have w3 : IntKind.i64.wrap (A / 1000000000000000) = A / 1000000000000000 := wrap_i64_in (by omega) (by omega)
              have w4 : IntKind.i64.wrap (S * 1000 + A / 1000000000000000) = S * 1000 + A / 1000000000000000 := wrap_i64_in (by omega) (by omega)
              have g3 : 0 ≤ S * 1000 + A / 1000000000000000 ∧ S * 1000 + A / 1000000000000000 < 4294967296 := by omega
              have g4 : -9223372036854775808 ≤ S * 1000 + A / 1000000000000000 ∧ S * 1000 + A / 1000000000000000 < 9223372036854775808 := by omega
              have e2 : A.tmod 1000000000000000 = A % 1000000000000000 := Int.tmod_eq_emod_of_nonneg (by omega)
              have w5 : IntKind.i64.wrap (A % 1000000000000000) = A % 1000000000000000 := wrap_i64_in (by omega) (by omega)
              have e3 : (A % 1000000000000000).tdiv 1000000000000 = A % 1000000000000000 / 1000000000000 := Int.tdiv_eq_ediv_of_nonneg (by omega)
              have w6 : IntKind.i64.wrap (A % 1000000000000000 / 1000000000000) = A % 1000000000000000 / 1000000000000 := wrap_i64_in (by omega) (by omega)
              have g5 : 0 ≤ A % 1000000000000000 / 1000000000000 ∧ A % 1000000000000000 / 1000000000000 < 65536 := by omega
              have g6 : -9223372036854775808 ≤ A % 1000000000000000 / 1000000000000 ∧ A % 1000000000000000 / 1000000000000 < 9223372036854775808 := by omega
              have m1 : md (D - 36204) := by unfold md; omega
              have s1 : smB ((D - 36204) % 16777216) := by unfold smB; omega
              have s2 : smB (S * 1000 + A / 1000000000000000) := by unfold smB; omega
              have s3 : smB (A % 1000000000000000 / 1000000000000) := by unfold smB; omega
              have x1 : IntKind.u8.wrap 69 = 69 := rfl
              have x2 : IntKind.i64.wrap 69 = 69 := rfl
              have x3 : IntKind.i64.wrap 1 = 1 := rfl
              have x4 : IntKind.i64.wrap 2 = 2 := rfl
              have x5 : IntKind.i64.wrap 4 = 4 := rfl
              have x6 : IntKind.i64.wrap 68 = 68 := rfl
              have x7 : IntKind.i64.wrap 0 = 0 := rfl
              have x8 : IntKind.i64.wrap 64 = 64 := rfl
              have aH1 : allB (69 :: oct ((D - 36204) % 16777216) 3) := allB_cons ⟨by decide, by decide⟩ (allB_oct _ _)
              have aH2 : allB (69 :: (oct ((D - 36204) % 16777216) 3 ++ oct (S * 1000 + A / 1000000000000000) 4)) := allB_cons ⟨by decide, by decide⟩ (allB_app (allB_oct _ _) (allB_oct _ _))
              simp [epactref19_Cds.c, hx, hP, hI, bH, pk, pf, p44, w1, w2, w3, w4, w5, w6, f1, f2, g1, g2, g3, g4, g5, g6, e1, e2, e3, m1, s1, s2, s3, x1, x2, x3, x4, x5, x6, x7, x8, aH1, aH2, oct_len, oct_0, relRow, rowQ, rowInts, cform]
            · simp [epactref19_Cds.c, hx, hP, hI]
          · simp [epactref19_Cds.c, hx, hP]
        · by_cases f4 : f = 4
          · subst f4
            by_cases hP : cpl (D, S, A)
            · obtain ⟨p1, p2, p3, p4⟩ : 0 ≤ S ∧ S ≤ 86400 ∧ 0 ≤ A ∧ A < 1000000000000000000 := id hP
              by_cases hI : inD D
              · have hI2 : -1099511627776 ≤ D ∧ D ≤ 1099511627776 := hI
                have bH : allB [70] := by decide
                have pk : pw 3 = 16777216 := rfl
                have pf : pw 4 = 4294967296 := rfl
                have p44 : pw 4 = 4294967296 := rfl
                have w1 : IntKind.i64.wrap (D - 36204) = D - 36204 := wrap_i64_in (by omega) (by omega)
                have f1 : -9223372036854775808 ≤ D - 36204 ∧ D - 36204 < 9223372036854775808 := by omega
                have f2 : -170141183460469231731687303715884105728 ≤ D - 36204 ∧ D - 36204 < 170141183460469231731687303715884105728 := by omega
                have g1 : -170141183460469231731687303715884105728 ≤ (D - 36204) % 16777216 ∧ (D - 36204) % 16777216 < 170141183460469231731687303715884105728 := by omega
                have g2 : 0 ≤ (D - 36204) % 16777216 ∧ (D - 36204) % 16777216 < 16777216 := by omega
                have w2 : IntKind.i64.wrap (S * 1000) = S * 1000 := wrap_i64_in (by omega) (by omega)
                have e1 : A.tdiv 1000000000000000 = A / 1000000000000000 := Int.tdiv_eq_ediv_of_nonneg (by omega)
                have w3 : IntKind.i64.wrap (A / 1000000000000000) = A / 1000000000000000 := wrap_i64_in (by omega) (by omega)
                have w4 : IntKind.i64.wrap (S * 1000 + A / 1000000000000000) = S * 1000 + A / 1000000000000000 := wrap_i64_in (by omega) (by omega)
                have g3 : 0 ≤ S * 1000 + A / 1000000000000000 ∧ S * 1000 + A / 1000000000000000 < 4294967296 := by omega
                have g4 : -9223372036854775808 ≤ S * 1000 + A / 1000000000000000 ∧ S * 1000 + A / 1000000000000000 < 9223372036854775808 := by omega
                have e2 : A.tmod 1000000000000000 = A % 1000000000000000 := Int.tmod_eq_emod_of_nonneg (by omega)
                have w5 : IntKind.i64.wrap (A % 1000000000000000) = A % 1000000000000000 := wrap_i64_in (by omega) (by omega)
                have e3 : (A % 1000000000000000).tdiv 1000000 = A % 1000000000000000 / 1000000 := Int.tdiv_eq_ediv_of_nonneg (by omega)
                have w6 : IntKind.i64.wrap (A % 1000000000000000 / 1000000) = A % 1000000000000000 / 1000000 := wrap_i64_in (by omega) (by omega)
                have g5 : 0 ≤ A % 1000000000000000 / 1000000 ∧ A % 1000000000000000 / 1000000 < 4294967296 := by omega
                have g6 : -9223372036854775808 ≤ A % 1000000000000000 / 1000000 ∧ A % 1000000000000000 / 1000000 < 9223372036854775808 := by omega
                have m1 : md (D - 36204) := by unfold md; omega
                have s1 : smB ((D - 36204) % 16777216) := by unfold smB; omega
                have s2 : smB (S * 1000 + A / 1000000000000000) := by unfold smB; omega
                have s3 : smB (A % 1000000000000000 / 1000000) := by unfold smB; omega
                have x1 : IntKind.u8.wrap 70 = 70 := rfl
                have x2 : IntKind.i64.wrap 70 = 70 := rfl
                have x3 : IntKind.i64.wrap 1 = 1 := rfl
                have x4 : IntKind.i64.wrap 2 = 2 := rfl
                have x5 : IntKind.i64.wrap 4 = 4 := rfl
                have x6 : IntKind.i64.wrap 68 = 68 := rfl
                have x7 : IntKind.i64.wrap 0 = 0 := rfl
                have x8 : IntKind.i64.wrap 64 = 64 := rfl
                have aH1 : allB (70 :: oct ((D - 36204) % 16777216) 3) := allB_cons ⟨by decide, by decide⟩ (allB_oct _ _)
                have aH2 : allB (70 :: (oct ((D - 36204) % 16777216) 3 ++ oct (S * 1000 + A / 1000000000000000) 4)) := allB_cons ⟨by decide, by decide⟩ (allB_app (allB_oct _ _) (allB_oct _ _))
                simp [epactref19_Cds.c, hx, hP, hI, bH, pk, pf, p44, w1, w2, w3, w4, w5, w6, f1, f2, g1, g2, g3, g4, g5, g6, e1, e2, e3, m1, s1, s2, s3, x1, x2, x3, x4, x5, x6, x7, x8, aH1, aH2, oct_len, oct_0, relRow, rowQ, rowInts, cform]
              · simp [epactref19_Cds.c, hx, hP, hI]
            · simp [epactref19_Cds.c, hx, hP]
          · simp [epactref19_Cds.c, hx, hd, hf, f0, f2, f4]
    · simp [epactref19_Cds.c, hx, hd, hf, d2, d3]
abbrev tFromCds := s2 coY coI Tt2 fun b p => cDec b p
theorem okFromCds : Ok Try.prog 38 tFromCds := ok2 (code_mk Try.func38 epactref19_FromCds.ent epactref19_FromCds.chk (specOk_cons okPart (specOk_cons okRIn (specOk_cons okNumber (specOk_cons okSmall (specOk_cons okRPower (specOk_cons okAbout okSpRef))))))) (by simp [epactref19_FromCds.c]) fun b p hb hp _ => by
  simp at hb hp
  refine ⟨10, ?_⟩
  have xw1 : IntKind.i64.wrap 1 = 1 := rfl
  have xw2 : IntKind.i64.wrap 2 = 2 := rfl
  have xw3 : IntKind.i64.wrap 3 = 3 := rfl
  have xw4 : IntKind.i64.wrap 4 = 4 := rfl
  have xw5 : IntKind.i64.wrap 5 = 5 := rfl
  have xw6 : IntKind.i64.wrap 6 = 6 := rfl
  have xw7 : IntKind.i64.wrap 7 = 7 := rfl
  have xw8 : IntKind.i64.wrap 8 = 8 := rfl
  have xw9 : IntKind.i64.wrap 9 = 9 := rfl
  have xw10 : IntKind.i64.wrap 10 = 10 := rfl
  have xw11 : IntKind.i64.wrap 11 = 11 := rfl
  have xw12 : IntKind.i64.wrap 12 = 12 := rfl
  have xw1000 : IntKind.i64.wrap 1000 = 1000 := rfl
  have xwG : IntKind.i64.wrap 1000000000 = 1000000000 := rfl
  have xw0 : IntKind.i64.wrap 0 = 0 := rfl
  have xw64 : IntKind.i64.wrap 64 = 64 := rfl
  have xw65 : IntKind.i64.wrap 65 = 65 := rfl
  have xw66 : IntKind.i64.wrap 66 = 66 := rfl
  have xw68 : IntKind.i64.wrap 68 = 68 := rfl
  have xw69 : IntKind.i64.wrap 69 = 69 := rfl
  have xw70 : IntKind.i64.wrap 70 = 70 := rfl
  by_cases hL : b.length = 7
  · by_cases hh : b.getD 0 0 = 64
    · have hL' : (b.length : Int) = 7 := by omega
      have pk : pw 2 = 65536 := rfl
      have b1 : allB (List.drop 1 (List.take 3 b)) := allB_drop 1 (allB_take 3 hb)
      have b2 : allB (List.drop 3 (List.take 7 b)) := allB_drop 3 (allB_take 7 hb)
      have b3 : allB (List.drop 7 b) := allB_drop 7 hb
      have tk : List.take 7 b = b := List.take_of_length_le (by omega)
      have n1 : 0 ≤ num (List.drop 1 (List.take 3 b)) ∧ num (List.drop 1 (List.take 3 b)) < 65536 := sl_rng hb 1 2 (by omega)
      have n2 : 0 ≤ num (List.drop 3 (List.take 7 b)) ∧ num (List.drop 3 (List.take 7 b)) < 4294967296 := sl_rng hb 3 4 (by omega)
      have n3 : 0 ≤ num (List.drop 7 b) ∧ num (List.drop 7 b) < 1 := dr_rng hb 7 0 (by omega)
      generalize hF : num (List.drop 1 (List.take 3 b)) = F at *
      generalize hM : num (List.drop 3 (List.take 7 b)) = M at *
      have s1 : smB F := by unfold smB; omega
      have s2 : smB M := by unfold smB; omega
      have r1 : -9223372036854775808 ≤ F ∧ F < 9223372036854775808 := by omega
      have r2 : -9223372036854775808 ≤ M ∧ M < 9223372036854775808 := by omega
      generalize hR : num (List.drop 7 b) = R at *
      have hM2 : num (List.drop 3 b) = M := by rw [← hM, tk]
      have b2x : allB (List.drop 3 b) := allB_drop 3 hb
      have s3 : smB R := by unfold smB; omega
      have r3 : -9223372036854775808 ≤ R ∧ R < 9223372036854775808 := by omega
      have m3 : md F := by unfold md; omega
      have m4 : md 65536 := by decide
      have h2 : IntKind.i64.wrap 64 = 64 := rfl
      by_cases m1 : M ≤ 86400999
      · have m1' := Int.not_lt.2 m1
        by_cases m2 : R < 1
        · have m2' := Int.not_le.2 m2
          by_cases hi : inD p
          · have hi' : -1099511627776 ≤ p ∧ p ≤ 1099511627776 := hi
            have w0 : IntKind.i64.wrap (p - 36204) = p - 36204 := wrap_i64_in (by omega) (by omega)
            have f1 : -9223372036854775808 ≤ p - 36204 ∧ p - 36204 < 9223372036854775808 := by omega
            have f2 : -170141183460469231731687303715884105728 ≤ p - 36204 ∧ p - 36204 < 170141183460469231731687303715884105728 := by omega
            have f3 : -9223372036854775808 ≤ F ∧ F < 9223372036854775808 := by omega
            have f4 : -170141183460469231731687303715884105728 ≤ F ∧ F < 170141183460469231731687303715884105728 := by omega
            have m5 : md (p - 36204) := by unfold md; omega
            have hw := abo_win (f := F) (n := 65536) (p := p - 36204) (by decide)
            have ha : abOk F 65536 (p - 36204) := by unfold abOk; omega
            generalize hB : abo F 65536 (p - 36204) = B at *
            have f5 : -170141183460469231731687303715884105728 ≤ B ∧ B < 170141183460469231731687303715884105728 := by omega
            have f6 : -9223372036854775808 ≤ B ∧ B < 9223372036854775808 := by omega
            have f7 : -9223372036854775808 ≤ B + 36204 ∧ B + 36204 < 9223372036854775808 := by omega
            have w1 : IntKind.i64.wrap (B + 36204) = B + 36204 := wrap_i64_in (by omega) (by omega)
            have e1 : M.tdiv 1000 = M / 1000 := Int.tdiv_eq_ediv_of_nonneg (by omega)
            have w2 : IntKind.i64.wrap (M / 1000) = M / 1000 := wrap_i64_in (by omega) (by omega)
            have e2 : M.tmod 1000 = M % 1000 := Int.tmod_eq_emod_of_nonneg (by omega)
            have w3 : IntKind.i64.wrap (M % 1000) = M % 1000 := wrap_i64_in (by omega) (by omega)
            have w4 : IntKind.i64.wrap (M % 1000 * 1000000000000000) = M % 1000 * 1000000000000000 := wrap_i64_in (by omega) (by omega)
            have w5 : IntKind.i64.wrap (R * 1000000000000000) = R * 1000000000000000 := wrap_i64_in (by omega) (by omega)
            have w6 : IntKind.i64.wrap (M % 1000 * 1000000000000000 + R * 1000000000000000) = M % 1000 * 1000000000000000 + R * 1000000000000000 := wrap_i64_in (by omega) (by omega)
            have w7 : IntKind.i64.wrap (R * 1000000) = R * 1000000000000000 := by rw [show R = 0 by omega]; rfl
            have hL2 : IntKind.i64.wrap (wlo B) = B := by rw [IntKind.wrap_i64]; unfold wlo; omega
            by_cases hj : inD (B + 36204)
            · simp [-List.getD_eq_getElem?_getD, -List.drop_one, epactref19_FromCds.c, epactref19_FromCds.l1, epactref19_FromCds.l2, loopW_succ, hp, hb, hM2, b2x, hh, hL, hL', pk, b1, b2, b3, tk, hF, hM, hR, n1, n2, n3, m1, m1', m2, m2', s1, s2, s3, r1, r2, r3, m3, m4, h2, clab20, cday20, cA20, cm20, cm22, cm24, cm30, cm32, cm34, xw1, xw2, xw3, xw4, xw5, xw6, xw7, xw8, xw9, xw10, xw11, xw12, xw1000, xwG, xw0, xw64, xw65, xw66, xw68, xw69, xw70, ha, m5, w7, hB, hi, hL2, w0, w1, w2, w3, w4, w5, w6, f1, f2, f3, f4, f5, f6, f7, e1, e2, hj]
            · simp [-List.getD_eq_getElem?_getD, -List.drop_one, epactref19_FromCds.c, epactref19_FromCds.l1, epactref19_FromCds.l2, loopW_succ, hp, hb, hM2, b2x, hh, hL, hL', pk, b1, b2, b3, tk, hF, hM, hR, n1, n2, n3, m1, m1', m2, m2', s1, s2, s3, r1, r2, r3, m3, m4, h2, clab20, cday20, cA20, cm20, cm22, cm24, cm30, cm32, cm34, xw1, xw2, xw3, xw4, xw5, xw6, xw7, xw8, xw9, xw10, xw11, xw12, xw1000, xwG, xw0, xw64, xw65, xw66, xw68, xw69, xw70, ha, m5, w7, hB, hi, hL2, w0, w1, w2, w3, w4, w5, w6, f1, f2, f3, f4, f5, f6, f7, e1, e2, hj]
          · simp [-List.getD_eq_getElem?_getD, -List.drop_one, epactref19_FromCds.c, epactref19_FromCds.l1, epactref19_FromCds.l2, loopW_succ, hp, hb, hM2, b2x, hh, hL, hL', pk, b1, b2, b3, tk, hF, hM, hR, n1, n2, n3, m1, m1', m2, m2', s1, s2, s3, r1, r2, r3, m3, m4, h2, clab20, cday20, cA20, cm20, cm22, cm24, cm30, cm32, cm34, xw1, xw2, xw3, xw4, xw5, xw6, xw7, xw8, xw9, xw10, xw11, xw12, xw1000, xwG, xw0, xw64, xw65, xw66, xw68, xw69, xw70, hi]
        · have m2' := Int.not_lt.1 m2
          omega
      · have m1' := Int.not_le.1 m1
        have m2 := True.intro
        have m2' := True.intro
        simp [-List.getD_eq_getElem?_getD, -List.drop_one, epactref19_FromCds.c, epactref19_FromCds.l1, epactref19_FromCds.l2, loopW_succ, hp, hb, hM2, b2x, hh, hL, hL', pk, b1, b2, b3, tk, hF, hM, hR, n1, n2, n3, m1, m1', m2, m2', s1, s2, s3, r1, r2, r3, m3, m4, h2, clab20, cday20, cA20, cm20, cm22, cm24, cm30, cm32, cm34, xw1, xw2, xw3, xw4, xw5, xw6, xw7, xw8, xw9, xw10, xw11, xw12, xw1000, xwG, xw0, xw64, xw65, xw66, xw68, xw69, xw70]
    · have hL' : (b.length : Int) = 7 := by omega
      have g0 := byte_get hb 0
      have xg : IntKind.i64.wrap (b.getD 0 0) = b.getD 0 0 := wrap_i64_in (by omega) (by omega)
      simp [-List.getD_eq_getElem?_getD, epactref19_FromCds.c, epactref19_FromCds.l1, epactref19_FromCds.l2, loopW_succ, hp, hb, hh, hL, hL', xg, cm20, cm22, cm24, cm30, cm32, cm34, xw1, xw2, xw3, xw4, xw5, xw6, xw7, xw8, xw9, xw10, xw11, xw12, xw1000, xwG, xw0, xw64, xw65, xw66, xw68, xw69, xw70]
  · by_cases hL : b.length = 9
    · by_cases hh : b.getD 0 0 = 65
      · have hL' : (b.length : Int) = 9 := by omega
        have pk : pw 2 = 65536 := rfl
        have b1 : allB (List.drop 1 (List.take 3 b)) := allB_drop 1 (allB_take 3 hb)
        have b2 : allB (List.drop 3 (List.take 7 b)) := allB_drop 3 (allB_take 7 hb)
        have b3 : allB (List.drop 7 b) := allB_drop 7 hb
        have tk : List.take 9 b = b := List.take_of_length_le (by omega)
        have n1 : 0 ≤ num (List.drop 1 (List.take 3 b)) ∧ num (List.drop 1 (List.take 3 b)) < 65536 := sl_rng hb 1 2 (by omega)
        have n2 : 0 ≤ num (List.drop 3 (List.take 7 b)) ∧ num (List.drop 3 (List.take 7 b)) < 4294967296 := sl_rng hb 3 4 (by omega)
        have n3 : 0 ≤ num (List.drop 7 b) ∧ num (List.drop 7 b) < 65536 := dr_rng hb 7 2 (by omega)
        generalize hF : num (List.drop 1 (List.take 3 b)) = F at *
        generalize hM : num (List.drop 3 (List.take 7 b)) = M at *
        have s1 : smB F := by unfold smB; omega
        have s2 : smB M := by unfold smB; omega
        have r1 : -9223372036854775808 ≤ F ∧ F < 9223372036854775808 := by omega
        have r2 : -9223372036854775808 ≤ M ∧ M < 9223372036854775808 := by omega
        generalize hR : num (List.drop 7 b) = R at *
        have hM2 := hM
        have b2x := b2
        have s3 : smB R := by unfold smB; omega
        have r3 : -9223372036854775808 ≤ R ∧ R < 9223372036854775808 := by omega
        have m3 : md F := by unfold md; omega
        have m4 : md 65536 := by decide
        have h2 : IntKind.i64.wrap 65 = 65 := rfl
        by_cases m1 : M ≤ 86400999
        · have m1' := Int.not_lt.2 m1
          by_cases m2 : R < 1000
          · have m2' := Int.not_le.2 m2
            by_cases hi : inD p
            · have hi' : -1099511627776 ≤ p ∧ p ≤ 1099511627776 := hi
              have w0 : IntKind.i64.wrap (p - 36204) = p - 36204 := wrap_i64_in (by omega) (by omega)
              have f1 : -9223372036854775808 ≤ p - 36204 ∧ p - 36204 < 9223372036854775808 := by omega
              have f2 : -170141183460469231731687303715884105728 ≤ p - 36204 ∧ p - 36204 < 170141183460469231731687303715884105728 := by omega
              have f3 : -9223372036854775808 ≤ F ∧ F < 9223372036854775808 := by omega
              have f4 : -170141183460469231731687303715884105728 ≤ F ∧ F < 170141183460469231731687303715884105728 := by omega
              have m5 : md (p - 36204) := by unfold md; omega
              have hw := abo_win (f := F) (n := 65536) (p := p - 36204) (by decide)
              have ha : abOk F 65536 (p - 36204) := by unfold abOk; omega
              generalize hB : abo F 65536 (p - 36204) = B at *
              have f5 : -170141183460469231731687303715884105728 ≤ B ∧ B < 170141183460469231731687303715884105728 := by omega
              have f6 : -9223372036854775808 ≤ B ∧ B < 9223372036854775808 := by omega
              have f7 : -9223372036854775808 ≤ B + 36204 ∧ B + 36204 < 9223372036854775808 := by omega
              have w1 : IntKind.i64.wrap (B + 36204) = B + 36204 := wrap_i64_in (by omega) (by omega)
              have e1 : M.tdiv 1000 = M / 1000 := Int.tdiv_eq_ediv_of_nonneg (by omega)
              have w2 : IntKind.i64.wrap (M / 1000) = M / 1000 := wrap_i64_in (by omega) (by omega)
              have e2 : M.tmod 1000 = M % 1000 := Int.tmod_eq_emod_of_nonneg (by omega)
              have w3 : IntKind.i64.wrap (M % 1000) = M % 1000 := wrap_i64_in (by omega) (by omega)
              have w4 : IntKind.i64.wrap (M % 1000 * 1000000000000000) = M % 1000 * 1000000000000000 := wrap_i64_in (by omega) (by omega)
              have w5 : IntKind.i64.wrap (R * 1000000000000) = R * 1000000000000 := wrap_i64_in (by omega) (by omega)
              have w6 : IntKind.i64.wrap (M % 1000 * 1000000000000000 + R * 1000000000000) = M % 1000 * 1000000000000000 + R * 1000000000000 := wrap_i64_in (by omega) (by omega)
              have hL2 : IntKind.i64.wrap (wlo B) = B := by rw [IntKind.wrap_i64]; unfold wlo; omega
              by_cases hj : inD (B + 36204)
              · simp [-List.getD_eq_getElem?_getD, -List.drop_one, epactref19_FromCds.c, epactref19_FromCds.l1, epactref19_FromCds.l2, loopW_succ, hp, hb, hM2, b2x, hh, hL, hL', pk, b1, b2, b3, tk, hF, hM, hR, n1, n2, n3, m1, m1', m2, m2', s1, s2, s3, r1, r2, r3, m3, m4, h2, clab22, cday22, cA22, cm20, cm22, cm24, cm30, cm32, cm34, xw1, xw2, xw3, xw4, xw5, xw6, xw7, xw8, xw9, xw10, xw11, xw12, xw1000, xwG, xw0, xw64, xw65, xw66, xw68, xw69, xw70, ha, m5, hB, hi, hL2, w0, w1, w2, w3, w4, w5, w6, f1, f2, f3, f4, f5, f6, f7, e1, e2, hj]
              · simp [-List.getD_eq_getElem?_getD, -List.drop_one, epactref19_FromCds.c, epactref19_FromCds.l1, epactref19_FromCds.l2, loopW_succ, hp, hb, hM2, b2x, hh, hL, hL', pk, b1, b2, b3, tk, hF, hM, hR, n1, n2, n3, m1, m1', m2, m2', s1, s2, s3, r1, r2, r3, m3, m4, h2, clab22, cday22, cA22, cm20, cm22, cm24, cm30, cm32, cm34, xw1, xw2, xw3, xw4, xw5, xw6, xw7, xw8, xw9, xw10, xw11, xw12, xw1000, xwG, xw0, xw64, xw65, xw66, xw68, xw69, xw70, ha, m5, hB, hi, hL2, w0, w1, w2, w3, w4, w5, w6, f1, f2, f3, f4, f5, f6, f7, e1, e2, hj]
            · simp [-List.getD_eq_getElem?_getD, -List.drop_one, epactref19_FromCds.c, epactref19_FromCds.l1, epactref19_FromCds.l2, loopW_succ, hp, hb, hM2, b2x, hh, hL, hL', pk, b1, b2, b3, tk, hF, hM, hR, n1, n2, n3, m1, m1', m2, m2', s1, s2, s3, r1, r2, r3, m3, m4, h2, clab22, cday22, cA22, cm20, cm22, cm24, cm30, cm32, cm34, xw1, xw2, xw3, xw4, xw5, xw6, xw7, xw8, xw9, xw10, xw11, xw12, xw1000, xwG, xw0, xw64, xw65, xw66, xw68, xw69, xw70, hi]
          · have m2' := Int.not_lt.1 m2
            simp [-List.getD_eq_getElem?_getD, -List.drop_one, epactref19_FromCds.c, epactref19_FromCds.l1, epactref19_FromCds.l2, loopW_succ, hp, hb, hM2, b2x, hh, hL, hL', pk, b1, b2, b3, tk, hF, hM, hR, n1, n2, n3, m1, m1', m2, m2', s1, s2, s3, r1, r2, r3, m3, m4, h2, clab22, cday22, cA22, cm20, cm22, cm24, cm30, cm32, cm34, xw1, xw2, xw3, xw4, xw5, xw6, xw7, xw8, xw9, xw10, xw11, xw12, xw1000, xwG, xw0, xw64, xw65, xw66, xw68, xw69, xw70]
        · have m1' := Int.not_le.1 m1
          have m2 := True.intro
          have m2' := True.intro
          simp [-List.getD_eq_getElem?_getD, -List.drop_one, epactref19_FromCds.c, epactref19_FromCds.l1, epactref19_FromCds.l2, loopW_succ, hp, hb, hM2, b2x, hh, hL, hL', pk, b1, b2, b3, tk, hF, hM, hR, n1, n2, n3, m1, m1', m2, m2', s1, s2, s3, r1, r2, r3, m3, m4, h2, clab22, cday22, cA22, cm20, cm22, cm24, cm30, cm32, cm34, xw1, xw2, xw3, xw4, xw5, xw6, xw7, xw8, xw9, xw10, xw11, xw12, xw1000, xwG, xw0, xw64, xw65, xw66, xw68, xw69, xw70]
      · have hL' : (b.length : Int) = 9 := by omega
        have g0 := byte_get hb 0
        have xg : IntKind.i64.wrap (b.getD 0 0) = b.getD 0 0 := wrap_i64_in (by omega) (by omega)
        simp [-List.getD_eq_getElem?_getD, epactref19_FromCds.c, epactref19_FromCds.l1, epactref19_FromCds.l2, loopW_succ, hp, hb, hh, hL, hL', xg, cm20, cm22, cm24, cm30, cm32, cm34, xw1, xw2, xw3, xw4, xw5, xw6, xw7, xw8, xw9, xw10, xw11, xw12, xw1000, xwG, xw0, xw64, xw65, xw66, xw68, xw69, xw70]
    · by_cases hL : b.length = 11
      · by_cases hh : b.getD 0 0 = 66
        · have hL' : (b.length : Int) = 11 := by omega
          have pk : pw 2 = 65536 := rfl
          have b1 : allB (List.drop 1 (List.take 3 b)) := allB_drop 1 (allB_take 3 hb)
          have b2 : allB (List.drop 3 (List.take 7 b)) := allB_drop 3 (allB_take 7 hb)
          have b3 : allB (List.drop 7 b) := allB_drop 7 hb
          have tk : List.take 11 b = b := List.take_of_length_le (by omega)
          have n1 : 0 ≤ num (List.drop 1 (List.take 3 b)) ∧ num (List.drop 1 (List.take 3 b)) < 65536 := sl_rng hb 1 2 (by omega)
          have n2 : 0 ≤ num (List.drop 3 (List.take 7 b)) ∧ num (List.drop 3 (List.take 7 b)) < 4294967296 := sl_rng hb 3 4 (by omega)
          have n3 : 0 ≤ num (List.drop 7 b) ∧ num (List.drop 7 b) < 4294967296 := dr_rng hb 7 4 (by omega)
          generalize hF : num (List.drop 1 (List.take 3 b)) = F at *
          generalize hM : num (List.drop 3 (List.take 7 b)) = M at *
          have s1 : smB F := by unfold smB; omega
          have s2 : smB M := by unfold smB; omega
          have r1 : -9223372036854775808 ≤ F ∧ F < 9223372036854775808 := by omega
          have r2 : -9223372036854775808 ≤ M ∧ M < 9223372036854775808 := by omega
          generalize hR : num (List.drop 7 b) = R at *
          have hM2 := hM
          have b2x := b2
          have s3 : smB R := by unfold smB; omega
          have r3 : -9223372036854775808 ≤ R ∧ R < 9223372036854775808 := by omega
          have m3 : md F := by unfold md; omega
          have m4 : md 65536 := by decide
          have h2 : IntKind.i64.wrap 66 = 66 := rfl
          by_cases m1 : M ≤ 86400999
          · have m1' := Int.not_lt.2 m1
            by_cases m2 : R < 1000000000
            · have m2' := Int.not_le.2 m2
              by_cases hi : inD p
              · have hi' : -1099511627776 ≤ p ∧ p ≤ 1099511627776 := hi
                have w0 : IntKind.i64.wrap (p - 36204) = p - 36204 := wrap_i64_in (by omega) (by omega)
                have f1 : -9223372036854775808 ≤ p - 36204 ∧ p - 36204 < 9223372036854775808 := by omega
                have f2 : -170141183460469231731687303715884105728 ≤ p - 36204 ∧ p - 36204 < 170141183460469231731687303715884105728 := by omega
                have f3 : -9223372036854775808 ≤ F ∧ F < 9223372036854775808 := by omega
                have f4 : -170141183460469231731687303715884105728 ≤ F ∧ F < 170141183460469231731687303715884105728 := by omega
                have m5 : md (p - 36204) := by unfold md; omega
                have hw := abo_win (f := F) (n := 65536) (p := p - 36204) (by decide)
                have ha : abOk F 65536 (p - 36204) := by unfold abOk; omega
                generalize hB : abo F 65536 (p - 36204) = B at *
                have f5 : -170141183460469231731687303715884105728 ≤ B ∧ B < 170141183460469231731687303715884105728 := by omega
                have f6 : -9223372036854775808 ≤ B ∧ B < 9223372036854775808 := by omega
                have f7 : -9223372036854775808 ≤ B + 36204 ∧ B + 36204 < 9223372036854775808 := by omega
                have w1 : IntKind.i64.wrap (B + 36204) = B + 36204 := wrap_i64_in (by omega) (by omega)
                have e1 : M.tdiv 1000 = M / 1000 := Int.tdiv_eq_ediv_of_nonneg (by omega)
                have w2 : IntKind.i64.wrap (M / 1000) = M / 1000 := wrap_i64_in (by omega) (by omega)
                have e2 : M.tmod 1000 = M % 1000 := Int.tmod_eq_emod_of_nonneg (by omega)
                have w3 : IntKind.i64.wrap (M % 1000) = M % 1000 := wrap_i64_in (by omega) (by omega)
                have w4 : IntKind.i64.wrap (M % 1000 * 1000000000000000) = M % 1000 * 1000000000000000 := wrap_i64_in (by omega) (by omega)
                have w5 : IntKind.i64.wrap (R * 1000000) = R * 1000000 := wrap_i64_in (by omega) (by omega)
                have w6 : IntKind.i64.wrap (M % 1000 * 1000000000000000 + R * 1000000) = M % 1000 * 1000000000000000 + R * 1000000 := wrap_i64_in (by omega) (by omega)
                have hL2 : IntKind.i64.wrap (wlo B) = B := by rw [IntKind.wrap_i64]; unfold wlo; omega
                by_cases hj : inD (B + 36204)
                · simp [-List.getD_eq_getElem?_getD, -List.drop_one, epactref19_FromCds.c, epactref19_FromCds.l1, epactref19_FromCds.l2, loopW_succ, hp, hb, hM2, b2x, hh, hL, hL', pk, b1, b2, b3, tk, hF, hM, hR, n1, n2, n3, m1, m1', m2, m2', s1, s2, s3, r1, r2, r3, m3, m4, h2, clab24, cday24, cA24, cm20, cm22, cm24, cm30, cm32, cm34, xw1, xw2, xw3, xw4, xw5, xw6, xw7, xw8, xw9, xw10, xw11, xw12, xw1000, xwG, xw0, xw64, xw65, xw66, xw68, xw69, xw70, ha, m5, hB, hi, hL2, w0, w1, w2, w3, w4, w5, w6, f1, f2, f3, f4, f5, f6, f7, e1, e2, hj]
                · simp [-List.getD_eq_getElem?_getD, -List.drop_one, epactref19_FromCds.c, epactref19_FromCds.l1, epactref19_FromCds.l2, loopW_succ, hp, hb, hM2, b2x, hh, hL, hL', pk, b1, b2, b3, tk, hF, hM, hR, n1, n2, n3, m1, m1', m2, m2', s1, s2, s3, r1, r2, r3, m3, m4, h2, clab24, cday24, cA24, cm20, cm22, cm24, cm30, cm32, cm34, xw1, xw2, xw3, xw4, xw5, xw6, xw7, xw8, xw9, xw10, xw11, xw12, xw1000, xwG, xw0, xw64, xw65, xw66, xw68, xw69, xw70, ha, m5, hB, hi, hL2, w0, w1, w2, w3, w4, w5, w6, f1, f2, f3, f4, f5, f6, f7, e1, e2, hj]
              · simp [-List.getD_eq_getElem?_getD, -List.drop_one, epactref19_FromCds.c, epactref19_FromCds.l1, epactref19_FromCds.l2, loopW_succ, hp, hb, hM2, b2x, hh, hL, hL', pk, b1, b2, b3, tk, hF, hM, hR, n1, n2, n3, m1, m1', m2, m2', s1, s2, s3, r1, r2, r3, m3, m4, h2, clab24, cday24, cA24, cm20, cm22, cm24, cm30, cm32, cm34, xw1, xw2, xw3, xw4, xw5, xw6, xw7, xw8, xw9, xw10, xw11, xw12, xw1000, xwG, xw0, xw64, xw65, xw66, xw68, xw69, xw70, hi]
            · have m2' := Int.not_lt.1 m2
              simp [-List.getD_eq_getElem?_getD, -List.drop_one, epactref19_FromCds.c, epactref19_FromCds.l1, epactref19_FromCds.l2, loopW_succ, hp, hb, hM2, b2x, hh, hL, hL', pk, b1, b2, b3, tk, hF, hM, hR, n1, n2, n3, m1, m1', m2, m2', s1, s2, s3, r1, r2, r3, m3, m4, h2, clab24, cday24, cA24, cm20, cm22, cm24, cm30, cm32, cm34, xw1, xw2, xw3, xw4, xw5, xw6, xw7, xw8, xw9, xw10, xw11, xw12, xw1000, xwG, xw0, xw64, xw65, xw66, xw68, xw69, xw70]
          · have m1' := Int.not_le.1 m1
            have m2 := True.intro
            have m2' := True.intro
            simp [-List.getD_eq_getElem?_getD, -List.drop_one, epactref19_FromCds.c, epactref19_FromCds.l1, epactref19_FromCds.l2, loopW_succ, hp, hb, hM2, b2x, hh, hL, hL', pk, b1, b2, b3, tk, hF, hM, hR, n1, n2, n3, m1, m1', m2, m2', s1, s2, s3, r1, r2, r3, m3, m4, h2, clab24, cday24, cA24, cm20, cm22, cm24, cm30, cm32, cm34, xw1, xw2, xw3, xw4, xw5, xw6, xw7, xw8, xw9, xw10, xw11, xw12, xw1000, xwG, xw0, xw64, xw65, xw66, xw68, xw69, xw70]
        · have hL' : (b.length : Int) = 11 := by omega
          have g0 := byte_get hb 0
          have xg : IntKind.i64.wrap (b.getD 0 0) = b.getD 0 0 := wrap_i64_in (by omega) (by omega)
          simp [-List.getD_eq_getElem?_getD, epactref19_FromCds.c, epactref19_FromCds.l1, epactref19_FromCds.l2, loopW_succ, hp, hb, hh, hL, hL', xg, cm20, cm22, cm24, cm30, cm32, cm34, xw1, xw2, xw3, xw4, xw5, xw6, xw7, xw8, xw9, xw10, xw11, xw12, xw1000, xwG, xw0, xw64, xw65, xw66, xw68, xw69, xw70]
      · by_cases hL : b.length = 8
        · by_cases hh : b.getD 0 0 = 68
          · have hL' : (b.length : Int) = 8 := by omega
            have pk : pw 3 = 16777216 := rfl
            have b1 : allB (List.drop 1 (List.take 4 b)) := allB_drop 1 (allB_take 4 hb)
            have b2 : allB (List.drop 4 (List.take 8 b)) := allB_drop 4 (allB_take 8 hb)
            have b3 : allB (List.drop 8 b) := allB_drop 8 hb
            have tk : List.take 8 b = b := List.take_of_length_le (by omega)
            have n1 : 0 ≤ num (List.drop 1 (List.take 4 b)) ∧ num (List.drop 1 (List.take 4 b)) < 16777216 := sl_rng hb 1 3 (by omega)
            have n2 : 0 ≤ num (List.drop 4 (List.take 8 b)) ∧ num (List.drop 4 (List.take 8 b)) < 4294967296 := sl_rng hb 4 4 (by omega)
            have n3 : 0 ≤ num (List.drop 8 b) ∧ num (List.drop 8 b) < 1 := dr_rng hb 8 0 (by omega)
            generalize hF : num (List.drop 1 (List.take 4 b)) = F at *
            generalize hM : num (List.drop 4 (List.take 8 b)) = M at *
            have s1 : smB F := by unfold smB; omega
            have s2 : smB M := by unfold smB; omega
            have r1 : -9223372036854775808 ≤ F ∧ F < 9223372036854775808 := by omega
            have r2 : -9223372036854775808 ≤ M ∧ M < 9223372036854775808 := by omega
            generalize hR : num (List.drop 8 b) = R at *
            have hM2 : num (List.drop 4 b) = M := by rw [← hM, tk]
            have b2x : allB (List.drop 4 b) := allB_drop 4 hb
            have s3 : smB R := by unfold smB; omega
            have r3 : -9223372036854775808 ≤ R ∧ R < 9223372036854775808 := by omega
            have m3 : md F := by unfold md; omega
            have m4 : md 16777216 := by decide
            have h2 : IntKind.i64.wrap 68 = 68 := rfl
            by_cases m1 : M ≤ 86400999
            · have m1' := Int.not_lt.2 m1
              by_cases m2 : R < 1
              · have m2' := Int.not_le.2 m2
                by_cases hi : inD p
                · have hi' : -1099511627776 ≤ p ∧ p ≤ 1099511627776 := hi
                  have w0 : IntKind.i64.wrap (p - 36204) = p - 36204 := wrap_i64_in (by omega) (by omega)
                  have f1 : -9223372036854775808 ≤ p - 36204 ∧ p - 36204 < 9223372036854775808 := by omega
                  have f2 : -170141183460469231731687303715884105728 ≤ p - 36204 ∧ p - 36204 < 170141183460469231731687303715884105728 := by omega
                  have f3 : -9223372036854775808 ≤ F ∧ F < 9223372036854775808 := by omega
                  have f4 : -170141183460469231731687303715884105728 ≤ F ∧ F < 170141183460469231731687303715884105728 := by omega
                  have m5 : md (p - 36204) := by unfold md; omega
                  have hw := abo_win (f := F) (n := 16777216) (p := p - 36204) (by decide)
                  have ha : abOk F 16777216 (p - 36204) := by unfold abOk; omega
                  generalize hB : abo F 16777216 (p - 36204) = B at *
                  have f5 : -170141183460469231731687303715884105728 ≤ B ∧ B < 170141183460469231731687303715884105728 := by omega
                  have f6 : -9223372036854775808 ≤ B ∧ B < 9223372036854775808 := by omega
                  have f7 : -9223372036854775808 ≤ B + 36204 ∧ B + 36204 < 9223372036854775808 := by omega
                  have w1 : IntKind.i64.wrap (B + 36204) = B + 36204 := wrap_i64_in (by omega) (by omega)
                  have e1 : M.tdiv 1000 = M / 1000 := Int.tdiv_eq_ediv_of_nonneg (by omega)
                  have w2 : IntKind.i64.wrap (M / 1000) = M / 1000 := wrap_i64_in (by omega) (by omega)
                  have e2 : M.tmod 1000 = M % 1000 := Int.tmod_eq_emod_of_nonneg (by omega)
                  have w3 : IntKind.i64.wrap (M % 1000) = M % 1000 := wrap_i64_in (by omega) (by omega)
                  have w4 : IntKind.i64.wrap (M % 1000 * 1000000000000000) = M % 1000 * 1000000000000000 := wrap_i64_in (by omega) (by omega)
                  have w5 : IntKind.i64.wrap (R * 1000000000000000) = R * 1000000000000000 := wrap_i64_in (by omega) (by omega)
                  have w6 : IntKind.i64.wrap (M % 1000 * 1000000000000000 + R * 1000000000000000) = M % 1000 * 1000000000000000 + R * 1000000000000000 := wrap_i64_in (by omega) (by omega)
                  have w7 : IntKind.i64.wrap (R * 1000000) = R * 1000000000000000 := by rw [show R = 0 by omega]; rfl
                  have hL2 : IntKind.i64.wrap (wlo B) = B := by rw [IntKind.wrap_i64]; unfold wlo; omega
                  by_cases hj : inD (B + 36204)
                  · simp [-List.getD_eq_getElem?_getD, -List.drop_one, epactref19_FromCds.c, epactref19_FromCds.l1, epactref19_FromCds.l2, loopW_succ, hp, hb, hM2, b2x, hh, hL, hL', pk, b1, b2, b3, tk, hF, hM, hR, n1, n2, n3, m1, m1', m2, m2', s1, s2, s3, r1, r2, r3, m3, m4, h2, clab30, cday30, cA30, cm20, cm22, cm24, cm30, cm32, cm34, xw1, xw2, xw3, xw4, xw5, xw6, xw7, xw8, xw9, xw10, xw11, xw12, xw1000, xwG, xw0, xw64, xw65, xw66, xw68, xw69, xw70, ha, m5, w7, hB, hi, hL2, w0, w1, w2, w3, w4, w5, w6, f1, f2, f3, f4, f5, f6, f7, e1, e2, hj]
                  · simp [-List.getD_eq_getElem?_getD, -List.drop_one, epactref19_FromCds.c, epactref19_FromCds.l1, epactref19_FromCds.l2, loopW_succ, hp, hb, hM2, b2x, hh, hL, hL', pk, b1, b2, b3, tk, hF, hM, hR, n1, n2, n3, m1, m1', m2, m2', s1, s2, s3, r1, r2, r3, m3, m4, h2, clab30, cday30, cA30, cm20, cm22, cm24, cm30, cm32, cm34, xw1, xw2, xw3, xw4, xw5, xw6, xw7, xw8, xw9, xw10, xw11, xw12, xw1000, xwG, xw0, xw64, xw65, xw66, xw68, xw69, xw70, ha, m5, w7, hB, hi, hL2, w0, w1, w2, w3, w4, w5, w6, f1, f2, f3, f4, f5, f6, f7, e1, e2, hj]
                · simp [-List.getD_eq_getElem?_getD, -List.drop_one, epactref19_FromCds.c, epactref19_FromCds.l1, epactref19_FromCds.l2, loopW_succ, hp, hb, hM2, b2x, hh, hL, hL', pk, b1, b2, b3, tk, hF, hM, hR, n1, n2, n3, m1, m1', m2, m2', s1, s2, s3, r1, r2, r3, m3, m4, h2, clab30, cday30, cA30, cm20, cm22, cm24, cm30, cm32, cm34, xw1, xw2, xw3, xw4, xw5, xw6, xw7, xw8, xw9, xw10, xw11, xw12, xw1000, xwG, xw0, xw64, xw65, xw66, xw68, xw69, xw70, hi]
              · have m2' := Int.not_lt.1 m2
                omega
            · have m1' := Int.not_le.1 m1
              have m2 := True.intro
              have m2' := True.intro
              simp [-List.getD_eq_getElem?_getD, -List.drop_one, epactref19_FromCds.c, epactref19_FromCds.l1, epactref19_FromCds.l2, loopW_succ, hp, hb, hM2, b2x, hh, hL, hL', pk, b1, b2, b3, tk, hF, hM, hR, n1, n2, n3, m1, m1', m2, m2', s1, s2, s3, r1, r2, r3, m3, m4, h2, clab30, cday30, cA30, cm20, cm22, cm24, cm30, cm32, cm34, xw1, xw2, xw3, xw4, xw5, xw6, xw7, xw8, xw9, xw10, xw11, xw12, xw1000, xwG, xw0, xw64, xw65, xw66, xw68, xw69, xw70]
          · have hL' : (b.length : Int) = 8 := by omega
            have g0 := byte_get hb 0
            have xg : IntKind.i64.wrap (b.getD 0 0) = b.getD 0 0 := wrap_i64_in (by omega) (by omega)
            simp [-List.getD_eq_getElem?_getD, epactref19_FromCds.c, epactref19_FromCds.l1, epactref19_FromCds.l2, loopW_succ, hp, hb, hh, hL, hL', xg, cm20, cm22, cm24, cm30, cm32, cm34, xw1, xw2, xw3, xw4, xw5, xw6, xw7, xw8, xw9, xw10, xw11, xw12, xw1000, xwG, xw0, xw64, xw65, xw66, xw68, xw69, xw70]
        · by_cases hL : b.length = 10
          · by_cases hh : b.getD 0 0 = 69
            · have hL' : (b.length : Int) = 10 := by omega
              have pk : pw 3 = 16777216 := rfl
              have b1 : allB (List.drop 1 (List.take 4 b)) := allB_drop 1 (allB_take 4 hb)
              have b2 : allB (List.drop 4 (List.take 8 b)) := allB_drop 4 (allB_take 8 hb)
              have b3 : allB (List.drop 8 b) := allB_drop 8 hb
              have tk : List.take 10 b = b := List.take_of_length_le (by omega)
              have n1 : 0 ≤ num (List.drop 1 (List.take 4 b)) ∧ num (List.drop 1 (List.take 4 b)) < 16777216 := sl_rng hb 1 3 (by omega)
              have n2 : 0 ≤ num (List.drop 4 (List.take 8 b)) ∧ num (List.drop 4 (List.take 8 b)) < 4294967296 := sl_rng hb 4 4 (by omega)
              have n3 : 0 ≤ num (List.drop 8 b) ∧ num (List.drop 8 b) < 65536 := dr_rng hb 8 2 (by omega)
              generalize hF : num (List.drop 1 (List.take 4 b)) = F at *
              generalize hM : num (List.drop 4 (List.take 8 b)) = M at *
              have s1 : smB F := by unfold smB; omega
              have s2 : smB M := by unfold smB; omega
              have r1 : -9223372036854775808 ≤ F ∧ F < 9223372036854775808 := by omega
              have r2 : -9223372036854775808 ≤ M ∧ M < 9223372036854775808 := by omega
              generalize hR : num (List.drop 8 b) = R at *
              have hM2 := hM
              have b2x := b2
              have s3 : smB R := by unfold smB; omega
              have r3 : -9223372036854775808 ≤ R ∧ R < 9223372036854775808 := by omega
              have m3 : md F := by unfold md; omega
              have m4 : md 16777216 := by decide
              have h2 : IntKind.i64.wrap 69 = 69 := rfl
              by_cases m1 : M ≤ 86400999
              · have m1' := Int.not_lt.2 m1
                by_cases m2 : R < 1000
                · have m2' := Int.not_le.2 m2
                  by_cases hi : inD p
                  · have hi' : -1099511627776 ≤ p ∧ p ≤ 1099511627776 := hi
                    have w0 : IntKind.i64.wrap (p - 36204) = p - 36204 := wrap_i64_in (by omega) (by omega)
                    have f1 : -9223372036854775808 ≤ p - 36204 ∧ p - 36204 < 9223372036854775808 := by omega
                    have f2 : -170141183460469231731687303715884105728 ≤ p - 36204 ∧ p - 36204 < 170141183460469231731687303715884105728 := by omega
                    have f3 : -9223372036854775808 ≤ F ∧ F < 9223372036854775808 := by omega
                    have f4 : -170141183460469231731687303715884105728 ≤ F ∧ F < 170141183460469231731687303715884105728 := by omega
                    have m5 : md (p - 36204) := by unfold md; omega
                    have hw := abo_win (f := F) (n := 16777216) (p := p - 36204) (by decide)
                    have ha : abOk F 16777216 (p - 36204) := by unfold abOk; omega
                    generalize hB : abo F 16777216 (p - 36204) = B at *
                    have f5 : -170141183460469231731687303715884105728 ≤ B ∧ B < 170141183460469231731687303715884105728 := by omega
                    have f6 : -9223372036854775808 ≤ B ∧ B < 9223372036854775808 := by omega
                    have f7 : -9223372036854775808 ≤ B + 36204 ∧ B + 36204 < 9223372036854775808 := by omega
                    have w1 : IntKind.i64.wrap (B + 36204) = B + 36204 := wrap_i64_in (by omega) (by omega)
                    have e1 : M.tdiv 1000 = M / 1000 := Int.tdiv_eq_ediv_of_nonneg (by omega)
                    have w2 : IntKind.i64.wrap (M / 1000) = M / 1000 := wrap_i64_in (by omega) (by omega)
                    have e2 : M.tmod 1000 = M % 1000 := Int.tmod_eq_emod_of_nonneg (by omega)
                    have w3 : IntKind.i64.wrap (M % 1000) = M % 1000 := wrap_i64_in (by omega) (by omega)
                    have w4 : IntKind.i64.wrap (M % 1000 * 1000000000000000) = M % 1000 * 1000000000000000 := wrap_i64_in (by omega) (by omega)
                    have w5 : IntKind.i64.wrap (R * 1000000000000) = R * 1000000000000 := wrap_i64_in (by omega) (by omega)
                    have w6 : IntKind.i64.wrap (M % 1000 * 1000000000000000 + R * 1000000000000) = M % 1000 * 1000000000000000 + R * 1000000000000 := wrap_i64_in (by omega) (by omega)
                    have hL2 : IntKind.i64.wrap (wlo B) = B := by rw [IntKind.wrap_i64]; unfold wlo; omega
                    by_cases hj : inD (B + 36204)
                    · simp [-List.getD_eq_getElem?_getD, -List.drop_one, epactref19_FromCds.c, epactref19_FromCds.l1, epactref19_FromCds.l2, loopW_succ, hp, hb, hM2, b2x, hh, hL, hL', pk, b1, b2, b3, tk, hF, hM, hR, n1, n2, n3, m1, m1', m2, m2', s1, s2, s3, r1, r2, r3, m3, m4, h2, clab32, cday32, cA32, cm20, cm22, cm24, cm30, cm32, cm34, xw1, xw2, xw3, xw4, xw5, xw6, xw7, xw8, xw9, xw10, xw11, xw12, xw1000, xwG, xw0, xw64, xw65, xw66, xw68, xw69, xw70, ha, m5, hB, hi, hL2, w0, w1, w2, w3, w4, w5, w6, f1, f2, f3, f4, f5, f6, f7, e1, e2, hj]
                    · simp [-List.getD_eq_getElem?_getD, -List.drop_one, epactref19_FromCds.c, epactref19_FromCds.l1, epactref19_FromCds.l2, loopW_succ, hp, hb, hM2, b2x, hh, hL, hL', pk, b1, b2, b3, tk, hF, hM, hR, n1, n2, n3, m1, m1', m2, m2', s1, s2, s3, r1, r2, r3, m3, m4, h2, clab32, cday32, cA32, cm20, cm22, cm24, cm30, cm32, cm34, xw1, xw2, xw3, xw4, xw5, xw6, xw7, xw8, xw9, xw10, xw11, xw12, xw1000, xwG, xw0, xw64, xw65, xw66, xw68, xw69, xw70, ha, m5, hB, hi, hL2, w0, w1, w2, w3, w4, w5, w6, f1, f2, f3, f4, f5, f6, f7, e1, e2, hj]
                  · simp [-List.getD_eq_getElem?_getD, -List.drop_one, epactref19_FromCds.c, epactref19_FromCds.l1, epactref19_FromCds.l2, loopW_succ, hp, hb, hM2, b2x, hh, hL, hL', pk, b1, b2, b3, tk, hF, hM, hR, n1, n2, n3, m1, m1', m2, m2', s1, s2, s3, r1, r2, r3, m3, m4, h2, clab32, cday32, cA32, cm20, cm22, cm24, cm30, cm32, cm34, xw1, xw2, xw3, xw4, xw5, xw6, xw7, xw8, xw9, xw10, xw11, xw12, xw1000, xwG, xw0, xw64, xw65, xw66, xw68, xw69, xw70, hi]
                · have m2' := Int.not_lt.1 m2
                  simp [-List.getD_eq_getElem?_getD, -List.drop_one, epactref19_FromCds.c, epactref19_FromCds.l1, epactref19_FromCds.l2, loopW_succ, hp, hb, hM2, b2x, hh, hL, hL', pk, b1, b2, b3, tk, hF, hM, hR, n1, n2, n3, m1, m1', m2, m2', s1, s2, s3, r1, r2, r3, m3, m4, h2, clab32, cday32, cA32, cm20, cm22, cm24, cm30, cm32, cm34, xw1, xw2, xw3, xw4, xw5, xw6, xw7, xw8, xw9, xw10, xw11, xw12, xw1000, xwG, xw0, xw64, xw65, xw66, xw68, xw69, xw70]
              · have m1' := Int.not_le.1 m1
                have m2 := True.intro
                have m2' := True.intro
                simp [-List.getD_eq_getElem?_getD, -List.drop_one, epactref19_FromCds.c, epactref19_FromCds.l1, epactref19_FromCds.l2, loopW_succ, hp, hb, hM2, b2x, hh, hL, hL', pk, b1, b2, b3, tk, hF, hM, hR, n1, n2, n3, m1, m1', m2, m2', s1, s2, s3, r1, r2, r3, m3, m4, h2, clab32, cday32, cA32, cm20, cm22, cm24, cm30, cm32, cm34, xw1, xw2, xw3, xw4, xw5, xw6, xw7, xw8, xw9, xw10, xw11, xw12, xw1000, xwG, xw0, xw64, xw65, xw66, xw68, xw69, xw70]
            · have hL' : (b.length : Int) = 10 := by omega
              have g0 := byte_get hb 0
              have xg : IntKind.i64.wrap (b.getD 0 0) = b.getD 0 0 := wrap_i64_in (by omega) (by omega)
              simp [-List.getD_eq_getElem?_getD, epactref19_FromCds.c, epactref19_FromCds.l1, epactref19_FromCds.l2, loopW_succ, hp, hb, hh, hL, hL', xg, cm20, cm22, cm24, cm30, cm32, cm34, xw1, xw2, xw3, xw4, xw5, xw6, xw7, xw8, xw9, xw10, xw11, xw12, xw1000, xwG, xw0, xw64, xw65, xw66, xw68, xw69, xw70]
          · by_cases hL : b.length = 12
            · by_cases hh : b.getD 0 0 = 70
              · have hL' : (b.length : Int) = 12 := by omega
                have pk : pw 3 = 16777216 := rfl
                have b1 : allB (List.drop 1 (List.take 4 b)) := allB_drop 1 (allB_take 4 hb)
                have b2 : allB (List.drop 4 (List.take 8 b)) := allB_drop 4 (allB_take 8 hb)
                have b3 : allB (List.drop 8 b) := allB_drop 8 hb
                have tk : List.take 12 b = b := List.take_of_length_le (by omega)
                have n1 : 0 ≤ num (List.drop 1 (List.take 4 b)) ∧ num (List.drop 1 (List.take 4 b)) < 16777216 := sl_rng hb 1 3 (by omega)
                have n2 : 0 ≤ num (List.drop 4 (List.take 8 b)) ∧ num (List.drop 4 (List.take 8 b)) < 4294967296 := sl_rng hb 4 4 (by omega)
                have n3 : 0 ≤ num (List.drop 8 b) ∧ num (List.drop 8 b) < 4294967296 := dr_rng hb 8 4 (by omega)
                generalize hF : num (List.drop 1 (List.take 4 b)) = F at *
                generalize hM : num (List.drop 4 (List.take 8 b)) = M at *
                have s1 : smB F := by unfold smB; omega
                have s2 : smB M := by unfold smB; omega
                have r1 : -9223372036854775808 ≤ F ∧ F < 9223372036854775808 := by omega
                have r2 : -9223372036854775808 ≤ M ∧ M < 9223372036854775808 := by omega
                generalize hR : num (List.drop 8 b) = R at *
                have hM2 := hM
                have b2x := b2
                have s3 : smB R := by unfold smB; omega
                have r3 : -9223372036854775808 ≤ R ∧ R < 9223372036854775808 := by omega
                have m3 : md F := by unfold md; omega
                have m4 : md 16777216 := by decide
                have h2 : IntKind.i64.wrap 70 = 70 := rfl
                by_cases m1 : M ≤ 86400999
                · have m1' := Int.not_lt.2 m1
                  by_cases m2 : R < 1000000000
                  · have m2' := Int.not_le.2 m2
                    by_cases hi : inD p
                    · have hi' : -1099511627776 ≤ p ∧ p ≤ 1099511627776 := hi
                      have w0 : IntKind.i64.wrap (p - 36204) = p - 36204 := wrap_i64_in (by omega) (by omega)
                      have f1 : -9223372036854775808 ≤ p - 36204 ∧ p - 36204 < 9223372036854775808 := by omega
                      have f2 : -170141183460469231731687303715884105728 ≤ p - 36204 ∧ p - 36204 < 170141183460469231731687303715884105728 := by omega
                      have f3 : -9223372036854775808 ≤ F ∧ F < 9223372036854775808 := by omega
                      have f4 : -170141183460469231731687303715884105728 ≤ F ∧ F < 170141183460469231731687303715884105728 := by omega
                      have m5 : md (p - 36204) := by unfold md; omega
                      have hw := abo_win (f := F) (n := 16777216) (p := p - 36204) (by decide)
                      have ha : abOk F 16777216 (p - 36204) := by unfold abOk; omega
                      generalize hB : abo F 16777216 (p - 36204) = B at *
                      have f5 : -170141183460469231731687303715884105728 ≤ B ∧ B < 170141183460469231731687303715884105728 := by omega
                      have f6 : -9223372036854775808 ≤ B ∧ B < 9223372036854775808 := by omega
                      have f7 : -9223372036854775808 ≤ B + 36204 ∧ B + 36204 < 9223372036854775808 := by omega
                      have w1 : IntKind.i64.wrap (B + 36204) = B + 36204 := wrap_i64_in (by omega) (by omega)
                      have e1 : M.tdiv 1000 = M / 1000 := Int.tdiv_eq_ediv_of_nonneg (by omega)
                      have w2 : IntKind.i64.wrap (M / 1000) = M / 1000 := wrap_i64_in (by omega) (by omega)
                      have e2 : M.tmod 1000 = M % 1000 := Int.tmod_eq_emod_of_nonneg (by omega)
                      have w3 : IntKind.i64.wrap (M % 1000) = M % 1000 := wrap_i64_in (by omega) (by omega)
                      have w4 : IntKind.i64.wrap (M % 1000 * 1000000000000000) = M % 1000 * 1000000000000000 := wrap_i64_in (by omega) (by omega)
                      have w5 : IntKind.i64.wrap (R * 1000000) = R * 1000000 := wrap_i64_in (by omega) (by omega)
                      have w6 : IntKind.i64.wrap (M % 1000 * 1000000000000000 + R * 1000000) = M % 1000 * 1000000000000000 + R * 1000000 := wrap_i64_in (by omega) (by omega)
                      have hL2 : IntKind.i64.wrap (wlo B) = B := by rw [IntKind.wrap_i64]; unfold wlo; omega
                      by_cases hj : inD (B + 36204)
                      · simp [-List.getD_eq_getElem?_getD, -List.drop_one, epactref19_FromCds.c, epactref19_FromCds.l1, epactref19_FromCds.l2, loopW_succ, hp, hb, hM2, b2x, hh, hL, hL', pk, b1, b2, b3, tk, hF, hM, hR, n1, n2, n3, m1, m1', m2, m2', s1, s2, s3, r1, r2, r3, m3, m4, h2, clab34, cday34, cA34, cm20, cm22, cm24, cm30, cm32, cm34, xw1, xw2, xw3, xw4, xw5, xw6, xw7, xw8, xw9, xw10, xw11, xw12, xw1000, xwG, xw0, xw64, xw65, xw66, xw68, xw69, xw70, ha, m5, hB, hi, hL2, w0, w1, w2, w3, w4, w5, w6, f1, f2, f3, f4, f5, f6, f7, e1, e2, hj]
                      · simp [-List.getD_eq_getElem?_getD, -List.drop_one, epactref19_FromCds.c, epactref19_FromCds.l1, epactref19_FromCds.l2, loopW_succ, hp, hb, hM2, b2x, hh, hL, hL', pk, b1, b2, b3, tk, hF, hM, hR, n1, n2, n3, m1, m1', m2, m2', s1, s2, s3, r1, r2, r3, m3, m4, h2, clab34, cday34, cA34, cm20, cm22, cm24, cm30, cm32, cm34, xw1, xw2, xw3, xw4, xw5, xw6, xw7, xw8, xw9, xw10, xw11, xw12, xw1000, xwG, xw0, xw64, xw65, xw66, xw68, xw69, xw70, ha, m5, hB, hi, hL2, w0, w1, w2, w3, w4, w5, w6, f1, f2, f3, f4, f5, f6, f7, e1, e2, hj]
                    · simp [-List.getD_eq_getElem?_getD, -List.drop_one, epactref19_FromCds.c, epactref19_FromCds.l1, epactref19_FromCds.l2, loopW_succ, hp, hb, hM2, b2x, hh, hL, hL', pk, b1, b2, b3, tk, hF, hM, hR, n1, n2, n3, m1, m1', m2, m2', s1, s2, s3, r1, r2, r3, m3, m4, h2, clab34, cday34, cA34, cm20, cm22, cm24, cm30, cm32, cm34, xw1, xw2, xw3, xw4, xw5, xw6, xw7, xw8, xw9, xw10, xw11, xw12, xw1000, xwG, xw0, xw64, xw65, xw66, xw68, xw69, xw70, hi]
                  · have m2' := Int.not_lt.1 m2
                    simp [-List.getD_eq_getElem?_getD, -List.drop_one, epactref19_FromCds.c, epactref19_FromCds.l1, epactref19_FromCds.l2, loopW_succ, hp, hb, hM2, b2x, hh, hL, hL', pk, b1, b2, b3, tk, hF, hM, hR, n1, n2, n3, m1, m1', m2, m2', s1, s2, s3, r1, r2, r3, m3, m4, h2, clab34, cday34, cA34, cm20, cm22, cm24, cm30, cm32, cm34, xw1, xw2, xw3, xw4, xw5, xw6, xw7, xw8, xw9, xw10, xw11, xw12, xw1000, xwG, xw0, xw64, xw65, xw66, xw68, xw69, xw70]
                · have m1' := Int.not_le.1 m1
                  have m2 := True.intro
                  have m2' := True.intro
                  simp [-List.getD_eq_getElem?_getD, -List.drop_one, epactref19_FromCds.c, epactref19_FromCds.l1, epactref19_FromCds.l2, loopW_succ, hp, hb, hM2, b2x, hh, hL, hL', pk, b1, b2, b3, tk, hF, hM, hR, n1, n2, n3, m1, m1', m2, m2', s1, s2, s3, r1, r2, r3, m3, m4, h2, clab34, cday34, cA34, cm20, cm22, cm24, cm30, cm32, cm34, xw1, xw2, xw3, xw4, xw5, xw6, xw7, xw8, xw9, xw10, xw11, xw12, xw1000, xwG, xw0, xw64, xw65, xw66, xw68, xw69, xw70]
              · have hL' : (b.length : Int) = 12 := by omega
                have g0 := byte_get hb 0
                have xg : IntKind.i64.wrap (b.getD 0 0) = b.getD 0 0 := wrap_i64_in (by omega) (by omega)
                simp [-List.getD_eq_getElem?_getD, epactref19_FromCds.c, epactref19_FromCds.l1, epactref19_FromCds.l2, loopW_succ, hp, hb, hh, hL, hL', xg, cm20, cm22, cm24, cm30, cm32, cm34, xw1, xw2, xw3, xw4, xw5, xw6, xw7, xw8, xw9, xw10, xw11, xw12, xw1000, xwG, xw0, xw64, xw65, xw66, xw68, xw69, xw70]
            · have xl7 : ¬ (b.length : Int) = 7 := by omega
              have xl8 : ¬ (b.length : Int) = 8 := by omega
              have xl9 : ¬ (b.length : Int) = 9 := by omega
              have xl10 : ¬ (b.length : Int) = 10 := by omega
              have xl11 : ¬ (b.length : Int) = 11 := by omega
              have xl12 : ¬ (b.length : Int) = 12 := by omega
              simp [-List.getD_eq_getElem?_getD, epactref19_FromCds.c, epactref19_FromCds.l1, epactref19_FromCds.l2, loopW_succ, hp, hb, cm20, cm22, cm24, cm30, cm32, cm34, xw1, xw2, xw3, xw4, xw5, xw6, xw7, xw8, xw9, xw10, xw11, xw12, xw1000, xwG, xw0, xw64, xw65, xw66, xw68, xw69, xw70, xl7, xl8, xl9, xl10, xl11, xl12, *]
end Go.Proofs.Ytnjipdicfbkfdaa.E

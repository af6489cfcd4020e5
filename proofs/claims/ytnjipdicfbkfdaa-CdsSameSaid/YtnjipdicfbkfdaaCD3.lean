/- The laws of the chapter 23. -/
import Derived.Test.YtnjipdicfbkfdaaCD2
set_option linter.unusedVariables false
set_option linter.unusedSimpArgs false
set_option maxHeartbeats 4000000
set_option maxRecDepth 100000
namespace Go.Proofs.Ytnjipdicfbkfdaa.E
open Go.VC Go.RowKit

abbrev lawLII := s3 coLab coI coI Tt3 fun _ _ _ => .o (bv true)
abbrev lawYI := s2 coY coI Tt2 fun _ _ => .o (bv true)
theorem allB_cform {h : Int} (d f : Nat) (u : Int) (x : Int × Int × Int) (hh : 0 ≤ h ∧ h < 256) : allB (cform h d f u x) := allB_cons hh (allB_app (allB_app (allB_oct _ _) (allB_oct _ _)) (allB_oct _ _))
theorem okAns23 : Ok Try.prog 36 tTrue := ok0 (code_mk Try.func36 epactlaw23_answers.ent epactlaw23_answers.chk (specOk_cons okCEnc (specOk_cons okCDec specOk_nil))) ⟨0, by
  have e1 : cform 64 2 0 1000000000000000 (36205, 1, 0) = [64, 0, 1, 0, 0, 3, 232] := by decide
  have e2 : cpl (36205, 1, 0) := by decide
  have e3 : inD 36205 := by decide
  have e4 : cm20 [64, 0, 1, 0, 0, 3, 232] := by decide
  have e5 : cA20 [64, 0, 1, 0, 0, 3, 232] := by decide
  have e6 : inD 36204 := by decide
  have e7 : cday20 [64, 0, 1, 0, 0, 3, 232] 36204 = 36205 := by decide
  have e8 : clab20 [64, 0, 1, 0, 0, 3, 232] 36204 = (36205, 1, 0) := by decide
  have b1 : allB [64, 0, 1, 0, 0, 3, 232] := by decide
  simp [epactlaw23_answers.c, e1, e2, e3, e4, e5, e6, e7, e8, b1]
  rw [ByteArray.toList_eq]
  rfl⟩
abbrev spLaw23 : List (Nat × (List AP → Option AV)) := (36, tTrue) :: (34, tCEnc) :: (37, tCDec) :: (35, tRCds) :: (38, tFromCds) :: (30, tSame8) :: (39, tPart) :: (40, tRIn) :: []
theorem okSpLaw23 : SpecOk Try.prog (spOf spLaw23) := specOk_cons okAns23 (specOk_cons okCEnc (specOk_cons okCDec (specOk_cons okRCds (specOk_cons okFromCds (specOk_cons okSame8 (specOk_cons okPart (specOk_cons okRIn specOk_nil)))))))
theorem mCdsEncodes : MeetsAll Try.prog 8 lawLII := all3 (code_mk Try.func8 epactlaw23_CdsEncodes.ent epactlaw23_CdsEncodes.chk okSpLaw23) (by simp [epactlaw23_CdsEncodes.c]) fun x d f hx hd hf _ => by
  obtain ⟨D, S, A⟩ := x
  simp at hx hd hf
  refine ⟨0, ?_⟩
  by_cases d2 : d = 2
  · subst d2
    by_cases f0 : f = 0
    · subst f0
      have aC := allB_cform (h := 64) 2 0 1000000000000000 (D, S, A) ⟨by decide, by decide⟩
      by_cases hP : cpl (D, S, A)
      · by_cases hI : inD D <;> simp [epactlaw23_CdsEncodes.c, hx, hP, hI, aC]
      · simp [epactlaw23_CdsEncodes.c, hx, hP]
    · by_cases f2 : f = 2
      · subst f2
        have aC := allB_cform (h := 65) 2 2 1000000000000 (D, S, A) ⟨by decide, by decide⟩
        by_cases hP : cpl (D, S, A)
        · by_cases hI : inD D <;> simp [epactlaw23_CdsEncodes.c, hx, hP, hI, aC]
        · simp [epactlaw23_CdsEncodes.c, hx, hP]
      · by_cases f4 : f = 4
        · subst f4
          have aC := allB_cform (h := 66) 2 4 1000000 (D, S, A) ⟨by decide, by decide⟩
          by_cases hP : cpl (D, S, A)
          · by_cases hI : inD D <;> simp [epactlaw23_CdsEncodes.c, hx, hP, hI, aC]
          · simp [epactlaw23_CdsEncodes.c, hx, hP]
        · simp [epactlaw23_CdsEncodes.c, hx, hd, hf, f0, f2, f4]
  · by_cases d3 : d = 3
    · subst d3
      by_cases f0 : f = 0
      · subst f0
        have aC := allB_cform (h := 68) 3 0 1000000000000000 (D, S, A) ⟨by decide, by decide⟩
        by_cases hP : cpl (D, S, A)
        · by_cases hI : inD D <;> simp [epactlaw23_CdsEncodes.c, hx, hP, hI, aC]
        · simp [epactlaw23_CdsEncodes.c, hx, hP]
      · by_cases f2 : f = 2
        · subst f2
          have aC := allB_cform (h := 69) 3 2 1000000000000 (D, S, A) ⟨by decide, by decide⟩
          by_cases hP : cpl (D, S, A)
          · by_cases hI : inD D <;> simp [epactlaw23_CdsEncodes.c, hx, hP, hI, aC]
          · simp [epactlaw23_CdsEncodes.c, hx, hP]
        · by_cases f4 : f = 4
          · subst f4
            have aC := allB_cform (h := 70) 3 4 1000000 (D, S, A) ⟨by decide, by decide⟩
            by_cases hP : cpl (D, S, A)
            · by_cases hI : inD D <;> simp [epactlaw23_CdsEncodes.c, hx, hP, hI, aC]
            · simp [epactlaw23_CdsEncodes.c, hx, hP]
          · simp [epactlaw23_CdsEncodes.c, hx, hd, hf, f0, f2, f4]
    · simp [epactlaw23_CdsEncodes.c, hx, hd, hf, d2, d3]
theorem mCdsDecodes : MeetsAll Try.prog 9 lawYI := all2 (code_mk Try.func9 epactlaw23_CdsDecodes.ent epactlaw23_CdsDecodes.chk okSpLaw23) (by simp [epactlaw23_CdsDecodes.c]) fun b p hb hp _ => by
  simp at hb hp
  refine ⟨0, ?_⟩
  by_cases c20 : cm20 b
  · by_cases hA : cA20 b
    · by_cases hi : inD p
      · by_cases hj : inD (cday20 b p) <;> simp [epactlaw23_CdsDecodes.c, hb, hp, c20, hA, hi, hj]
      · simp [epactlaw23_CdsDecodes.c, hb, hp, c20, hA, hi]
    · simp [epactlaw23_CdsDecodes.c, hb, hp, c20, hA]
  · by_cases c22 : cm22 b
    · by_cases hA : cA22 b
      · by_cases hi : inD p
        · by_cases hj : inD (cday22 b p) <;> simp [epactlaw23_CdsDecodes.c, hb, hp, c20, c22, hA, hi, hj]
        · simp [epactlaw23_CdsDecodes.c, hb, hp, c20, c22, hA, hi]
      · simp [epactlaw23_CdsDecodes.c, hb, hp, c20, c22, hA]
    · by_cases c24 : cm24 b
      · by_cases hA : cA24 b
        · by_cases hi : inD p
          · by_cases hj : inD (cday24 b p) <;> simp [epactlaw23_CdsDecodes.c, hb, hp, c20, c22, c24, hA, hi, hj]
          · simp [epactlaw23_CdsDecodes.c, hb, hp, c20, c22, c24, hA, hi]
        · simp [epactlaw23_CdsDecodes.c, hb, hp, c20, c22, c24, hA]
      · by_cases c30 : cm30 b
        · by_cases hA : cA30 b
          · by_cases hi : inD p
            · by_cases hj : inD (cday30 b p) <;> simp [epactlaw23_CdsDecodes.c, hb, hp, c20, c22, c24, c30, hA, hi, hj]
            · simp [epactlaw23_CdsDecodes.c, hb, hp, c20, c22, c24, c30, hA, hi]
          · simp [epactlaw23_CdsDecodes.c, hb, hp, c20, c22, c24, c30, hA]
        · by_cases c32 : cm32 b
          · by_cases hA : cA32 b
            · by_cases hi : inD p
              · by_cases hj : inD (cday32 b p) <;> simp [epactlaw23_CdsDecodes.c, hb, hp, c20, c22, c24, c30, c32, hA, hi, hj]
              · simp [epactlaw23_CdsDecodes.c, hb, hp, c20, c22, c24, c30, c32, hA, hi]
            · simp [epactlaw23_CdsDecodes.c, hb, hp, c20, c22, c24, c30, c32, hA]
          · by_cases c34 : cm34 b
            · by_cases hA : cA34 b
              · by_cases hi : inD p
                · by_cases hj : inD (cday34 b p) <;> simp [epactlaw23_CdsDecodes.c, hb, hp, c20, c22, c24, c30, c32, c34, hA, hi, hj]
                · simp [epactlaw23_CdsDecodes.c, hb, hp, c20, c22, c24, c30, c32, c34, hA, hi]
              · simp [epactlaw23_CdsDecodes.c, hb, hp, c20, c22, c24, c30, c32, c34, hA]
            · simp [epactlaw23_CdsDecodes.c, hb, hp, c20, c22, c24, c30, c32, c34]
theorem cback20 {D S A : Int} (hP : cpl (D, S, A)) (hI : inD D) : cm20 (cform 64 2 0 1000000000000000 (D, S, A)) ∧ cA20 (cform 64 2 0 1000000000000000 (D, S, A)) ∧ cday20 (cform 64 2 0 1000000000000000 (D, S, A)) D = D ∧ clab20 (cform 64 2 0 1000000000000000 (D, S, A)) D = (D, S, A - A % 1000000000000000) := by
  obtain ⟨p1, p2, p3, p4⟩ : 0 ≤ S ∧ S ≤ 86400 ∧ 0 ≤ A ∧ A < 1000000000000000000 := hP
  have hI2 : -1099511627776 ≤ D ∧ D ≤ 1099511627776 := hI
  have l1 := oct_len 2 ((D - 36204) % 65536)
  have l2 := oct_len 4 (S * 1000 + A / 1000000000000000)
  have l3 := oct_len 0 (A % 1000000000000000 / 1000000000000000)
  have v1 : num (oct ((D - 36204) % 65536) 2) = (D - 36204) % 65536 := by rw [num_oct]; show (D - 36204) % 65536 % 65536 = _; omega
  have v2 : num (oct (S * 1000 + A / 1000000000000000) 4) = S * 1000 + A / 1000000000000000 := by rw [num_oct]; show (S * 1000 + A / 1000000000000000) % 4294967296 = _; omega
  have v3 : num (oct (A % 1000000000000000 / 1000000000000000) 0) = A % 1000000000000000 / 1000000000000000 := by rw [num_oct]; show A % 1000000000000000 / 1000000000000000 % 1 = _; omega
  have e : cform 64 2 0 1000000000000000 (D, S, A) = 64 :: (oct ((D - 36204) % 65536) 2 ++ oct (S * 1000 + A / 1000000000000000) 4 ++ oct (A % 1000000000000000 / 1000000000000000) 0) := rfl
  rw [e]
  unfold cm20 cA20 cday20 clab20
  generalize oct ((D - 36204) % 65536) 2 = o1 at *
  generalize oct (S * 1000 + A / 1000000000000000) 4 = o2 at *
  generalize oct (A % 1000000000000000 / 1000000000000000) 0 = o3 at *
  have t1 : List.drop 1 (List.take 3 (64 :: (o1 ++ o2 ++ o3))) = o1 := by
    show List.take 2 (o1 ++ o2 ++ o3) = o1
    rw [List.append_assoc, List.take_left' l1]
  have t2 : List.drop 3 (List.take 7 (64 :: (o1 ++ o2 ++ o3))) = o2 := by
    show List.drop 2 (List.take (2 + 4) (o1 ++ o2 ++ o3)) = o2
    rw [List.take_left' (by rw [List.length_append, l1, l2]), List.drop_left' l1]
  have t3 : List.drop 7 (64 :: (o1 ++ o2 ++ o3)) = o3 := by
    show List.drop (2 + 4) (o1 ++ o2 ++ o3) = o3
    rw [List.drop_left' (by rw [List.length_append, l1, l2])]
  have l4 : (64 :: (o1 ++ o2 ++ o3)).length = 7 := by rw [List.length_cons, List.length_append, List.length_append, l1, l2, l3]
  have a := abo_only (f := (D - 36204) % 65536) (n := 65536) (p := D - 36204) (x := D - 36204) (by decide) (by omega) (by omega) (by omega)
  have d : abo ((D - 36204) % 65536) 65536 (D - 36204) + 36204 = D := by omega
  refine ⟨⟨l4, rfl⟩, ?_⟩
  unfold cday20
  rw [t1, t2, t3, v1, v2, v3, d]
  refine ⟨⟨by omega, by omega⟩, rfl, ?_⟩
  rw [show (S * 1000 + A / 1000000000000000) / 1000 = S by omega, show (S * 1000 + A / 1000000000000000) % 1000 * 1000000000000000 + A % 1000000000000000 / 1000000000000000 * 1000000000000000 = A - A % 1000000000000000 by omega]
theorem cback22 {D S A : Int} (hP : cpl (D, S, A)) (hI : inD D) : cm22 (cform 65 2 2 1000000000000 (D, S, A)) ∧ cA22 (cform 65 2 2 1000000000000 (D, S, A)) ∧ cday22 (cform 65 2 2 1000000000000 (D, S, A)) D = D ∧ clab22 (cform 65 2 2 1000000000000 (D, S, A)) D = (D, S, A - A % 1000000000000) := by
  obtain ⟨p1, p2, p3, p4⟩ : 0 ≤ S ∧ S ≤ 86400 ∧ 0 ≤ A ∧ A < 1000000000000000000 := hP
  have hI2 : -1099511627776 ≤ D ∧ D ≤ 1099511627776 := hI
  have l1 := oct_len 2 ((D - 36204) % 65536)
  have l2 := oct_len 4 (S * 1000 + A / 1000000000000000)
  have l3 := oct_len 2 (A % 1000000000000000 / 1000000000000)
  have v1 : num (oct ((D - 36204) % 65536) 2) = (D - 36204) % 65536 := by rw [num_oct]; show (D - 36204) % 65536 % 65536 = _; omega
  have v2 : num (oct (S * 1000 + A / 1000000000000000) 4) = S * 1000 + A / 1000000000000000 := by rw [num_oct]; show (S * 1000 + A / 1000000000000000) % 4294967296 = _; omega
  have v3 : num (oct (A % 1000000000000000 / 1000000000000) 2) = A % 1000000000000000 / 1000000000000 := by rw [num_oct]; show A % 1000000000000000 / 1000000000000 % 65536 = _; omega
  have e : cform 65 2 2 1000000000000 (D, S, A) = 65 :: (oct ((D - 36204) % 65536) 2 ++ oct (S * 1000 + A / 1000000000000000) 4 ++ oct (A % 1000000000000000 / 1000000000000) 2) := rfl
  rw [e]
  unfold cm22 cA22 cday22 clab22
  generalize oct ((D - 36204) % 65536) 2 = o1 at *
  generalize oct (S * 1000 + A / 1000000000000000) 4 = o2 at *
  generalize oct (A % 1000000000000000 / 1000000000000) 2 = o3 at *
  have t1 : List.drop 1 (List.take 3 (65 :: (o1 ++ o2 ++ o3))) = o1 := by
    show List.take 2 (o1 ++ o2 ++ o3) = o1
    rw [List.append_assoc, List.take_left' l1]
  have t2 : List.drop 3 (List.take 7 (65 :: (o1 ++ o2 ++ o3))) = o2 := by
    show List.drop 2 (List.take (2 + 4) (o1 ++ o2 ++ o3)) = o2
    rw [List.take_left' (by rw [List.length_append, l1, l2]), List.drop_left' l1]
  have t3 : List.drop 7 (65 :: (o1 ++ o2 ++ o3)) = o3 := by
    show List.drop (2 + 4) (o1 ++ o2 ++ o3) = o3
    rw [List.drop_left' (by rw [List.length_append, l1, l2])]
  have l4 : (65 :: (o1 ++ o2 ++ o3)).length = 9 := by rw [List.length_cons, List.length_append, List.length_append, l1, l2, l3]
  have a := abo_only (f := (D - 36204) % 65536) (n := 65536) (p := D - 36204) (x := D - 36204) (by decide) (by omega) (by omega) (by omega)
  have d : abo ((D - 36204) % 65536) 65536 (D - 36204) + 36204 = D := by omega
  refine ⟨⟨l4, rfl⟩, ?_⟩
  unfold cday22
  rw [t1, t2, t3, v1, v2, v3, d]
  refine ⟨⟨by omega, by omega⟩, rfl, ?_⟩
  rw [show (S * 1000 + A / 1000000000000000) / 1000 = S by omega, show (S * 1000 + A / 1000000000000000) % 1000 * 1000000000000000 + A % 1000000000000000 / 1000000000000 * 1000000000000 = A - A % 1000000000000 by omega]
theorem cback24 {D S A : Int} (hP : cpl (D, S, A)) (hI : inD D) : cm24 (cform 66 2 4 1000000 (D, S, A)) ∧ cA24 (cform 66 2 4 1000000 (D, S, A)) ∧ cday24 (cform 66 2 4 1000000 (D, S, A)) D = D ∧ clab24 (cform 66 2 4 1000000 (D, S, A)) D = (D, S, A - A % 1000000) := by
  obtain ⟨p1, p2, p3, p4⟩ : 0 ≤ S ∧ S ≤ 86400 ∧ 0 ≤ A ∧ A < 1000000000000000000 := hP
  have hI2 : -1099511627776 ≤ D ∧ D ≤ 1099511627776 := hI
  have l1 := oct_len 2 ((D - 36204) % 65536)
  have l2 := oct_len 4 (S * 1000 + A / 1000000000000000)
  have l3 := oct_len 4 (A % 1000000000000000 / 1000000)
  have v1 : num (oct ((D - 36204) % 65536) 2) = (D - 36204) % 65536 := by rw [num_oct]; show (D - 36204) % 65536 % 65536 = _; omega
  have v2 : num (oct (S * 1000 + A / 1000000000000000) 4) = S * 1000 + A / 1000000000000000 := by rw [num_oct]; show (S * 1000 + A / 1000000000000000) % 4294967296 = _; omega
  have v3 : num (oct (A % 1000000000000000 / 1000000) 4) = A % 1000000000000000 / 1000000 := by rw [num_oct]; show A % 1000000000000000 / 1000000 % 4294967296 = _; omega
  have e : cform 66 2 4 1000000 (D, S, A) = 66 :: (oct ((D - 36204) % 65536) 2 ++ oct (S * 1000 + A / 1000000000000000) 4 ++ oct (A % 1000000000000000 / 1000000) 4) := rfl
  rw [e]
  unfold cm24 cA24 cday24 clab24
  generalize oct ((D - 36204) % 65536) 2 = o1 at *
  generalize oct (S * 1000 + A / 1000000000000000) 4 = o2 at *
  generalize oct (A % 1000000000000000 / 1000000) 4 = o3 at *
  have t1 : List.drop 1 (List.take 3 (66 :: (o1 ++ o2 ++ o3))) = o1 := by
    show List.take 2 (o1 ++ o2 ++ o3) = o1
    rw [List.append_assoc, List.take_left' l1]
  have t2 : List.drop 3 (List.take 7 (66 :: (o1 ++ o2 ++ o3))) = o2 := by
    show List.drop 2 (List.take (2 + 4) (o1 ++ o2 ++ o3)) = o2
    rw [List.take_left' (by rw [List.length_append, l1, l2]), List.drop_left' l1]
  have t3 : List.drop 7 (66 :: (o1 ++ o2 ++ o3)) = o3 := by
    show List.drop (2 + 4) (o1 ++ o2 ++ o3) = o3
    rw [List.drop_left' (by rw [List.length_append, l1, l2])]
  have l4 : (66 :: (o1 ++ o2 ++ o3)).length = 11 := by rw [List.length_cons, List.length_append, List.length_append, l1, l2, l3]
  have a := abo_only (f := (D - 36204) % 65536) (n := 65536) (p := D - 36204) (x := D - 36204) (by decide) (by omega) (by omega) (by omega)
  have d : abo ((D - 36204) % 65536) 65536 (D - 36204) + 36204 = D := by omega
  refine ⟨⟨l4, rfl⟩, ?_⟩
  unfold cday24
  rw [t1, t2, t3, v1, v2, v3, d]
  refine ⟨⟨by omega, by omega⟩, rfl, ?_⟩
  rw [show (S * 1000 + A / 1000000000000000) / 1000 = S by omega, show (S * 1000 + A / 1000000000000000) % 1000 * 1000000000000000 + A % 1000000000000000 / 1000000 * 1000000 = A - A % 1000000 by omega]
theorem cback30 {D S A : Int} (hP : cpl (D, S, A)) (hI : inD D) : cm30 (cform 68 3 0 1000000000000000 (D, S, A)) ∧ cA30 (cform 68 3 0 1000000000000000 (D, S, A)) ∧ cday30 (cform 68 3 0 1000000000000000 (D, S, A)) D = D ∧ clab30 (cform 68 3 0 1000000000000000 (D, S, A)) D = (D, S, A - A % 1000000000000000) := by
  obtain ⟨p1, p2, p3, p4⟩ : 0 ≤ S ∧ S ≤ 86400 ∧ 0 ≤ A ∧ A < 1000000000000000000 := hP
  have hI2 : -1099511627776 ≤ D ∧ D ≤ 1099511627776 := hI
  have l1 := oct_len 3 ((D - 36204) % 16777216)
  have l2 := oct_len 4 (S * 1000 + A / 1000000000000000)
  have l3 := oct_len 0 (A % 1000000000000000 / 1000000000000000)
  have v1 : num (oct ((D - 36204) % 16777216) 3) = (D - 36204) % 16777216 := by rw [num_oct]; show (D - 36204) % 16777216 % 16777216 = _; omega
  have v2 : num (oct (S * 1000 + A / 1000000000000000) 4) = S * 1000 + A / 1000000000000000 := by rw [num_oct]; show (S * 1000 + A / 1000000000000000) % 4294967296 = _; omega
  have v3 : num (oct (A % 1000000000000000 / 1000000000000000) 0) = A % 1000000000000000 / 1000000000000000 := by rw [num_oct]; show A % 1000000000000000 / 1000000000000000 % 1 = _; omega
  have e : cform 68 3 0 1000000000000000 (D, S, A) = 68 :: (oct ((D - 36204) % 16777216) 3 ++ oct (S * 1000 + A / 1000000000000000) 4 ++ oct (A % 1000000000000000 / 1000000000000000) 0) := rfl
  rw [e]
  unfold cm30 cA30 cday30 clab30
  generalize oct ((D - 36204) % 16777216) 3 = o1 at *
  generalize oct (S * 1000 + A / 1000000000000000) 4 = o2 at *
  generalize oct (A % 1000000000000000 / 1000000000000000) 0 = o3 at *
  have t1 : List.drop 1 (List.take 4 (68 :: (o1 ++ o2 ++ o3))) = o1 := by
    show List.take 3 (o1 ++ o2 ++ o3) = o1
    rw [List.append_assoc, List.take_left' l1]
  have t2 : List.drop 4 (List.take 8 (68 :: (o1 ++ o2 ++ o3))) = o2 := by
    show List.drop 3 (List.take (3 + 4) (o1 ++ o2 ++ o3)) = o2
    rw [List.take_left' (by rw [List.length_append, l1, l2]), List.drop_left' l1]
  have t3 : List.drop 8 (68 :: (o1 ++ o2 ++ o3)) = o3 := by
    show List.drop (3 + 4) (o1 ++ o2 ++ o3) = o3
    rw [List.drop_left' (by rw [List.length_append, l1, l2])]
  have l4 : (68 :: (o1 ++ o2 ++ o3)).length = 8 := by rw [List.length_cons, List.length_append, List.length_append, l1, l2, l3]
  have a := abo_only (f := (D - 36204) % 16777216) (n := 16777216) (p := D - 36204) (x := D - 36204) (by decide) (by omega) (by omega) (by omega)
  have d : abo ((D - 36204) % 16777216) 16777216 (D - 36204) + 36204 = D := by omega
  refine ⟨⟨l4, rfl⟩, ?_⟩
  unfold cday30
  rw [t1, t2, t3, v1, v2, v3, d]
  refine ⟨⟨by omega, by omega⟩, rfl, ?_⟩
  rw [show (S * 1000 + A / 1000000000000000) / 1000 = S by omega, show (S * 1000 + A / 1000000000000000) % 1000 * 1000000000000000 + A % 1000000000000000 / 1000000000000000 * 1000000000000000 = A - A % 1000000000000000 by omega]
theorem cback32 {D S A : Int} (hP : cpl (D, S, A)) (hI : inD D) : cm32 (cform 69 3 2 1000000000000 (D, S, A)) ∧ cA32 (cform 69 3 2 1000000000000 (D, S, A)) ∧ cday32 (cform 69 3 2 1000000000000 (D, S, A)) D = D ∧ clab32 (cform 69 3 2 1000000000000 (D, S, A)) D = (D, S, A - A % 1000000000000) := by
  obtain ⟨p1, p2, p3, p4⟩ : 0 ≤ S ∧ S ≤ 86400 ∧ 0 ≤ A ∧ A < 1000000000000000000 := hP
  have hI2 : -1099511627776 ≤ D ∧ D ≤ 1099511627776 := hI
  have l1 := oct_len 3 ((D - 36204) % 16777216)
  have l2 := oct_len 4 (S * 1000 + A / 1000000000000000)
  have l3 := oct_len 2 (A % 1000000000000000 / 1000000000000)
  have v1 : num (oct ((D - 36204) % 16777216) 3) = (D - 36204) % 16777216 := by rw [num_oct]; show (D - 36204) % 16777216 % 16777216 = _; omega
  have v2 : num (oct (S * 1000 + A / 1000000000000000) 4) = S * 1000 + A / 1000000000000000 := by rw [num_oct]; show (S * 1000 + A / 1000000000000000) % 4294967296 = _; omega
  have v3 : num (oct (A % 1000000000000000 / 1000000000000) 2) = A % 1000000000000000 / 1000000000000 := by rw [num_oct]; show A % 1000000000000000 / 1000000000000 % 65536 = _; omega
  have e : cform 69 3 2 1000000000000 (D, S, A) = 69 :: (oct ((D - 36204) % 16777216) 3 ++ oct (S * 1000 + A / 1000000000000000) 4 ++ oct (A % 1000000000000000 / 1000000000000) 2) := rfl
  rw [e]
  unfold cm32 cA32 cday32 clab32
  generalize oct ((D - 36204) % 16777216) 3 = o1 at *
  generalize oct (S * 1000 + A / 1000000000000000) 4 = o2 at *
  generalize oct (A % 1000000000000000 / 1000000000000) 2 = o3 at *
  have t1 : List.drop 1 (List.take 4 (69 :: (o1 ++ o2 ++ o3))) = o1 := by
    show List.take 3 (o1 ++ o2 ++ o3) = o1
    rw [List.append_assoc, List.take_left' l1]
  have t2 : List.drop 4 (List.take 8 (69 :: (o1 ++ o2 ++ o3))) = o2 := by
    show List.drop 3 (List.take (3 + 4) (o1 ++ o2 ++ o3)) = o2
    rw [List.take_left' (by rw [List.length_append, l1, l2]), List.drop_left' l1]
  have t3 : List.drop 8 (69 :: (o1 ++ o2 ++ o3)) = o3 := by
    show List.drop (3 + 4) (o1 ++ o2 ++ o3) = o3
    rw [List.drop_left' (by rw [List.length_append, l1, l2])]
  have l4 : (69 :: (o1 ++ o2 ++ o3)).length = 10 := by rw [List.length_cons, List.length_append, List.length_append, l1, l2, l3]
  have a := abo_only (f := (D - 36204) % 16777216) (n := 16777216) (p := D - 36204) (x := D - 36204) (by decide) (by omega) (by omega) (by omega)
  have d : abo ((D - 36204) % 16777216) 16777216 (D - 36204) + 36204 = D := by omega
  refine ⟨⟨l4, rfl⟩, ?_⟩
  unfold cday32
  rw [t1, t2, t3, v1, v2, v3, d]
  refine ⟨⟨by omega, by omega⟩, rfl, ?_⟩
  rw [show (S * 1000 + A / 1000000000000000) / 1000 = S by omega, show (S * 1000 + A / 1000000000000000) % 1000 * 1000000000000000 + A % 1000000000000000 / 1000000000000 * 1000000000000 = A - A % 1000000000000 by omega]
theorem cback34 {D S A : Int} (hP : cpl (D, S, A)) (hI : inD D) : cm34 (cform 70 3 4 1000000 (D, S, A)) ∧ cA34 (cform 70 3 4 1000000 (D, S, A)) ∧ cday34 (cform 70 3 4 1000000 (D, S, A)) D = D ∧ clab34 (cform 70 3 4 1000000 (D, S, A)) D = (D, S, A - A % 1000000) := by
  obtain ⟨p1, p2, p3, p4⟩ : 0 ≤ S ∧ S ≤ 86400 ∧ 0 ≤ A ∧ A < 1000000000000000000 := hP
  have hI2 : -1099511627776 ≤ D ∧ D ≤ 1099511627776 := hI
  have l1 := oct_len 3 ((D - 36204) % 16777216)
  have l2 := oct_len 4 (S * 1000 + A / 1000000000000000)
  have l3 := oct_len 4 (A % 1000000000000000 / 1000000)
  have v1 : num (oct ((D - 36204) % 16777216) 3) = (D - 36204) % 16777216 := by rw [num_oct]; show (D - 36204) % 16777216 % 16777216 = _; omega
  have v2 : num (oct (S * 1000 + A / 1000000000000000) 4) = S * 1000 + A / 1000000000000000 := by rw [num_oct]; show (S * 1000 + A / 1000000000000000) % 4294967296 = _; omega
  have v3 : num (oct (A % 1000000000000000 / 1000000) 4) = A % 1000000000000000 / 1000000 := by rw [num_oct]; show A % 1000000000000000 / 1000000 % 4294967296 = _; omega
  have e : cform 70 3 4 1000000 (D, S, A) = 70 :: (oct ((D - 36204) % 16777216) 3 ++ oct (S * 1000 + A / 1000000000000000) 4 ++ oct (A % 1000000000000000 / 1000000) 4) := rfl
  rw [e]
  unfold cm34 cA34 cday34 clab34
  generalize oct ((D - 36204) % 16777216) 3 = o1 at *
  generalize oct (S * 1000 + A / 1000000000000000) 4 = o2 at *
  generalize oct (A % 1000000000000000 / 1000000) 4 = o3 at *
  have t1 : List.drop 1 (List.take 4 (70 :: (o1 ++ o2 ++ o3))) = o1 := by
    show List.take 3 (o1 ++ o2 ++ o3) = o1
    rw [List.append_assoc, List.take_left' l1]
  have t2 : List.drop 4 (List.take 8 (70 :: (o1 ++ o2 ++ o3))) = o2 := by
    show List.drop 3 (List.take (3 + 4) (o1 ++ o2 ++ o3)) = o2
    rw [List.take_left' (by rw [List.length_append, l1, l2]), List.drop_left' l1]
  have t3 : List.drop 8 (70 :: (o1 ++ o2 ++ o3)) = o3 := by
    show List.drop (3 + 4) (o1 ++ o2 ++ o3) = o3
    rw [List.drop_left' (by rw [List.length_append, l1, l2])]
  have l4 : (70 :: (o1 ++ o2 ++ o3)).length = 12 := by rw [List.length_cons, List.length_append, List.length_append, l1, l2, l3]
  have a := abo_only (f := (D - 36204) % 16777216) (n := 16777216) (p := D - 36204) (x := D - 36204) (by decide) (by omega) (by omega) (by omega)
  have d : abo ((D - 36204) % 16777216) 16777216 (D - 36204) + 36204 = D := by omega
  refine ⟨⟨l4, rfl⟩, ?_⟩
  unfold cday34
  rw [t1, t2, t3, v1, v2, v3, d]
  refine ⟨⟨by omega, by omega⟩, rfl, ?_⟩
  rw [show (S * 1000 + A / 1000000000000000) / 1000 = S by omega, show (S * 1000 + A / 1000000000000000) % 1000 * 1000000000000000 + A % 1000000000000000 / 1000000 * 1000000 = A - A % 1000000 by omega]
theorem mCdsFloors : MeetsAll Try.prog 10 lawLII := all3 (code_mk Try.func10 epactlaw23_CdsFloors.ent epactlaw23_CdsFloors.chk okSpLaw23) (by simp [epactlaw23_CdsFloors.c]) fun x d f hx hd hf _ => by
  obtain ⟨D, S, A⟩ := x
  simp at hx hd hf
  refine ⟨0, ?_⟩
  by_cases d2 : d = 2
  · subst d2
    by_cases f0 : f = 0
    · subst f0
      have aC := allB_cform (h := 64) 2 0 1000000000000000 (D, S, A) ⟨by decide, by decide⟩
      by_cases hP : cpl (D, S, A)
      · by_cases hI : inD D
        · obtain ⟨g1, g2, g3, g4⟩ := cback20 hP hI
          obtain ⟨p1, p2, p3, p4⟩ : 0 ≤ S ∧ S ≤ 86400 ∧ 0 ≤ A ∧ A < 1000000000000000000 := id hP
          have n20 : cm20 (cform 64 2 0 1000000000000000 (D, S, A)) = ((7 : Nat) = 7) := by unfold cm20; rw [g1.1, g1.2]; simp
          have n22 : cm22 (cform 64 2 0 1000000000000000 (D, S, A)) = ((7 : Nat) = 9) := by unfold cm22; rw [g1.1, g1.2]; simp
          have n24 : cm24 (cform 64 2 0 1000000000000000 (D, S, A)) = ((7 : Nat) = 11) := by unfold cm24; rw [g1.1, g1.2]; simp
          have n30 : cm30 (cform 64 2 0 1000000000000000 (D, S, A)) = ((7 : Nat) = 8) := by unfold cm30; rw [g1.1, g1.2]; simp
          have n32 : cm32 (cform 64 2 0 1000000000000000 (D, S, A)) = ((7 : Nat) = 10) := by unfold cm32; rw [g1.1, g1.2]; simp
          have n34 : cm34 (cform 64 2 0 1000000000000000 (D, S, A)) = ((7 : Nat) = 12) := by unfold cm34; rw [g1.1, g1.2]; simp
          have e1 : A.tmod 1000000000000000 = A % 1000000000000000 := Int.tmod_eq_emod_of_nonneg p3
          have w1 : IntKind.i64.wrap (A % 1000000000000000) = A % 1000000000000000 := wrap_i64_in (by omega) (by omega)
          have w2 : IntKind.i64.wrap (A - A % 1000000000000000) = A - A % 1000000000000000 := wrap_i64_in (by omega) (by omega)
          simp [epactlaw23_CdsFloors.c, hx, hP, hI, aC, g2, g3, g4, n20, n22, n24, n30, n32, n34, e1, w1, w2]
        · simp [epactlaw23_CdsFloors.c, hx, hP, hI]
      · simp [epactlaw23_CdsFloors.c, hx, hP]
    · by_cases f2 : f = 2
      · subst f2
        have aC := allB_cform (h := 65) 2 2 1000000000000 (D, S, A) ⟨by decide, by decide⟩
        by_cases hP : cpl (D, S, A)
        · by_cases hI : inD D
          · obtain ⟨g1, g2, g3, g4⟩ := cback22 hP hI
            obtain ⟨p1, p2, p3, p4⟩ : 0 ≤ S ∧ S ≤ 86400 ∧ 0 ≤ A ∧ A < 1000000000000000000 := id hP
            have n20 : cm20 (cform 65 2 2 1000000000000 (D, S, A)) = ((9 : Nat) = 7) := by unfold cm20; rw [g1.1, g1.2]; simp
            have n22 : cm22 (cform 65 2 2 1000000000000 (D, S, A)) = ((9 : Nat) = 9) := by unfold cm22; rw [g1.1, g1.2]; simp
            have n24 : cm24 (cform 65 2 2 1000000000000 (D, S, A)) = ((9 : Nat) = 11) := by unfold cm24; rw [g1.1, g1.2]; simp
            have n30 : cm30 (cform 65 2 2 1000000000000 (D, S, A)) = ((9 : Nat) = 8) := by unfold cm30; rw [g1.1, g1.2]; simp
            have n32 : cm32 (cform 65 2 2 1000000000000 (D, S, A)) = ((9 : Nat) = 10) := by unfold cm32; rw [g1.1, g1.2]; simp
            have n34 : cm34 (cform 65 2 2 1000000000000 (D, S, A)) = ((9 : Nat) = 12) := by unfold cm34; rw [g1.1, g1.2]; simp
            have e1 : A.tmod 1000000000000 = A % 1000000000000 := Int.tmod_eq_emod_of_nonneg p3
            have w1 : IntKind.i64.wrap (A % 1000000000000) = A % 1000000000000 := wrap_i64_in (by omega) (by omega)
            have w2 : IntKind.i64.wrap (A - A % 1000000000000) = A - A % 1000000000000 := wrap_i64_in (by omega) (by omega)
            simp [epactlaw23_CdsFloors.c, hx, hP, hI, aC, g2, g3, g4, n20, n22, n24, n30, n32, n34, e1, w1, w2]
          · simp [epactlaw23_CdsFloors.c, hx, hP, hI]
        · simp [epactlaw23_CdsFloors.c, hx, hP]
      · by_cases f4 : f = 4
        · subst f4
          have aC := allB_cform (h := 66) 2 4 1000000 (D, S, A) ⟨by decide, by decide⟩
          by_cases hP : cpl (D, S, A)
          · by_cases hI : inD D
            · obtain ⟨g1, g2, g3, g4⟩ := cback24 hP hI
              obtain ⟨p1, p2, p3, p4⟩ : 0 ≤ S ∧ S ≤ 86400 ∧ 0 ≤ A ∧ A < 1000000000000000000 := id hP
              have n20 : cm20 (cform 66 2 4 1000000 (D, S, A)) = ((11 : Nat) = 7) := by unfold cm20; rw [g1.1, g1.2]; simp
              have n22 : cm22 (cform 66 2 4 1000000 (D, S, A)) = ((11 : Nat) = 9) := by unfold cm22; rw [g1.1, g1.2]; simp
              have n24 : cm24 (cform 66 2 4 1000000 (D, S, A)) = ((11 : Nat) = 11) := by unfold cm24; rw [g1.1, g1.2]; simp
              have n30 : cm30 (cform 66 2 4 1000000 (D, S, A)) = ((11 : Nat) = 8) := by unfold cm30; rw [g1.1, g1.2]; simp
              have n32 : cm32 (cform 66 2 4 1000000 (D, S, A)) = ((11 : Nat) = 10) := by unfold cm32; rw [g1.1, g1.2]; simp
              have n34 : cm34 (cform 66 2 4 1000000 (D, S, A)) = ((11 : Nat) = 12) := by unfold cm34; rw [g1.1, g1.2]; simp
              have e1 : A.tmod 1000000 = A % 1000000 := Int.tmod_eq_emod_of_nonneg p3
              have w1 : IntKind.i64.wrap (A % 1000000) = A % 1000000 := wrap_i64_in (by omega) (by omega)
              have w2 : IntKind.i64.wrap (A - A % 1000000) = A - A % 1000000 := wrap_i64_in (by omega) (by omega)
              simp [epactlaw23_CdsFloors.c, hx, hP, hI, aC, g2, g3, g4, n20, n22, n24, n30, n32, n34, e1, w1, w2]
            · simp [epactlaw23_CdsFloors.c, hx, hP, hI]
          · simp [epactlaw23_CdsFloors.c, hx, hP]
        · simp [epactlaw23_CdsFloors.c, hx, hd, hf, f0, f2, f4]
  · by_cases d3 : d = 3
    · subst d3
      by_cases f0 : f = 0
      · subst f0
        have aC := allB_cform (h := 68) 3 0 1000000000000000 (D, S, A) ⟨by decide, by decide⟩
        by_cases hP : cpl (D, S, A)
        · by_cases hI : inD D
          · obtain ⟨g1, g2, g3, g4⟩ := cback30 hP hI
            obtain ⟨p1, p2, p3, p4⟩ : 0 ≤ S ∧ S ≤ 86400 ∧ 0 ≤ A ∧ A < 1000000000000000000 := id hP
            have n20 : cm20 (cform 68 3 0 1000000000000000 (D, S, A)) = ((8 : Nat) = 7) := by unfold cm20; rw [g1.1, g1.2]; simp
            have n22 : cm22 (cform 68 3 0 1000000000000000 (D, S, A)) = ((8 : Nat) = 9) := by unfold cm22; rw [g1.1, g1.2]; simp
            have n24 : cm24 (cform 68 3 0 1000000000000000 (D, S, A)) = ((8 : Nat) = 11) := by unfold cm24; rw [g1.1, g1.2]; simp
            have n30 : cm30 (cform 68 3 0 1000000000000000 (D, S, A)) = ((8 : Nat) = 8) := by unfold cm30; rw [g1.1, g1.2]; simp
            have n32 : cm32 (cform 68 3 0 1000000000000000 (D, S, A)) = ((8 : Nat) = 10) := by unfold cm32; rw [g1.1, g1.2]; simp
            have n34 : cm34 (cform 68 3 0 1000000000000000 (D, S, A)) = ((8 : Nat) = 12) := by unfold cm34; rw [g1.1, g1.2]; simp
            have e1 : A.tmod 1000000000000000 = A % 1000000000000000 := Int.tmod_eq_emod_of_nonneg p3
            have w1 : IntKind.i64.wrap (A % 1000000000000000) = A % 1000000000000000 := wrap_i64_in (by omega) (by omega)
            have w2 : IntKind.i64.wrap (A - A % 1000000000000000) = A - A % 1000000000000000 := wrap_i64_in (by omega) (by omega)
            simp [epactlaw23_CdsFloors.c, hx, hP, hI, aC, g2, g3, g4, n20, n22, n24, n30, n32, n34, e1, w1, w2]
          · simp [epactlaw23_CdsFloors.c, hx, hP, hI]
        · simp [epactlaw23_CdsFloors.c, hx, hP]
      · by_cases f2 : f = 2
        · subst f2
          have aC := allB_cform (h := 69) 3 2 1000000000000 (D, S, A) ⟨by decide, by decide⟩
          by_cases hP : cpl (D, S, A)
          · by_cases hI : inD D
            · obtain ⟨g1, g2, g3, g4⟩ := cback32 hP hI
              obtain ⟨p1, p2, p3, p4⟩ : 0 ≤ S ∧ S ≤ 86400 ∧ 0 ≤ A ∧ A < 1000000000000000000 := id hP
              have n20 : cm20 (cform 69 3 2 1000000000000 (D, S, A)) = ((10 : Nat) = 7) := by unfold cm20; rw [g1.1, g1.2]; simp
              have n22 : cm22 (cform 69 3 2 1000000000000 (D, S, A)) = ((10 : Nat) = 9) := by unfold cm22; rw [g1.1, g1.2]; simp
              have n24 : cm24 (cform 69 3 2 1000000000000 (D, S, A)) = ((10 : Nat) = 11) := by unfold cm24; rw [g1.1, g1.2]; simp
              have n30 : cm30 (cform 69 3 2 1000000000000 (D, S, A)) = ((10 : Nat) = 8) := by unfold cm30; rw [g1.1, g1.2]; simp
              have n32 : cm32 (cform 69 3 2 1000000000000 (D, S, A)) = ((10 : Nat) = 10) := by unfold cm32; rw [g1.1, g1.2]; simp
              have n34 : cm34 (cform 69 3 2 1000000000000 (D, S, A)) = ((10 : Nat) = 12) := by unfold cm34; rw [g1.1, g1.2]; simp
              have e1 : A.tmod 1000000000000 = A % 1000000000000 := Int.tmod_eq_emod_of_nonneg p3
              have w1 : IntKind.i64.wrap (A % 1000000000000) = A % 1000000000000 := wrap_i64_in (by omega) (by omega)
              have w2 : IntKind.i64.wrap (A - A % 1000000000000) = A - A % 1000000000000 := wrap_i64_in (by omega) (by omega)
              simp [epactlaw23_CdsFloors.c, hx, hP, hI, aC, g2, g3, g4, n20, n22, n24, n30, n32, n34, e1, w1, w2]
            · simp [epactlaw23_CdsFloors.c, hx, hP, hI]
          · simp [epactlaw23_CdsFloors.c, hx, hP]
        · by_cases f4 : f = 4
          · subst f4
            have aC := allB_cform (h := 70) 3 4 1000000 (D, S, A) ⟨by decide, by decide⟩
            by_cases hP : cpl (D, S, A)
            · by_cases hI : inD D
              · obtain ⟨g1, g2, g3, g4⟩ := cback34 hP hI
                obtain ⟨p1, p2, p3, p4⟩ : 0 ≤ S ∧ S ≤ 86400 ∧ 0 ≤ A ∧ A < 1000000000000000000 := id hP
                have n20 : cm20 (cform 70 3 4 1000000 (D, S, A)) = ((12 : Nat) = 7) := by unfold cm20; rw [g1.1, g1.2]; simp
                have n22 : cm22 (cform 70 3 4 1000000 (D, S, A)) = ((12 : Nat) = 9) := by unfold cm22; rw [g1.1, g1.2]; simp
                have n24 : cm24 (cform 70 3 4 1000000 (D, S, A)) = ((12 : Nat) = 11) := by unfold cm24; rw [g1.1, g1.2]; simp
                have n30 : cm30 (cform 70 3 4 1000000 (D, S, A)) = ((12 : Nat) = 8) := by unfold cm30; rw [g1.1, g1.2]; simp
                have n32 : cm32 (cform 70 3 4 1000000 (D, S, A)) = ((12 : Nat) = 10) := by unfold cm32; rw [g1.1, g1.2]; simp
                have n34 : cm34 (cform 70 3 4 1000000 (D, S, A)) = ((12 : Nat) = 12) := by unfold cm34; rw [g1.1, g1.2]; simp
                have e1 : A.tmod 1000000 = A % 1000000 := Int.tmod_eq_emod_of_nonneg p3
                have w1 : IntKind.i64.wrap (A % 1000000) = A % 1000000 := wrap_i64_in (by omega) (by omega)
                have w2 : IntKind.i64.wrap (A - A % 1000000) = A - A % 1000000 := wrap_i64_in (by omega) (by omega)
                simp [epactlaw23_CdsFloors.c, hx, hP, hI, aC, g2, g3, g4, n20, n22, n24, n30, n32, n34, e1, w1, w2]
              · simp [epactlaw23_CdsFloors.c, hx, hP, hI]
            · simp [epactlaw23_CdsFloors.c, hx, hP]
          · simp [epactlaw23_CdsFloors.c, hx, hd, hf, f0, f2, f4]
    · simp [epactlaw23_CdsFloors.c, hx, hd, hf, d2, d3]
theorem csame20 {b : List Int} {p : Int} (hb : allB b) (hc : cm20 b) (hA : cA20 b) (hj : inD (cday20 b p)) : cform 64 2 0 1000000000000000 (clab20 b p) = b ∧ cpl (clab20 b p) ∧ inD (clab20 b p).1 ∧ (-9223372036854775808 ≤ (clab20 b p).1 ∧ (clab20 b p).1 < 9223372036854775808) ∧ (-9223372036854775808 ≤ (clab20 b p).2.1 ∧ (clab20 b p).2.1 < 9223372036854775808) ∧ (-9223372036854775808 ≤ (clab20 b p).2.2 ∧ (clab20 b p).2.2 < 9223372036854775808) := by
  obtain ⟨hL, hH⟩ := hc
  obtain ⟨a1, a2⟩ := hA
  have hj2 : -1099511627776 ≤ cday20 b p ∧ cday20 b p ≤ 1099511627776 := hj
  have n1 : 0 ≤ num (List.drop 1 (List.take 3 b)) ∧ num (List.drop 1 (List.take 3 b)) < 65536 := sl_rng hb 1 2 (by omega)
  have n2 : 0 ≤ num (List.drop 3 (List.take 7 b)) ∧ num (List.drop 3 (List.take 7 b)) < 4294967296 := sl_rng hb 3 4 (by omega)
  have n3 : 0 ≤ num (List.drop 7 b) ∧ num (List.drop 7 b) < 1 := dr_rng hb 7 0 (by omega)
  have o1 := oct_num (allB_drop 1 (allB_take 3 hb))
  have o2 := oct_num (allB_drop 3 (allB_take 7 hb))
  have o3 := oct_num (allB_drop 7 hb)
  rw [show (List.drop 1 (List.take 3 b)).length = 2 by rw [List.length_drop, List.length_take]; omega] at o1
  rw [show (List.drop 3 (List.take 7 b)).length = 4 by rw [List.length_drop, List.length_take]; omega] at o2
  rw [show (List.drop 7 b).length = 0 by rw [List.length_drop]; omega] at o3
  have hm := abo_mod (f := num (List.drop 1 (List.take 3 b))) (n := 65536) (p := p - 36204) (by decide)
  have hd : cday20 b p = abo (num (List.drop 1 (List.take 3 b))) 65536 (p - 36204) + 36204 := rfl
  have e1 : (cday20 b p - 36204) % 65536 = num (List.drop 1 (List.take 3 b)) := by omega
  have hbb : b = 64 :: (List.drop 1 (List.take 3 b) ++ List.drop 3 (List.take 7 b) ++ List.drop 7 b) := by
    cases b with
    | nil => cases hL
    | cons x r =>
      have hx : x = 64 := hH
      subst hx
      show _ = 64 :: (List.take 2 r ++ List.drop 2 (List.take 6 r) ++ List.drop 6 r)
      congr 1
      have h1 : List.take 2 r ++ List.drop 2 (List.take 6 r) = List.take 6 r := by
        rw [show List.take 2 r = List.take 2 (List.take 6 r) by rw [List.take_take]; rfl, List.take_append_drop]
      rw [h1, List.take_append_drop]
  unfold cform clab20 cpl
  simp only
  rw [show num (List.drop 3 (List.take 7 b)) / 1000 * 1000 + (num (List.drop 3 (List.take 7 b)) % 1000 * 1000000000000000 + num (List.drop 7 b) * 1000000000000000) / 1000000000000000 = num (List.drop 3 (List.take 7 b)) by omega, show (num (List.drop 3 (List.take 7 b)) % 1000 * 1000000000000000 + num (List.drop 7 b) * 1000000000000000) % 1000000000000000 / 1000000000000000 = num (List.drop 7 b) by omega]
  refine ⟨?_, by omega, hj, by omega, by omega, by omega⟩
  show [64] ++ oct ((cday20 b p - 36204) % 65536) 2 ++ oct (num (List.drop 3 (List.take 7 b))) 4 ++ oct (num (List.drop 7 b)) 0 = b
  rw [e1, o1, o2, o3]
  exact hbb.symm
theorem csame22 {b : List Int} {p : Int} (hb : allB b) (hc : cm22 b) (hA : cA22 b) (hj : inD (cday22 b p)) : cform 65 2 2 1000000000000 (clab22 b p) = b ∧ cpl (clab22 b p) ∧ inD (clab22 b p).1 ∧ (-9223372036854775808 ≤ (clab22 b p).1 ∧ (clab22 b p).1 < 9223372036854775808) ∧ (-9223372036854775808 ≤ (clab22 b p).2.1 ∧ (clab22 b p).2.1 < 9223372036854775808) ∧ (-9223372036854775808 ≤ (clab22 b p).2.2 ∧ (clab22 b p).2.2 < 9223372036854775808) := by
  obtain ⟨hL, hH⟩ := hc
  obtain ⟨a1, a2⟩ := hA
  have hj2 : -1099511627776 ≤ cday22 b p ∧ cday22 b p ≤ 1099511627776 := hj
  have n1 : 0 ≤ num (List.drop 1 (List.take 3 b)) ∧ num (List.drop 1 (List.take 3 b)) < 65536 := sl_rng hb 1 2 (by omega)
  have n2 : 0 ≤ num (List.drop 3 (List.take 7 b)) ∧ num (List.drop 3 (List.take 7 b)) < 4294967296 := sl_rng hb 3 4 (by omega)
  have n3 : 0 ≤ num (List.drop 7 b) ∧ num (List.drop 7 b) < 65536 := dr_rng hb 7 2 (by omega)
  have o1 := oct_num (allB_drop 1 (allB_take 3 hb))
  have o2 := oct_num (allB_drop 3 (allB_take 7 hb))
  have o3 := oct_num (allB_drop 7 hb)
  rw [show (List.drop 1 (List.take 3 b)).length = 2 by rw [List.length_drop, List.length_take]; omega] at o1
  rw [show (List.drop 3 (List.take 7 b)).length = 4 by rw [List.length_drop, List.length_take]; omega] at o2
  rw [show (List.drop 7 b).length = 2 by rw [List.length_drop]; omega] at o3
  have hm := abo_mod (f := num (List.drop 1 (List.take 3 b))) (n := 65536) (p := p - 36204) (by decide)
  have hd : cday22 b p = abo (num (List.drop 1 (List.take 3 b))) 65536 (p - 36204) + 36204 := rfl
  have e1 : (cday22 b p - 36204) % 65536 = num (List.drop 1 (List.take 3 b)) := by omega
  have hbb : b = 65 :: (List.drop 1 (List.take 3 b) ++ List.drop 3 (List.take 7 b) ++ List.drop 7 b) := by
    cases b with
    | nil => cases hL
    | cons x r =>
      have hx : x = 65 := hH
      subst hx
      show _ = 65 :: (List.take 2 r ++ List.drop 2 (List.take 6 r) ++ List.drop 6 r)
      congr 1
      have h1 : List.take 2 r ++ List.drop 2 (List.take 6 r) = List.take 6 r := by
        rw [show List.take 2 r = List.take 2 (List.take 6 r) by rw [List.take_take]; rfl, List.take_append_drop]
      rw [h1, List.take_append_drop]
  unfold cform clab22 cpl
  simp only
  rw [show num (List.drop 3 (List.take 7 b)) / 1000 * 1000 + (num (List.drop 3 (List.take 7 b)) % 1000 * 1000000000000000 + num (List.drop 7 b) * 1000000000000) / 1000000000000000 = num (List.drop 3 (List.take 7 b)) by omega, show (num (List.drop 3 (List.take 7 b)) % 1000 * 1000000000000000 + num (List.drop 7 b) * 1000000000000) % 1000000000000000 / 1000000000000 = num (List.drop 7 b) by omega]
  refine ⟨?_, by omega, hj, by omega, by omega, by omega⟩
  show [65] ++ oct ((cday22 b p - 36204) % 65536) 2 ++ oct (num (List.drop 3 (List.take 7 b))) 4 ++ oct (num (List.drop 7 b)) 2 = b
  rw [e1, o1, o2, o3]
  exact hbb.symm
theorem csame24 {b : List Int} {p : Int} (hb : allB b) (hc : cm24 b) (hA : cA24 b) (hj : inD (cday24 b p)) : cform 66 2 4 1000000 (clab24 b p) = b ∧ cpl (clab24 b p) ∧ inD (clab24 b p).1 ∧ (-9223372036854775808 ≤ (clab24 b p).1 ∧ (clab24 b p).1 < 9223372036854775808) ∧ (-9223372036854775808 ≤ (clab24 b p).2.1 ∧ (clab24 b p).2.1 < 9223372036854775808) ∧ (-9223372036854775808 ≤ (clab24 b p).2.2 ∧ (clab24 b p).2.2 < 9223372036854775808) := by
  obtain ⟨hL, hH⟩ := hc
  obtain ⟨a1, a2⟩ := hA
  have hj2 : -1099511627776 ≤ cday24 b p ∧ cday24 b p ≤ 1099511627776 := hj
  have n1 : 0 ≤ num (List.drop 1 (List.take 3 b)) ∧ num (List.drop 1 (List.take 3 b)) < 65536 := sl_rng hb 1 2 (by omega)
  have n2 : 0 ≤ num (List.drop 3 (List.take 7 b)) ∧ num (List.drop 3 (List.take 7 b)) < 4294967296 := sl_rng hb 3 4 (by omega)
  have n3 : 0 ≤ num (List.drop 7 b) ∧ num (List.drop 7 b) < 4294967296 := dr_rng hb 7 4 (by omega)
  have o1 := oct_num (allB_drop 1 (allB_take 3 hb))
  have o2 := oct_num (allB_drop 3 (allB_take 7 hb))
  have o3 := oct_num (allB_drop 7 hb)
  rw [show (List.drop 1 (List.take 3 b)).length = 2 by rw [List.length_drop, List.length_take]; omega] at o1
  rw [show (List.drop 3 (List.take 7 b)).length = 4 by rw [List.length_drop, List.length_take]; omega] at o2
  rw [show (List.drop 7 b).length = 4 by rw [List.length_drop]; omega] at o3
  have hm := abo_mod (f := num (List.drop 1 (List.take 3 b))) (n := 65536) (p := p - 36204) (by decide)
  have hd : cday24 b p = abo (num (List.drop 1 (List.take 3 b))) 65536 (p - 36204) + 36204 := rfl
  have e1 : (cday24 b p - 36204) % 65536 = num (List.drop 1 (List.take 3 b)) := by omega
  have hbb : b = 66 :: (List.drop 1 (List.take 3 b) ++ List.drop 3 (List.take 7 b) ++ List.drop 7 b) := by
    cases b with
    | nil => cases hL
    | cons x r =>
      have hx : x = 66 := hH
      subst hx
      show _ = 66 :: (List.take 2 r ++ List.drop 2 (List.take 6 r) ++ List.drop 6 r)
      congr 1
      have h1 : List.take 2 r ++ List.drop 2 (List.take 6 r) = List.take 6 r := by
        rw [show List.take 2 r = List.take 2 (List.take 6 r) by rw [List.take_take]; rfl, List.take_append_drop]
      rw [h1, List.take_append_drop]
  unfold cform clab24 cpl
  simp only
  rw [show num (List.drop 3 (List.take 7 b)) / 1000 * 1000 + (num (List.drop 3 (List.take 7 b)) % 1000 * 1000000000000000 + num (List.drop 7 b) * 1000000) / 1000000000000000 = num (List.drop 3 (List.take 7 b)) by omega, show (num (List.drop 3 (List.take 7 b)) % 1000 * 1000000000000000 + num (List.drop 7 b) * 1000000) % 1000000000000000 / 1000000 = num (List.drop 7 b) by omega]
  refine ⟨?_, by omega, hj, by omega, by omega, by omega⟩
  show [66] ++ oct ((cday24 b p - 36204) % 65536) 2 ++ oct (num (List.drop 3 (List.take 7 b))) 4 ++ oct (num (List.drop 7 b)) 4 = b
  rw [e1, o1, o2, o3]
  exact hbb.symm
theorem csame30 {b : List Int} {p : Int} (hb : allB b) (hc : cm30 b) (hA : cA30 b) (hj : inD (cday30 b p)) : cform 68 3 0 1000000000000000 (clab30 b p) = b ∧ cpl (clab30 b p) ∧ inD (clab30 b p).1 ∧ (-9223372036854775808 ≤ (clab30 b p).1 ∧ (clab30 b p).1 < 9223372036854775808) ∧ (-9223372036854775808 ≤ (clab30 b p).2.1 ∧ (clab30 b p).2.1 < 9223372036854775808) ∧ (-9223372036854775808 ≤ (clab30 b p).2.2 ∧ (clab30 b p).2.2 < 9223372036854775808) := by
  obtain ⟨hL, hH⟩ := hc
  obtain ⟨a1, a2⟩ := hA
  have hj2 : -1099511627776 ≤ cday30 b p ∧ cday30 b p ≤ 1099511627776 := hj
  have n1 : 0 ≤ num (List.drop 1 (List.take 4 b)) ∧ num (List.drop 1 (List.take 4 b)) < 16777216 := sl_rng hb 1 3 (by omega)
  have n2 : 0 ≤ num (List.drop 4 (List.take 8 b)) ∧ num (List.drop 4 (List.take 8 b)) < 4294967296 := sl_rng hb 4 4 (by omega)
  have n3 : 0 ≤ num (List.drop 8 b) ∧ num (List.drop 8 b) < 1 := dr_rng hb 8 0 (by omega)
  have o1 := oct_num (allB_drop 1 (allB_take 4 hb))
  have o2 := oct_num (allB_drop 4 (allB_take 8 hb))
  have o3 := oct_num (allB_drop 8 hb)
  rw [show (List.drop 1 (List.take 4 b)).length = 3 by rw [List.length_drop, List.length_take]; omega] at o1
  rw [show (List.drop 4 (List.take 8 b)).length = 4 by rw [List.length_drop, List.length_take]; omega] at o2
  rw [show (List.drop 8 b).length = 0 by rw [List.length_drop]; omega] at o3
  have hm := abo_mod (f := num (List.drop 1 (List.take 4 b))) (n := 16777216) (p := p - 36204) (by decide)
  have hd : cday30 b p = abo (num (List.drop 1 (List.take 4 b))) 16777216 (p - 36204) + 36204 := rfl
  have e1 : (cday30 b p - 36204) % 16777216 = num (List.drop 1 (List.take 4 b)) := by omega
  have hbb : b = 68 :: (List.drop 1 (List.take 4 b) ++ List.drop 4 (List.take 8 b) ++ List.drop 8 b) := by
    cases b with
    | nil => cases hL
    | cons x r =>
      have hx : x = 68 := hH
      subst hx
      show _ = 68 :: (List.take 3 r ++ List.drop 3 (List.take 7 r) ++ List.drop 7 r)
      congr 1
      have h1 : List.take 3 r ++ List.drop 3 (List.take 7 r) = List.take 7 r := by
        rw [show List.take 3 r = List.take 3 (List.take 7 r) by rw [List.take_take]; rfl, List.take_append_drop]
      rw [h1, List.take_append_drop]
  unfold cform clab30 cpl
  simp only
  rw [show num (List.drop 4 (List.take 8 b)) / 1000 * 1000 + (num (List.drop 4 (List.take 8 b)) % 1000 * 1000000000000000 + num (List.drop 8 b) * 1000000000000000) / 1000000000000000 = num (List.drop 4 (List.take 8 b)) by omega, show (num (List.drop 4 (List.take 8 b)) % 1000 * 1000000000000000 + num (List.drop 8 b) * 1000000000000000) % 1000000000000000 / 1000000000000000 = num (List.drop 8 b) by omega]
  refine ⟨?_, by omega, hj, by omega, by omega, by omega⟩
  show [68] ++ oct ((cday30 b p - 36204) % 16777216) 3 ++ oct (num (List.drop 4 (List.take 8 b))) 4 ++ oct (num (List.drop 8 b)) 0 = b
  rw [e1, o1, o2, o3]
  exact hbb.symm
theorem csame32 {b : List Int} {p : Int} (hb : allB b) (hc : cm32 b) (hA : cA32 b) (hj : inD (cday32 b p)) : cform 69 3 2 1000000000000 (clab32 b p) = b ∧ cpl (clab32 b p) ∧ inD (clab32 b p).1 ∧ (-9223372036854775808 ≤ (clab32 b p).1 ∧ (clab32 b p).1 < 9223372036854775808) ∧ (-9223372036854775808 ≤ (clab32 b p).2.1 ∧ (clab32 b p).2.1 < 9223372036854775808) ∧ (-9223372036854775808 ≤ (clab32 b p).2.2 ∧ (clab32 b p).2.2 < 9223372036854775808) := by
  obtain ⟨hL, hH⟩ := hc
  obtain ⟨a1, a2⟩ := hA
  have hj2 : -1099511627776 ≤ cday32 b p ∧ cday32 b p ≤ 1099511627776 := hj
  have n1 : 0 ≤ num (List.drop 1 (List.take 4 b)) ∧ num (List.drop 1 (List.take 4 b)) < 16777216 := sl_rng hb 1 3 (by omega)
  have n2 : 0 ≤ num (List.drop 4 (List.take 8 b)) ∧ num (List.drop 4 (List.take 8 b)) < 4294967296 := sl_rng hb 4 4 (by omega)
  have n3 : 0 ≤ num (List.drop 8 b) ∧ num (List.drop 8 b) < 65536 := dr_rng hb 8 2 (by omega)
  have o1 := oct_num (allB_drop 1 (allB_take 4 hb))
  have o2 := oct_num (allB_drop 4 (allB_take 8 hb))
  have o3 := oct_num (allB_drop 8 hb)
  rw [show (List.drop 1 (List.take 4 b)).length = 3 by rw [List.length_drop, List.length_take]; omega] at o1
  rw [show (List.drop 4 (List.take 8 b)).length = 4 by rw [List.length_drop, List.length_take]; omega] at o2
  rw [show (List.drop 8 b).length = 2 by rw [List.length_drop]; omega] at o3
  have hm := abo_mod (f := num (List.drop 1 (List.take 4 b))) (n := 16777216) (p := p - 36204) (by decide)
  have hd : cday32 b p = abo (num (List.drop 1 (List.take 4 b))) 16777216 (p - 36204) + 36204 := rfl
  have e1 : (cday32 b p - 36204) % 16777216 = num (List.drop 1 (List.take 4 b)) := by omega
  have hbb : b = 69 :: (List.drop 1 (List.take 4 b) ++ List.drop 4 (List.take 8 b) ++ List.drop 8 b) := by
    cases b with
    | nil => cases hL
    | cons x r =>
      have hx : x = 69 := hH
      subst hx
      show _ = 69 :: (List.take 3 r ++ List.drop 3 (List.take 7 r) ++ List.drop 7 r)
      congr 1
      have h1 : List.take 3 r ++ List.drop 3 (List.take 7 r) = List.take 7 r := by
        rw [show List.take 3 r = List.take 3 (List.take 7 r) by rw [List.take_take]; rfl, List.take_append_drop]
      rw [h1, List.take_append_drop]
  unfold cform clab32 cpl
  simp only
  rw [show num (List.drop 4 (List.take 8 b)) / 1000 * 1000 + (num (List.drop 4 (List.take 8 b)) % 1000 * 1000000000000000 + num (List.drop 8 b) * 1000000000000) / 1000000000000000 = num (List.drop 4 (List.take 8 b)) by omega, show (num (List.drop 4 (List.take 8 b)) % 1000 * 1000000000000000 + num (List.drop 8 b) * 1000000000000) % 1000000000000000 / 1000000000000 = num (List.drop 8 b) by omega]
  refine ⟨?_, by omega, hj, by omega, by omega, by omega⟩
  show [69] ++ oct ((cday32 b p - 36204) % 16777216) 3 ++ oct (num (List.drop 4 (List.take 8 b))) 4 ++ oct (num (List.drop 8 b)) 2 = b
  rw [e1, o1, o2, o3]
  exact hbb.symm
theorem csame34 {b : List Int} {p : Int} (hb : allB b) (hc : cm34 b) (hA : cA34 b) (hj : inD (cday34 b p)) : cform 70 3 4 1000000 (clab34 b p) = b ∧ cpl (clab34 b p) ∧ inD (clab34 b p).1 ∧ (-9223372036854775808 ≤ (clab34 b p).1 ∧ (clab34 b p).1 < 9223372036854775808) ∧ (-9223372036854775808 ≤ (clab34 b p).2.1 ∧ (clab34 b p).2.1 < 9223372036854775808) ∧ (-9223372036854775808 ≤ (clab34 b p).2.2 ∧ (clab34 b p).2.2 < 9223372036854775808) := by
  obtain ⟨hL, hH⟩ := hc
  obtain ⟨a1, a2⟩ := hA
  have hj2 : -1099511627776 ≤ cday34 b p ∧ cday34 b p ≤ 1099511627776 := hj
  have n1 : 0 ≤ num (List.drop 1 (List.take 4 b)) ∧ num (List.drop 1 (List.take 4 b)) < 16777216 := sl_rng hb 1 3 (by omega)
  have n2 : 0 ≤ num (List.drop 4 (List.take 8 b)) ∧ num (List.drop 4 (List.take 8 b)) < 4294967296 := sl_rng hb 4 4 (by omega)
  have n3 : 0 ≤ num (List.drop 8 b) ∧ num (List.drop 8 b) < 4294967296 := dr_rng hb 8 4 (by omega)
  have o1 := oct_num (allB_drop 1 (allB_take 4 hb))
  have o2 := oct_num (allB_drop 4 (allB_take 8 hb))
  have o3 := oct_num (allB_drop 8 hb)
  rw [show (List.drop 1 (List.take 4 b)).length = 3 by rw [List.length_drop, List.length_take]; omega] at o1
  rw [show (List.drop 4 (List.take 8 b)).length = 4 by rw [List.length_drop, List.length_take]; omega] at o2
  rw [show (List.drop 8 b).length = 4 by rw [List.length_drop]; omega] at o3
  have hm := abo_mod (f := num (List.drop 1 (List.take 4 b))) (n := 16777216) (p := p - 36204) (by decide)
  have hd : cday34 b p = abo (num (List.drop 1 (List.take 4 b))) 16777216 (p - 36204) + 36204 := rfl
  have e1 : (cday34 b p - 36204) % 16777216 = num (List.drop 1 (List.take 4 b)) := by omega
  have hbb : b = 70 :: (List.drop 1 (List.take 4 b) ++ List.drop 4 (List.take 8 b) ++ List.drop 8 b) := by
    cases b with
    | nil => cases hL
    | cons x r =>
      have hx : x = 70 := hH
      subst hx
      show _ = 70 :: (List.take 3 r ++ List.drop 3 (List.take 7 r) ++ List.drop 7 r)
      congr 1
      have h1 : List.take 3 r ++ List.drop 3 (List.take 7 r) = List.take 7 r := by
        rw [show List.take 3 r = List.take 3 (List.take 7 r) by rw [List.take_take]; rfl, List.take_append_drop]
      rw [h1, List.take_append_drop]
  unfold cform clab34 cpl
  simp only
  rw [show num (List.drop 4 (List.take 8 b)) / 1000 * 1000 + (num (List.drop 4 (List.take 8 b)) % 1000 * 1000000000000000 + num (List.drop 8 b) * 1000000) / 1000000000000000 = num (List.drop 4 (List.take 8 b)) by omega, show (num (List.drop 4 (List.take 8 b)) % 1000 * 1000000000000000 + num (List.drop 8 b) * 1000000) % 1000000000000000 / 1000000 = num (List.drop 8 b) by omega]
  refine ⟨?_, by omega, hj, by omega, by omega, by omega⟩
  show [70] ++ oct ((cday34 b p - 36204) % 16777216) 3 ++ oct (num (List.drop 4 (List.take 8 b))) 4 ++ oct (num (List.drop 8 b)) 4 = b
  rw [e1, o1, o2, o3]
  exact hbb.symm
theorem mCdsSame : MeetsAll Try.prog 11 lawYI := all2 (code_mk Try.func11 epactlaw23_CdsSame.ent epactlaw23_CdsSame.chk okSpLaw23) (by simp [epactlaw23_CdsSame.c]) fun b p hb hp _ => by
  simp at hb hp
  refine ⟨0, ?_⟩
  by_cases c20 : cm20 b
  · by_cases hA : cA20 b
    · by_cases hi : inD p
      · by_cases hj : inD (cday20 b p)
        · obtain ⟨e1, e2, e3, e4, e5, e6⟩ := csame20 hb c20 hA hj
          generalize hX : clab20 b p = X at *
          obtain ⟨D, S, A⟩ := X
          simp only at e3 e4 e5 e6
          simp [epactlaw23_CdsSame.c, hb, hp, c20, hA, hi, hj, hX, e1, e2, e3, e4, e5, e6]
        · simp [epactlaw23_CdsSame.c, hb, hp, c20, hA, hi, hj]
      · simp [epactlaw23_CdsSame.c, hb, hp, c20, hA, hi]
    · simp [epactlaw23_CdsSame.c, hb, hp, c20, hA]
  · by_cases c22 : cm22 b
    · by_cases hA : cA22 b
      · by_cases hi : inD p
        · by_cases hj : inD (cday22 b p)
          · obtain ⟨e1, e2, e3, e4, e5, e6⟩ := csame22 hb c22 hA hj
            generalize hX : clab22 b p = X at *
            obtain ⟨D, S, A⟩ := X
            simp only at e3 e4 e5 e6
            simp [epactlaw23_CdsSame.c, hb, hp, c20, c22, hA, hi, hj, hX, e1, e2, e3, e4, e5, e6]
          · simp [epactlaw23_CdsSame.c, hb, hp, c20, c22, hA, hi, hj]
        · simp [epactlaw23_CdsSame.c, hb, hp, c20, c22, hA, hi]
      · simp [epactlaw23_CdsSame.c, hb, hp, c20, c22, hA]
    · by_cases c24 : cm24 b
      · by_cases hA : cA24 b
        · by_cases hi : inD p
          · by_cases hj : inD (cday24 b p)
            · obtain ⟨e1, e2, e3, e4, e5, e6⟩ := csame24 hb c24 hA hj
              generalize hX : clab24 b p = X at *
              obtain ⟨D, S, A⟩ := X
              simp only at e3 e4 e5 e6
              simp [epactlaw23_CdsSame.c, hb, hp, c20, c22, c24, hA, hi, hj, hX, e1, e2, e3, e4, e5, e6]
            · simp [epactlaw23_CdsSame.c, hb, hp, c20, c22, c24, hA, hi, hj]
          · simp [epactlaw23_CdsSame.c, hb, hp, c20, c22, c24, hA, hi]
        · simp [epactlaw23_CdsSame.c, hb, hp, c20, c22, c24, hA]
      · by_cases c30 : cm30 b
        · by_cases hA : cA30 b
          · by_cases hi : inD p
            · by_cases hj : inD (cday30 b p)
              · obtain ⟨e1, e2, e3, e4, e5, e6⟩ := csame30 hb c30 hA hj
                generalize hX : clab30 b p = X at *
                obtain ⟨D, S, A⟩ := X
                simp only at e3 e4 e5 e6
                simp [epactlaw23_CdsSame.c, hb, hp, c20, c22, c24, c30, hA, hi, hj, hX, e1, e2, e3, e4, e5, e6]
              · simp [epactlaw23_CdsSame.c, hb, hp, c20, c22, c24, c30, hA, hi, hj]
            · simp [epactlaw23_CdsSame.c, hb, hp, c20, c22, c24, c30, hA, hi]
          · simp [epactlaw23_CdsSame.c, hb, hp, c20, c22, c24, c30, hA]
        · by_cases c32 : cm32 b
          · by_cases hA : cA32 b
            · by_cases hi : inD p
              · by_cases hj : inD (cday32 b p)
                · obtain ⟨e1, e2, e3, e4, e5, e6⟩ := csame32 hb c32 hA hj
                  generalize hX : clab32 b p = X at *
                  obtain ⟨D, S, A⟩ := X
                  simp only at e3 e4 e5 e6
                  simp [epactlaw23_CdsSame.c, hb, hp, c20, c22, c24, c30, c32, hA, hi, hj, hX, e1, e2, e3, e4, e5, e6]
                · simp [epactlaw23_CdsSame.c, hb, hp, c20, c22, c24, c30, c32, hA, hi, hj]
              · simp [epactlaw23_CdsSame.c, hb, hp, c20, c22, c24, c30, c32, hA, hi]
            · simp [epactlaw23_CdsSame.c, hb, hp, c20, c22, c24, c30, c32, hA]
          · by_cases c34 : cm34 b
            · by_cases hA : cA34 b
              · by_cases hi : inD p
                · by_cases hj : inD (cday34 b p)
                  · obtain ⟨e1, e2, e3, e4, e5, e6⟩ := csame34 hb c34 hA hj
                    generalize hX : clab34 b p = X at *
                    obtain ⟨D, S, A⟩ := X
                    simp only at e3 e4 e5 e6
                    simp [epactlaw23_CdsSame.c, hb, hp, c20, c22, c24, c30, c32, c34, hA, hi, hj, hX, e1, e2, e3, e4, e5, e6]
                  · simp [epactlaw23_CdsSame.c, hb, hp, c20, c22, c24, c30, c32, c34, hA, hi, hj]
                · simp [epactlaw23_CdsSame.c, hb, hp, c20, c22, c24, c30, c32, c34, hA, hi]
              · simp [epactlaw23_CdsSame.c, hb, hp, c20, c22, c24, c30, c32, c34, hA]
            · simp [epactlaw23_CdsSame.c, hb, hp, c20, c22, c24, c30, c32, c34]
end Go.Proofs.Ytnjipdicfbkfdaa.E

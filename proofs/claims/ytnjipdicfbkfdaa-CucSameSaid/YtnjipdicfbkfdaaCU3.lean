/- The laws of the chapter 22. -/
import Derived.Test.YtnjipdicfbkfdaaCU2
set_option linter.unusedVariables false
set_option linter.unusedSimpArgs false
set_option maxHeartbeats 4000000
set_option maxRecDepth 100000
namespace Go.Proofs.Ytnjipdicfbkfdaa.E
open Go.VC Go.RowKit

abbrev lawWII := s3 coW coI coI Tt3 fun _ _ _ => .o (bv true)
abbrev lawYW := s2 coY coW Tt2 fun _ _ => .o (bv true)
theorem allB_uform {c f : Int} (n : Int) (h : cuM c f) : allB (uform c f n) := allB_app (allB_app (hd_all h) (allB_oct _ _)) (allB_oct _ _)
theorem okAns22 : Ok Try.prog 51 tTrue := ok0 (code_mk Try.func51 epactlaw22_answers.ent epactlaw22_answers.chk (specOk_cons okUEnc (specOk_cons okUDec okSpW))) ⟨0, by
  have e1 : uform 4 1 1500000000000000000 = [29, 0, 0, 0, 1, 128] := by decide
  have e2 : cuM 4 1 := by decide
  have e3 : uOk [29, 0, 0, 0, 1, 128] := by decide
  have e4 : wc [29, 0, 0, 0, 1, 128] = 4 := by decide
  have e5 : wf [29, 0, 0, 0, 1, 128] = 1 := by decide
  have e6 : hasA (ucd [29, 0, 0, 0, 1, 128]) 1 := by decide
  have e7 : abOk (uval [29, 0, 0, 0, 1, 128]) (pw 4 * 1000000000000000000) 0 := by decide
  have e8 : abo (uval [29, 0, 0, 0, 1, 128]) (pw 4 * 1000000000000000000) 0 = 1500000000000000000 := by decide
  have b1 : allB [29, 0, 0, 0, 1, 128] := by decide
  simp [epactlaw22_answers.c, e1, e2, e3, e4, e5, e6, e7, e8, b1]
  rw [ByteArray.toList_eq]
  rfl⟩
abbrev spLaw22 : List (Nat × (List AP → Option AV)) := (51, tTrue) :: (49, tUEnc) :: (52, tUDec) :: (50, tRCuc) :: (53, tFromCuc) :: (30, tSame8) :: (47, tRPower) :: spRef
theorem okSpLaw22 : SpecOk Try.prog (spOf spLaw22) := specOk_cons okAns22 (specOk_cons okUEnc (specOk_cons okUDec (specOk_cons okRCuc (specOk_cons okFromCuc (specOk_cons okSame8 (specOk_cons okRPower okSpRef))))))
theorem mCucEncodes : MeetsAll Try.prog 16 lawWII := all3 (code_mk Try.func16 epactlaw22_CucEncodes.ent epactlaw22_CucEncodes.chk okSpLaw22) (by simp [epactlaw22_CucEncodes.c]) fun n c f hn hc hf _ => by
  simp at hn hc hf
  refine ⟨0, ?_⟩
  by_cases hM : cuM c f
  · have aU := allB_uform n hM
    simp [epactlaw22_CucEncodes.c, hn, hc, hf, hM, aU]
  · simp [epactlaw22_CucEncodes.c, hn, hc, hf, hM]
theorem mCucDecodes : MeetsAll Try.prog 17 lawYW := all2 (code_mk Try.func17 epactlaw22_CucDecodes.ent epactlaw22_CucDecodes.chk okSpLaw22) (by simp [epactlaw22_CucDecodes.c]) fun b p hb hp _ => by
  simp at hb hp
  refine ⟨0, ?_⟩
  by_cases hu : uOk b
  · by_cases hA : hasA (ucd b) (wf b)
    · by_cases ha : abOk (uval b) (pw (wc b) * 1000000000000000000) p <;> simp [epactlaw22_CucDecodes.c, hb, hp, hu, hA, ha]
    · simp [epactlaw22_CucDecodes.c, hb, hp, hu, hA]
  · simp [epactlaw22_CucDecodes.c, hb, hp, hu]
/-- What is encoded tells its widths, and its numbers. -/
theorem uparts {c f : Int} (n : Int) (hM : cuM c f) : uOk (uform c f n) ∧ wc (uform c f n) = c ∧ wf (uform c f n) = f ∧ us (uform c f n) = n / 1000000000000000000 % pw c ∧ ucd (uform c f n) = cd (n % 1000000000000000000) f := by
  obtain ⟨⟨c1, c2⟩, f1, f2⟩ := id hM
  have hL := hd_len c f
  have l1 := oct_len c.toNat (n / 1000000000000000000 % pw c)
  have l2 := oct_len f.toNat (cd (n % 1000000000000000000) f)
  have hp := pw_pos c
  have s0 := Int.emod_nonneg (n / 1000000000000000000) (show pw c ≠ 0 by omega)
  have s1 := Int.emod_lt_of_pos (n / 1000000000000000000) hp
  have hr := cd_rng (a := n % 1000000000000000000) (o := f) (by omega) (by omega)
  have hl := cd_lt (a := n % 1000000000000000000) (o := f) (by omega) (by omega)
  have v1 : num (oct (n / 1000000000000000000 % pw c) c.toNat) = n / 1000000000000000000 % pw c := by
    rw [num_oct, show (c.toNat : Int) = c by omega]; exact Int.emod_eq_of_lt s0 s1
  have v2 : num (oct (cd (n % 1000000000000000000) f) f.toNat) = cd (n % 1000000000000000000) f := by
    rw [num_oct, show (f.toNat : Int) = f by omega]; exact Int.emod_eq_of_lt hr.1 hl
  have e0 : uform c f n = hd c f ++ (oct (n / 1000000000000000000 % pw c) c.toNat ++ oct (cd (n % 1000000000000000000) f) f.toNat) := List.append_assoc _ _ _
  have len : (uform c f n).length = (hd c f).length + (c.toNat + f.toNat) := by rw [e0, List.length_append, List.length_append, l1, l2]
  have hm : um c f (uform c f n) := ⟨by rw [len]; omega, by rw [e0, List.take_left' rfl]⟩
  obtain ⟨⟨e1, e2, e3⟩, hu⟩ := um_ok hM hm
  refine ⟨hu, e1, e2, ?_, ?_⟩
  · unfold us
    rw [e1, e3, e0, List.drop_left' rfl, List.take_left' l1, v1]
  · unfold ucd
    rw [e1, e3, ← List.drop_drop, e0, List.drop_left' rfl, List.drop_left' l1, v2]
theorem ufine {f : Int} (n : Int) : (n % 1000000000000000000 - lst (cd (n % 1000000000000000000) f) f) * pw f < 1000000000000000000 ∧ 0 ≤ lst (cd (n % 1000000000000000000) f) f ∧ lst (cd (n % 1000000000000000000) f) f ≤ n % 1000000000000000000 := by
  obtain ⟨⟨h1, h2⟩, h3, h4⟩ := cd_hasA (a := n % 1000000000000000000) (o := f) (by omega) (by omega)
  refine ⟨?_, h4, h3⟩
  have e1 : cd (lst (cd (n % 1000000000000000000) f) f) f = lst (cd (n % 1000000000000000000) f) f * pw f / 1000000000000000000 := rfl
  have e2 : cd (n % 1000000000000000000) f = n % 1000000000000000000 * pw f / 1000000000000000000 := rfl
  rw [Int.sub_mul]
  generalize hL : lst (cd (n % 1000000000000000000) f) f = L at *
  generalize hc : cd (n % 1000000000000000000) f = c at *
  generalize n % 1000000000000000000 * pw f = X at *
  generalize L * pw f = Y at *
  omega
theorem uback {c f : Int} (n : Int) (hM : cuM c f) : abo (n / 1000000000000000000 % pw c * 1000000000000000000 + lst (cd (n % 1000000000000000000) f) f) (pw c * 1000000000000000000) n = n / 1000000000000000000 * 1000000000000000000 + lst (cd (n % 1000000000000000000) f) f := by
  obtain ⟨h3, h4, h5⟩ := ufine (f := f) n
  obtain ⟨⟨c1, c2⟩, f1, f2⟩ := id hM
  have hp1 : 256 ≤ pw c := pw_mono (m := 1) c1
  have r0 := Int.emod_nonneg (n / 1000000000000000000) (show pw c ≠ 0 by omega)
  have r1 := Int.emod_lt_of_pos (n / 1000000000000000000) (show 0 < pw c by omega)
  have h1 := Int.mul_ediv_add_emod (n / 1000000000000000000) (pw c)
  generalize hL : lst (cd (n % 1000000000000000000) f) f = L at *
  refine abo_only (by omega) ?_ (by omega) (by omega)
  have e : n / 1000000000000000000 * 1000000000000000000 + L = (n / 1000000000000000000 % pw c * 1000000000000000000 + L) + pw c * 1000000000000000000 * (n / 1000000000000000000 / pw c) := by
    have h3 : pw c * 1000000000000000000 * (n / 1000000000000000000 / pw c) = 1000000000000000000 * (pw c * (n / 1000000000000000000 / pw c)) := by rw [Int.mul_comm (pw c), Int.mul_assoc]
    rw [h3]
    omega
  rw [e, Int.add_mul_emod_self_left]
theorem mCucFloors : MeetsAll Try.prog 18 lawWII := all3 (code_mk Try.func18 epactlaw22_CucFloors.ent epactlaw22_CucFloors.chk okSpLaw22) (by simp [epactlaw22_CucFloors.c]) fun n c f hn hc hf _ => by
  simp at hn hc hf
  refine ⟨0, ?_⟩
  by_cases hM : cuM c f
  · have aU := allB_uform n hM
    obtain ⟨hu, e1, e2, e3, e4⟩ := uparts n hM
    obtain ⟨h4, h5, h6⟩ := ufine (f := f) n
    have hb := uback n hM
    have hA := (cd_hasA (a := n % 1000000000000000000) (o := f) (by omega) (by omega)).1
    have eV : uval (uform c f n) = n / 1000000000000000000 % pw c * 1000000000000000000 + lst (cd (n % 1000000000000000000) f) f := by unfold uval; rw [e2, e3, e4]
    obtain ⟨⟨c1, c2⟩, f1, f2⟩ := id hM
    by_cases ha : abOk (n / 1000000000000000000 % pw c * 1000000000000000000 + lst (cd (n % 1000000000000000000) f) f) (pw c * 1000000000000000000) n
    · have g := ha.2
      rw [hb] at g
      have e5 : n - (n / 1000000000000000000 * 1000000000000000000 + lst (cd (n % 1000000000000000000) f) f) = n % 1000000000000000000 - lst (cd (n % 1000000000000000000) f) f := by omega
      have s0 := md_sm (w_md hn)
      have s1 := md_sm (w_md g)
      have h10 := pw_10 f2
      have hp0 := pw_pos f
      have s2 : smB (n % 1000000000000000000 - lst (cd (n % 1000000000000000000) f) f) := by unfold smB; omega
      have s3 : smB (pw f) := by unfold smB; omega
      have hx : 0 ≤ (n % 1000000000000000000 - lst (cd (n % 1000000000000000000) f) f) * pw f := Int.mul_nonneg (by omega) (by omega)
      have s4 : smB ((n % 1000000000000000000 - lst (cd (n % 1000000000000000000) f) f) * pw f) := by unfold smB; omega
      have s5 : smB 1000000000000000000 := by decide
      have h6' := Int.not_lt.2 h6
      have h4' := Int.not_le.2 h4
      have f1000 : f ≤ 1000 := by omega
      by_cases h8 : f < 8
      · simp [epactlaw22_CucFloors.c, hn, hc, hf, hM, aU, hu, e1, e2, e4, eV, hA, ha, hb, g, e5, s0, s1, s2, s3, s4, s5, h4, h4', h6, h6', f1, f1000, h8]
      · have h8' := Int.not_lt.1 h8
        have e8 : lst (cd (n % 1000000000000000000) f) f = n % 1000000000000000000 := cd_lst8 (by omega) (by omega) h8'
        have e9 : n / 1000000000000000000 * 1000000000000000000 + n % 1000000000000000000 = n := by omega
        rw [e8] at eV ha hb g s1
        rw [e9] at hb g s1
        have z0 : smB 0 := by decide
        simp [epactlaw22_CucFloors.c, hn, hc, hf, hM, aU, hu, e1, e2, e4, e8, eV, hA, ha, hb, g, s0, s1, s3, s5, z0, f1, f1000, h8, h8']
    · simp [epactlaw22_CucFloors.c, hn, hc, hf, hM, aU, hu, e1, e2, e4, eV, hA, ha]
  · simp [epactlaw22_CucFloors.c, hn, hc, hf, hM]
/-- What is read is encoded the same. -/
theorem usame {b : List Int} {n : Int} (hb : allB b) (hu : uOk b) (hA : hasA (ucd b) (wf b)) (h : n % (pw (wc b) * 1000000000000000000) = uval b % (pw (wc b) * 1000000000000000000)) : uform (wc b) (wf b) n = b := by
  obtain ⟨⟨n0, n1⟩, n2, n3⟩ := u_rng hb hu
  obtain ⟨hM, ⟨hl, ht⟩, ek⟩ := ok_um hu
  obtain ⟨⟨c1, c2⟩, f1, f2⟩ := id hM
  obtain ⟨l0, l1⟩ := lst_rng n2 n3
  have l2 := hA.1
  have hp := pw_pos (wc b)
  have hL := hd_len (wc b) (wf b)
  obtain ⟨g1, g2⟩ := fold_cut n (pw (wc b)) hp
  have h2 : uval b % (pw (wc b) * 1000000000000000000) = us b * 1000000000000000000 + lst (ucd b) (wf b) := Int.emod_eq_of_lt (by unfold uval; omega) (by unfold uval; omega)
  rw [h, h2] at g1 g2
  have e1 : n / 1000000000000000000 % pw (wc b) = us b := by omega
  have e2 : n % 1000000000000000000 = lst (ucd b) (wf b) := by omega
  have e3 : cd (lst (ucd b) (wf b)) (wf b) = ucd b := hA.2
  have o1 := oct_num (allB_take (wc b).toNat (allB_drop (wk b) hb))
  have o2 := oct_num (allB_drop (wk b + (wc b).toNat) hb)
  rw [List.length_take, List.length_drop, Nat.min_eq_left (by omega)] at o1
  rw [List.length_drop, show b.length - (wk b + (wc b).toNat) = (wf b).toNat by omega] at o2
  have o1 : oct (us b) (wc b).toNat = List.take (wc b).toNat (List.drop (wk b) b) := o1
  have o2 : oct (ucd b) (wf b).toNat = List.drop (wk b + (wc b).toNat) b := o2
  show hd (wc b) (wf b) ++ oct (n / 1000000000000000000 % pw (wc b)) (wc b).toNat ++ oct (cd (n % 1000000000000000000) (wf b)) (wf b).toNat = b
  rw [e1, e2, e3, o1, o2, ← hu.1.2, ← List.drop_drop, List.append_assoc, List.take_append_drop, List.take_append_drop]
theorem mCucSame : MeetsAll Try.prog 19 lawYW := all2 (code_mk Try.func19 epactlaw22_CucSame.ent epactlaw22_CucSame.chk okSpLaw22) (by simp [epactlaw22_CucSame.c]) fun b p hb hp _ => by
  simp at hb hp
  refine ⟨0, ?_⟩
  by_cases hu : uOk b
  · by_cases hA : hasA (ucd b) (wf b)
    · by_cases ha : abOk (uval b) (pw (wc b) * 1000000000000000000) p
      · have hp0 := pw_pos (wc b)
        have e := usame hb hu hA (abo_mod (f := uval b) (p := p) (show (0 : Int) < pw (wc b) * 1000000000000000000 by omega))
        have g := ha.2
        obtain ⟨hM, _⟩ := ok_um hu
        have y : (-9223372036854775808 ≤ wc b ∧ wc b < 9223372036854775808) ∧ (-9223372036854775808 ≤ wf b ∧ wf b < 9223372036854775808) := by unfold cuM at hM; omega
        simp [epactlaw22_CucSame.c, hb, hp, hu, hA, ha, g, e, hM, y]
      · simp [epactlaw22_CucSame.c, hb, hp, hu, hA, ha]
    · simp [epactlaw22_CucSame.c, hb, hp, hu, hA]
  · simp [epactlaw22_CucSame.c, hb, hp, hu]
end Go.Proofs.Ytnjipdicfbkfdaa.E

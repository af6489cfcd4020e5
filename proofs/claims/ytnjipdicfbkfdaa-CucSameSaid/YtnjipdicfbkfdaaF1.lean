/- What the package frac and the reference's octets do. -/
import Derived.Test.YtnjipdicfbkfdaaP0
set_option linter.unusedVariables false
set_option linter.unusedSimpArgs false
set_option maxHeartbeats 2000000
set_option maxRecDepth 100000
namespace Go.Proofs.Ytnjipdicfbkfdaa.E
open Go.VC Go.RowKit

/-! ### Powers of 256 -/
def pw (n : Int) : Int := 256 ^ n.toNat
theorem pw_pos (n : Int) : 0 < pw n := Int.pow_pos (by decide)
theorem pw_0 : pw 0 = 1 := rfl
theorem pw_succ {n : Int} (h : 0 ≤ n) : pw (n + 1) = pw n * 256 := by
  unfold pw
  rw [show (n + 1).toNat = n.toNat + 1 by omega, Int.pow_succ]
theorem pw_mono {m n : Int} (h : m ≤ n) : pw m ≤ pw n := by
  unfold pw
  have e : ∀ k : Nat, ((256 ^ k : Nat) : Int) = (256 : Int) ^ k := fun k => by push_cast; rfl
  rw [← e, ← e]
  exact Int.ofNat_le.2 (Nat.pow_le_pow_right (by decide) (by omega))
theorem pw_15 {n : Int} (h : n ≤ 15) : pw n ≤ 1329227995784915872903807060280344576 := pw_mono h
theorem pw_10 {n : Int} (h : n ≤ 10) : pw n ≤ 1208925819614629174706176 := pw_mono h
theorem pw_7 {n : Int} (h : n ≤ 7) : pw n ≤ 72057594037927936 := pw_mono h
theorem pw_8 {n : Int} (h : 8 ≤ n) : 18446744073709551616 ≤ pw n := pw_mono h
theorem pw_2 {n : Int} (h : 0 ≤ n) : (2 : Int) ^ (8 * n).toNat = pw n := by
  unfold pw
  rw [show (8 * n).toNat = 8 * n.toNat by omega, Int.pow_mul]
  rfl
abbrev tPw := s1 coI (fun n => 0 ≤ n ∧ n ≤ 15) fun n => .o (wd (pw n))
theorem okPw : Ok Try.prog 108 tPw := ok1 (code_mk Try.func108 frac_power.ent frac_power.chk okSpW) (by simp [frac_power.c]) fun n hn hg => by
  simp at hn hg
  refine ⟨20, ?_⟩
  simp [frac_power.c, hn]
  refine loopW_iter (fun i s => s.tm 2 = .o (.c (.p 2 0)) ∧ s.tm 3 = .o (.c (.p 3 0)) ∧ s.tm 5 = .o (.c (.v (.int .i64 n))) ∧ s.tm 6 = .o (.c (.v (.int .i64 (i : Int)))) ∧ s.mem 2 = some [.v (.int .i64 0), .v (.int .u64 0)] ∧ s.mem 3 = some [.v (.int .i64 (whi (pw (i : Int)))), .v (.int .u64 (wlo (pw (i : Int))))]) n.toNat ?_ ?_ 20 _ (by omega) ?_
  · rintro i s hi ⟨t2, t3, t5, t6, m2, m3⟩
    have h1 := pw_pos (i : Int)
    have h2 := pw_15 (n := (i : Int) + 1) (by omega)
    have h3 := pw_succ (n := (i : Int)) (by omega)
    rw [h3] at h2
    have c : (i : Int) < n := by omega
    have w : IntKind.i64.wrap ((i : Int) + 1) = (i : Int) + 1 := wrap_i64_in (by omega) (by omega)
    have f1 : -170141183460469231731687303715884105728 ≤ pw (i : Int) ∧ pw (i : Int) < 170141183460469231731687303715884105728 := by omega
    have f2 : -170141183460469231731687303715884105728 ≤ pw (i : Int) * 256 ∧ pw (i : Int) * 256 < 170141183460469231731687303715884105728 := by omega
    simp [frac_power.l1, t2, t3, t5, t6, m2, m3, c, w, f1, f2, h3]
  · rintro s ⟨t2, t3, t5, t6, m2, m3⟩
    have e : (n.toNat : Int) = n := by omega
    rw [e] at t6 m3
    have h2 := pw_15 hg.2
    have h1 := pw_pos n
    simp [frac_power.l1, t2, t3, t5, t6, m2, m3]
  · simp [pw_0]
abbrev tRPower := s1 coI (fun n => 0 ≤ n ∧ n ≤ 1000) fun n => .o (mkB (pw n))
theorem okRPower : Ok Try.prog 47 tRPower := ok1 (code_mk Try.func47 epactref19_Power.ent epactref19_Power.chk (specOk_cons okPow2 specOk_nil)) (by simp [epactref19_Power.c]) fun n hn hg => by
  simp at hn hg
  refine ⟨0, ?_⟩
  have w : IntKind.i64.wrap (8 * n) = 8 * n := wrap_i64_in (by omega) (by omega)
  have c1 : 8 * n ≤ 1000000 := by omega
  have c2 : -9223372036854775808 ≤ 8 * n ∧ 8 * n < 9223372036854775808 := by omega
  have c3 : 0 ≤ 8 * n := by omega
  have e := pw_2 hg.1
  simp [epactref19_Power.c, hn, w, c1, c2, c3, e]
/-! ### From 0 to less than a number -/
abbrev tBelow := s2 coW coW Tt2 fun n e => .o (bv (decide (0 ≤ n ∧ n < e)))
theorem okBelow : Ok Try.prog 107 tBelow := ok2 (code_mk Try.func107 frac_below.ent frac_below.chk okSpW) (by simp [frac_below.c]) fun n e hn he _ => by
  simp at hn he
  refine ⟨0, ?_⟩
  by_cases h : 0 ≤ n <;> simp [frac_below.c, hn, he, h]
/-! ### Codes of attoseconds -/
def cd (a o : Int) : Int := a * pw o / 1000000000000000000
/-- The least attosecond whose code is not less. -/
def lst (f o : Int) : Int := f * 1000000000000000000 / pw o + if f * 1000000000000000000 % pw o = 0 then 0 else 1
theorem cd_rng {a o : Int} (h0 : 0 ≤ a) (h1 : a ≤ 1000000000000000000) : 0 ≤ cd a o ∧ cd a o ≤ pw o := by
  have hp := pw_pos o
  unfold cd
  constructor
  · exact Int.ediv_nonneg (Int.mul_nonneg h0 (by omega)) (by decide)
  · have : a * pw o ≤ 1000000000000000000 * pw o := Int.mul_le_mul_of_nonneg_right h1 (by omega)
    omega
theorem cd_lt {a o : Int} (h0 : 0 ≤ a) (h1 : a < 1000000000000000000) : cd a o < pw o := by
  have hp := pw_pos o
  unfold cd
  have : a * pw o < 1000000000000000000 * pw o := Int.mul_lt_mul_of_pos_right h1 hp
  omega
/-- cd a ≥ f just if a ≥ lst f. -/
theorem cd_lst {a f o : Int} : f ≤ cd a o ↔ lst f o ≤ a := by
  have hp := pw_pos o
  have hm := Int.mul_ediv_add_emod (f * 1000000000000000000) (pw o)
  have r0 := Int.emod_nonneg (f * 1000000000000000000) (show pw o ≠ 0 by omega)
  have r1 := Int.emod_lt_of_pos (f * 1000000000000000000) hp
  unfold cd lst
  generalize hP : pw o = P at *
  generalize hq : f * 1000000000000000000 / P = q at *
  generalize hr : f * 1000000000000000000 % P = r at *
  have e : f ≤ a * P / 1000000000000000000 ↔ f * 1000000000000000000 ≤ a * P := by omega
  rw [e, ← hm, Int.mul_comm a P]
  by_cases h : r = 0
  · rw [if_pos h]
    constructor
    · intro h1
      refine Int.le_of_mul_le_mul_left (a := P) ?_ hp
      rw [Int.add_zero]
      omega
    · intro h1
      have := Int.mul_le_mul_of_nonneg_left (show q ≤ a by omega) (show 0 ≤ P by omega)
      omega
  · rw [if_neg h]
    constructor
    · intro h1
      have : P * q < P * a := by omega
      have := Int.lt_of_mul_lt_mul_left this (show 0 ≤ P by omega)
      omega
    · intro h1
      have := Int.mul_le_mul_of_nonneg_left (show q + 1 ≤ a by omega) (show 0 ≤ P by omega)
      rw [Int.mul_add, Int.mul_one] at this
      omega
theorem lst_rng {f o : Int} (h0 : 0 ≤ f) (h1 : f < pw o) : 0 ≤ lst f o ∧ lst f o ≤ 1000000000000000000 := by
  have hp := pw_pos o
  constructor
  · have : 0 ≤ f * 1000000000000000000 / pw o := Int.ediv_nonneg (by omega) (by omega)
    unfold lst
    split <;> omega
  · rw [← cd_lst]
    unfold cd
    omega
abbrev tCode := s2 coI coI (fun a o => (0 ≤ a ∧ a ≤ 1000000000000000000) ∧ (0 ≤ o ∧ o ≤ 10)) fun a o => .o (wd (cd a o))
theorem okCode : Ok Try.prog 115 tCode := ok2 (code_mk Try.func115 frac_code.ent frac_code.chk (specOk_cons okPw okSpW)) (by simp [frac_code.c]) fun a o ha ho hg => by
  simp at ha ho hg
  refine ⟨0, ?_⟩
  have hp := pw_pos o
  have h15 := pw_10 hg.2.2
  have c1 : o ≤ 15 := by omega
  have f1 : -170141183460469231731687303715884105728 ≤ a ∧ a < 170141183460469231731687303715884105728 := by omega
  have f2 : -170141183460469231731687303715884105728 ≤ pw o ∧ pw o < 170141183460469231731687303715884105728 := by omega
  have hc := cd_rng (o := o) hg.1.1 hg.1.2
  have f3 : -170141183460469231731687303715884105728 ≤ a * pw o / 1000000000000000000 ∧ a * pw o / 1000000000000000000 < 170141183460469231731687303715884105728 := by unfold cd at hc; omega
  simp [frac_code.c, ha, ho, hg, f1, f2, f3, c1, cd]
abbrev tRCode := s2 coI coI (fun a o => (0 ≤ a ∧ a ≤ 1000000000000000000) ∧ (0 ≤ o ∧ o ≤ 10)) fun a o => .o (mkB (cd a o))
theorem okRCode : Ok Try.prog 90 tRCode := ok2 (code_mk Try.func90 epactref19_Code.ent epactref19_Code.chk (specOk_cons okRPower okSpRef)) (by simp [epactref19_Code.c]) fun a o ha ho hg => by
  simp at ha ho hg
  refine ⟨0, ?_⟩
  have hp := pw_pos o
  have h15 := pw_10 hg.2.2
  have c1 : o ≤ 1000 := by omega
  have s1 := md_sm (show md a by unfold md; omega)
  have s2 := md_sm (show md (pw o) by unfold md; omega)
  have s4 : smB 1000000000000000000 := by decide
  have m0 : 0 ≤ a * pw o := Int.mul_nonneg hg.1.1 (by omega)
  have m1 : a * pw o ≤ 1000000000000000000 * pw o := Int.mul_le_mul_of_nonneg_right hg.1.2 (by omega)
  have s3 := md_sm (show md (a * pw o) by unfold md; omega)
  simp [epactref19_Code.c, ha, ho, hg, s1, s2, s3, s4, c1, cd]
abbrev tFEncode := s2 coI coI Tt2 fun a o => if (0 ≤ a ∧ a < 1000000000000000000) ∧ (0 ≤ o ∧ o ≤ 10) then .t [wd (cd a o), iv .i64 0] else .t [wd 0, iv .i64 1]
theorem okFEncode : Ok Try.prog 89 tFEncode := ok2 (code_mk Try.func89 frac_Encode.ent frac_Encode.chk (specOk_cons okCode specOk_nil)) (by simp [frac_Encode.c]) fun a o ha ho _ => by
  simp at ha ho
  refine ⟨0, ?_⟩
  by_cases h1 : 0 ≤ a
  · have h1' := Int.not_lt.2 h1
    by_cases h2 : a < 1000000000000000000
    · have h2' := Int.not_le.2 h2
      have h2'' := Int.le_of_lt h2
      by_cases h3 : 0 ≤ o
      · have h3' := Int.not_lt.2 h3
        by_cases h4 : o ≤ 10
        · have h4' := Int.not_lt.2 h4
          simp [frac_Encode.c, ha, ho, h1, h1', h2, h2', h2'', h3, h3', h4, h4']
        · have h4' := Int.not_le.1 h4
          simp [frac_Encode.c, ha, ho, h1, h1', h2, h2', h3, h3', h4, h4']
      · have h3' := Int.not_le.1 h3
        simp [frac_Encode.c, ha, ho, h1, h1', h2, h2', h3, h3']
    · have h2' := Int.not_lt.1 h2
      simp [frac_Encode.c, ha, ho, h1, h1', h2, h2']
  · have h1' := Int.not_le.1 h1
    simp [frac_Encode.c, ha, ho, h1, h1']
/-- Has a code an attosecond? -/
def hasA (f o : Int) : Prop := lst f o ≠ 1000000000000000000 ∧ cd (lst f o) o = f
instance (f o : Int) : Decidable (hasA f o) := inferInstanceAs (Decidable (_ ∧ _))
abbrev tFDecode := s2 coW coI Tt2 fun f o => if (0 ≤ o ∧ o ≤ 10) ∧ (0 ≤ f ∧ f < pw o) then (if hasA f o then .t [iv .i64 (lst f o), iv .i64 0] else .t [iv .i64 0, iv .i64 13]) else .t [iv .i64 0, iv .i64 1]
theorem okFDecode : Ok Try.prog 91 tFDecode := ok2 (code_mk Try.func91 frac_Decode.ent frac_Decode.chk (specOk_cons okPw (specOk_cons okBelow (specOk_cons okCode okSpW)))) (by simp [frac_Decode.c]) fun f o hf ho _ => by
  simp at hf ho
  refine ⟨0, ?_⟩
  have hp := pw_pos o
  by_cases h3 : 0 ≤ o
  · have h3' := Int.not_lt.2 h3
    by_cases h4 : o ≤ 10
    · have h4' := Int.not_lt.2 h4
      have h15 := pw_10 h4
      have c1 : o ≤ 15 := by omega
      have f2 : -170141183460469231731687303715884105728 ≤ pw o ∧ pw o < 170141183460469231731687303715884105728 := by omega
      have hp' := Int.not_le.2 hp
      by_cases h1 : 0 ≤ f ∧ f < pw o
      · obtain ⟨l0, l1⟩ := lst_rng h1.1 h1.2
        have q0 : 0 ≤ f * 1000000000000000000 / pw o := Int.ediv_nonneg (by omega) (by omega)
        have r0 := Int.emod_nonneg (f * 1000000000000000000) (show pw o ≠ 0 by omega)
        have r1 := Int.emod_lt_of_pos (f * 1000000000000000000) hp
        have q1 : f * 1000000000000000000 / pw o ≤ lst f o := by unfold lst; split <;> omega
        have f3 : -170141183460469231731687303715884105728 ≤ f * 1000000000000000000 / pw o ∧ f * 1000000000000000000 / pw o < 170141183460469231731687303715884105728 := by omega
        have f4 : -9223372036854775808 ≤ f * 1000000000000000000 / pw o ∧ f * 1000000000000000000 / pw o < 9223372036854775808 := by omega
        have f5 : -9223372036854775808 ≤ lst f o ∧ lst f o < 9223372036854775808 := by omega
        have f6 : -170141183460469231731687303715884105728 ≤ f * 1000000000000000000 % pw o ∧ f * 1000000000000000000 % pw o < 170141183460469231731687303715884105728 := by omega
        by_cases hr : f * 1000000000000000000 % pw o = 0
        · have e : f * 1000000000000000000 / pw o = lst f o := by unfold lst; rw [if_pos hr]; omega
          rw [e] at f3
          by_cases hs : lst f o = 1000000000000000000
          · simp [frac_Decode.c, hf, ho, h3, h3', h4, h4', h1, hp, hp', c1, f2, f3, f5, f6, hr, e, hs, hasA]
          · by_cases hc : cd (lst f o) o = f
            · simp [frac_Decode.c, hf, ho, h3, h3', h4, h4', h1, hp, hp', c1, f2, f3, f5, f6, hr, e, hs, hc, hasA, l0, l1]
            · simp [frac_Decode.c, hf, ho, h3, h3', h4, h4', h1, hp, hp', c1, f2, f3, f5, f6, hr, e, hs, hc, hasA, l0, l1]
        · have e : f * 1000000000000000000 / pw o + 1 = lst f o := by unfold lst; rw [if_neg hr]
          have w : IntKind.i64.wrap (lst f o) = lst f o := wrap_i64_in (by omega) (by omega)
          by_cases hs : lst f o = 1000000000000000000
          · rw [hs] at e
            have w2 : IntKind.i64.wrap 1000000000000000000 = 1000000000000000000 := rfl
            simp [frac_Decode.c, hf, ho, h3, h3', h4, h4', h1, hp, hp', c1, f2, f3, f4, f6, hr, e, w2, hs, hasA]
          · by_cases hc : cd (lst f o) o = f
            · simp [frac_Decode.c, hf, ho, h3, h3', h4, h4', h1, hp, hp', c1, f2, f3, f4, f5, f6, hr, e, w, hs, hc, hasA, l0, l1]
            · simp [frac_Decode.c, hf, ho, h3, h3', h4, h4', h1, hp, hp', c1, f2, f3, f4, f5, f6, hr, e, w, hs, hc, hasA, l0, l1]
      · simp [frac_Decode.c, hf, ho, h3, h3', h4, h4', h1, c1, f2]
    · have h4' := Int.not_le.1 h4
      simp [frac_Decode.c, hf, ho, h3, h3', h4, h4']
  · have h3' := Int.not_le.1 h3
    simp [frac_Decode.c, hf, ho, h3, h3']
end Go.Proofs.Ytnjipdicfbkfdaa.E

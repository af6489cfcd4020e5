/- What the package ntp does. -/
import Derived.Test.YtnjipdicfbkfdaaQ1
set_option linter.unusedVariables false
set_option linter.unusedSimpArgs false
set_option maxHeartbeats 4000000
set_option maxRecDepth 100000
namespace Go.Proofs.Ytnjipdicfbkfdaa.E
open Go.VC Go.RowKit

abbrev tNShape := s1 coI Tt1 fun b => if b = 32 then .t [iv .i64 2, iv .i64 0] else if b = 64 then .t [iv .i64 4, iv .i64 0] else if b = 128 then .t [iv .i64 8, iv .i64 0] else .t [iv .i64 0, iv .i64 1]
theorem okNShape : Ok Try.prog 87 tNShape := ok1 (code_mk Try.func87 ntp_shape.ent ntp_shape.chk specOk_nil) (by simp [ntp_shape.c]) fun b hb _ => by
  refine ⟨0, ?_⟩
  have x2 : IntKind.i64.wrap 2 = 2 := rfl
  have x4 : IntKind.i64.wrap 4 = 4 := rfl
  have x8 : IntKind.i64.wrap 8 = 8 := rfl
  by_cases h1 : b = 32
  · simp [ntp_shape.c, h1, x2]
  · by_cases h2 : b = 64
    · simp [ntp_shape.c, h1, h2, x4]
    · by_cases h3 : b = 128
      · simp [ntp_shape.c, h1, h2, h3, x8]
      · simp [ntp_shape.c, h1, h2, h3]
abbrev tNEra := s1 coI (fun n => 0 ≤ n ∧ n ≤ 15) fun n => .o (wd (pw n))
theorem okNEra : Ok Try.prog 88 tNEra := ok1 (code_mk Try.func88 ntp_era.ent ntp_era.chk okSpW) (by simp [ntp_era.c]) fun n hn hg => by
  simp at hn hg
  refine ⟨20, ?_⟩
  simp [ntp_era.c, hn]
  refine loopW_iter (fun i s => s.tm 2 = .o (.c (.p 2 0)) ∧ s.tm 3 = .o (.c (.p 3 0)) ∧ s.tm 5 = .o (.c (.v (.int .i64 n))) ∧ s.tm 6 = .o (.c (.v (.int .i64 (i : Int)))) ∧ s.mem 2 = some [.v (.int .i64 0), .v (.int .u64 0)] ∧ s.mem 3 = some [.v (.int .i64 (whi (pw (i : Int)))), .v (.int .u64 (wlo (pw (i : Int))))]) n.toNat ?_ ?_ 20 _ (by omega) ?_
  · rintro i s hi ⟨t2, t3, t5, t6, m2, m3⟩
    have h1 := pw_pos (i : Int)
    have h2 := pw_15 (n := (i : Int) + 1) (by omega)
    have h3 := pw_succ (n := (i : Int)) (by omega)
    rw [h3] at h2
    have c : (i : Int) < n := by omega
    have w : IntKind.i64.wrap ((i : Int) + 1) = (i : Int) + 1 := wrap_i64_in (by omega) (by omega)
    have f1 : -170141183460469231731687303715884105728 ≤ pw (i : Int) ∧ pw (i : Int) < 170141183460469231731687303715884105728 := by omega
    have f2 : -170141183460469231731687303715884105728 ≤ pw (i : Int) * 256 ∧ pw (i : Int) * 256 < 170141183460469231731687303715884105728 := by omega
    simp [ntp_era.l1, t2, t3, t5, t6, m2, m3, c, w, f1, f2, h3]
  · rintro s ⟨t2, t3, t5, t6, m2, m3⟩
    have e : (n.toNat : Int) = n := by omega
    rw [e] at t6 m3
    have h2 := pw_15 hg.2
    have h1 := pw_pos n
    simp [ntp_era.l1, t2, t3, t5, t6, m2, m3]
  · simp [pw_0]
abbrev tNSecs := s1 coW (fun n => -170141183460469231731687303715884105728 ≤ n * 1000000000000000000 ∧ n * 1000000000000000000 < 170141183460469231731687303715884105728) fun n => .o (wd (n * 1000000000000000000))
theorem okNSecs : Ok Try.prog 92 tNSecs := ok1 (code_mk Try.func92 ntp_seconds.ent ntp_seconds.chk okSpW) (by simp [ntp_seconds.c]) fun n hn hg => by
  simp at hn
  refine ⟨0, ?_⟩
  have f := hg
  simp [ntp_seconds.c, hn, f]
/-! ### The forms -/
/-- The octets of a time: k of seconds, k of fractions. -/
def nform (k : Nat) (n : Int) : List Int := oct (n / 1000000000000000000 % pw k) k ++ oct (cd (n % 1000000000000000000) k) k
abbrev nEnc (b n : Int) : AV := if b = 32 then .t [.c (.r .u8 (nform 2 n)), iv .i64 0] else if b = 64 then .t [.c (.r .u8 (nform 4 n)), iv .i64 0] else if b = 128 then (if -9223372036854775808 ≤ n / 1000000000000000000 ∧ n / 1000000000000000000 < 9223372036854775808 then .t [.c (.r .u8 (nform 8 n)), iv .i64 0] else .t [.c (.r .u8 []), iv .i64 2]) else .t [.c (.r .u8 []), iv .i64 1]
abbrev tNEnc := s2 coI coW Tt2 fun b n => nEnc b n
theorem okNEnc : Ok Try.prog 41 tNEnc := ok2 (code_mk Try.func41 ntp_Encode.ent ntp_Encode.chk (specOk_cons okNShape (specOk_cons okNEra (specOk_cons okFEncode (specOk_cons okFold (specOk_cons okPut (specOk_cons okConcat okSpW))))))) (by simp [ntp_Encode.c]) fun b n hb hn _ => by
  simp at hb hn
  refine ⟨0, ?_⟩
  have q1 := div_fits hn.1 hn.2 (show (0 : Int) < 1000000000000000000 by decide)
  have a0 : 0 ≤ n % 1000000000000000000 := by omega
  have a1 : n % 1000000000000000000 < 1000000000000000000 := by omega
  have f1 : -170141183460469231731687303715884105728 ≤ n % 1000000000000000000 ∧ n % 1000000000000000000 < 170141183460469231731687303715884105728 := by omega
  have f2 : -9223372036854775808 ≤ n % 1000000000000000000 ∧ n % 1000000000000000000 < 9223372036854775808 := by omega
  by_cases h1 : b = 32
  · subst h1
    have pk : pw 2 = 65536 := rfl
    have g1 : -170141183460469231731687303715884105728 ≤ n / 1000000000000000000 % 65536 ∧ n / 1000000000000000000 % 65536 < 170141183460469231731687303715884105728 := by omega
    have g2 : 0 ≤ n / 1000000000000000000 % 65536 ∧ n / 1000000000000000000 % 65536 < 65536 := by omega
    have hc := cd_rng (o := 2) a0 (Int.le_of_lt a1)
    have hl := cd_lt (o := 2) a0 a1
    rw [pk] at hl
    have g3 : -170141183460469231731687303715884105728 ≤ cd (n % 1000000000000000000) 2 ∧ cd (n % 1000000000000000000) 2 < 170141183460469231731687303715884105728 := by omega
    have l1 := oct_len 2 (n / 1000000000000000000 % 65536)
    have l2 := oct_len 2 (cd (n % 1000000000000000000) 2)
    simp [ntp_Encode.c, hn, pk, q1, a0, a1, f1, f2, g1, g2, g3, hc, hl, l1, l2, relRow, rowQ, nform]
  · by_cases h2 : b = 64
    · subst h2
      have pk : pw 4 = 4294967296 := rfl
      have g1 : -170141183460469231731687303715884105728 ≤ n / 1000000000000000000 % 4294967296 ∧ n / 1000000000000000000 % 4294967296 < 170141183460469231731687303715884105728 := by omega
      have g2 : 0 ≤ n / 1000000000000000000 % 4294967296 ∧ n / 1000000000000000000 % 4294967296 < 4294967296 := by omega
      have hc := cd_rng (o := 4) a0 (Int.le_of_lt a1)
      have hl := cd_lt (o := 4) a0 a1
      rw [pk] at hl
      have g3 : -170141183460469231731687303715884105728 ≤ cd (n % 1000000000000000000) 4 ∧ cd (n % 1000000000000000000) 4 < 170141183460469231731687303715884105728 := by omega
      have l1 := oct_len 4 (n / 1000000000000000000 % 4294967296)
      have l2 := oct_len 4 (cd (n % 1000000000000000000) 4)
      simp [ntp_Encode.c, hn, pk, q1, a0, a1, f1, f2, g1, g2, g3, hc, hl, l1, l2, relRow, rowQ, nform]
    · by_cases h3 : b = 128
      · subst h3
        have pk : pw 8 = 18446744073709551616 := rfl
        have g1 : -170141183460469231731687303715884105728 ≤ n / 1000000000000000000 % 18446744073709551616 ∧ n / 1000000000000000000 % 18446744073709551616 < 170141183460469231731687303715884105728 := by omega
        have g2 : 0 ≤ n / 1000000000000000000 % 18446744073709551616 ∧ n / 1000000000000000000 % 18446744073709551616 < 18446744073709551616 := by omega
        have hc := cd_rng (o := 8) a0 (Int.le_of_lt a1)
        have hl := cd_lt (o := 8) a0 a1
        rw [pk] at hl
        have g3 : -170141183460469231731687303715884105728 ≤ cd (n % 1000000000000000000) 8 ∧ cd (n % 1000000000000000000) 8 < 170141183460469231731687303715884105728 := by omega
        have l1 := oct_len 8 (n / 1000000000000000000 % 18446744073709551616)
        have l2 := oct_len 8 (cd (n % 1000000000000000000) 8)
        by_cases hs : -9223372036854775808 ≤ n / 1000000000000000000 ∧ n / 1000000000000000000 < 9223372036854775808
        · simp [ntp_Encode.c, hn, pk, q1, a0, a1, f1, f2, g1, g2, g3, hc, hl, l1, l2, relRow, rowQ, nform, hs]
        · simp [ntp_Encode.c, hn, pk, q1, hs]
      · simp [ntp_Encode.c, hb, hn, h1, h2, h3]
/-! ### Read again -/
def nOk (k : Nat) (b : List Int) : Prop := b.length = 2 * k ∧ hasA (num (b.drop k)) k
abbrev nd (k : Nat) (b : List Int) (v : AV) : AV := if b.length = 2 * k then (if hasA (num (b.drop k)) k then v else .t [wd 0, iv .i64 13]) else .t [wd 0, iv .i64 4]
def nval (k : Nat) (b : List Int) : Int := num (b.take k) * 1000000000000000000 + lst (num (b.drop k)) k
def nval8 (b : List Int) : Int := IntKind.i64.wrap (num (b.take 8)) * 1000000000000000000 + lst (num (b.drop 8)) 8
abbrev nDec (bits : Int) (b : List Int) (p : Int) : AV := if bits = 32 then nd 2 b (abt (nval 2 b) 65536000000000000000000 p) else if bits = 64 then nd 4 b (abt (nval 4 b) 4294967296000000000000000000 p) else if bits = 128 then nd 8 b (.t [wd (nval8 b), iv .i64 0]) else .t [wd 0, iv .i64 1]
abbrev tNDec := s3 coI coY coW Tt3 fun bits b p => nDec bits b p
theorem half_rng {b : List Int} (hb : allB b) (k : Nat) (hl : b.length = 2 * k) : (0 ≤ num (b.take k) ∧ num (b.take k) < pw (k : Int)) ∧ (0 ≤ num (b.drop k) ∧ num (b.drop k) < pw (k : Int)) := by
  have n1 := num_rng (allB_take k hb)
  have n2 := num_rng (allB_drop k hb)
  rw [List.length_take, Nat.min_eq_left (by omega)] at n1
  rw [List.length_drop, hl, show 2 * k - k = k by omega] at n2
  exact ⟨n1, n2⟩
theorem okNDec : Ok Try.prog 44 tNDec := ok3 (code_mk Try.func44 ntp_Decode.ent ntp_Decode.chk (specOk_cons okNShape (specOk_cons okNEra (specOk_cons okNSecs (specOk_cons okGet (specOk_cons okFDecode (specOk_cons okNearA okSpW))))))) (by simp [ntp_Decode.c]) fun bits b p hbits hb hp _ => by
  simp at hbits hb hp
  refine ⟨0, ?_⟩
  by_cases h1 : bits = 32
  · subst h1
    have pk : pw 2 = 65536 := rfl
    have b1 := allB_take 2 hb
    have b2 := allB_drop 2 hb
    have x0 : IntKind.i64.wrap 4 = 4 := rfl
    by_cases hl : b.length = 4
    · obtain ⟨⟨n0, n1⟩, n2, n3⟩ := half_rng hb 2 hl
      have n1 : num (b.take 2) < 65536 := n1
      have n3' : num (b.drop 2) < pw 2 := n3
      have n3 : num (b.drop 2) < 65536 := n3
      obtain ⟨l0, l1⟩ := lst_rng n2 n3'
      have tk : List.take 4 b = b := List.take_of_length_le (by omega)
      have f1 : -170141183460469231731687303715884105728 ≤ num (b.take 2) ∧ num (b.take 2) < 170141183460469231731687303715884105728 := by omega
      have f2 : -170141183460469231731687303715884105728 ≤ num (b.drop 2) ∧ num (b.drop 2) < 170141183460469231731687303715884105728 := by omega
      by_cases hA : hasA (num (b.drop 2)) 2
      · have hA1 := hA.1
        have f3 : -9223372036854775808 ≤ lst (num (b.drop 2)) 2 ∧ lst (num (b.drop 2)) 2 < 9223372036854775808 := by omega
        have f4 : -170141183460469231731687303715884105728 ≤ lst (num (b.drop 2)) 2 ∧ lst (num (b.drop 2)) 2 < 170141183460469231731687303715884105728 := by omega
        have f5 : -170141183460469231731687303715884105728 ≤ num (b.take 2) * 1000000000000000000 ∧ num (b.take 2) * 1000000000000000000 < 170141183460469231731687303715884105728 := by omega
        have f6 : -170141183460469231731687303715884105728 ≤ num (b.take 2) * 1000000000000000000 + lst (num (b.drop 2)) 2 ∧ num (b.take 2) * 1000000000000000000 + lst (num (b.drop 2)) 2 < 170141183460469231731687303715884105728 := by omega
        have f7 : 0 ≤ num (b.take 2) * 1000000000000000000 + lst (num (b.drop 2)) 2 ∧ num (b.take 2) * 1000000000000000000 + lst (num (b.drop 2)) 2 < 65536000000000000000000 := by omega
        by_cases ha : abOk (num (b.take 2) * 1000000000000000000 + lst (num (b.drop 2)) 2) 65536000000000000000000 p
        · simp [ntp_Decode.c, hp, hl, b1, b2, tk, pk, x0, n2, n3, hA, f1, f2, f3, f4, f5, f6, f7, nval, ha]
        · simp [ntp_Decode.c, hp, hl, b1, b2, tk, pk, x0, n2, n3, hA, f1, f2, f3, f4, f5, f6, f7, nval, ha]
      · simp [ntp_Decode.c, hp, hl, b1, b2, tk, pk, x0, n2, n3, hA, f1, f2]
    · have hl' : ¬ (b.length : Int) = 4 := by omega
      simp [ntp_Decode.c, hp, hl, hl', x0]
  · by_cases h2 : bits = 64
    · subst h2
      have pk : pw 4 = 4294967296 := rfl
      have b1 := allB_take 4 hb
      have b2 := allB_drop 4 hb
      have x0 : IntKind.i64.wrap 8 = 8 := rfl
      by_cases hl : b.length = 8
      · obtain ⟨⟨n0, n1⟩, n2, n3⟩ := half_rng hb 4 hl
        have n1 : num (b.take 4) < 4294967296 := n1
        have n3' : num (b.drop 4) < pw 4 := n3
        have n3 : num (b.drop 4) < 4294967296 := n3
        obtain ⟨l0, l1⟩ := lst_rng n2 n3'
        have tk : List.take 8 b = b := List.take_of_length_le (by omega)
        have f1 : -170141183460469231731687303715884105728 ≤ num (b.take 4) ∧ num (b.take 4) < 170141183460469231731687303715884105728 := by omega
        have f2 : -170141183460469231731687303715884105728 ≤ num (b.drop 4) ∧ num (b.drop 4) < 170141183460469231731687303715884105728 := by omega
        by_cases hA : hasA (num (b.drop 4)) 4
        · have hA1 := hA.1
          have f3 : -9223372036854775808 ≤ lst (num (b.drop 4)) 4 ∧ lst (num (b.drop 4)) 4 < 9223372036854775808 := by omega
          have f4 : -170141183460469231731687303715884105728 ≤ lst (num (b.drop 4)) 4 ∧ lst (num (b.drop 4)) 4 < 170141183460469231731687303715884105728 := by omega
          have f5 : -170141183460469231731687303715884105728 ≤ num (b.take 4) * 1000000000000000000 ∧ num (b.take 4) * 1000000000000000000 < 170141183460469231731687303715884105728 := by omega
          have f6 : -170141183460469231731687303715884105728 ≤ num (b.take 4) * 1000000000000000000 + lst (num (b.drop 4)) 4 ∧ num (b.take 4) * 1000000000000000000 + lst (num (b.drop 4)) 4 < 170141183460469231731687303715884105728 := by omega
          have f7 : 0 ≤ num (b.take 4) * 1000000000000000000 + lst (num (b.drop 4)) 4 ∧ num (b.take 4) * 1000000000000000000 + lst (num (b.drop 4)) 4 < 4294967296000000000000000000 := by omega
          by_cases ha : abOk (num (b.take 4) * 1000000000000000000 + lst (num (b.drop 4)) 4) 4294967296000000000000000000 p
          · simp [ntp_Decode.c, hp, hl, b1, b2, tk, pk, x0, n2, n3, hA, f1, f2, f3, f4, f5, f6, f7, nval, ha]
          · simp [ntp_Decode.c, hp, hl, b1, b2, tk, pk, x0, n2, n3, hA, f1, f2, f3, f4, f5, f6, f7, nval, ha]
        · simp [ntp_Decode.c, hp, hl, b1, b2, tk, pk, x0, n2, n3, hA, f1, f2]
      · have hl' : ¬ (b.length : Int) = 8 := by omega
        simp [ntp_Decode.c, hp, hl, hl', x0]
    · by_cases h3 : bits = 128
      · subst h3
        have pk : pw 8 = 18446744073709551616 := rfl
        have b1 := allB_take 8 hb
        have b2 := allB_drop 8 hb
        have x0 : IntKind.i64.wrap 16 = 16 := rfl
        by_cases hl : b.length = 16
        · obtain ⟨⟨n0, n1⟩, n2, n3⟩ := half_rng hb 8 hl
          have n1 : num (b.take 8) < 18446744073709551616 := n1
          have n3' : num (b.drop 8) < pw 8 := n3
          have n3 : num (b.drop 8) < 18446744073709551616 := n3
          obtain ⟨l0, l1⟩ := lst_rng n2 n3'
          have tk : List.take 16 b = b := List.take_of_length_le (by omega)
          have f1 : -170141183460469231731687303715884105728 ≤ num (b.take 8) ∧ num (b.take 8) < 170141183460469231731687303715884105728 := by omega
          have f2 : -170141183460469231731687303715884105728 ≤ num (b.drop 8) ∧ num (b.drop 8) < 170141183460469231731687303715884105728 := by omega
          by_cases hA : hasA (num (b.drop 8)) 8
          · have hA1 := hA.1
            have f3 : -9223372036854775808 ≤ lst (num (b.drop 8)) 8 ∧ lst (num (b.drop 8)) 8 < 9223372036854775808 := by omega
            have f4 : -170141183460469231731687303715884105728 ≤ lst (num (b.drop 8)) 8 ∧ lst (num (b.drop 8)) 8 < 170141183460469231731687303715884105728 := by omega
            have e1 : wlo (num (b.take 8)) = num (b.take 8) := by unfold wlo; omega
            have hw : -9223372036854775808 ≤ IntKind.i64.wrap (num (b.take 8)) ∧ IntKind.i64.wrap (num (b.take 8)) < 9223372036854775808 := by rw [IntKind.wrap_i64]; omega
            have f5 : -170141183460469231731687303715884105728 ≤ IntKind.i64.wrap (num (b.take 8)) * 1000000000000000000 ∧ IntKind.i64.wrap (num (b.take 8)) * 1000000000000000000 < 170141183460469231731687303715884105728 := by omega
            have f6 : -170141183460469231731687303715884105728 ≤ IntKind.i64.wrap (num (b.take 8)) * 1000000000000000000 + lst (num (b.drop 8)) 8 ∧ IntKind.i64.wrap (num (b.take 8)) * 1000000000000000000 + lst (num (b.drop 8)) 8 < 170141183460469231731687303715884105728 := by omega
            have f7 : -170141183460469231731687303715884105728 ≤ IntKind.i64.wrap (num (b.take 8)) ∧ IntKind.i64.wrap (num (b.take 8)) < 170141183460469231731687303715884105728 := by omega
            simp [ntp_Decode.c, hp, hl, b1, b2, tk, pk, x0, n2, n3, hA, e1, hw, f1, f2, f3, f4, f5, f6, f7, nval8]
          · simp [ntp_Decode.c, hp, hl, b1, b2, tk, pk, x0, n2, n3, hA, f1, f2]
        · have hl' : ¬ (b.length : Int) = 16 := by omega
          simp [ntp_Decode.c, hp, hl, hl', x0]
      · simp [ntp_Decode.c, hbits, hb, hp, h1, h2, h3]
end Go.Proofs.Ytnjipdicfbkfdaa.E

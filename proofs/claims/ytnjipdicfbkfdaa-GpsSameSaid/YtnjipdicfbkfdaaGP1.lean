/- What the package gps does, and the laws of the chapter 21. -/
import Derived.Test.YtnjipdicfbkfdaaQ1
set_option linter.unusedVariables false
set_option linter.unusedSimpArgs false
set_option maxHeartbeats 4000000
set_option maxRecDepth 100000
namespace Go.Proofs.Ytnjipdicfbkfdaa.E
open Go.VC Go.RowKit

/-! ### Weeks -/
def gw (n : Int) : Int := n / 1000000000000000000 / 604800
def gs (n : Int) : Int := n / 1000000000000000000 % 604800
def ga (n : Int) : Int := n % 1000000000000000000
theorem g_rng {n : Int} (h : -170141183460469231731687303715884105728 ≤ n ∧ n < 170141183460469231731687303715884105728) : (-1000000000000000 ≤ gw n ∧ gw n < 1000000000000000) ∧ (0 ≤ gs n ∧ gs n < 604800) ∧ (0 ≤ ga n ∧ ga n < 1000000000000000000) := by unfold gw gs ga; omega
theorem g_sum (n : Int) : n = (gw n * 604800 + gs n) * 1000000000000000000 + ga n := by unfold gw gs ga; omega
abbrev sh (a b c : Int) : AP := .g [.v (.int .i64 a), .v (.int .i64 b), .v (.int .i64 c)]
abbrev tShapes := s1 coI Tt1 fun b => if b = 10 then .t [sh 1024 4 1000000000000000, iv .i64 0] else if b = 13 then .t [sh 8192 8 1000000000, iv .i64 0] else .t [sh 0 0 0, iv .i64 1]
theorem okShapes : Ok Try.prog 66 tShapes := ok1 (code_mk Try.func66 gps_shapes.ent gps_shapes.chk specOk_nil) (by simp [gps_shapes.c]) fun b hb _ => by
  refine ⟨0, ?_⟩
  by_cases h1 : b = 10
  · simp [gps_shapes.c, h1]
  · by_cases h2 : b = 13
    · simp [gps_shapes.c, h2]
    · simp [gps_shapes.c, h1, h2]
abbrev tWeek := s1 coW Tt1 fun n => .t [iv .i64 (gw n), iv .i64 (gs n), iv .i64 (ga n)]
theorem okWeek : Ok Try.prog 20 tWeek := ok1 (code_mk Try.func20 gps_Week.ent gps_Week.chk okSpW) (by simp [gps_Week.c]) fun n hn _ => by
  simp at hn
  refine ⟨0, ?_⟩
  have q1 := div_fits hn.1 hn.2 (show (0 : Int) < 1000000000000000000 by decide)
  have q2 := div_fits q1.1 q1.2 (show (0 : Int) < 604800 by decide)
  have hr := g_rng hn
  unfold gw gs ga at hr
  have f1 : -170141183460469231731687303715884105728 ≤ n % 1000000000000000000 ∧ n % 1000000000000000000 < 170141183460469231731687303715884105728 := by omega
  have f2 : -170141183460469231731687303715884105728 ≤ n / 1000000000000000000 % 604800 ∧ n / 1000000000000000000 % 604800 < 170141183460469231731687303715884105728 := by omega
  have f3 : -9223372036854775808 ≤ n / 1000000000000000000 / 604800 ∧ n / 1000000000000000000 / 604800 < 9223372036854775808 := by omega
  have f4 : -9223372036854775808 ≤ n / 1000000000000000000 % 604800 ∧ n / 1000000000000000000 % 604800 < 9223372036854775808 := by omega
  have f5 : -9223372036854775808 ≤ n % 1000000000000000000 ∧ n % 1000000000000000000 < 9223372036854775808 := by omega
  simp [gps_Week.c, hn, q1, q2, f1, f2, f3, f4, f5, gw, gs, ga]
abbrev tTimes := s2 coI coI Tt2 fun a b => .o (wd (a * b))
theorem imul_rng {x y : Int} (hx : -9223372036854775808 ≤ x ∧ x < 9223372036854775808) (hy : -9223372036854775808 ≤ y ∧ y < 9223372036854775808) : -170141183460469231731687303715884105728 ≤ x * y ∧ x * y < 170141183460469231731687303715884105728 := by
  have h1 : x.natAbs ≤ 9223372036854775808 := by omega
  have h2 : y.natAbs ≤ 9223372036854775808 := by omega
  have h3 := Nat.mul_le_mul h1 h2
  rw [← Int.natAbs_mul] at h3
  omega
theorem okTimes : Ok Try.prog 74 tTimes := ok2 (code_mk Try.func74 gps_times.ent gps_times.chk okSpW) (by simp [gps_times.c]) fun a b ha hb _ => by
  simp at ha hb
  refine ⟨0, ?_⟩
  have f := imul_rng ha hb
  have f1 : -170141183460469231731687303715884105728 ≤ a ∧ a < 170141183460469231731687303715884105728 := by omega
  have f2 : -170141183460469231731687303715884105728 ≤ b ∧ b < 170141183460469231731687303715884105728 := by omega
  simp [gps_times.c, ha, hb, f, f1, f2]
/-! ### The forms -/
/-- The octets of a time: wk weeks in an era, k octets of the units of u attoseconds, ps of which make a second. -/
def gform (wk : Int) (k : Nat) (u ps n : Int) : List Int := oct (gw n % wk) 2 ++ oct (gs n * ps + ga n / u) k
abbrev gEnc (b n : Int) : AV := if b = 10 then .t [.c (.r .u8 (gform 1024 4 1000000000000000 1000 n)), iv .i64 0] else if b = 13 then .t [.c (.r .u8 (gform 8192 8 1000000000 1000000000 n)), iv .i64 0] else .t [.c (.r .u8 []), iv .i64 1]
abbrev tGEnc := s2 coI coW Tt2 fun b n => gEnc b n
theorem okGEnc : Ok Try.prog 28 tGEnc := ok2 (code_mk Try.func28 gps_Encode.ent gps_Encode.chk (specOk_cons okShapes (specOk_cons okWeek (specOk_cons okFold (specOk_cons okPut (specOk_cons okConcat okSpW)))))) (by simp [gps_Encode.c]) fun b n hb hn _ => by
  simp at hb hn
  refine ⟨0, ?_⟩
  obtain ⟨⟨w0, w1⟩, ⟨c0, c1⟩, a0, a1⟩ := g_rng hn
  have p2 : pw 2 = 65536 := rfl
  have p4 : pw 4 = 4294967296 := rfl
  have p8 : pw 8 = 18446744073709551616 := rfl
  have f1 : -9223372036854775808 ≤ gw n ∧ gw n < 9223372036854775808 := by omega
  have f2 : -170141183460469231731687303715884105728 ≤ gw n ∧ gw n < 170141183460469231731687303715884105728 := by omega
  by_cases h1 : b = 10
  · subst h1
    have g1 : -170141183460469231731687303715884105728 ≤ gw n % 1024 ∧ gw n % 1024 < 170141183460469231731687303715884105728 := by omega
    have g2 : 0 ≤ gw n % 1024 ∧ gw n % 1024 < 65536 := by omega
    have e1 : (ga n).tdiv 1000000000000000 = ga n / 1000000000000000 := Int.tdiv_eq_ediv_of_nonneg (by omega)
    have x1 : IntKind.i64.wrap (gs n * 1000) = gs n * 1000 := wrap_i64_in (by omega) (by omega)
    have x2 : IntKind.i64.wrap (ga n / 1000000000000000) = ga n / 1000000000000000 := wrap_i64_in (by omega) (by omega)
    have x3 : IntKind.i64.wrap (gs n * 1000 + ga n / 1000000000000000) = gs n * 1000 + ga n / 1000000000000000 := wrap_i64_in (by omega) (by omega)
    have x4 : IntKind.i64.wrap 1000 = 1000 := rfl
    have g3 : -9223372036854775808 ≤ gs n * 1000 + ga n / 1000000000000000 ∧ gs n * 1000 + ga n / 1000000000000000 < 9223372036854775808 := by omega
    have g4 : -170141183460469231731687303715884105728 ≤ gs n * 1000 + ga n / 1000000000000000 ∧ gs n * 1000 + ga n / 1000000000000000 < 170141183460469231731687303715884105728 := by omega
    have g5 : 0 ≤ gs n * 1000 + ga n / 1000000000000000 ∧ gs n * 1000 + ga n / 1000000000000000 < 4294967296 := by omega
    have l1 := oct_len 2 (gw n % 1024)
    have l2 := oct_len 4 (gs n * 1000 + ga n / 1000000000000000)
    simp [gps_Encode.c, hn, p2, p4, p8, f1, f2, g1, g2, g3, g4, g5, e1, x1, x2, x3, x4, l1, l2, relRow, rowQ, gform]
  · by_cases h2 : b = 13
    · subst h2
      have g1 : -170141183460469231731687303715884105728 ≤ gw n % 8192 ∧ gw n % 8192 < 170141183460469231731687303715884105728 := by omega
      have g2 : 0 ≤ gw n % 8192 ∧ gw n % 8192 < 65536 := by omega
      have e1 : (ga n).tdiv 1000000000 = ga n / 1000000000 := Int.tdiv_eq_ediv_of_nonneg (by omega)
      have x1 : IntKind.i64.wrap (gs n * 1000000000) = gs n * 1000000000 := wrap_i64_in (by omega) (by omega)
      have x2 : IntKind.i64.wrap (ga n / 1000000000) = ga n / 1000000000 := wrap_i64_in (by omega) (by omega)
      have x3 : IntKind.i64.wrap (gs n * 1000000000 + ga n / 1000000000) = gs n * 1000000000 + ga n / 1000000000 := wrap_i64_in (by omega) (by omega)
      have x4 : IntKind.i64.wrap 1000000000 = 1000000000 := rfl
      have g3 : -9223372036854775808 ≤ gs n * 1000000000 + ga n / 1000000000 ∧ gs n * 1000000000 + ga n / 1000000000 < 9223372036854775808 := by omega
      have g4 : -170141183460469231731687303715884105728 ≤ gs n * 1000000000 + ga n / 1000000000 ∧ gs n * 1000000000 + ga n / 1000000000 < 170141183460469231731687303715884105728 := by omega
      have g5 : 0 ≤ gs n * 1000000000 + ga n / 1000000000 ∧ gs n * 1000000000 + ga n / 1000000000 < 18446744073709551616 := by omega
      have l1 := oct_len 2 (gw n % 8192)
      have l2 := oct_len 8 (gs n * 1000000000 + ga n / 1000000000)
      simp [gps_Encode.c, hn, p2, p4, p8, f1, f2, g1, g2, g3, g4, g5, e1, x1, x2, x3, x4, l1, l2, relRow, rowQ, gform]
    · simp [gps_Encode.c, hb, hn, h1, h2]
abbrev tRGps := s2 coI coB (fun _ n => -170141183460469231731687303715884105728 ≤ n ∧ n < 170141183460469231731687303715884105728) fun b n => gEnc b n
theorem q10 : (2 : Int) ^ 10 = 1024 := by decide
theorem q13 : (2 : Int) ^ 13 = 8192 := by decide
theorem okRGps : Ok Try.prog 29 tRGps := ok2 (code_mk Try.func29 epactref19_Gps.ent epactref19_Gps.chk (specOk_cons okCut (specOk_cons okOctets (specOk_cons okJoin8 (specOk_cons okPow2 okSpRef))))) (by simp [epactref19_Gps.c]) fun b n hb _ hn => by
  simp at hb
  refine ⟨0, ?_⟩
  obtain ⟨⟨w0, w1⟩, ⟨c0, c1⟩, a0, a1⟩ := g_rng hn
  have m0 := w_md hn
  have s0 : smB (n / 1000000000000000000) := by unfold smB; omega
  have s1 : smB 604800 := by decide
  have s2 : smB (n / 1000000000000000000 / 604800) := by unfold smB; omega
  have s3 : smB (n / 1000000000000000000 % 604800) := by unfold smB; omega
  simp only [gw, gs, ga] at w0 w1 c0 c1 a0 a1
  have t1 : smB 1024 := by decide
  have t2 : smB 8192 := by decide
  have t3 : smB 1000 := by decide
  have t4 : smB 1000000000 := by decide
  by_cases h1 : b = 10
  · subst h1
    have s4 : smB (n / 1000000000000000000 / 604800 % 1024) := by unfold smB; omega
    have s5 : smB (n / 1000000000000000000 % 604800 * 1000) := by unfold smB; omega
    have e1 : (n % 1000000000000000000).tdiv 1000000000000000 = n % 1000000000000000000 / 1000000000000000 := Int.tdiv_eq_ediv_of_nonneg (by omega)
    have x2 : IntKind.i64.wrap (n % 1000000000000000000 / 1000000000000000) = n % 1000000000000000000 / 1000000000000000 := wrap_i64_in (by omega) (by omega)
    have g3 : -9223372036854775808 ≤ n % 1000000000000000000 / 1000000000000000 ∧ n % 1000000000000000000 / 1000000000000000 < 9223372036854775808 := by omega
    have s6 : smB (n % 1000000000000000000 / 1000000000000000) := by unfold smB; omega
    have s7 : smB (n / 1000000000000000000 % 604800 * 1000 + n % 1000000000000000000 / 1000000000000000) := by unfold smB; omega
    have g5 : 0 ≤ n / 1000000000000000000 % 604800 * 1000 + n % 1000000000000000000 / 1000000000000000 := by omega
    have g6 : 0 ≤ n / 1000000000000000000 / 604800 % 1024 := by omega
    have l1 := oct_len 2 (n / 1000000000000000000 / 604800 % 1024)
    have l2 := oct_len 4 (n / 1000000000000000000 % 604800 * 1000 + n % 1000000000000000000 / 1000000000000000)
    simp [epactref19_Gps.c, m0, s0, s1, s2, s3, s4, s5, s6, s7, t1, t2, t3, t4, q10, q13, e1, x2, g3, g5, g6, l1, l2, gform, gw, gs, ga]
  · by_cases h2 : b = 13
    · subst h2
      have s4 : smB (n / 1000000000000000000 / 604800 % 8192) := by unfold smB; omega
      have s5 : smB (n / 1000000000000000000 % 604800 * 1000000000) := by unfold smB; omega
      have e1 : (n % 1000000000000000000).tdiv 1000000000 = n % 1000000000000000000 / 1000000000 := Int.tdiv_eq_ediv_of_nonneg (by omega)
      have x2 : IntKind.i64.wrap (n % 1000000000000000000 / 1000000000) = n % 1000000000000000000 / 1000000000 := wrap_i64_in (by omega) (by omega)
      have g3 : -9223372036854775808 ≤ n % 1000000000000000000 / 1000000000 ∧ n % 1000000000000000000 / 1000000000 < 9223372036854775808 := by omega
      have s6 : smB (n % 1000000000000000000 / 1000000000) := by unfold smB; omega
      have s7 : smB (n / 1000000000000000000 % 604800 * 1000000000 + n % 1000000000000000000 / 1000000000) := by unfold smB; omega
      have g5 : 0 ≤ n / 1000000000000000000 % 604800 * 1000000000 + n % 1000000000000000000 / 1000000000 := by omega
      have g6 : 0 ≤ n / 1000000000000000000 / 604800 % 8192 := by omega
      have l1 := oct_len 2 (n / 1000000000000000000 / 604800 % 8192)
      have l2 := oct_len 8 (n / 1000000000000000000 % 604800 * 1000000000 + n % 1000000000000000000 / 1000000000)
      simp [epactref19_Gps.c, m0, s0, s1, s2, s3, s4, s5, s6, s7, t1, t2, t3, t4, q10, q13, e1, x2, g3, g5, g6, l1, l2, gform, gw, gs, ga]
    · simp [epactref19_Gps.c, hb, h1, h2]
/-! ### Read again -/
/-- What octets tell: a time within an era; false: they are none. -/
def gOk (wk : Int) (kn : Nat) (u ps : Int) (b : List Int) : Prop := b.length = kn ∧ num (b.take 2) < wk ∧ num (b.drop 2) < 604800 * ps
instance (wk : Int) (kn : Nat) (u ps : Int) (b : List Int) : Decidable (gOk wk kn u ps b) := inferInstanceAs (Decidable (_ ∧ _))
def gval (u : Int) (b : List Int) : Int := num (b.take 2) * 604800 * 1000000000000000000 + num (b.drop 2) * u
abbrev gDec (bits : Int) (b : List Int) (p : Int) : AV := if bits = 10 then (if gOk 1024 6 1000000000000000 1000 b then abt (gval 1000000000000000 b) 619315200000000000000000000 p else .t [wd 0, iv .i64 4]) else if bits = 13 then (if gOk 8192 10 1000000000 1000000000 b then abt (gval 1000000000 b) 4954521600000000000000000000 p else .t [wd 0, iv .i64 4]) else .t [wd 0, iv .i64 1]
abbrev tGDec := s3 coI coY coW Tt3 fun bits b p => gDec bits b p
theorem drop_rng {b : List Int} (hb : allB b) (kn : Nat) (hl : b.length = kn + 2) : (0 ≤ num (b.take 2) ∧ num (b.take 2) < 65536) ∧ (0 ≤ num (b.drop 2) ∧ num (b.drop 2) < pw (kn : Int)) := by
  have n1 := num_rng (allB_take 2 hb)
  have n2 := num_rng (allB_drop 2 hb)
  rw [List.length_take, Nat.min_eq_left (by omega)] at n1
  rw [List.length_drop, hl, Nat.add_sub_cancel] at n2
  exact ⟨n1, n2⟩
theorem okGDec : Ok Try.prog 31 tGDec := ok3 (code_mk Try.func31 gps_Decode.ent gps_Decode.chk (specOk_cons okShapes (specOk_cons okGet (specOk_cons okTimes (specOk_cons okNearA okSpW))))) (by simp [gps_Decode.c]) fun bits b p hbits hb hp _ => by
  simp at hbits hb hp
  refine ⟨0, ?_⟩
  have b1 := allB_take 2 hb
  have b2 := allB_drop 2 hb
  by_cases h1 : bits = 10
  · subst h1
    have x0 : IntKind.i64.wrap 6 = 6 := rfl
    have x4 : IntKind.i64.wrap 1000 = 1000 := rfl
    have x5 : IntKind.i64.wrap (604800000) = 604800000 := rfl
    have x6 : IntKind.i64.wrap 619315200 = 619315200 := rfl
    by_cases hl : b.length = 6
    · obtain ⟨⟨n0, n1⟩, n2, n3⟩ := drop_rng hb 4 hl
      have n3 : num (b.drop 2) < 4294967296 := n3
      have tk : List.take 6 b = b := List.take_of_length_le (by omega)
      have f1 : -170141183460469231731687303715884105728 ≤ num (b.take 2) ∧ num (b.take 2) < 170141183460469231731687303715884105728 := by omega
      have f2 : -170141183460469231731687303715884105728 ≤ num (b.drop 2) ∧ num (b.drop 2) < 170141183460469231731687303715884105728 := by omega
      have f3 : -9223372036854775808 ≤ num (b.take 2) ∧ num (b.take 2) < 9223372036854775808 := by omega
      have f0 : (0 : Int) < 619315200000000000000000000 := by decide
      by_cases hi : num (b.drop 2) < 9223372036854775808
      · have f4 : -9223372036854775808 ≤ num (b.drop 2) ∧ num (b.drop 2) < 9223372036854775808 := by omega
        by_cases hw : num (b.take 2) < 1024
        · have hw' := Int.not_le.2 hw
          by_cases hu : num (b.drop 2) < 604800000
          · have hu' := Int.not_le.2 hu
            have x1 : IntKind.i64.wrap (num (b.take 2) * 604800) = num (b.take 2) * 604800 := wrap_i64_in (by omega) (by omega)
            have f5 : -9223372036854775808 ≤ num (b.take 2) * 604800 ∧ num (b.take 2) * 604800 < 9223372036854775808 := by omega
            have f6 : -170141183460469231731687303715884105728 ≤ num (b.take 2) * 604800 * 1000000000000000000 ∧ num (b.take 2) * 604800 * 1000000000000000000 < 170141183460469231731687303715884105728 := by omega
            have f7 : -170141183460469231731687303715884105728 ≤ num (b.drop 2) * 1000000000000000 ∧ num (b.drop 2) * 1000000000000000 < 170141183460469231731687303715884105728 := by omega
            have f8 : -170141183460469231731687303715884105728 ≤ num (b.take 2) * 604800 * 1000000000000000000 + num (b.drop 2) * 1000000000000000 ∧ num (b.take 2) * 604800 * 1000000000000000000 + num (b.drop 2) * 1000000000000000 < 170141183460469231731687303715884105728 := by omega
            have f9 : 0 ≤ num (b.take 2) * 604800 * 1000000000000000000 + num (b.drop 2) * 1000000000000000 ∧ num (b.take 2) * 604800 * 1000000000000000000 + num (b.drop 2) * 1000000000000000 < 619315200000000000000000000 := by omega
            by_cases ha : abOk (num (b.take 2) * 604800 * 1000000000000000000 + num (b.drop 2) * 1000000000000000) (619315200000000000000000000) p
            · simp [gps_Decode.c, hp, hl, b1, b2, tk, x0, x1, x4, x5, x6, f0, f1, f2, f3, f4, f5, f6, f7, f8, f9, hw, hw', hu, hu', gOk, gval, ha]
            · simp [gps_Decode.c, hp, hl, b1, b2, tk, x0, x1, x4, x5, x6, f0, f1, f2, f3, f4, f5, f6, f7, f8, f9, hw, hw', hu, hu', gOk, gval, ha]
          · have hu' := Int.not_lt.1 hu
            simp [gps_Decode.c, hp, hl, b1, b2, tk, x0, x4, x5, f1, f2, f3, f4, hw, hw', hu, hu', gOk]
        · have hw' := Int.not_lt.1 hw
          simp [gps_Decode.c, hp, hl, b1, b2, tk, x0, x4, x5, f1, f2, f3, f4, hw, hw', gOk]
      · have f4 : ¬ (-9223372036854775808 ≤ num (b.drop 2) ∧ num (b.drop 2) < 9223372036854775808) := by omega
        have hu : ¬ num (b.drop 2) < 604800000 := by omega
        simp [gps_Decode.c, hp, hl, b1, b2, tk, x0, f1, f2, f3, f4, hi, hu, gOk]
    · have hl' : ¬ (b.length : Int) = 6 := by omega
      simp [gps_Decode.c, hp, hl, hl', x0, gOk]
  · by_cases h2 : bits = 13
    · subst h2
      have x0 : IntKind.i64.wrap 10 = 10 := rfl
      have x4 : IntKind.i64.wrap 1000000000 = 1000000000 := rfl
      have x5 : IntKind.i64.wrap (604800000000000) = 604800000000000 := rfl
      have x6 : IntKind.i64.wrap 4954521600 = 4954521600 := rfl
      by_cases hl : b.length = 10
      · obtain ⟨⟨n0, n1⟩, n2, n3⟩ := drop_rng hb 8 hl
        have n3 : num (b.drop 2) < 18446744073709551616 := n3
        have tk : List.take 10 b = b := List.take_of_length_le (by omega)
        have f1 : -170141183460469231731687303715884105728 ≤ num (b.take 2) ∧ num (b.take 2) < 170141183460469231731687303715884105728 := by omega
        have f2 : -170141183460469231731687303715884105728 ≤ num (b.drop 2) ∧ num (b.drop 2) < 170141183460469231731687303715884105728 := by omega
        have f3 : -9223372036854775808 ≤ num (b.take 2) ∧ num (b.take 2) < 9223372036854775808 := by omega
        have f0 : (0 : Int) < 4954521600000000000000000000 := by decide
        by_cases hi : num (b.drop 2) < 9223372036854775808
        · have f4 : -9223372036854775808 ≤ num (b.drop 2) ∧ num (b.drop 2) < 9223372036854775808 := by omega
          by_cases hw : num (b.take 2) < 8192
          · have hw' := Int.not_le.2 hw
            by_cases hu : num (b.drop 2) < 604800000000000
            · have hu' := Int.not_le.2 hu
              have x1 : IntKind.i64.wrap (num (b.take 2) * 604800) = num (b.take 2) * 604800 := wrap_i64_in (by omega) (by omega)
              have f5 : -9223372036854775808 ≤ num (b.take 2) * 604800 ∧ num (b.take 2) * 604800 < 9223372036854775808 := by omega
              have f6 : -170141183460469231731687303715884105728 ≤ num (b.take 2) * 604800 * 1000000000000000000 ∧ num (b.take 2) * 604800 * 1000000000000000000 < 170141183460469231731687303715884105728 := by omega
              have f7 : -170141183460469231731687303715884105728 ≤ num (b.drop 2) * 1000000000 ∧ num (b.drop 2) * 1000000000 < 170141183460469231731687303715884105728 := by omega
              have f8 : -170141183460469231731687303715884105728 ≤ num (b.take 2) * 604800 * 1000000000000000000 + num (b.drop 2) * 1000000000 ∧ num (b.take 2) * 604800 * 1000000000000000000 + num (b.drop 2) * 1000000000 < 170141183460469231731687303715884105728 := by omega
              have f9 : 0 ≤ num (b.take 2) * 604800 * 1000000000000000000 + num (b.drop 2) * 1000000000 ∧ num (b.take 2) * 604800 * 1000000000000000000 + num (b.drop 2) * 1000000000 < 4954521600000000000000000000 := by omega
              by_cases ha : abOk (num (b.take 2) * 604800 * 1000000000000000000 + num (b.drop 2) * 1000000000) (4954521600000000000000000000) p
              · simp [gps_Decode.c, hp, hl, b1, b2, tk, x0, x1, x4, x5, x6, f0, f1, f2, f3, f4, f5, f6, f7, f8, f9, hw, hw', hu, hu', gOk, gval, ha]
              · simp [gps_Decode.c, hp, hl, b1, b2, tk, x0, x1, x4, x5, x6, f0, f1, f2, f3, f4, f5, f6, f7, f8, f9, hw, hw', hu, hu', gOk, gval, ha]
            · have hu' := Int.not_lt.1 hu
              simp [gps_Decode.c, hp, hl, b1, b2, tk, x0, x4, x5, f1, f2, f3, f4, hw, hw', hu, hu', gOk]
          · have hw' := Int.not_lt.1 hw
            simp [gps_Decode.c, hp, hl, b1, b2, tk, x0, x4, x5, f1, f2, f3, f4, hw, hw', gOk]
        · have f4 : ¬ (-9223372036854775808 ≤ num (b.drop 2) ∧ num (b.drop 2) < 9223372036854775808) := by omega
          have hu : ¬ num (b.drop 2) < 604800000000000 := by omega
          simp [gps_Decode.c, hp, hl, b1, b2, tk, x0, f1, f2, f3, f4, hi, hu, gOk]
      · have hl' : ¬ (b.length : Int) = 10 := by omega
        simp [gps_Decode.c, hp, hl, hl', x0, gOk]
    · simp [gps_Decode.c, hbits, hb, hp, h1, h2]
end Go.Proofs.Ytnjipdicfbkfdaa.E

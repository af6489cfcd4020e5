/- What the package ptp does, and the laws of the chapter 24. -/
import Derived.Test.YtanolecbepjkcaaF5
set_option linter.unusedVariables false
set_option linter.unusedSimpArgs false
set_option maxHeartbeats 2000000
set_option maxRecDepth 100000
namespace Go.Proofs.Ytanolecbepjkcaa.E
open Go.VC Go.RowKit

abbrev tPtpEncode := s1 coW Tt1 fun n => if 0 ≤ n / 1000000000000000000 ∧ n / 1000000000000000000 < 281474976710656 then .t [.c (.r .u8 (oct (n / 1000000000000000000) 6 ++ oct (n % 1000000000000000000 / 1000000000) 4)), iv .i64 0] else .t [.c (.r .u8 []), iv .i64 2]
theorem p6 : pw 6 = 281474976710656 := rfl
theorem p4 : pw 4 = 4294967296 := rfl
theorem allB_oct (n : Int) (k : Nat) : allB (oct n k) := oct_rng k n
theorem allB_app {a b : List Int} (ha : allB a) (hb : allB b) : allB (a ++ b) := fun x hx => by
  rcases List.mem_append.1 hx with h | h
  · exact ha x h
  · exact hb x h
theorem allB_take {a : List Int} (n : Nat) (ha : allB a) : allB (a.take n) := fun x hx => ha x (List.mem_of_mem_take hx)
theorem allB_drop {a : List Int} (n : Nat) (ha : allB a) : allB (a.drop n) := fun x hx => ha x (List.mem_of_mem_drop hx)
theorem allB_nil : allB [] := fun x hx => by cases hx
attribute [simp] allB_oct allB_nil
theorem okPtpEncode : Ok Try.prog 66 tPtpEncode := ok1 (code_mk Try.func66 ptp_Encode.ent ptp_Encode.chk (specOk_cons okPut (specOk_cons okConcat okSpW))) (by simp [ptp_Encode.c]) fun n hn _ => by
  simp at hn
  refine ⟨0, ?_⟩
  have q1 := div_fits hn.1 hn.2 (show (0 : Int) < 1000000000000000000 by decide)
  have f1 : -170141183460469231731687303715884105728 ≤ n % 1000000000000000000 ∧ n % 1000000000000000000 < 170141183460469231731687303715884105728 := by omega
  have f2 : -9223372036854775808 ≤ n % 1000000000000000000 ∧ n % 1000000000000000000 < 9223372036854775808 := by omega
  have e1 : (n % 1000000000000000000).tdiv 1000000000 = n % 1000000000000000000 / 1000000000 := Int.tdiv_eq_ediv_of_nonneg (by omega)
  have w1 : IntKind.i64.wrap (n % 1000000000000000000 / 1000000000) = n % 1000000000000000000 / 1000000000 := wrap_i64_in (by omega) (by omega)
  have f3 : -9223372036854775808 ≤ n % 1000000000000000000 / 1000000000 ∧ n % 1000000000000000000 / 1000000000 < 9223372036854775808 := by omega
  have f4 : -170141183460469231731687303715884105728 ≤ n % 1000000000000000000 / 1000000000 ∧ n % 1000000000000000000 / 1000000000 < 170141183460469231731687303715884105728 := by omega
  have f5 : 0 ≤ n % 1000000000000000000 / 1000000000 ∧ n % 1000000000000000000 / 1000000000 < 4294967296 := by omega
  have l1 := oct_len 6 (n / 1000000000000000000)
  have l2 := oct_len 4 (n % 1000000000000000000 / 1000000000)
  by_cases h : 0 ≤ n / 1000000000000000000 ∧ n / 1000000000000000000 < 281474976710656
  · simp [ptp_Encode.c, hn, q1, f1, f2, f3, f4, f5, e1, w1, h, p6, p4, l1, l2, relRow, rowQ]
  · simp [ptp_Encode.c, hn, q1, f1, f2, f3, f4, f5, e1, w1, h, p6, p4]
abbrev tPtpDecode := s1 coY Tt1 fun b => if b.length = 10 ∧ num (b.drop 6) < 1000000000 then .t [wd (num (b.take 6) * 1000000000000000000 + num (b.drop 6) * 1000000000), iv .i64 0] else .t [wd 0, iv .i64 4]
theorem okPtpDecode : Ok Try.prog 69 tPtpDecode := ok1 (code_mk Try.func69 ptp_Decode.ent ptp_Decode.chk (specOk_cons okGet okSpW)) (by simp [ptp_Decode.c]) fun b hb _ => by
  simp at hb
  refine ⟨0, ?_⟩
  by_cases hl : b.length = 10
  · have b1 := allB_take 6 hb
    have b2 := allB_drop 6 hb
    have n1 := num_rng b1
    have n2 := num_rng b2
    rw [List.length_take, hl] at n1
    rw [List.length_drop, hl] at n2
    have n1 : 0 ≤ num (b.take 6) ∧ num (b.take 6) < 281474976710656 := n1
    have n2 : 0 ≤ num (b.drop 6) ∧ num (b.drop 6) < 4294967296 := n2
    have tk : List.take 10 b = b := List.take_of_length_le (by omega)
    have f1 : -170141183460469231731687303715884105728 ≤ num (b.take 6) ∧ num (b.take 6) < 170141183460469231731687303715884105728 := by omega
    have f2 : -170141183460469231731687303715884105728 ≤ num (b.drop 6) ∧ num (b.drop 6) < 170141183460469231731687303715884105728 := by omega
    have f3 : -9223372036854775808 ≤ num (b.drop 6) ∧ num (b.drop 6) < 9223372036854775808 := by omega
    have f4 : -170141183460469231731687303715884105728 ≤ num (b.take 6) * 1000000000000000000 ∧ num (b.take 6) * 1000000000000000000 < 170141183460469231731687303715884105728 := by omega
    by_cases hn : num (b.drop 6) < 1000000000
    · have hn' := Int.not_le.2 hn
      have w1 : IntKind.i64.wrap (num (b.drop 6) * 1000000000) = num (b.drop 6) * 1000000000 := wrap_i64_in (by omega) (by omega)
      have f5 : -170141183460469231731687303715884105728 ≤ num (b.drop 6) * 1000000000 ∧ num (b.drop 6) * 1000000000 < 170141183460469231731687303715884105728 := by omega
      have f6 : -9223372036854775808 ≤ num (b.drop 6) * 1000000000 ∧ num (b.drop 6) * 1000000000 < 9223372036854775808 := by omega
      have f7 : -170141183460469231731687303715884105728 ≤ num (b.take 6) * 1000000000000000000 + num (b.drop 6) * 1000000000 ∧ num (b.take 6) * 1000000000000000000 + num (b.drop 6) * 1000000000 < 170141183460469231731687303715884105728 := by omega
      simp [ptp_Decode.c, hl, b1, b2, tk, f1, f2, f3, f4, f5, f6, f7, hn, hn', w1]
    · have hn' := Int.not_lt.1 hn
      simp [ptp_Decode.c, hl, b1, b2, tk, f1, f2, f3, f4, hn, hn']
  · have hl' : ¬ (b.length : Int) = 10 := by omega
    simp [ptp_Decode.c, hl, hl']
/-! ### The reference -/
abbrev tJoin8 := s2 coY coY (fun a b => a.length ≤ 1000 ∧ b.length ≤ 1000) fun a b => .o (.c (.r .u8 (a ++ b)))
theorem okJoin8 : Ok Try.prog 102 tJoin8 := ok2 (code_mk Try.func102 epactref19_join.ent epactref19_join.chk specOk_nil) (by simp [epactref19_join.c]) fun a b ha hb hg => by
  refine ⟨0, ?_⟩
  have c1 : a.length ≤ 1000000000000 := by omega
  have c2 : a.length + b.length ≤ 1000000000000 := by omega
  have tk : List.take a.length (c8 a) = c8 a := List.take_of_length_le (by simp)
  have tk2 : List.take (a.length + b.length) (a ++ b) = a ++ b := List.take_of_length_le (by simp)
  simp [epactref19_join.c, c1, c2, tk, tk2]
  exact ⟨known_c8 _, known_c8 _⟩
abbrev tCut := s1 coB (fun n => md n) fun n => .t [mkB (n / 1000000000000000000), iv .i64 (n % 1000000000000000000)]
theorem okCut : Ok Try.prog 101 tCut := ok1 (code_mk Try.func101 epactref19_Cut.ent epactref19_Cut.chk (specOk_cons okSmall okSpRef)) (by simp [epactref19_Cut.c]) fun n _ hg => by
  refine ⟨0, ?_⟩
  have s0 := md_sm hg
  have s1 : smB 1000000000000000000 := by decide
  have s2 : smB (n % 1000000000000000000) := by unfold smB; omega
  have f : -9223372036854775808 ≤ n % 1000000000000000000 ∧ n % 1000000000000000000 < 9223372036854775808 := by omega
  simp [epactref19_Cut.c, s0, s1, s2, f]
abbrev tSeconds := s1 coB (fun n => md n) fun n => .o (mkB (n * 1000000000000000000))
theorem okSeconds : Ok Try.prog 103 tSeconds := ok1 (code_mk Try.func103 epactref19_Seconds.ent epactref19_Seconds.chk okSpRef) (by simp [epactref19_Seconds.c]) fun n _ hg => by
  refine ⟨0, ?_⟩
  have s0 := md_sm hg
  have s1 : smB 1000000000000000000 := by decide
  simp [epactref19_Seconds.c, s0, s1]
abbrev tRPtp := s1 coB (fun n => md n) fun n => if 0 ≤ n / 1000000000000000000 ∧ n / 1000000000000000000 < 281474976710656 then .t [.c (.r .u8 (oct (n / 1000000000000000000) 6 ++ oct (n % 1000000000000000000 / 1000000000) 4)), iv .i64 0] else .t [.c (.r .u8 []), iv .i64 2]
theorem q48 : (2 : Int) ^ 48 = 281474976710656 := by decide
theorem okRPtp : Ok Try.prog 67 tRPtp := ok1 (code_mk Try.func67 epactref19_Ptp.ent epactref19_Ptp.chk (specOk_cons okCut (specOk_cons okRBelow (specOk_cons okOctets (specOk_cons okJoin8 (specOk_cons okPow2 okSpRef)))))) (by simp [epactref19_Ptp.c]) fun n _ hg => by
  refine ⟨0, ?_⟩
  have s0 := md_sm hg
  have s1 : smB 281474976710656 := by decide
  have s2 : smB (n / 1000000000000000000) := by unfold md at hg; unfold smB; omega
  have e1 : (n % 1000000000000000000).tdiv 1000000000 = n % 1000000000000000000 / 1000000000 := Int.tdiv_eq_ediv_of_nonneg (by omega)
  have w1 : IntKind.i64.wrap (n % 1000000000000000000 / 1000000000) = n % 1000000000000000000 / 1000000000 := wrap_i64_in (by omega) (by omega)
  have f3 : -9223372036854775808 ≤ n % 1000000000000000000 / 1000000000 ∧ n % 1000000000000000000 / 1000000000 < 9223372036854775808 := by omega
  have f5 : 0 ≤ n % 1000000000000000000 / 1000000000 := by omega
  have s3 : smB (n % 1000000000000000000 / 1000000000) := by unfold smB; omega
  have l1 := oct_len 6 (n / 1000000000000000000)
  have l2 := oct_len 4 (n % 1000000000000000000 / 1000000000)
  by_cases h : 0 ≤ n / 1000000000000000000 ∧ n / 1000000000000000000 < 281474976710656
  · simp [epactref19_Ptp.c, hg, s1, s2, s3, e1, w1, f3, f5, h, q48, l1, l2]
  · simp [epactref19_Ptp.c, hg, s1, s2, h, q48]
abbrev tFromPtp := s1 coY Tt1 fun b => if b.length = 10 ∧ num (b.drop 6) < 1000000000 then .t [mkB (num (b.take 6) * 1000000000000000000 + num (b.drop 6) * 1000000000), bv true] else .t [mkB 0, bv false]
theorem okFromPtp : Ok Try.prog 70 tFromPtp := ok1 (code_mk Try.func70 epactref19_FromPtp.ent epactref19_FromPtp.chk (specOk_cons okNumber (specOk_cons okSeconds okSpRef))) (by simp [epactref19_FromPtp.c]) fun b hb _ => by
  simp at hb
  refine ⟨0, ?_⟩
  have z0 : ngB 0 = false := rfl
  have z1 : dg 0 = [] := dg_zero
  by_cases hl : b.length = 10
  · have b1 := allB_take 6 hb
    have b2 := allB_drop 6 hb
    have n1 := num_rng b1
    have n2 := num_rng b2
    rw [List.length_take, hl] at n1
    rw [List.length_drop, hl] at n2
    have n1 : 0 ≤ num (b.take 6) ∧ num (b.take 6) < 281474976710656 := n1
    have n2 : 0 ≤ num (b.drop 6) ∧ num (b.drop 6) < 4294967296 := n2
    have tk : List.take 10 b = b := List.take_of_length_le (by omega)
    have m1 : md (num (b.take 6)) := by unfold md; omega
    have s1 : smB (num (b.drop 6)) := by unfold smB; omega
    have s2 : smB 1000000000 := by decide
    have s3 : smB (num (b.take 6) * 1000000000000000000) := by unfold smB; omega
    have s4 : smB (num (b.drop 6) * 1000000000) := by unfold smB; omega
    by_cases hn : num (b.drop 6) < 1000000000
    · have hn' := Int.not_le.2 hn
      simp [epactref19_FromPtp.c, hl, b1, b2, tk, m1, s1, s2, s3, s4, hn, hn']
    · have hn' := Int.not_lt.1 hn
      simp [epactref19_FromPtp.c, hl, b1, b2, tk, m1, s1, s2, hn, hn', z0, z1]
  · have hl' : ¬ (b.length : Int) = 10 := by omega
    simp [epactref19_FromPtp.c, hl, hl', z0, z1]
/-! ### The laws -/
theorem okAns24 : Ok Try.prog 68 tTrue := ok0 (code_mk Try.func68 epactlaw24_answers.ent epactlaw24_answers.chk (specOk_cons okPtpEncode (specOk_cons okPtpDecode okSpW))) ⟨0, by
  have e1 : oct 1 6 ++ oct 500000000 4 = [0, 0, 0, 0, 0, 1, 29, 205, 101, 0] := by decide
  have e2 : num [0, 0, 0, 0, 0, 1] = 1 := by decide
  have e3 : num [29, 205, 101, 0] = 500000000 := by decide
  have b1 : allB [0, 0, 0, 0, 0, 1, 29, 205, 101, 0] := by decide
  simp [epactlaw24_answers.c, e1, e2, e3, b1]
  rw [ByteArray.toList_eq]
  rfl⟩
abbrev lawY := s1 coY Tt1 fun _ => .o (bv true)
abbrev spLaw24 : List (Nat × (List AP → Option AV)) := (68, tTrue) :: (66, tPtpEncode) :: (69, tPtpDecode) :: (67, tRPtp) :: (70, tFromPtp) :: (58, tSame8) :: spRef
theorem okSpLaw24 : SpecOk Try.prog (spOf spLaw24) := specOk_cons okAns24 (specOk_cons okPtpEncode (specOk_cons okPtpDecode (specOk_cons okRPtp (specOk_cons okFromPtp (specOk_cons okSame8 okSpRef)))))
theorem mPtpEncodes : MeetsAll Try.prog 19 lawW := all1 (code_mk Try.func19 epactlaw24_PtpEncodes.ent epactlaw24_PtpEncodes.chk okSpLaw24) (by simp [epactlaw24_PtpEncodes.c]) fun n hn _ => by
  simp at hn
  refine ⟨0, ?_⟩
  have m := w_md hn
  have b := allB_app (allB_oct (n / 1000000000000000000) 6) (allB_oct (n % 1000000000000000000 / 1000000000) 4)
  by_cases h : 0 ≤ n / 1000000000000000000 ∧ n / 1000000000000000000 < 281474976710656
  · simp [epactlaw24_PtpEncodes.c, hn, m, b, h]
  · simp [epactlaw24_PtpEncodes.c, hn, m, h]
theorem mPtpDecodes : MeetsAll Try.prog 20 lawY := all1 (code_mk Try.func20 epactlaw24_PtpDecodes.ent epactlaw24_PtpDecodes.chk okSpLaw24) (by simp [epactlaw24_PtpDecodes.c]) fun b hb _ => by
  simp at hb
  refine ⟨0, ?_⟩
  by_cases h : b.length = 10 ∧ num (b.drop 6) < 1000000000
  · have b1 := allB_take 6 hb
    have b2 := allB_drop 6 hb
    have n1 := num_rng b1
    have n2 := num_rng b2
    have o1 := oct_num b1
    have o2 := oct_num b2
    rw [List.length_take, h.1] at n1 o1
    rw [List.length_drop, h.1] at n2 o2
    have n1 : 0 ≤ num (b.take 6) ∧ num (b.take 6) < 281474976710656 := n1
    have n2 : 0 ≤ num (b.drop 6) ∧ num (b.drop 6) < 4294967296 := n2
    have o1 : oct (num (b.take 6)) 6 = b.take 6 := o1
    have o2 : oct (num (b.drop 6)) 4 = b.drop 6 := o2
    have h2 := h.2
    have e1 : (num (b.take 6) * 1000000000000000000 + num (b.drop 6) * 1000000000) / 1000000000000000000 = num (b.take 6) := by omega
    have e2 : (num (b.take 6) * 1000000000000000000 + num (b.drop 6) * 1000000000) % 1000000000000000000 / 1000000000 = num (b.drop 6) := by omega
    have f : -170141183460469231731687303715884105728 ≤ num (b.take 6) * 1000000000000000000 + num (b.drop 6) * 1000000000 ∧ num (b.take 6) * 1000000000000000000 + num (b.drop 6) * 1000000000 < 170141183460469231731687303715884105728 := by omega
    have e3 : num (b.drop 6) * 1000000000 % 1000000000000000000 / 1000000000 = num (b.drop 6) := by omega
    have s := md_sm (w_md f)
    simp [epactlaw24_PtpDecodes.c, hb, h, e1, e2, e3, f, s, n1, o1, o2]
  · simp [epactlaw24_PtpDecodes.c, hb, h]
theorem mPtpFloors : MeetsAll Try.prog 21 lawW := all1 (code_mk Try.func21 epactlaw24_PtpFloors.ent epactlaw24_PtpFloors.chk okSpLaw24) (by simp [epactlaw24_PtpFloors.c]) fun n hn _ => by
  simp at hn
  refine ⟨0, ?_⟩
  have b := allB_app (allB_oct (n / 1000000000000000000) 6) (allB_oct (n % 1000000000000000000 / 1000000000) 4)
  by_cases h : 0 ≤ n / 1000000000000000000 ∧ n / 1000000000000000000 < 281474976710656
  · have l1 := oct_len 6 (n / 1000000000000000000)
    have l2 := oct_len 4 (n % 1000000000000000000 / 1000000000)
    have t1 : List.take 6 (oct (n / 1000000000000000000) 6 ++ oct (n % 1000000000000000000 / 1000000000) 4) = oct (n / 1000000000000000000) 6 := by rw [List.take_append_of_le_length (by omega), List.take_of_length_le (by omega)]
    have t2 : List.drop 6 (oct (n / 1000000000000000000) 6 ++ oct (n % 1000000000000000000 / 1000000000) 4) = oct (n % 1000000000000000000 / 1000000000) 4 := by rw [List.drop_append_of_le_length (by omega), List.drop_eq_nil_of_le (by omega), List.nil_append]
    have v1 : num (oct (n / 1000000000000000000) 6) = n / 1000000000000000000 := by
      rw [num_oct]; show n / 1000000000000000000 % 281474976710656 = _; omega
    have v2 : num (oct (n % 1000000000000000000 / 1000000000) 4) = n % 1000000000000000000 / 1000000000 := by
      rw [num_oct]; show n % 1000000000000000000 / 1000000000 % 4294967296 = _; omega
    have l3 : (oct (n / 1000000000000000000) 6 ++ oct (n % 1000000000000000000 / 1000000000) 4).length = 10 := by rw [List.length_append, l1, l2]
    have e : n / 1000000000000000000 * 1000000000000000000 + n % 1000000000000000000 / 1000000000 * 1000000000 = n / 1000000000 * 1000000000 := by omega
    have c : n % 1000000000000000000 / 1000000000 < 1000000000 := by omega
    have f : -170141183460469231731687303715884105728 ≤ n / 1000000000 * 1000000000 ∧ n / 1000000000 * 1000000000 < 170141183460469231731687303715884105728 := by omega
    have s1 := md_sm (w_md hn)
    have s2 : smB 1000000000 := by decide
    have s3 : smB (n / 1000000000) := by unfold smB; omega
    have s4 := md_sm (w_md f)
    simp [epactlaw24_PtpFloors.c, hn, b, h, t1, t2, v1, v2, l3, e, c, f, s1, s2, s3, s4]
  · simp [epactlaw24_PtpFloors.c, hn, h]
end Go.Proofs.Ytanolecbepjkcaa.E

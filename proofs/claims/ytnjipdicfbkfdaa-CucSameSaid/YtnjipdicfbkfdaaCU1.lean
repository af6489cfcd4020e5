/- What the package cuc does. -/
import Derived.Test.YtnjipdicfbkfdaaNT2
set_option linter.unusedVariables false
set_option linter.unusedSimpArgs false
set_option maxHeartbeats 4000000
set_option maxRecDepth 100000
namespace Go.Proofs.Ytnjipdicfbkfdaa.E
open Go.VC Go.RowKit

def cuM (c f : Int) : Prop := (1 ≤ c ∧ c ≤ 7) ∧ (0 ≤ f ∧ f ≤ 10)
instance (c f : Int) : Decidable (cuM c f) := inferInstanceAs (Decidable (_ ∧ _))
abbrev tMay := s2 coI coI Tt2 fun c f => .o (bv (decide (cuM c f)))
theorem okMay : Ok Try.prog 96 tMay := ok2 (code_mk Try.func96 cuc_may.ent cuc_may.chk specOk_nil) (by simp [cuc_may.c]) fun c f hc hf _ => by
  refine ⟨0, ?_⟩
  simp [cuc_may.c, cuM]
  grind
def mn (x k : Int) : Int := if k < x then k else x
/-- The octets that tell the widths. -/
def hd (c f : Int) : List Int := if c ≤ 4 ∧ f ≤ 3 then [16 + 4 * (c - 1) + f] else [144 + 4 * (mn c 4 - 1) + mn f 3, 32 * (c - mn c 4) + 4 * (f - mn f 3)]
theorem hd_len (c f : Int) : 1 ≤ (hd c f).length ∧ (hd c f).length ≤ 2 := by unfold hd; split <;> simp
theorem hd_all {c f : Int} (h : cuM c f) : allB (hd c f) := by
  unfold cuM at h
  unfold hd mn
  intro x hx
  split at hx
  · simp at hx; omega
  · simp at hx
    rcases hx with rfl | rfl <;> constructor <;> (repeat' split) <;> omega
abbrev tHd := s2 coI coI (fun c f => cuM c f) fun c f => .o (.c (.r .u8 (hd c f)))
theorem okHd : Ok Try.prog 98 tHd := ok2 (code_mk Try.func98 cuc_head.ent cuc_head.chk specOk_nil) (by simp [cuc_head.c]) fun c f hc hf hg => by
  simp at hc hf
  obtain ⟨⟨c1, c2⟩, f1, f2⟩ := hg
  refine ⟨0, ?_⟩
  have x1 : IntKind.i64.wrap 12 = 12 := rfl
  have x2 : IntKind.i64.wrap 28 = 28 := rfl
  have x3 : IntKind.i64.wrap 3 = 3 := rfl
  have x0 : IntKind.i64.wrap 0 = 0 := rfl
  by_cases a : c ≤ 4
  · have a' := Int.not_lt.2 a
    have w1 : IntKind.i64.wrap (c - 1) = c - 1 := wrap_i64_in (by omega) (by omega)
    have w2 : IntKind.i64.wrap ((c - 1) * 4) = (c - 1) * 4 := wrap_i64_in (by omega) (by omega)
    have w3 : IntKind.i64.wrap (16 + (c - 1) * 4) = 16 + (c - 1) * 4 := wrap_i64_in (by omega) (by omega)
    by_cases b : f ≤ 3
    · have b' := Int.not_lt.2 b
      have w4 : IntKind.i64.wrap (16 + (c - 1) * 4 + f) = 16 + (c - 1) * 4 + f := wrap_i64_in (by omega) (by omega)
      have w5 : IntKind.u8.wrap (16 + (c - 1) * 4 + f) = 16 + (c - 1) * 4 + f := by rw [wrap_u8_eq]; omega
      have e : hd c f = [16 + (c - 1) * 4 + f] := by unfold hd; rw [if_pos ⟨a, b⟩, Int.mul_comm 4]
      rw [e]
      simp [cuc_head.c, a', b', w1, w2, w3, w4, w5, relRow, rowInts]
    · have b' := Int.not_le.1 b
      have b'' : ¬ (3 : Int) = f := by omega
      have w4 : IntKind.i64.wrap (16 + (c - 1) * 4 + 3) = 16 + (c - 1) * 4 + 3 := wrap_i64_in (by omega) (by omega)
      have w5 : IntKind.u8.wrap (16 + (c - 1) * 4 + 3) = 16 + (c - 1) * 4 + 3 := by rw [wrap_u8_eq]; omega
      have w6 : IntKind.u8.wrap (16 + (c - 1) * 4 + 3 + 128) = 16 + (c - 1) * 4 + 3 + 128 := by rw [wrap_u8_eq]; omega
      have w7 : IntKind.i64.wrap (f - 3) = f - 3 := wrap_i64_in (by omega) (by omega)
      have w8 : IntKind.i64.wrap ((f - 3) * 4) = (f - 3) * 4 := wrap_i64_in (by omega) (by omega)
      have w9 : IntKind.u8.wrap ((f - 3) * 4) = (f - 3) * 4 := by rw [wrap_u8_eq]; omega
      have e : hd c f = [16 + (c - 1) * 4 + 3 + 128, (f - 3) * 4] := by unfold hd mn; rw [if_neg (by omega), if_neg a', if_pos b']; congr 1; omega; congr 1; omega
      rw [e]
      simp [cuc_head.c, a', b', b'', w1, w2, w3, w4, w5, w6, w7, w8, w9, x0, relRow, rowInts]
  · have a' := Int.not_le.1 a
    have a'' : ¬ (4 : Int) = c := by omega
    have w1 : IntKind.i64.wrap (c - 4) = c - 4 := wrap_i64_in (by omega) (by omega)
    have w2 : IntKind.i64.wrap ((c - 4) * 32) = (c - 4) * 32 := wrap_i64_in (by omega) (by omega)
    by_cases b : f ≤ 3
    · have b' := Int.not_lt.2 b
      have w4 : IntKind.i64.wrap (28 + f) = 28 + f := wrap_i64_in (by omega) (by omega)
      have w5 : IntKind.u8.wrap (28 + f) = 28 + f := by rw [wrap_u8_eq]; omega
      have w6 : IntKind.u8.wrap (28 + f + 128) = 28 + f + 128 := by rw [wrap_u8_eq]; omega
      have w7 : IntKind.u8.wrap ((c - 4) * 32) = (c - 4) * 32 := by rw [wrap_u8_eq]; omega
      have e : hd c f = [28 + f + 128, (c - 4) * 32] := by unfold hd mn; rw [if_neg (by omega), if_pos a', if_neg b']; congr 1; omega; congr 1; omega
      rw [e]
      simp [cuc_head.c, a', a'', b', w1, w2, w4, w5, w6, w7, x0, x1, x2, x3, relRow, rowInts]
    · have b' := Int.not_le.1 b
      have x4 : IntKind.i64.wrap 31 = 31 := rfl
      have x5 : IntKind.u8.wrap 31 = 31 := rfl
      have x6 : IntKind.u8.wrap 159 = 159 := rfl
      have w7 : IntKind.i64.wrap (f - 3) = f - 3 := wrap_i64_in (by omega) (by omega)
      have w8 : IntKind.i64.wrap ((f - 3) * 4) = (f - 3) * 4 := wrap_i64_in (by omega) (by omega)
      have w9 : IntKind.i64.wrap ((c - 4) * 32 + (f - 3) * 4) = (c - 4) * 32 + (f - 3) * 4 := wrap_i64_in (by omega) (by omega)
      have w10 : IntKind.u8.wrap ((c - 4) * 32 + (f - 3) * 4) = (c - 4) * 32 + (f - 3) * 4 := by rw [wrap_u8_eq]; omega
      have e : hd c f = [159, (c - 4) * 32 + (f - 3) * 4] := by unfold hd mn; rw [if_neg (by omega), if_pos a', if_pos b']; congr 1; congr 1; omega
      rw [e]
      simp [cuc_head.c, a', a'', b', w1, w2, w7, w8, w9, w10, x0, x1, x2, x3, x4, x5, x6, relRow, rowInts]
abbrev tUEra := s1 coI (fun n => 0 ≤ n ∧ n ≤ 7) fun n => .o (wd (pw n * 1000000000000000000))
theorem okUEra : Ok Try.prog 97 tUEra := ok1 (code_mk Try.func97 cuc_era.ent cuc_era.chk okSpW) (by simp [cuc_era.c]) fun n hn hg => by
  simp at hn hg
  refine ⟨20, ?_⟩
  simp [cuc_era.c, hn]
  refine loopW_iter (fun i s => s.tm 2 = .o (.c (.p 2 0)) ∧ s.tm 3 = .o (.c (.p 3 0)) ∧ s.tm 5 = .o (.c (.v (.int .i64 n))) ∧ s.tm 6 = .o (.c (.v (.int .i64 (i : Int)))) ∧ s.mem 2 = some [.v (.int .i64 0), .v (.int .u64 0)] ∧ s.mem 3 = some [.v (.int .i64 (whi (pw (i : Int) * 1000000000000000000))), .v (.int .u64 (wlo (pw (i : Int) * 1000000000000000000)))]) n.toNat ?_ ?_ 20 _ (by omega) ?_
  · rintro i s hi ⟨t2, t3, t5, t6, m2, m3⟩
    have h1 := pw_pos (i : Int)
    have h2 := pw_7 (n := (i : Int) + 1) (by omega)
    have h3 := pw_succ (n := (i : Int)) (by omega)
    rw [h3] at h2
    have c : (i : Int) < n := by omega
    have w : IntKind.i64.wrap ((i : Int) + 1) = (i : Int) + 1 := wrap_i64_in (by omega) (by omega)
    have f1 : -170141183460469231731687303715884105728 ≤ pw (i : Int) * 1000000000000000000 ∧ pw (i : Int) * 1000000000000000000 < 170141183460469231731687303715884105728 := by omega
    have f2 : -170141183460469231731687303715884105728 ≤ pw (i : Int) * 1000000000000000000 * 256 ∧ pw (i : Int) * 1000000000000000000 * 256 < 170141183460469231731687303715884105728 := by omega
    have e : pw ((i : Int) + 1) * 1000000000000000000 = pw (i : Int) * 1000000000000000000 * 256 := by rw [h3]; omega
    simp [cuc_era.l1, t2, t3, t5, t6, m2, m3, c, w, f1, f2, e]
  · rintro s ⟨t2, t3, t5, t6, m2, m3⟩
    have e : (n.toNat : Int) = n := by omega
    rw [e] at t6 m3
    simp [cuc_era.l1, t2, t3, t5, t6, m2, m3]
  · simp [pw_0]
/-! ### The codes -/
def uform (c f n : Int) : List Int := hd c f ++ oct (n / 1000000000000000000 % pw c) c.toNat ++ oct (cd (n % 1000000000000000000) f) f.toNat
abbrev uEnc (n c f : Int) : AV := if cuM c f then .t [.c (.r .u8 (uform c f n)), iv .i64 0] else .t [.c (.r .u8 []), iv .i64 1]
theorem fold_cut (n P : Int) (hP : 0 < P) : n % (P * 1000000000000000000) / 1000000000000000000 = n / 1000000000000000000 % P ∧ n % (P * 1000000000000000000) % 1000000000000000000 = n % 1000000000000000000 := by
  have r0 := Int.emod_nonneg (n / 1000000000000000000) (show P ≠ 0 by omega)
  have r1 := Int.emod_lt_of_pos (n / 1000000000000000000) hP
  have h1 := Int.mul_ediv_add_emod (n / 1000000000000000000) P
  have e : n = n / 1000000000000000000 % P * 1000000000000000000 + n % 1000000000000000000 + P * 1000000000000000000 * (n / 1000000000000000000 / P) := by
    have h2 : n = 1000000000000000000 * (n / 1000000000000000000) + n % 1000000000000000000 := by omega
    have h3 : P * 1000000000000000000 * (n / 1000000000000000000 / P) = 1000000000000000000 * (P * (n / 1000000000000000000 / P)) := by rw [Int.mul_comm P, Int.mul_assoc]
    rw [h3]
    omega
  have e2 : n % (P * 1000000000000000000) = n / 1000000000000000000 % P * 1000000000000000000 + n % 1000000000000000000 := by
    conv => lhs; rw [e]
    rw [Int.add_mul_emod_self_left]
    exact Int.emod_eq_of_lt (by omega) (by omega)
  rw [e2]
  omega
abbrev tUEnc := s3 coW coI coI Tt3 fun n c f => uEnc n c f
theorem okUEnc : Ok Try.prog 49 tUEnc := ok3 (code_mk Try.func49 cuc_Encode.ent cuc_Encode.chk (specOk_cons okMay (specOk_cons okHd (specOk_cons okUEra (specOk_cons okFEncode (specOk_cons okPut (specOk_cons okFold (specOk_cons okConcat okSpW)))))))) (by simp [cuc_Encode.c]) fun n c f hn hc hf _ => by
  simp at hn hc hf
  refine ⟨0, ?_⟩
  by_cases hM : cuM c f
  · obtain ⟨⟨c1, c2⟩, f1, f2⟩ := id hM
    have hp := pw_pos c
    have hp7 := pw_7 c2
    obtain ⟨e1, e2⟩ := fold_cut n (pw c) hp
    have r0 := Int.emod_nonneg n (show pw c * 1000000000000000000 ≠ 0 by omega)
    have r1 := Int.emod_lt_of_pos n (show 0 < pw c * 1000000000000000000 by omega)
    have s0 := Int.emod_nonneg (n / 1000000000000000000) (show pw c ≠ 0 by omega)
    have s1 := Int.emod_lt_of_pos (n / 1000000000000000000) hp
    have p1 : ¬ pw c * 1000000000000000000 ≤ 0 := by omega
    have p2 : -170141183460469231731687303715884105728 ≤ pw c * 1000000000000000000 ∧ pw c * 1000000000000000000 < 170141183460469231731687303715884105728 := by omega
    have p3 : -170141183460469231731687303715884105728 ≤ n % (pw c * 1000000000000000000) ∧ n % (pw c * 1000000000000000000) < 170141183460469231731687303715884105728 := by omega
    have q1 := div_fits p3.1 p3.2 (show (0 : Int) < 1000000000000000000 by decide)
    rw [e1] at q1
    have c0 : 0 ≤ c := by omega
    have c15 : c ≤ 15 := by omega
    have f15 : f ≤ 15 := by omega
    have g2 : -170141183460469231731687303715884105728 ≤ n / 1000000000000000000 % pw c ∧ n / 1000000000000000000 % pw c < 170141183460469231731687303715884105728 := by omega
    have a0 : 0 ≤ n % 1000000000000000000 := by omega
    have a1 : n % 1000000000000000000 < 1000000000000000000 := by omega
    have g3 : -170141183460469231731687303715884105728 ≤ n % 1000000000000000000 ∧ n % 1000000000000000000 < 170141183460469231731687303715884105728 := by omega
    have g4 : -9223372036854775808 ≤ n % 1000000000000000000 ∧ n % 1000000000000000000 < 9223372036854775808 := by omega
    have hr := cd_rng (o := f) a0 (Int.le_of_lt a1)
    have hl := cd_lt (o := f) a0 a1
    have h10 := pw_10 f2
    have g5 : -170141183460469231731687303715884105728 ≤ cd (n % 1000000000000000000) f ∧ cd (n % 1000000000000000000) f < 170141183460469231731687303715884105728 := by omega
    have hH := hd_all hM
    have hHl := hd_len c f
    have l1 : 0 < (hd c f).length + (c.toNat + f.toNat) := by omega
    have l2 : (hd c f).length + (c.toNat + f.toNat) ≤ 1000 := by omega
    have l3 : 0 < (hd c f).length + c.toNat + f.toNat := by omega
    have l4 : (hd c f).length + c.toNat + f.toNat ≤ 1000 := by omega
    simp [cuc_Encode.c, hn, hc, hf, hM, e1, e2, s0, s1, p1, p2, p3, q1, c0, c2, c15, f1, f2, f15, g2, a0, a1, g3, g4, hr, hl, g5, hH, oct_len, l1, l2, l3, l4, relRow, rowQ, uform]
  · simp [cuc_Encode.c, hn, hc, hf, hM]
/-! ### Are rows of octets the same? -/
abbrev tEqual := s2 coY coY (fun a b => a.length ≤ 1000) fun a b => .o (bv (decide (a = b)))
theorem okEqual : Ok Try.prog 117 tEqual := ok2 (code_mk Try.func117 slices_Equal_byte_byte.ent slices_Equal_byte_byte.chk specOk_nil) (by simp [slices_Equal_byte_byte.c]) fun a b ha hb hg => by
  simp at ha hb
  refine ⟨a.length + 5, ?_⟩
  by_cases hl : a.length = b.length
  · simp [-List.getD_eq_getElem?_getD, slices_Equal_byte_byte.c, hl]
    refine loopW_iter (fun i s => s.tm 0 = .o (.c (.r .u8 a)) ∧ s.tm 1 = .o (.c (.r .u8 b)) ∧ s.tm 12 = .o (.c (.v (.int .i64 (a.length : Int)))) ∧ s.tm 13 = .o (.c (.v (.int .i64 (i : Int)))) ∧ ∀ k, k < i → a.getD k 0 = b.getD k 0) a.length ?_ ?_ _ _ (by omega) ?_
    · rintro i s hi ⟨t0, t1, t12, t13, hk⟩
      have hi2 : i < b.length := by omega
      have w : IntKind.i64.wrap ((i : Int) + 1) = (i : Int) + 1 := wrap_i64_in (by omega) (by omega)
      by_cases hx : a.getD i 0 = b.getD i 0
      · simp [-List.getD_eq_getElem?_getD, slices_Equal_byte_byte.l1, t0, t1, t12, t13, hi, hi2, w, hx]
        intro k hk'
        rcases Nat.lt_or_ge k i with h | h
        · exact hk k h
        · obtain rfl : k = i := by omega
          exact hx
      · have hne : ¬ a = b := fun h => hx (by rw [h])
        simp [-List.getD_eq_getElem?_getD, slices_Equal_byte_byte.l1, t0, t1, t12, t13, hi, hi2, w, hx, hne]
    · rintro s ⟨t0, t1, t12, t13, hk⟩
      have he : a = b := by
        apply List.ext_getElem hl
        intro i h1 h2
        have := hk i h1
        simpa [List.getD_eq_getElem?_getD, List.getElem?_eq_getElem h1, List.getElem?_eq_getElem h2] using this
      subst he
      simp [-List.getD_eq_getElem?_getD, slices_Equal_byte_byte.l1, t0, t1, t12, t13]
    · simp
      omega
  · have hne : ¬ a = b := fun h => hl (by rw [h])
    have hl' : ¬ (a.length : Int) = b.length := by omega
    simp [-List.getD_eq_getElem?_getD, slices_Equal_byte_byte.c, hl, hl', hne]
/-! ### The widths -/
def two (b : List Int) : Prop := 128 ≤ b.getD 0 0 ∧ 1 < b.length
instance (b : List Int) : Decidable (two b) := inferInstanceAs (Decidable (_ ∧ _))
def wc (b : List Int) : Int := b.getD 0 0 / 4 % 4 + 1 + if two b then b.getD 1 0 / 32 % 4 else 0
def wf (b : List Int) : Int := b.getD 0 0 % 4 + if two b then b.getD 1 0 / 4 % 8 else 0
def wk (b : List Int) : Nat := if two b then 2 else 1
theorem uw_rng (b : List Int) : cuM (wc b) (wf b) ∧ (1 ≤ wk b ∧ wk b ≤ 2) := by unfold cuM wc wf wk; split <;> omega
def wok (b : List Int) : Prop := b.length ≠ 0 ∧ List.take (wk b) b = hd (wc b) (wf b)
instance (b : List Int) : Decidable (wok b) := inferInstanceAs (Decidable (_ ∧ _))
theorem and3 {x : Int} (h0 : 0 ≤ x) (h1 : x < 256) : bitsV .and .u8 x 3 = x % 4 := by
  have h : ∀ n : Fin 256, bitsV .and .u8 (n.val : Int) 3 = (n.val : Int) % 4 := by decide
  have := h ⟨x.toNat, by omega⟩
  simp only [show (x.toNat : Int) = x by omega] at this
  exact this
theorem and7 {x : Int} (h0 : 0 ≤ x) (h1 : x < 256) : bitsV .and .u8 x 7 = x % 8 := by
  have h : ∀ n : Fin 256, bitsV .and .u8 (n.val : Int) 7 = (n.val : Int) % 8 := by decide
  have := h ⟨x.toNat, by omega⟩
  simp only [show (x.toNat : Int) = x by omega] at this
  exact this
abbrev tUW := s1 coY Tt1 fun b => if b.length = 0 then .t [iv .i64 0, iv .i64 0, iv .i64 0, bv false] else .t [iv .i64 (wc b), iv .i64 (wf b), iv .i64 (wk b), bv (decide (wok b))]
theorem okUW : Ok Try.prog 100 tUW := ok1 (code_mk Try.func100 cuc_widths.ent cuc_widths.chk (specOk_cons okHd (specOk_cons okEqual specOk_nil))) (by simp [cuc_widths.c]) fun b hb _ => by
  simp at hb
  refine ⟨0, ?_⟩
  by_cases hl : b.length = 0
  · simp [-List.getD_eq_getElem?_getD, cuc_widths.c, hl]
  · have hl2 : 0 < b.length := by omega
    obtain ⟨hM, hk⟩ := uw_rng b
    have hH := hd_all hM
    have bl : (List.take 2 b).length ≤ 1000 := by simp; omega
    have bl1 : (List.take 1 b).length ≤ 1000 := by simp; omega
    have g0 := byte_get hb 0
    have g1 := byte_get hb 1
    have bt := fun n => allB_take n hb
    have hw : wok b = (List.take (wk b) b = hd (wc b) (wf b)) := by unfold wok; simp [hl]
    have d1 : (b.getD 0 0).fdiv 4 = b.getD 0 0 / 4 := Int.fdiv_eq_ediv_of_nonneg _ (by decide)
    have d2 : (b.getD 1 0).fdiv 32 = b.getD 1 0 / 32 := Int.fdiv_eq_ediv_of_nonneg _ (by decide)
    have d3 : (b.getD 1 0).fdiv 4 = b.getD 1 0 / 4 := Int.fdiv_eq_ediv_of_nonneg _ (by decide)
    have a1 := and3 (x := b.getD 0 0) (by omega) (by omega)
    have a2 := and3 (x := b.getD 0 0 / 4) (by omega) (by omega)
    have a3 := and3 (x := b.getD 1 0 / 32) (by omega) (by omega)
    have a4 := and7 (x := b.getD 1 0 / 4) (by omega) (by omega)
    have w1 : IntKind.i64.wrap (b.getD 0 0 / 4 % 4) = b.getD 0 0 / 4 % 4 := wrap_i64_in (by omega) (by omega)
    have w2 : IntKind.i64.wrap (b.getD 0 0 / 4 % 4 + 1) = b.getD 0 0 / 4 % 4 + 1 := wrap_i64_in (by omega) (by omega)
    have w3 : IntKind.i64.wrap (b.getD 0 0 % 4) = b.getD 0 0 % 4 := wrap_i64_in (by omega) (by omega)
    have w4 : IntKind.i64.wrap (b.getD 1 0 / 32 % 4) = b.getD 1 0 / 32 % 4 := wrap_i64_in (by omega) (by omega)
    have w5 : IntKind.i64.wrap (b.getD 1 0 / 4 % 8) = b.getD 1 0 / 4 % 8 := wrap_i64_in (by omega) (by omega)
    have w6 : IntKind.i64.wrap (b.getD 0 0 / 4 % 4 + 1 + b.getD 1 0 / 32 % 4) = b.getD 0 0 / 4 % 4 + 1 + b.getD 1 0 / 32 % 4 := wrap_i64_in (by omega) (by omega)
    have w7 : IntKind.i64.wrap (b.getD 0 0 % 4 + b.getD 1 0 / 4 % 8) = b.getD 0 0 % 4 + b.getD 1 0 / 4 % 8 := wrap_i64_in (by omega) (by omega)
    have cr : ∀ c f : Int, cuM c f → (-9223372036854775808 ≤ c ∧ c < 9223372036854775808) ∧ (-9223372036854775808 ≤ f ∧ f < 9223372036854775808) := fun c f h => by unfold cuM at h; omega
    have crM := cr _ _ hM
    by_cases ht : two b
    · obtain ⟨t1, t2⟩ := id ht
      have t2' : (1 : Int) < b.length := by omega
      have t3 : 2 ≤ b.length := by omega
      have t4 : (2 : Int) ≤ b.length := by omega
      have ek : wk b = 2 := by unfold wk; rw [if_pos ht]
      have ec : wc b = b.getD 0 0 / 4 % 4 + 1 + b.getD 1 0 / 32 % 4 := by unfold wc; rw [if_pos ht]
      have ef : wf b = b.getD 0 0 % 4 + b.getD 1 0 / 4 % 8 := by unfold wf; rw [if_pos ht]
      rw [ec, ef] at hM hH hw crM
      rw [ek] at hw
      simp [-List.getD_eq_getElem?_getD, cuc_widths.c, hl, hl2, hM, hH, bt, hw, d1, d2, d3, a1, a2, a3, a4, w1, w2, w3, w4, w5, w6, w7, t1, t2, t2', t3, t4, ek, ec, ef, crM]
    · have ek : wk b = 1 := by unfold wk; rw [if_neg ht]
      have ec : wc b = b.getD 0 0 / 4 % 4 + 1 := by unfold wc; rw [if_neg ht]; omega
      have ef : wf b = b.getD 0 0 % 4 := by unfold wf; rw [if_neg ht]; omega
      rw [ec, ef] at hM hH hw crM
      rw [ek] at hw
      have t3 : 1 ≤ b.length := by omega
      have t4 : (1 : Int) ≤ b.length := by omega
      by_cases t1 : 128 ≤ b.getD 0 0
      · have t2 : ¬ 1 < b.length := fun h => ht ⟨t1, h⟩
        have t2' : ¬ (1 : Int) < b.length := by omega
        simp [-List.getD_eq_getElem?_getD, cuc_widths.c, hl, hl2, hM, hH, bt, hw, d1, a1, a2, w1, w2, w3, t1, t2, t2', t3, t4, ek, ec, ef, crM]
      · simp [-List.getD_eq_getElem?_getD, cuc_widths.c, hl, hl2, hM, hH, bt, hw, d1, a1, a2, w1, w2, w3, t1, t3, t4, ek, ec, ef, crM]
/-! ### Read again -/
def us (b : List Int) : Int := num (List.take (wc b).toNat (List.drop (wk b) b))
def ucd (b : List Int) : Int := num (List.drop (wk b + (wc b).toNat) b)
def uOk (b : List Int) : Prop := wok b ∧ (b.length : Int) = wk b + wc b + wf b
instance (b : List Int) : Decidable (uOk b) := inferInstanceAs (Decidable (_ ∧ _))
def uval (b : List Int) : Int := us b * 1000000000000000000 + lst (ucd b) (wf b)
abbrev uNo (e : Int) : AV := .t [wd 0, iv .i64 0, iv .i64 0, iv .i64 e]
abbrev uDec (b : List Int) (p : Int) : AV := if uOk b then (if hasA (ucd b) (wf b) then (if abOk (uval b) (pw (wc b) * 1000000000000000000) p then .t [wd (abo (uval b) (pw (wc b) * 1000000000000000000) p), iv .i64 (wc b), iv .i64 (wf b), iv .i64 0] else uNo 2) else uNo 13) else uNo 4
theorem u_rng {b : List Int} (hb : allB b) (h : uOk b) : (0 ≤ us b ∧ us b < pw (wc b)) ∧ (0 ≤ ucd b ∧ ucd b < pw (wf b)) := by
  obtain ⟨hM, hk⟩ := uw_rng b
  obtain ⟨⟨c1, c2⟩, f1, f2⟩ := hM
  have hl := h.2
  have n1 := num_rng (allB_take (wc b).toNat (allB_drop (wk b) hb))
  have n2 := num_rng (allB_drop (wk b + (wc b).toNat) hb)
  rw [List.length_take, List.length_drop, Nat.min_eq_left (by omega), show ((wc b).toNat : Int) = wc b by omega] at n1
  rw [List.length_drop, show ((b.length - (wk b + (wc b).toNat) : Nat) : Int) = wf b by omega] at n2
  exact ⟨n1, n2⟩
abbrev tUDec := s2 coY coW Tt2 fun b p => uDec b p
theorem okUDec : Ok Try.prog 52 tUDec := ok2 (code_mk Try.func52 cuc_Decode.ent cuc_Decode.chk (specOk_cons okUW (specOk_cons okUEra (specOk_cons okGet (specOk_cons okFDecode (specOk_cons okNearA okSpW)))))) (by simp [cuc_Decode.c]) fun b p hb hp _ => by
  simp at hb hp
  refine ⟨0, ?_⟩
  by_cases he : b.length = 0
  · have hu : ¬ uOk b := fun h => h.1.1 he
    simp [cuc_Decode.c, hp, hb, he, hu]
  · by_cases hw : wok b
    · obtain ⟨hM, k1, k2⟩ := uw_rng b
      obtain ⟨⟨c1, c2⟩, f1, f2⟩ := hM
      have w1 : IntKind.i64.wrap ((wk b : Int) + wc b) = (wk b : Int) + wc b := wrap_i64_in (by omega) (by omega)
      have w2 : IntKind.i64.wrap ((wk b : Int) + wc b + wf b) = (wk b : Int) + wc b + wf b := wrap_i64_in (by omega) (by omega)
      by_cases hl : (b.length : Int) = wk b + wc b + wf b
      · have hu : uOk b := ⟨hw, hl⟩
        obtain ⟨⟨n0, n1⟩, n2, n3⟩ := u_rng hb hu
        have hp7 := pw_7 c2
        have hp10 := pw_10 f2
        have hp0 := pw_pos (wc b)
        obtain ⟨l0, l1⟩ := lst_rng n2 n3
        have b1 := allB_take (wc b).toNat (allB_drop (wk b) hb)
        have b2 := allB_drop (wk b + (wc b).toNat) hb
        have e1 : num (List.take (wc b).toNat (List.drop (wk b) b)) = us b := rfl
        have e2 : num (List.drop (wk b + (wc b).toNat) b) = ucd b := rfl
        have tk : List.take (b.length - wk b) (List.drop (wk b) b) = List.drop (wk b) b := List.take_of_length_le (by simp)
        have c0 : 0 ≤ wc b := by omega
        have y1 : IntKind.i64.wrap (b.length : Int) = b.length := wrap_i64_in (by omega) (by omega)
        have y2 : ¬ 15 < wc b := by omega
        have y3 : -9223372036854775808 ≤ wc b ∧ wc b < 9223372036854775808 := by omega
        have y4 : -9223372036854775808 ≤ wf b ∧ wf b < 9223372036854775808 := by omega
        have z1 : wk b ≤ b.length := by omega
        have z2 : (wk b : Int) ≤ b.length := by omega
        have z3 : (wc b).toNat ≤ b.length - wk b := by omega
        have z4 : wk b + (wc b).toNat ≤ b.length := by omega
        have z5 : ¬ 15 < min (wc b).toNat (b.length - wk b) := by omega
        have z6 : ¬ 15 < b.length - (wk b + (wc b).toNat) := by omega
        have z7 : min (wc b).toNat (b.length - wk b) ≤ 15 := by omega
        have z8 : b.length ≤ 15 + (wk b + (wc b).toNat) := by omega
        have z9 : wc b ≤ ((b.length - wk b : Nat) : Int) := by omega
        have g1 : -170141183460469231731687303715884105728 ≤ us b ∧ us b < 170141183460469231731687303715884105728 := by omega
        have g2 : -170141183460469231731687303715884105728 ≤ ucd b ∧ ucd b < 170141183460469231731687303715884105728 := by omega
        by_cases hA : hasA (ucd b) (wf b)
        · have hA1 := hA.1
          have g3 : -9223372036854775808 ≤ lst (ucd b) (wf b) ∧ lst (ucd b) (wf b) < 9223372036854775808 := by omega
          have g4 : -170141183460469231731687303715884105728 ≤ lst (ucd b) (wf b) ∧ lst (ucd b) (wf b) < 170141183460469231731687303715884105728 := by omega
          have g5 : -170141183460469231731687303715884105728 ≤ us b * 1000000000000000000 ∧ us b * 1000000000000000000 < 170141183460469231731687303715884105728 := by omega
          have g6 : -170141183460469231731687303715884105728 ≤ us b * 1000000000000000000 + lst (ucd b) (wf b) ∧ us b * 1000000000000000000 + lst (ucd b) (wf b) < 170141183460469231731687303715884105728 := by omega
          have g7 : 0 ≤ us b * 1000000000000000000 + lst (ucd b) (wf b) ∧ us b * 1000000000000000000 + lst (ucd b) (wf b) < pw (wc b) * 1000000000000000000 := by omega
          have g8 : -170141183460469231731687303715884105728 ≤ pw (wc b) * 1000000000000000000 ∧ pw (wc b) * 1000000000000000000 < 170141183460469231731687303715884105728 := by omega
          have g9 : 0 < pw (wc b) * 1000000000000000000 := by omega
          by_cases ha : abOk (us b * 1000000000000000000 + lst (ucd b) (wf b)) (pw (wc b) * 1000000000000000000) p
          · simp [cuc_Decode.c, hp, hb, he, hw, hu, hl.symm, w1, w2, y1, y2, y3, y4, c0, c1, c2, f1, f2, z1, z2, z3, z4, z5, z6, z7, z8, z9, tk, b1, b2, e1, e2, n0, n1, n2, n3, hA, g1, g2, g3, g4, g5, g6, g7, g8, g9, ha, uval]
          · simp [cuc_Decode.c, hp, hb, he, hw, hu, hl.symm, w1, w2, y1, y2, y3, y4, c0, c1, c2, f1, f2, z1, z2, z3, z4, z5, z6, z7, z8, z9, tk, b1, b2, e1, e2, n0, n1, n2, n3, hA, g1, g2, g3, g4, g5, g6, g7, g8, g9, ha, uval]
        · simp [cuc_Decode.c, hp, hb, he, hw, hu, hl.symm, w1, w2, y1, y2, y3, y4, c0, c1, c2, f1, f2, z1, z2, z3, z4, z5, z6, z7, z8, z9, tk, b1, b2, e1, e2, n0, n1, n2, n3, hA, g1, g2]
      · have hu : ¬ uOk b := fun h => hl h.2
        simp [cuc_Decode.c, hp, hb, he, hw, hu, hl, w1, w2]
    · have hu : ¬ uOk b := fun h => hw h.1
      simp [cuc_Decode.c, hp, hb, he, hw, hu]
end Go.Proofs.Ytnjipdicfbkfdaa.E

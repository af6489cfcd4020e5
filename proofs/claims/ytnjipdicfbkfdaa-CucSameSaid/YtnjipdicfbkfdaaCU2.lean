/- What the reference says of CUC codes. -/
import Derived.Test.YtnjipdicfbkfdaaCU1
set_option linter.unusedVariables false
set_option linter.unusedSimpArgs false
set_option maxHeartbeats 4000000
set_option maxRecDepth 100000
namespace Go.Proofs.Ytnjipdicfbkfdaa.E
open Go.VC Go.RowKit

abbrev tLess := s2 coI coI Tt2 fun a b => .o (iv .i64 (mn a b))
theorem okLess : Ok Try.prog 116 tLess := ok2 (code_mk Try.func116 epactref19_less.ent epactref19_less.chk specOk_nil) (by simp [epactref19_less.c]) fun a b ha hb _ => by
  refine ⟨0, ?_⟩
  by_cases h : b < a
  · have h' := Int.not_le.2 h
    simp [epactref19_less.c, h, h', mn]
  · have h' := Int.not_lt.1 h
    simp [epactref19_less.c, h, h', mn]
theorem mn_cases (x k : Int) : (mn x k = k ∧ k < x) ∨ (mn x k = x ∧ x ≤ k) := by
  unfold mn
  by_cases h : k < x
  · rw [if_pos h]; omega
  · rw [if_neg h]; omega
theorem okRHd : Ok Try.prog 99 tHd := ok2 (code_mk Try.func99 epactref19_Head.ent epactref19_Head.chk (specOk_cons okLess specOk_nil)) (by simp [epactref19_Head.c]) fun c f hc hf hg => by
  simp at hc hf
  obtain ⟨⟨c1, c2⟩, f1, f2⟩ := hg
  refine ⟨0, ?_⟩
  have ha := mn_cases c 4
  have hb := mn_cases f 3
  have w1 : IntKind.i64.wrap (mn c 4 - 1) = mn c 4 - 1 := wrap_i64_in (by omega) (by omega)
  have w2 : IntKind.i64.wrap (4 * (mn c 4 - 1)) = 4 * (mn c 4 - 1) := wrap_i64_in (by omega) (by omega)
  have w3 : IntKind.i64.wrap (16 + 4 * (mn c 4 - 1)) = 16 + 4 * (mn c 4 - 1) := wrap_i64_in (by omega) (by omega)
  have w4 : IntKind.i64.wrap (16 + 4 * (mn c 4 - 1) + mn f 3) = 16 + 4 * (mn c 4 - 1) + mn f 3 := wrap_i64_in (by omega) (by omega)
  have w5 : IntKind.u8.wrap (16 + 4 * (mn c 4 - 1) + mn f 3) = 16 + 4 * (mn c 4 - 1) + mn f 3 := by rw [wrap_u8_eq]; omega
  by_cases hs : c ≤ 4 ∧ f ≤ 3
  · have e : hd c f = [16 + 4 * (mn c 4 - 1) + mn f 3] := by unfold hd; rw [if_pos hs]; congr 1; omega
    rw [e]
    simp [epactref19_Head.c, hc, hf, hs, w1, w2, w3, w4, w5, relRow, rowInts]
  · have w6 : IntKind.i64.wrap (16 + 4 * (mn c 4 - 1) + mn f 3 + 128) = 16 + 4 * (mn c 4 - 1) + mn f 3 + 128 := wrap_i64_in (by omega) (by omega)
    have w7 : IntKind.u8.wrap (16 + 4 * (mn c 4 - 1) + mn f 3 + 128) = 16 + 4 * (mn c 4 - 1) + mn f 3 + 128 := by rw [wrap_u8_eq]; omega
    have w8 : IntKind.i64.wrap (c - mn c 4) = c - mn c 4 := wrap_i64_in (by omega) (by omega)
    have w9 : IntKind.i64.wrap (32 * (c - mn c 4)) = 32 * (c - mn c 4) := wrap_i64_in (by omega) (by omega)
    have w10 : IntKind.i64.wrap (f - mn f 3) = f - mn f 3 := wrap_i64_in (by omega) (by omega)
    have w11 : IntKind.i64.wrap (4 * (f - mn f 3)) = 4 * (f - mn f 3) := wrap_i64_in (by omega) (by omega)
    have w12 : IntKind.i64.wrap (32 * (c - mn c 4) + 4 * (f - mn f 3)) = 32 * (c - mn c 4) + 4 * (f - mn f 3) := wrap_i64_in (by omega) (by omega)
    have w13 : IntKind.u8.wrap (32 * (c - mn c 4) + 4 * (f - mn f 3)) = 32 * (c - mn c 4) + 4 * (f - mn f 3) := by rw [wrap_u8_eq]; omega
    have e : hd c f = [16 + 4 * (mn c 4 - 1) + mn f 3 + 128, 32 * (c - mn c 4) + 4 * (f - mn f 3)] := by unfold hd; rw [if_neg hs]; congr 1; omega
    rw [e]
    by_cases h1 : c ≤ 4
    · have h2 : ¬ f ≤ 3 := fun h => hs ⟨h1, h⟩
      have h2' := Int.not_le.1 h2
      simp [epactref19_Head.c, hc, hf, h1, h2, h2', w1, w2, w3, w4, w6, w7, w8, w9, w10, w11, w12, w13, relRow, rowInts]
    · have h1' := Int.not_le.1 h1
      simp [epactref19_Head.c, hc, hf, h1, h1', w1, w2, w3, w4, w6, w7, w8, w9, w10, w11, w12, w13, relRow, rowInts]
abbrev tRCuc := s3 coB coI coI (fun n _ _ => -170141183460469231731687303715884105728 ≤ n ∧ n < 170141183460469231731687303715884105728) fun n c f => uEnc n c f
theorem okRCuc : Ok Try.prog 50 tRCuc := ok3 (code_mk Try.func50 epactref19_Cuc.ent epactref19_Cuc.chk (specOk_cons okCut (specOk_cons okRHd (specOk_cons okOctets (specOk_cons okJoin8 (specOk_cons okRFold (specOk_cons okRCode okSpRef))))))) (by simp [epactref19_Cuc.c]) fun n c f _ hc hf hn => by
  simp at hc hf
  refine ⟨0, ?_⟩
  by_cases c1 : 1 ≤ c
  · have c1' := Int.not_lt.2 c1
    by_cases c2 : c ≤ 7
    · have c2' := Int.not_lt.2 c2
      by_cases f1 : 0 ≤ f
      · have f1' := Int.not_lt.2 f1
        by_cases f2 : f ≤ 10
        · have f2' := Int.not_lt.2 f2
          have hM : cuM c f := ⟨⟨c1, c2⟩, f1, f2⟩
          have m0 := w_md hn
          have m1 : md (n / 1000000000000000000) := by unfold md; omega
          have a0 : 0 ≤ n % 1000000000000000000 := by omega
          have a1 : n % 1000000000000000000 < 1000000000000000000 := by omega
          have a2 := Int.le_of_lt a1
          have g : -9223372036854775808 ≤ n % 1000000000000000000 ∧ n % 1000000000000000000 < 9223372036854775808 := by omega
          have hr := cd_rng (o := f) a0 a2
          have h10 := pw_10 f2
          have hp := pw_pos c
          have hp7 := pw_7 c2
          have s0 := Int.emod_nonneg (n / 1000000000000000000) (show pw c ≠ 0 by omega)
          have s1 := Int.emod_lt_of_pos (n / 1000000000000000000) hp
          have s2 : smB (n / 1000000000000000000 % pw c) := by unfold smB; omega
          have s3 : smB (cd (n % 1000000000000000000) f) := by unfold smB; omega
          have c0 : 0 ≤ c := by omega
          have c30 : c ≤ 30 := by omega
          have c50 : c ≤ 50 := by omega
          have f50 : f ≤ 50 := by omega
          have hH := hd_all hM
          have hHl := hd_len c f
          have l1 : (hd c f).length ≤ 1000 := by omega
          have l2 : c.toNat ≤ 1000 := by omega
          have l3 : (hd c f).length + c.toNat ≤ 1000 := by omega
          have l4 : f.toNat ≤ 1000 := by omega
          have aA : allB (hd c f ++ oct (n / 1000000000000000000 % pw c) c.toNat) := allB_app hH (allB_oct _ _)
          simp [epactref19_Cuc.c, hc, hf, hM, c1, c1', c2, c2', f1, f1', f2, f2', m0, m1, a0, a1, a2, g, hr, s0, s1, s2, s3, c0, c30, c50, f50, hH, oct_len, l1, l2, l3, l4, aA, uform]
        · have f2' := Int.not_le.1 f2
          have hM : ¬ cuM c f := fun h => f2 h.2.2
          simp [epactref19_Cuc.c, hc, hf, hM, c1, c1', c2, c2', f1, f1', f2, f2']
      · have f1' := Int.not_le.1 f1
        have hM : ¬ cuM c f := fun h => f1 h.2.1
        simp [epactref19_Cuc.c, hc, hf, hM, c1, c1', c2, c2', f1, f1']
    · have c2' := Int.not_le.1 c2
      have hM : ¬ cuM c f := fun h => c2 h.1.2
      simp [epactref19_Cuc.c, hc, hf, hM, c1, c1', c2, c2']
  · have c1' := Int.not_le.1 c1
    have hM : ¬ cuM c f := fun h => c1 h.1.1
    simp [epactref19_Cuc.c, hc, hf, hM, c1, c1']
/-! ### Which widths octets tell -/
theorem parse {b : List Int} {c f : Int} (hM : cuM c f) (hlen : (hd c f).length < b.length) (ht : List.take (hd c f).length b = hd c f) : wc b = c ∧ wf b = f ∧ wk b = (hd c f).length := by
  obtain ⟨⟨c1, c2⟩, f1, f2⟩ := hM
  by_cases hs : c ≤ 4 ∧ f ≤ 3
  · have e : hd c f = [16 + 4 * (c - 1) + f] := by unfold hd; rw [if_pos hs]
    rw [e] at hlen ht ⊢
    cases b with
    | nil => simp at hlen
    | cons x r =>
      have hx : x = 16 + 4 * (c - 1) + f := by simpa using ht
      have nt : ¬ two (x :: r) := fun h => by have h1 : 128 ≤ x := h.1; omega
      have ec : wc (x :: r) = x / 4 % 4 + 1 + 0 := by unfold wc; rw [if_neg nt]; rfl
      have ef : wf (x :: r) = x % 4 + 0 := by unfold wf; rw [if_neg nt]; rfl
      have ek : wk (x :: r) = 1 := by unfold wk; rw [if_neg nt]
      rw [ec, ef, ek]
      refine ⟨by omega, by omega, rfl⟩
  · have ha := mn_cases c 4
    have hb := mn_cases f 3
    have e : hd c f = [144 + 4 * (mn c 4 - 1) + mn f 3, 32 * (c - mn c 4) + 4 * (f - mn f 3)] := by unfold hd; rw [if_neg hs]
    rw [e] at hlen ht ⊢
    cases b with
    | nil => simp at hlen
    | cons x r =>
      cases r with
      | nil => simp at hlen
      | cons y r =>
        have hxy : x = 144 + 4 * (mn c 4 - 1) + mn f 3 ∧ y = 32 * (c - mn c 4) + 4 * (f - mn f 3) := by simpa using ht
        obtain ⟨hx, hy⟩ := hxy
        have nt : two (x :: y :: r) := ⟨by show 128 ≤ x; omega, by simp⟩
        have ec : wc (x :: y :: r) = x / 4 % 4 + 1 + y / 32 % 4 := by unfold wc; rw [if_pos nt]; rfl
        have ef : wf (x :: y :: r) = x % 4 + y / 4 % 8 := by unfold wf; rw [if_pos nt]; rfl
        have ek : wk (x :: y :: r) = 2 := by unfold wk; rw [if_pos nt]
        rw [ec, ef, ek]
        refine ⟨by omega, by omega, rfl⟩
def um (c f : Int) (b : List Int) : Prop := (b.length : Int) = (hd c f).length + c + f ∧ List.take (hd c f).length b = hd c f
theorem um_ok {b : List Int} {c f : Int} (hM : cuM c f) (h : um c f b) : (wc b = c ∧ wf b = f ∧ wk b = (hd c f).length) ∧ uOk b := by
  obtain ⟨h1, h2⟩ := h
  obtain ⟨⟨c1, c2⟩, f1, f2⟩ := id hM
  obtain ⟨e1, e2, e3⟩ := parse hM (by omega) h2
  refine ⟨⟨e1, e2, e3⟩, ⟨?_, ?_⟩, ?_⟩
  · have := hd_len c f; omega
  · rw [e1, e2, e3, h2]
  · rw [e1, e2, e3, h1]
theorem ok_um {b : List Int} (h : uOk b) : cuM (wc b) (wf b) ∧ um (wc b) (wf b) b ∧ wk b = (hd (wc b) (wf b)).length := by
  obtain ⟨⟨h0, h1⟩, h2⟩ := h
  obtain ⟨hM, k1, k2⟩ := uw_rng b
  obtain ⟨⟨c1, c2⟩, f1, f2⟩ := id hM
  have e := congrArg List.length h1
  rw [List.length_take, Nat.min_eq_left (by omega)] at e
  refine ⟨hM, ⟨by rw [← e]; exact h2, by rw [← e]; exact h1⟩, e⟩
abbrev tFromCuc := s2 coY coB (fun b p => -170141183460469231731687303715884105728 ≤ p ∧ p < 170141183460469231731687303715884105728) fun b p => uDec b p
theorem okFromCuc : Ok Try.prog 53 tFromCuc := ok2 (code_mk Try.func53 epactref19_FromCuc.ent epactref19_FromCuc.chk (specOk_cons okRHd (specOk_cons okSame8 (specOk_cons okNumber (specOk_cons okLeast (specOk_cons okSeconds (specOk_cons okRPower (specOk_cons okAbout okSpRef)))))))) (by simp [epactref19_FromCuc.c]) fun b p hb _ hp => by
  simp at hb
  refine ⟨20, ?_⟩
  have mp := w_md hp
  simp [epactref19_FromCuc.c]
  refine loopW_iter (fun i s => s.tm 0 = .o (.c (.r .u8 b)) ∧ s.tm 3 = .o (.c (.p 3 0)) ∧ s.tm 4 = .o (.c (.p 4 0)) ∧ s.tm 8 = .o (.c (.v (.int .i64 ((i : Int) + 1)))) ∧ s.mem 3 = some [.v (.bool (ngB p)), .r .i64 (dg p)] ∧ s.mem 4 = some [.v (.int .i64 0), .v (.int .u64 0)] ∧ ∀ c f : Int, 1 ≤ c → c ≤ i → 0 ≤ f → f ≤ 10 → ¬ um c f b) 7 ?_ ?_ 20 _ (by omega) ?_
  · rintro i s hi ⟨t0, t3, t4, t8, m3, m4, hno⟩
    have ci : (i : Int) + 1 ≤ 7 := by omega
    simp [epactref19_FromCuc.l2, t0, t3, t4, t8, m3, m4, ci]
    refine loopW_iter (fun j s => s.tm 0 = .o (.c (.r .u8 b)) ∧ s.tm 3 = .o (.c (.p 3 0)) ∧ s.tm 4 = .o (.c (.p 4 0)) ∧ s.tm 8 = .o (.c (.v (.int .i64 ((i : Int) + 1)))) ∧ s.tm 9 = .o (.c (.v (.int .i64 (j : Int)))) ∧ s.mem 3 = some [.v (.bool (ngB p)), .r .i64 (dg p)] ∧ s.mem 4 = some [.v (.int .i64 0), .v (.int .u64 0)] ∧ ∀ f : Int, 0 ≤ f → f < j → ¬ um ((i : Int) + 1) f b) 11 ?_ ?_ 20 _ (by omega) ?_
    · rintro j s hj ⟨t0, t3, t4, t8, t9, m3, m4, hno2⟩
      have cj : (j : Int) ≤ 10 := by omega
      obtain ⟨c, hc⟩ : ∃ c : Int, c = (i : Int) + 1 := ⟨_, rfl⟩
      obtain ⟨f, hf⟩ : ∃ f : Int, f = (j : Int) := ⟨_, rfl⟩
      rw [← hc] at t8 ci hno2
      rw [← hf] at t9 cj
      have hM : cuM c f := ⟨⟨by omega, ci⟩, by omega, cj⟩
      have hH := hd_all hM
      have hL := hd_len c f
      have w1 : IntKind.i64.wrap (((hd c f).length : Int) + c) = ((hd c f).length : Int) + c := wrap_i64_in (by omega) (by omega)
      have w2 : IntKind.i64.wrap (((hd c f).length : Int) + c + f) = ((hd c f).length : Int) + c + f := wrap_i64_in (by omega) (by omega)
      have w3 : IntKind.i64.wrap (f + 1) = f + 1 := wrap_i64_in (by omega) (by omega)
      have bt := fun n => allB_take n hb
      have bd := fun n => allB_drop n hb
      by_cases h1 : (b.length : Int) = (hd c f).length + c + f
      · have z1 : (hd c f).length ≤ b.length := by omega
        have y1 : IntKind.i64.wrap (b.length : Int) = b.length := wrap_i64_in (by omega) (by omega)
        by_cases h2 : List.take (hd c f).length b = hd c f
        · obtain ⟨⟨e1, e2, e3⟩, hu⟩ := um_ok hM ⟨h1, h2⟩
          obtain ⟨⟨n0, n1⟩, n2, n3⟩ := u_rng hb hu
          have eS : num (List.take c.toNat (List.drop (hd c f).length b)) = us b := by unfold us; rw [e1, e3]
          have eC : num (List.drop ((hd c f).length + c.toNat) b) = ucd b := by unfold ucd; rw [e1, e3]
          rw [e1] at n1
          rw [e2] at n3
          have hp7 := pw_7 ci
          have hp10 := pw_10 cj
          have hp0 := pw_pos c
          obtain ⟨l0, l1⟩ := lst_rng n2 n3
          have b1 := allB_take c.toNat (allB_drop (hd c f).length hb)
          have tk : List.take (b.length - (hd c f).length) (List.drop (hd c f).length b) = List.drop (hd c f).length b := List.take_of_length_le (by simp)
          have c0 : 0 ≤ c := by omega
          have f0 : 0 ≤ f := by omega
          have c1000 : c ≤ 1000 := by omega
          have c60 : c ≤ 60 := by omega
          have z3 : c.toNat ≤ b.length - (hd c f).length := by omega
          have z4 : (hd c f).length + c.toNat ≤ b.length := by omega
          have z5 : min c.toNat (b.length - (hd c f).length) ≤ 60 := by omega
          have z6 : b.length - ((hd c f).length + c.toNat) ≤ 60 := by omega
          have z7 : b.length ≤ 60 + ((hd c f).length + c.toNat) := by omega
          have z8 : c ≤ ((b.length - (hd c f).length : Nat) : Int) := by omega
          have z9 : c.toNat ≤ 60 ∨ b.length - (hd c f).length ≤ 60 := by omega
          have y3 : -9223372036854775808 ≤ c ∧ c < 9223372036854775808 := by omega
          have y4 : -9223372036854775808 ≤ f ∧ f < 9223372036854775808 := by omega
          by_cases hA : hasA (ucd b) f
          · have hA1 := hA.1
            have g3 : -9223372036854775808 ≤ lst (ucd b) f ∧ lst (ucd b) f < 9223372036854775808 := by omega
            have s1 : smB (lst (ucd b) f) := by unfold smB; omega
            have s2 : smB (us b * 1000000000000000000) := by unfold smB; omega
            have m1 : md (us b) := by unfold md; omega
            have m2 : md (us b * 1000000000000000000 + lst (ucd b) f) := by unfold md; omega
            have m5 : md (pw c) := by unfold md; omega
            have m6 : md (pw c * 1000000000000000000) := by unfold md; omega
            have g9 : 0 < pw c * 1000000000000000000 := by omega
            by_cases ha : abOk (us b * 1000000000000000000 + lst (ucd b) f) (pw c * 1000000000000000000) p
            · simp [epactref19_FromCuc.l1, t0, t3, t4, t8, t9, m3, m4, ci, cj, hM, hH, bt, bd, hp, mp, h1.symm, h2, w1, w2, y1, z1, z3, z4, z5, z6, z7, z8, z9, eS, eC, b1, tk, c0, f0, c1000, c60, y3, y4, n0, n1, n2, n3, hA, g3, s1, s2, m1, m2, m5, m6, g9, ha, hu, e1, e2, uval]
            · simp [epactref19_FromCuc.l1, t0, t3, t4, t8, t9, m3, m4, ci, cj, hM, hH, bt, bd, hp, mp, h1.symm, h2, w1, w2, y1, z1, z3, z4, z5, z6, z7, z8, z9, eS, eC, b1, tk, c0, f0, c1000, c60, y3, y4, n0, n1, n2, n3, hA, g3, s1, s2, m1, m2, m5, m6, g9, ha, hu, e1, e2, uval]
          · simp [epactref19_FromCuc.l1, t0, t3, t4, t8, t9, m3, m4, ci, cj, hM, hH, bt, bd, hp, mp, h1.symm, h2, w1, w2, y1, z1, z3, z4, z5, z6, z7, z8, z9, eS, eC, b1, tk, c0, f0, c1000, c60, y3, y4, n0, n1, n2, n3, hA, hu, e1, e2]
        · simp [epactref19_FromCuc.l1, t0, t3, t4, t8, t9, m3, m4, ci, cj, hM, hH, bt, bd, h1.symm, h2, w1, w2, w3, y1, z1]
          refine ⟨by omega, by omega, by omega, fun f' hf0 hf1 => ?_⟩
          rw [← hc]
          rcases Int.lt_or_le f' f with h | h
          · exact hno2 f' hf0 (by omega)
          · obtain rfl : f' = f := by omega
            exact fun hu => h2 hu.2
      · have h1' : ¬ (b.length : Int) = ((hd c f).length : Int) + c + f := h1
        simp [epactref19_FromCuc.l1, t0, t3, t4, t8, t9, m3, m4, ci, cj, hM, hH, bt, bd, h1, w1, w2, w3]
        refine ⟨by omega, by omega, by omega, fun f' hf0 hf1 => ?_⟩
        rw [← hc]
        rcases Int.lt_or_le f' f with h | h
        · exact hno2 f' hf0 (by omega)
        · obtain rfl : f' = f := by omega
          exact fun hu => h1 hu.1
    · rintro s ⟨t0, t3, t4, t8, t9, m3, m4, hno2⟩
      have w4 : IntKind.i64.wrap ((i : Int) + 1 + 1) = (i : Int) + 1 + 1 := wrap_i64_in (by omega) (by omega)
      simp [epactref19_FromCuc.l1, t0, t3, t4, t8, t9, m3, m4, w4]
      intro c f h1 h2 h3 h4
      rcases Int.lt_or_le c ((i : Int) + 1) with h | h
      · exact hno c f h1 (by omega) h3 h4
      · obtain rfl : c = (i : Int) + 1 := by omega
        exact hno2 f h3 (by omega)
    · simp [t0, t3, t4, t8, m3, m4]
      intro f h1 h2
      omega
  · rintro s ⟨t0, t3, t4, t8, m3, m4, hno⟩
    have hu : ¬ uOk b := fun h => by
      obtain ⟨⟨⟨c1, c2⟩, f1, f2⟩, hm, _⟩ := ok_um h
      exact hno _ _ c1 (by omega) f1 f2 hm
    simp [epactref19_FromCuc.l2, t0, t3, t4, t8, m3, m4, hu]
  · simp
    intro c f h1 h2
    omega
end Go.Proofs.Ytnjipdicfbkfdaa.E

/- The reference's octets, and the least attosecond of a code. -/
import Derived.Test.YtnjipdicfbkfdaaF2
set_option linter.unusedVariables false
set_option linter.unusedSimpArgs false
set_option maxHeartbeats 2000000
set_option maxRecDepth 100000
namespace Go.Proofs.Ytnjipdicfbkfdaa.E
open Go.VC Go.RowKit

abbrev tOctets := s2 coB coI (fun n o => (0 ≤ n ∧ smB n) ∧ (0 ≤ o ∧ o ≤ 50)) fun n o => .o (.c (.r .u8 (oct n o.toNat)))
theorem okOctets : Ok Try.prog 71 tOctets := ok2 (code_mk Try.func71 epactref19_Octets.ent epactref19_Octets.chk (specOk_cons okSmall okSpRef)) (by simp [epactref19_Octets.c]) fun n o _ ho hg => by
  simp at ho
  obtain ⟨⟨g1, g2⟩, g3, g4⟩ := hg
  refine ⟨60, ?_⟩
  have eo : max o 0 = o := by omega
  have w : IntKind.i64.wrap (o - 1) = o - 1 := wrap_i64_in (by omega) (by omega)
  have c1 : o ≤ 1000000000000 := by omega
  simp [-List.getD_eq_getElem?_getD, epactref19_Octets.c, ho, g3, w, c1]
  refine loopW_while (fun j s => s.tm 2 = .o (.c (.p 2 0)) ∧ s.tm 5 = .o (.c (.s ⟨5, 1, some .u8⟩ 12 o.toNat)) ∧ s.tm 6 = .o (.c (.v (.int .i64 ((j : Int) - 1)))) ∧ j ≤ o.toNat ∧ ∃ (m : Int) (L : List Int), s.mem 2 = some [.v (.bool (ngB m)), .r .i64 (dg m)] ∧ s.mem 12 = some (c8 (List.replicate j 0 ++ L)) ∧ j + L.length = o.toNat ∧ (0 ≤ m ∧ smB m) ∧ oct m j ++ L = oct n o.toNat) ?_ 60 o.toNat _ (by omega) ?_
  · rintro j s ⟨t2, t6, t7, hj, m, L, m2, m25, hL, hm, hoct⟩
    cases j with
    | zero =>
      have htk : L.take o.toNat = L := List.take_of_length_le (by omega)
      simp at t7 m25 hL
      simp [oct] at hoct
      rw [hoct] at htk m25
      have hLe : (oct n o.toNat).length = o.toNat := oct_len _ _
      simp [-List.getD_eq_getElem?_getD, epactref19_Octets.l1, t2, t6, t7, m2, m25, hLe, htk]
    | succ j =>
      have s1 : smB 256 := by decide
      have s2 := hm.2
      have s3 : smB (m / 256) := by unfold smB at s2 ⊢; omega
      have s4 : smB (m % 256) := by unfold smB; omega
      have f1 : -9223372036854775808 ≤ m % 256 ∧ m % 256 < 9223372036854775808 := by omega
      have e2 : IntKind.u8.wrap (m % 256) = m % 256 := by rw [wrap_u8_eq]; omega
      have w2 : IntKind.i64.wrap ((j : Int) - 1) = (j : Int) - 1 := wrap_i64_in (by omega) (by omega)
      have hs := fun v => c8_set (d := List.replicate (j + 1) 0 ++ L) (x := v) (k := j) (by simp; omega)
      have c2 : (j : Int) < o.toNat := by omega
      have c4 : (j : Int) < o := by omega
      have c5 : j < j + 1 + L.length := by omega
      have c3 : j + 1 ≤ j + 1 + L.length := by omega
      have e3 : ((j + 1 : Nat) : Int) - 1 = (j : Int) := by omega
      rw [e3] at t7
      simp only [rep_set] at hs
      simp [-List.getD_eq_getElem?_getD, epactref19_Octets.l1, t2, t6, t7, m2, m25, s1, s2, s3, s4, f1, e2, w2, hs, c2, c3, c4, c5, eo]
      refine ⟨j, by omega, rfl, by omega, m / 256, ⟨rfl, rfl⟩, m % 256 :: L, rfl, by simp; omega, ⟨by omega, s3⟩, ?_⟩
      rw [← hoct, oct, List.append_assoc]
      rfl
  · simp [eo]
    exact ⟨n, ⟨rfl, rfl⟩, [], by rw [List.append_nil]; exact c8_rep _, rfl, ⟨g1, g2⟩, by simp⟩
/-! ### Are octets the same? -/
theorem u8_inj : ∀ {a b : List Int}, (∀ x ∈ a, 0 ≤ x ∧ x < 256) → (∀ x ∈ b, 0 ≤ x ∧ x < 256) → a.map (fun n => UInt8.ofNat n.toNat) = b.map (fun n => UInt8.ofNat n.toNat) → a = b
  | [], [], _, _, _ => rfl
  | [], _ :: _, _, _, h => by simp at h
  | _ :: _, [], _, _, h => by simp at h
  | x :: a, y :: b, ha, hb, h => by
    simp only [List.map_cons, List.cons.injEq] at h
    have hx := ha x (by simp)
    have hy := hb y (by simp)
    have e := congrArg UInt8.toNat h.1
    simp only [UInt8.toNat_ofNat'] at e
    have : x = y := by omega
    rw [this, u8_inj (fun z hz => ha z (by simp [hz])) (fun z hz => hb z (by simp [hz])) h.2]
theorem str_eq {a b : List Int} (ha : ∀ x ∈ a, 0 ≤ x ∧ x < 256) (hb : ∀ x ∈ b, 0 ≤ x ∧ x < 256) : ((strOfNums a).toList == (strOfNums b).toList) = decide (a = b) := by
  rw [Bool.eq_iff_iff]
  simp only [beq_iff_eq, decide_eq_true_eq]
  constructor
  · intro h
    refine u8_inj ha hb ?_
    have e : ∀ l : List Int, (strOfNums l).toList = l.map (fun n => UInt8.ofNat n.toNat) := fun l => by
      rw [ByteArray.toList_eq]
      rfl
    rwa [e, e] at h
  · rintro rfl; rfl
abbrev tSame8 := s2 coY coY Tt2 fun a b => .o (bv (decide (a = b)))
theorem okSame8 : Ok Try.prog 30 tSame8 := ok2 (code_mk Try.func30 epactref19_Same.ent epactref19_Same.chk specOk_nil) (by simp [epactref19_Same.c]) fun a b ha hb _ => by
  simp at ha hb
  refine ⟨0, ?_⟩
  have e := str_eq ha hb
  simp [epactref19_Same.c, e]
/-! ### The least attosecond of a code -/
abbrev tLeast := s2 coB coI (fun f o => (0 ≤ o ∧ o ≤ 10) ∧ (0 ≤ f ∧ f < pw o)) fun f o => if hasA f o then .t [iv .i64 (lst f o), bv true] else .t [iv .i64 0, bv false]
theorem okLeast : Ok Try.prog 93 tLeast := ok2 (code_mk Try.func93 epactref19_Least.ent epactref19_Least.chk (specOk_cons okRCode okSpRef)) (by simp [epactref19_Least.c]) fun f o _ ho hg => by
  simp at ho
  obtain ⟨g1, g2⟩ := hg
  have h10 := pw_10 g1.2
  have s1 := md_sm (show md f by unfold md; omega)
  obtain ⟨l0, l1⟩ := lst_rng g2.1 g2.2
  refine ⟨1000000000000000010, ?_⟩
  simp [epactref19_Least.c]
  refine loopW_while (fun m s => s.tm 1 = .o (.c (.v (.int .i64 o))) ∧ s.tm 2 = .o (.c (.p 2 0)) ∧ s.mem 2 = some [.v (.bool (ngB f)), .r .i64 (dg f)] ∧ ∃ low high : Int, s.tm 6 = .o (.c (.v (.int .i64 low))) ∧ s.tm 7 = .o (.c (.v (.int .i64 high))) ∧ 0 ≤ low ∧ low ≤ lst f o ∧ lst f o ≤ high ∧ high ≤ 1000000000000000000 ∧ high = low + m) ?_ 1000000000000000010 1000000000000000000 _ (by decide) ?_
  · rintro m s ⟨t1, t2, m2, low, high, t6, t7, a0, a1, a2, a3, rfl⟩
    by_cases hlt : low < low + (m : Int)
    · obtain ⟨mid, hmid⟩ : ∃ mid, mid = (low + (low + m)) / 2 := ⟨_, rfl⟩
      have w1 : IntKind.i64.wrap (low + (low + m)) = low + (low + m) := wrap_i64_in (by omega) (by omega)
      have w2 : (low + (low + (m : Int))).tdiv 2 = mid := by rw [Int.tdiv_eq_ediv_of_nonneg (by omega), hmid]
      have w3 : IntKind.i64.wrap mid = mid := wrap_i64_in (by omega) (by omega)
      have w4 : IntKind.i64.wrap (mid + 1) = mid + 1 := wrap_i64_in (by omega) (by omega)
      have c1 : 0 ≤ mid ∧ mid ≤ 1000000000000000000 := by omega
      have c2 : -9223372036854775808 ≤ mid ∧ mid < 9223372036854775808 := by omega
      have hr := cd_rng (o := o) c1.1 c1.2
      have s2 := md_sm (show md (cd mid o) by unfold md; omega)
      have hx := @cd_lst mid f o
      by_cases hc : f ≤ cd mid o
      · have hl := hx.1 hc
        simp [epactref19_Least.l1, t1, t2, t6, t7, m2, hlt, w1, w2, w3, c1, c2, ho, g1, s1, s2, hc]
        exact ⟨(mid - low).toNat, by omega, by omega, by omega, by omega, by omega⟩
      · have hl : ¬ lst f o ≤ mid := fun h => hc (hx.2 h)
        simp [epactref19_Least.l1, t1, t2, t6, t7, m2, hlt, w1, w2, w3, w4, c1, c2, ho, g1, s1, s2, hc]
        exact ⟨(low + m - (mid + 1)).toNat, by omega, by omega, by omega, by omega, by omega, by omega⟩
    · have hm : m = 0 := by omega
      subst hm
      have hl : low = lst f o := by simp at a2; omega
      subst hl
      have c2 : -9223372036854775808 ≤ lst f o ∧ lst f o < 9223372036854775808 := by omega
      have hr := cd_rng (o := o) l0 l1
      have s2 := md_sm (show md (cd (lst f o) o) by unfold md; omega)
      by_cases h1 : lst f o = 1000000000000000000
      · simp [epactref19_Least.l1, t1, t2, t6, t7, m2, h1, hasA]
      · by_cases h2 : cd (lst f o) o = f
        · rw [h2] at s2
          simp [epactref19_Least.l1, t1, t2, t6, t7, m2, h1, h2, hasA, ho, g1, s1, s2, l0, l1, c2]
        · simp [epactref19_Least.l1, t1, t2, t6, t7, m2, h1, h2, hasA, ho, g1, s1, s2, l0, l1, c2]
  · simp
    exact ⟨l0, l1⟩
end Go.Proofs.Ytnjipdicfbkfdaa.E

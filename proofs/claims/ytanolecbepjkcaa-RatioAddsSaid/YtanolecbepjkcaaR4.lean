/- The law of sums and products of fractions. -/
import Derived.Test.YtanolecbepjkcaaR3
set_option linter.unusedVariables false
set_option linter.unusedSimpArgs false
set_option maxHeartbeats 4000000
set_option maxRecDepth 100000
namespace Go.Proofs.Ytanolecbepjkcaa.E
open Go.VC Go.RowKit

/-! ### Rows of numbers of the reference -/
def qb (n : Int) : List QC := [.v (.bool (ngB n)), .r .i64 (dg n)]
def vF2 : AP → Bool
  | .c (.q 2 [a, b, c, d]) => vB (.g [a.ac, b.ac]) && vB (.g [c.ac, d.ac])
  | _ => false
def tF2 : AP → Int × Int
  | .c (.q _ [a, b, c, d]) => (tB (.g [a.ac, b.ac]), tB (.g [c.ac, d.ac]))
  | _ => (0, 0)
def vF4 : AP → Bool
  | .c (.q 2 [a, b, c, d, e, f, g, h]) => (vB (.g [a.ac, b.ac]) && vB (.g [c.ac, d.ac])) && (vB (.g [e.ac, f.ac]) && vB (.g [g.ac, h.ac]))
  | _ => false
def tF4 : AP → Int × Int × Int × Int
  | .c (.q _ [a, b, c, d, e, f, g, h]) => (tB (.g [a.ac, b.ac]), tB (.g [c.ac, d.ac]), tB (.g [e.ac, f.ac]), tB (.g [g.ac, h.ac]))
  | _ => (0, 0, 0, 0)
theorem xw4 : IntKind.i64.wrap 4 = 4 := by decide
theorem qb_some {a b : QC} (h : vB (.g [a.ac, b.ac]) = true) : [a, b] = qb (tB (.g [a.ac, b.ac])) := by
  have h1 := (coB.some h).1
  have h1 : AP.g [a.ac, b.ac] = .g [.v (.bool (ngB (tB (.g [a.ac, b.ac])))), .r .i64 (dg (tB (.g [a.ac, b.ac])))] := h1
  generalize tB (.g [a.ac, b.ac]) = x at *
  simp only [AP.g.injEq, List.cons.injEq, and_true] at h1
  obtain ⟨e1, e2⟩ := h1
  have g1 : a = .v (.bool (ngB x)) := ac_inj e1
  have g2 : b = .r .i64 (dg x) := ac_inj e2
  rw [g1, g2]; rfl
def coF2 : Co (Int × Int) where
  e := fun x => .c (.q 2 (qb x.1 ++ qb x.2))
  p := fun _ => True
  v a := vF2 a = true
  dv a := inferInstance
  t := tF2
  some {a} h := by
    unfold vF2 at h
    split at h
    · simp only [Bool.and_eq_true] at h
      refine ⟨?_, trivial⟩
      simp only [tF2]
      rw [← qb_some h.1, ← qb_some h.2]; rfl
    · cases h
  enc {x} _ := ⟨by
    show (vB (coB.e x.1) && vB (coB.e x.2)) = true
    rw [Bool.and_eq_true]
    exact ⟨(coB.enc trivial).1, (coB.enc trivial).1⟩, by
    show (tB (coB.e x.1), tB (coB.e x.2)) = x
    have h1 := (coB.enc (x := x.1) trivial).2
    have h2 := (coB.enc (x := x.2) trivial).2
    rw [coB_t] at h1 h2
    rw [h1, h2]⟩
def coF4 : Co (Int × Int × Int × Int) where
  e := fun x => .c (.q 2 (qb x.1 ++ qb x.2.1 ++ qb x.2.2.1 ++ qb x.2.2.2))
  p := fun _ => True
  v a := vF4 a = true
  dv a := inferInstance
  t := tF4
  some {a} h := by
    unfold vF4 at h
    split at h
    · simp only [Bool.and_eq_true] at h
      refine ⟨?_, trivial⟩
      simp only [tF4]
      rw [← qb_some h.1.1, ← qb_some h.1.2, ← qb_some h.2.1, ← qb_some h.2.2]; rfl
    · cases h
  enc {x} _ := ⟨by
    show ((vB (coB.e x.1) && vB (coB.e x.2.1)) && (vB (coB.e x.2.2.1) && vB (coB.e x.2.2.2))) = true
    simp only [Bool.and_eq_true]
    exact ⟨⟨(coB.enc trivial).1, (coB.enc trivial).1⟩, (coB.enc trivial).1, (coB.enc trivial).1⟩, by
    show (tB (coB.e x.1), tB (coB.e x.2.1), tB (coB.e x.2.2.1), tB (coB.e x.2.2.2)) = x
    have h1 := (coB.enc (x := x.1) trivial).2
    have h2 := (coB.enc (x := x.2.1) trivial).2
    have h3 := (coB.enc (x := x.2.2.1) trivial).2
    have h4 := (coB.enc (x := x.2.2.2) trivial).2
    rw [coB_t] at h1 h2 h3 h4
    rw [h1, h2, h3, h4]⟩
theorem coF2_e {x : Int × Int} : coF2.e x = .c (.q 2 [.v (.bool (ngB x.1)), .r .i64 (dg x.1), .v (.bool (ngB x.2)), .r .i64 (dg x.2)]) := _root_.id rfl
theorem coF2_p {x : Int × Int} : coF2.p x = True := _root_.id rfl
theorem coF2_v {a b : Bool} {l m : List Int} : coF2.v (.c (.q 2 [.v (.bool a), .r .i64 l, .v (.bool b), .r .i64 m])) = (coB.v (.g [.v (.bool a), .r .i64 l]) ∧ coB.v (.g [.v (.bool b), .r .i64 m])) := propext <| by
  show (vB _ && vB _) = true ↔ _
  rw [Bool.and_eq_true]; rfl
theorem coF2_n {a b c d e f g h : QC} : coF2.v (.c (.q 2 [a, b, c, d, e, f, g, h])) = False := by
  show (false = true) = False
  simp
theorem coF2_t {a b : Bool} {l m : List Int} : coF2.t (.c (.q 2 [.v (.bool a), .r .i64 l, .v (.bool b), .r .i64 m])) = (coB.t (.g [.v (.bool a), .r .i64 l]), coB.t (.g [.v (.bool b), .r .i64 m])) := _root_.id rfl
theorem coF4_e {x : Int × Int × Int × Int} : coF4.e x = .c (.q 2 [.v (.bool (ngB x.1)), .r .i64 (dg x.1), .v (.bool (ngB x.2.1)), .r .i64 (dg x.2.1), .v (.bool (ngB x.2.2.1)), .r .i64 (dg x.2.2.1), .v (.bool (ngB x.2.2.2)), .r .i64 (dg x.2.2.2)]) := _root_.id rfl
theorem coF4_p {x : Int × Int × Int × Int} : coF4.p x = True := _root_.id rfl
theorem coF4_v {a b c d : Bool} {l m n o : List Int} : coF4.v (.c (.q 2 [.v (.bool a), .r .i64 l, .v (.bool b), .r .i64 m, .v (.bool c), .r .i64 n, .v (.bool d), .r .i64 o])) = ((coB.v (.g [.v (.bool a), .r .i64 l]) ∧ coB.v (.g [.v (.bool b), .r .i64 m])) ∧ (coB.v (.g [.v (.bool c), .r .i64 n]) ∧ coB.v (.g [.v (.bool d), .r .i64 o]))) := propext <| by
  show ((vB _ && vB _) && (vB _ && vB _)) = true ↔ _
  rw [Bool.and_eq_true, Bool.and_eq_true, Bool.and_eq_true]; rfl
theorem coF4_t {a b c d : Bool} {l m n o : List Int} : coF4.t (.c (.q 2 [.v (.bool a), .r .i64 l, .v (.bool b), .r .i64 m, .v (.bool c), .r .i64 n, .v (.bool d), .r .i64 o])) = (coB.t (.g [.v (.bool a), .r .i64 l]), coB.t (.g [.v (.bool b), .r .i64 m]), coB.t (.g [.v (.bool c), .r .i64 n]), coB.t (.g [.v (.bool d), .r .i64 o])) := _root_.id rfl
attribute [simp] coF2_e coF2_p coF2_v coF2_n coF2_t coF4_e coF4_p coF4_v coF4_t
abbrev tFit2 := s1 coF2 (fun x => smB x.1 ∧ smB x.2) fun x => .o (bv (decide (fH x.1 ∧ fH x.2)))
abbrev tFit4 := s1 coF4 (fun x => smB x.1 ∧ smB x.2.1 ∧ smB x.2.2.1 ∧ smB x.2.2.2) fun x => .o (bv (decide (fH x.1 ∧ fH x.2.1 ∧ fH x.2.2.1 ∧ fH x.2.2.2)))
theorem okFit2 : Ok Try.prog 44 tFit2 := ok1 (code_mk Try.func44 epactlaw03_fit.ent epactlaw03_fit.chk okSpRef) (by simp [epactlaw03_fit.c]) fun x _ hg => by
  obtain ⟨a, b⟩ := x
  obtain ⟨s1, s2⟩ := hg
  simp only at s1 s2
  refine ⟨6, ?_⟩
  by_cases h1 : fH a
  · have g1 : -170141183460469231731687303715884105728 ≤ a ∧ a < 170141183460469231731687303715884105728 := h1
    by_cases h2 : fH b
    · have g2 : -170141183460469231731687303715884105728 ≤ b ∧ b < 170141183460469231731687303715884105728 := h2
      simp [epactlaw03_fit.c, epactlaw03_fit.l1, loopW_succ, xw1, xw2, xw3, xw4, s1, s2, h1, h2, g1, g2]
    · have g2 : ¬ (-170141183460469231731687303715884105728 ≤ b ∧ b < 170141183460469231731687303715884105728) := h2
      simp [epactlaw03_fit.c, epactlaw03_fit.l1, loopW_succ, xw1, xw2, xw3, xw4, s1, s2, h1, h2, g1, g2]
  · have g1 : ¬ (-170141183460469231731687303715884105728 ≤ a ∧ a < 170141183460469231731687303715884105728) := h1
    simp [epactlaw03_fit.c, epactlaw03_fit.l1, loopW_succ, xw1, xw2, xw3, xw4, s1, s2, h1, g1]
theorem okFit4 : Ok Try.prog 44 tFit4 := ok1 (code_mk Try.func44 epactlaw03_fit.ent epactlaw03_fit.chk okSpRef) (by simp [epactlaw03_fit.c]) fun x _ hg => by
  obtain ⟨a, b, c, d⟩ := x
  obtain ⟨s1, s2, s3, s4⟩ := hg
  simp only at s1 s2 s3 s4
  refine ⟨6, ?_⟩
  by_cases h1 : fH a
  · have g1 : -170141183460469231731687303715884105728 ≤ a ∧ a < 170141183460469231731687303715884105728 := h1
    by_cases h2 : fH b
    · have g2 : -170141183460469231731687303715884105728 ≤ b ∧ b < 170141183460469231731687303715884105728 := h2
      by_cases h3 : fH c
      · have g3 : -170141183460469231731687303715884105728 ≤ c ∧ c < 170141183460469231731687303715884105728 := h3
        by_cases h4 : fH d
        · have g4 : -170141183460469231731687303715884105728 ≤ d ∧ d < 170141183460469231731687303715884105728 := h4
          simp [epactlaw03_fit.c, epactlaw03_fit.l1, loopW_succ, xw1, xw2, xw3, xw4, s1, s2, s3, s4, h1, h2, h3, h4, g1, g2, g3, g4]
        · have g4 : ¬ (-170141183460469231731687303715884105728 ≤ d ∧ d < 170141183460469231731687303715884105728) := h4
          simp [epactlaw03_fit.c, epactlaw03_fit.l1, loopW_succ, xw1, xw2, xw3, xw4, s1, s2, s3, s4, h1, h2, h3, h4, g1, g2, g3, g4]
      · have g3 : ¬ (-170141183460469231731687303715884105728 ≤ c ∧ c < 170141183460469231731687303715884105728) := h3
        simp [epactlaw03_fit.c, epactlaw03_fit.l1, loopW_succ, xw1, xw2, xw3, xw4, s1, s2, s3, h1, h2, h3, g1, g2, g3]
    · have g2 : ¬ (-170141183460469231731687303715884105728 ≤ b ∧ b < 170141183460469231731687303715884105728) := h2
      simp [epactlaw03_fit.c, epactlaw03_fit.l1, loopW_succ, xw1, xw2, xw3, xw4, s1, s2, h1, h2, g1, g2]
  · have g1 : ¬ (-170141183460469231731687303715884105728 ≤ a ∧ a < 170141183460469231731687303715884105728) := h1
    simp [epactlaw03_fit.c, epactlaw03_fit.l1, loopW_succ, xw1, xw2, xw3, xw4, s1, h1, g1]
/-- One, or else the other. -/
def orS (s t : List AP → Option AV) (a : List AP) : Option AV := match s a with
  | some r => some r
  | none => t a
theorem orS_ok {P : Program} {f : Nat} {s t : List AP → Option AV} (hs : Ok P f s) (ht : Ok P f t) : Ok P f (orS s t) := fun av r h => by
  unfold orS at h
  split at h
  · rename_i r' hr
    cases h
    exact hs av _ hr
  · exact ht av r h
def tFit := orS tFit2 tFit4
theorem coF4_n {a b c d : QC} : coF4.v (.c (.q 2 [a, b, c, d])) = False := by
  show (false = true) = False
  simp
theorem tFit_4 {a b c d : QC} : tFit [.c (.q 2 [a, b, c, d])] = tFit2 [.c (.q 2 [a, b, c, d])] := by
  unfold tFit orS
  have h : tFit4 [.c (.q 2 [a, b, c, d])] = none := by simp [s1, coF4_n]
  rw [h]
  cases tFit2 [.c (.q 2 [a, b, c, d])] <;> rfl
theorem tFit_8 {a b c d e f g h : QC} : tFit [.c (.q 2 [a, b, c, d, e, f, g, h])] = tFit4 [.c (.q 2 [a, b, c, d, e, f, g, h])] := by
  unfold tFit orS
  have h : tFit2 [.c (.q 2 [a, b, c, d, e, f, g, h])] = none := by simp [s1, coF2_n]
  rw [h]
theorem okFit : Ok Try.prog 44 tFit := orS_ok okFit2 okFit4
abbrev spLawA : List (Nat × (List AP → Option AV)) := (26, tTrue) :: (28, tGood) :: (27, tIs) :: (44, tFit) :: (42, tRAdd) :: (43, tRMul) :: spRef
theorem okSpLawA : SpecOk Try.prog (spOf spLawA) := specOk_cons okAns03 (specOk_cons okGood (specOk_cons okIs (specOk_cons okFit (specOk_cons okRAdd (specOk_cons okRMul okSpRef)))))
theorem mul_w {x y : Int} (hx : -170141183460469231731687303715884105728 ≤ x ∧ x < 170141183460469231731687303715884105728) (hy : -170141183460469231731687303715884105728 ≤ y ∧ y < 170141183460469231731687303715884105728) : -28948022309329048855892746252171976963317496166410141009864396001978282409984 ≤ x * y ∧ x * y ≤ 28948022309329048855892746252171976963317496166410141009864396001978282409984 := by
  have h1 : x.natAbs ≤ 170141183460469231731687303715884105728 := by omega
  have h2 : y.natAbs ≤ 170141183460469231731687303715884105728 := by omega
  have h3 := Nat.mul_le_mul h1 h2
  rw [← Int.natAbs_mul] at h3
  omega
/-- A fraction as simple as can be. -/
theorem simple {n d : Int} (hd : 0 < d) (hn : fH n) (hd2 : fH d) : (fH (n / gc n d) ∧ fH (d / gc n d)) ∧ 0 < d / gc n d ∧ n / gc n d * d = n * (d / gc n d) ∧ gc (n / gc n d) (d / gc n d) = 1 := by
  have g0 := gc_pos (a := n) hd
  have q1 := div_fits hn.1 hn.2 g0
  have q2 := div_fits hd2.1 hd2.2 g0
  have e1 := gc_l n d
  have e2 := gc_r n d
  refine ⟨⟨q1, q2⟩, ?_, ?_, gc_1 (a := n) hd⟩
  · rcases Int.lt_or_le 0 (d / gc n d) with h1 | h1
    · exact h1
    · have := Int.mul_nonpos_of_nonpos_of_nonneg h1 (Int.le_of_lt g0); omega
  · generalize n / gc n d = a at *
    generalize d / gc n d = b at *
    generalize gc n d = g at *
    subst e1; subst e2; grind
theorem mRatioAdds : MeetsAll Try.prog 8 lawRR := all2 (code_mk Try.func8 epactlaw03_RatioAdds.ent epactlaw03_RatioAdds.chk okSpLawA) (by simp [epactlaw03_RatioAdds.c]) fun a b ha hb _ => by
  obtain ⟨m, d⟩ := a
  obtain ⟨n, k⟩ := b
  simp at ha hb
  refine ⟨0, ?_⟩
  have s1 := md_sm (w_md ha.1)
  have s2 := md_sm (w_md ha.2)
  have s3 := md_sm (w_md hb.1)
  have s4 := md_sm (w_md hb.2)
  have r1 := mul_w ha.1 hb.2
  have r2 := mul_w hb.1 ha.2
  have r3 := mul_w ha.2 hb.2
  have r4 := mul_w ha.1 hb.1
  have m1 : md (m * k) := by unfold md; omega
  have m2 : md (n * d) := by unfold md; omega
  have m3 : md (d * k) := by unfold md; omega
  have m4 : md (m * n) := by unfold md; omega
  have m5 : md (m * k + n * d) := by unfold md; omega
  have s5 := md_sm m1
  have s6 := md_sm m2
  have s7 := md_sm m3
  have s8 := md_sm m4
  have s9 := md_sm m5
  by_cases h1 : 0 < d
  · by_cases h2 : 0 < k
    · have hp : 0 < d * k := Int.mul_pos h1 h2
      by_cases f3 : fH (d * k)
      · by_cases f4 : fH (m * n)
        · obtain ⟨⟨x1, x2⟩, x3, x4, x5⟩ := simple hp f4 f3
          have x1 : -170141183460469231731687303715884105728 ≤ m * n / gc (m * n) (d * k) ∧ m * n / gc (m * n) (d * k) < 170141183460469231731687303715884105728 := x1
          have x2 : -170141183460469231731687303715884105728 ≤ d * k / gc (m * n) (d * k) ∧ d * k / gc (m * n) (d * k) < 170141183460469231731687303715884105728 := x2
          by_cases f1 : fH (m * k)
          · by_cases f2 : fH (n * d)
            · by_cases f5 : fH (m * k + n * d)
              · obtain ⟨⟨y1, y2⟩, y3, y4, y5⟩ := simple hp f5 f3
                have y1 : -170141183460469231731687303715884105728 ≤ (m * k + n * d) / gc (m * k + n * d) (d * k) ∧ (m * k + n * d) / gc (m * k + n * d) (d * k) < 170141183460469231731687303715884105728 := y1
                have y2 : -170141183460469231731687303715884105728 ≤ d * k / gc (m * k + n * d) (d * k) ∧ d * k / gc (m * k + n * d) (d * k) < 170141183460469231731687303715884105728 := y2
                simp [epactlaw03_RatioAdds.c, tFit_4, tFit_8, relRow, rowQ, ha, hb, s1, s2, s3, s4, s5, s6, s7, s8, s9, m1, m2, m3, m4, m5, h1, h2, hp, f1, f2, f3, f4, f5, x1, x2, x3, x4, x5, y1, y2, y3, y4, y5]
              · simp [epactlaw03_RatioAdds.c, tFit_4, tFit_8, relRow, rowQ, ha, hb, s1, s2, s3, s4, s5, s6, s7, s8, s9, m1, m2, m3, m4, m5, h1, h2, hp, f1, f2, f3, f4, f5, x1, x2, x3, x4, x5]
            · simp [epactlaw03_RatioAdds.c, tFit_4, tFit_8, relRow, rowQ, ha, hb, s1, s2, s3, s4, s5, s6, s7, s8, s9, m1, m2, m3, m4, m5, h1, h2, hp, f1, f2, f3, f4, x1, x2, x3, x4, x5]
          · simp [epactlaw03_RatioAdds.c, tFit_4, tFit_8, relRow, rowQ, ha, hb, s1, s2, s3, s4, s5, s6, s7, s8, s9, m1, m2, m3, m4, m5, h1, h2, hp, f1, f3, f4, x1, x2, x3, x4, x5]
        · by_cases f1 : fH (m * k)
          · by_cases f2 : fH (n * d)
            · by_cases f5 : fH (m * k + n * d)
              · obtain ⟨⟨y1, y2⟩, y3, y4, y5⟩ := simple hp f5 f3
                have y1 : -170141183460469231731687303715884105728 ≤ (m * k + n * d) / gc (m * k + n * d) (d * k) ∧ (m * k + n * d) / gc (m * k + n * d) (d * k) < 170141183460469231731687303715884105728 := y1
                have y2 : -170141183460469231731687303715884105728 ≤ d * k / gc (m * k + n * d) (d * k) ∧ d * k / gc (m * k + n * d) (d * k) < 170141183460469231731687303715884105728 := y2
                simp [epactlaw03_RatioAdds.c, tFit_4, tFit_8, relRow, rowQ, ha, hb, s1, s2, s3, s4, s5, s6, s7, s8, s9, m1, m2, m3, m4, m5, h1, h2, hp, f1, f2, f3, f4, f5, y1, y2, y3, y4, y5]
              · simp [epactlaw03_RatioAdds.c, tFit_4, tFit_8, relRow, rowQ, ha, hb, s1, s2, s3, s4, s5, s6, s7, s8, s9, m1, m2, m3, m4, m5, h1, h2, hp, f1, f2, f3, f4, f5]
            · simp [epactlaw03_RatioAdds.c, tFit_4, tFit_8, relRow, rowQ, ha, hb, s1, s2, s3, s4, s5, s6, s7, s8, s9, m1, m2, m3, m4, m5, h1, h2, hp, f1, f2, f3, f4]
          · simp [epactlaw03_RatioAdds.c, tFit_4, tFit_8, relRow, rowQ, ha, hb, s1, s2, s3, s4, s5, s6, s7, s8, s9, m1, m2, m3, m4, m5, h1, h2, hp, f1, f3, f4]
      · by_cases f1 : fH (m * k) <;> by_cases f2 : fH (n * d) <;> by_cases f4 : fH (m * n) <;> simp [epactlaw03_RatioAdds.c, tFit_4, tFit_8, relRow, rowQ, ha, hb, s1, s2, s3, s4, s5, s6, s7, s8, s9, m1, m2, m3, m4, m5, h1, h2, hp, f1, f2, f3, f4]
    · simp [epactlaw03_RatioAdds.c, ha, hb, s1, s2, s3, s4, h1, h2]
  · simp [epactlaw03_RatioAdds.c, ha, hb, s1, s2, s3, s4, h1]
end Go.Proofs.Ytanolecbepjkcaa.E

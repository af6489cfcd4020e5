/- Sums and products of fractions. -/
import Derived.Test.YtanolecbepjkcaaR2
set_option linter.unusedVariables false
set_option linter.unusedSimpArgs false
set_option maxHeartbeats 4000000
set_option maxRecDepth 100000
namespace Go.Proofs.Ytanolecbepjkcaa.E
open Go.VC Go.RowKit

/-- A loop's first round. -/
theorem loopW_succ {sp : VC.Spec} {k : Nat} {c : SC} {n : Nat} {s : St} {Q : AX → St → Prop} : loopW sp k c (n + 1) s Q = codeW sp k c s (roundW (fun s' => loopW sp k c n s' Q) Q) := by
  unfold loopW codeW EndsIn
  rw [iter]
  cases absCode sp k c s with
  | none => rfl
  | some x =>
    obtain ⟨a, s'⟩ := x
    cases a <;> rfl
/-! ### Rows of pairs of numbers -/
def qr (a : Int × Int) : List QC := [.v (.int .i64 (whi a.1)), .v (.int .u64 (wlo a.1)), .v (.int .i64 (whi a.2)), .v (.int .u64 (wlo a.2))]
def vP2 : AP → Bool
  | .c (.q 4 [a, b, c, d, e, f, g, h]) => vR (.g [a.ac, b.ac, c.ac, d.ac]) && vR (.g [e.ac, f.ac, g.ac, h.ac])
  | _ => false
def tP2 : AP → (Int × Int) × (Int × Int)
  | .c (.q _ [a, b, c, d, e, f, g, h]) => (tR (.g [a.ac, b.ac, c.ac, d.ac]), tR (.g [e.ac, f.ac, g.ac, h.ac]))
  | _ => ((0, 0), (0, 0))
def vP3 : AP → Bool
  | .c (.q 4 [a, b, c, d, e, f, g, h, i, j, k, l]) => vR (.g [a.ac, b.ac, c.ac, d.ac]) && vR (.g [e.ac, f.ac, g.ac, h.ac]) && vR (.g [i.ac, j.ac, k.ac, l.ac])
  | _ => false
def tP3 : AP → (Int × Int) × (Int × Int) × (Int × Int)
  | .c (.q _ [a, b, c, d, e, f, g, h, i, j, k, l]) => (tR (.g [a.ac, b.ac, c.ac, d.ac]), tR (.g [e.ac, f.ac, g.ac, h.ac]), tR (.g [i.ac, j.ac, k.ac, l.ac]))
  | _ => ((0, 0), (0, 0), (0, 0))
theorem ac_v {x : Value} : (QC.v x).ac = .v x := _root_.id rfl
theorem ac_r {e : IntKind} {l : List Int} : (QC.r e l).ac = .r e l := _root_.id rfl
attribute [simp] ac_v ac_r
theorem ac_inj : ∀ {a b : QC}, a.ac = b.ac → a = b
  | .v x, .v y, h => by cases h; rfl
  | .r e l, .r f m, h => by cases h; rfl
  | .v x, .r e l, h => by cases h
  | .r e l, .v x, h => by cases h
theorem qr_some {a b c d : QC} (h : vR (.g [a.ac, b.ac, c.ac, d.ac]) = true) : [a, b, c, d] = qr (tR (.g [a.ac, b.ac, c.ac, d.ac])) ∧ coR.p (tR (.g [a.ac, b.ac, c.ac, d.ac])) := by
  obtain ⟨h1, h2⟩ := coR.some h
  refine ⟨?_, h2⟩
  have h1 : AP.g [a.ac, b.ac, c.ac, d.ac] = rt (tR (.g [a.ac, b.ac, c.ac, d.ac])).1 (tR (.g [a.ac, b.ac, c.ac, d.ac])).2 := h1
  generalize tR (.g [a.ac, b.ac, c.ac, d.ac]) = x at *
  simp only [rt, AP.g.injEq, List.cons.injEq, and_true] at h1
  obtain ⟨e1, e2, e3, e4⟩ := h1
  have g1 : a = .v (.int .i64 (whi x.1)) := ac_inj e1
  have g2 : b = .v (.int .u64 (wlo x.1)) := ac_inj e2
  have g3 : c = .v (.int .i64 (whi x.2)) := ac_inj e3
  have g4 : d = .v (.int .u64 (wlo x.2)) := ac_inj e4
  rw [g1, g2, g3, g4]; rfl
def coP2 : Co ((Int × Int) × (Int × Int)) where
  e := fun x => .c (.q 4 (qr x.1 ++ qr x.2))
  p := fun x => coR.p x.1 ∧ coR.p x.2
  v a := vP2 a = true
  dv a := inferInstance
  t := tP2
  some {a} h := by
    unfold vP2 at h
    split at h
    · rename_i a b c d e f g i
      simp only [Bool.and_eq_true] at h
      obtain ⟨h1, h2⟩ := qr_some h.1
      obtain ⟨h3, h4⟩ := qr_some h.2
      refine ⟨?_, h2, h4⟩
      simp only [tP2]
      rw [← h1, ← h3]; rfl
    · cases h
  enc {x} h := ⟨by
    show (vR (coR.e x.1) && vR (coR.e x.2)) = true
    rw [Bool.and_eq_true]
    exact ⟨(coR.enc h.1).1, (coR.enc h.2).1⟩, by
    show (tR (coR.e x.1), tR (coR.e x.2)) = x
    have h1 := (coR.enc h.1).2
    have h2 := (coR.enc h.2).2
    rw [coR_t] at h1 h2
    rw [h1, h2]⟩
def coP3 : Co ((Int × Int) × (Int × Int) × (Int × Int)) where
  e := fun x => .c (.q 4 (qr x.1 ++ qr x.2.1 ++ qr x.2.2))
  p := fun x => coR.p x.1 ∧ coR.p x.2.1 ∧ coR.p x.2.2
  v a := vP3 a = true
  dv a := inferInstance
  t := tP3
  some {a} h := by
    unfold vP3 at h
    split at h
    · simp only [Bool.and_eq_true] at h
      obtain ⟨h1, h2⟩ := qr_some h.1.1
      obtain ⟨h3, h4⟩ := qr_some h.1.2
      obtain ⟨h5, h6⟩ := qr_some h.2
      refine ⟨?_, h2, h4, h6⟩
      simp only [tP3]
      rw [← h1, ← h3, ← h5]; rfl
    · cases h
  enc {x} h := ⟨by
    show (vR (coR.e x.1) && vR (coR.e x.2.1) && vR (coR.e x.2.2)) = true
    rw [Bool.and_eq_true, Bool.and_eq_true]
    exact ⟨⟨(coR.enc h.1).1, (coR.enc h.2.1).1⟩, (coR.enc h.2.2).1⟩, by
    show (tR (coR.e x.1), tR (coR.e x.2.1), tR (coR.e x.2.2)) = x
    have h1 := (coR.enc h.1).2
    have h2 := (coR.enc h.2.1).2
    have h3 := (coR.enc h.2.2).2
    rw [coR_t] at h1 h2 h3
    rw [h1, h2, h3]⟩
theorem coP2_e {x : (Int × Int) × (Int × Int)} : coP2.e x = .c (.q 4 [.v (.int .i64 (whi x.1.1)), .v (.int .u64 (wlo x.1.1)), .v (.int .i64 (whi x.1.2)), .v (.int .u64 (wlo x.1.2)), .v (.int .i64 (whi x.2.1)), .v (.int .u64 (wlo x.2.1)), .v (.int .i64 (whi x.2.2)), .v (.int .u64 (wlo x.2.2))]) := _root_.id rfl
theorem coP2_p {x : (Int × Int) × (Int × Int)} : coP2.p x = (coR.p x.1 ∧ coR.p x.2) := _root_.id rfl
theorem coP2_v {a b c d e f g h : Value} : coP2.v (.c (.q 4 [.v a, .v b, .v c, .v d, .v e, .v f, .v g, .v h])) = (coR.v (.g [.v a, .v b, .v c, .v d]) ∧ coR.v (.g [.v e, .v f, .v g, .v h])) := propext <| by
  show (vR _ && vR _) = true ↔ _
  rw [Bool.and_eq_true]; rfl
theorem coP2_t {a b c d e f g h : Value} : coP2.t (.c (.q 4 [.v a, .v b, .v c, .v d, .v e, .v f, .v g, .v h])) = (coR.t (.g [.v a, .v b, .v c, .v d]), coR.t (.g [.v e, .v f, .v g, .v h])) := _root_.id rfl
theorem coP3_e {x : (Int × Int) × (Int × Int) × (Int × Int)} : coP3.e x = .c (.q 4 [.v (.int .i64 (whi x.1.1)), .v (.int .u64 (wlo x.1.1)), .v (.int .i64 (whi x.1.2)), .v (.int .u64 (wlo x.1.2)), .v (.int .i64 (whi x.2.1.1)), .v (.int .u64 (wlo x.2.1.1)), .v (.int .i64 (whi x.2.1.2)), .v (.int .u64 (wlo x.2.1.2)), .v (.int .i64 (whi x.2.2.1)), .v (.int .u64 (wlo x.2.2.1)), .v (.int .i64 (whi x.2.2.2)), .v (.int .u64 (wlo x.2.2.2))]) := _root_.id rfl
theorem coP3_p {x : (Int × Int) × (Int × Int) × (Int × Int)} : coP3.p x = (coR.p x.1 ∧ coR.p x.2.1 ∧ coR.p x.2.2) := _root_.id rfl
theorem coP3_v {a b c d e f g h i j k l : Value} : coP3.v (.c (.q 4 [.v a, .v b, .v c, .v d, .v e, .v f, .v g, .v h, .v i, .v j, .v k, .v l])) = (coR.v (.g [.v a, .v b, .v c, .v d]) ∧ coR.v (.g [.v e, .v f, .v g, .v h]) ∧ coR.v (.g [.v i, .v j, .v k, .v l])) := propext <| by
  show (vR _ && vR _ && vR _) = true ↔ _
  rw [Bool.and_eq_true, Bool.and_eq_true, and_assoc]; rfl
theorem coP3_t {a b c d e f g h i j k l : Value} : coP3.t (.c (.q 4 [.v a, .v b, .v c, .v d, .v e, .v f, .v g, .v h, .v i, .v j, .v k, .v l])) = (coR.t (.g [.v a, .v b, .v c, .v d]), coR.t (.g [.v e, .v f, .v g, .v h]), coR.t (.g [.v i, .v j, .v k, .v l])) := _root_.id rfl
attribute [simp] coP2_e coP2_p coP2_v coP2_t coP3_e coP3_p coP3_v coP3_t
def fH (x : Int) : Prop := -170141183460469231731687303715884105728 ≤ x ∧ x < 170141183460469231731687303715884105728
instance (x : Int) : Decidable (fH x) := inferInstanceAs (Decidable (_ ∧ _))
theorem fH_eq {x : Int} : fH x = (-170141183460469231731687303715884105728 ≤ x ∧ x < 170141183460469231731687303715884105728) := rfl
/-! ### Products of pairs -/
abbrev rkNo : AV := .t [.c (.r .u8 []), iv .i64 2]
theorem xw1 : IntKind.i64.wrap 1 = 1 := by decide
theorem xw2 : IntKind.i64.wrap 2 = 2 := by decide
theorem xw3 : IntKind.i64.wrap 3 = 3 := by decide
abbrev tReckon2 := s1 coP2 Tt1 fun x => if fH (x.1.1 * x.1.2) then (if fH (x.2.1 * x.2.2) then .t [.c (.q 2 [.v (.int .i64 (whi (x.1.1 * x.1.2))), .v (.int .u64 (wlo (x.1.1 * x.1.2))), .v (.int .i64 (whi (x.2.1 * x.2.2))), .v (.int .u64 (wlo (x.2.1 * x.2.2)))]), iv .i64 0] else rkNo) else rkNo
theorem okReckon2 : Ok Try.prog 90 tReckon2 := ok1 (code_mk Try.func90 ratio_reckon.ent ratio_reckon.chk okSpW) (by simp [ratio_reckon.c]) fun x hx _ => by
  obtain ⟨⟨a, b⟩, c, d⟩ := x
  simp at hx
  refine ⟨6, ?_⟩
  by_cases h1 : fH (a * b)
  · have g1 : (-170141183460469231731687303715884105728 ≤ a * b ∧ a * b < 170141183460469231731687303715884105728) := h1
    by_cases h2 : fH (c * d)
    · have g2 : (-170141183460469231731687303715884105728 ≤ c * d ∧ c * d < 170141183460469231731687303715884105728) := h2
      simp [ratio_reckon.c, ratio_reckon.l1, loopW_succ, xw1, xw2, xw3, hx, h1, h2, g1, g2, relRow, rowQ]
    · have g2 : ¬ (-170141183460469231731687303715884105728 ≤ c * d ∧ c * d < 170141183460469231731687303715884105728) := h2
      simp [ratio_reckon.c, ratio_reckon.l1, loopW_succ, xw1, xw2, xw3, hx, h1, h2, g1, g2, relRow, rowQ]
  · have g1 : ¬ (-170141183460469231731687303715884105728 ≤ a * b ∧ a * b < 170141183460469231731687303715884105728) := h1
    simp [ratio_reckon.c, ratio_reckon.l1, loopW_succ, xw1, xw2, xw3, hx, h1, g1, relRow, rowQ]
abbrev tReckon3 := s1 coP3 Tt1 fun x => if fH (x.1.1 * x.1.2) then (if fH (x.2.1.1 * x.2.1.2) then (if fH (x.2.2.1 * x.2.2.2) then .t [.c (.q 2 [.v (.int .i64 (whi (x.1.1 * x.1.2))), .v (.int .u64 (wlo (x.1.1 * x.1.2))), .v (.int .i64 (whi (x.2.1.1 * x.2.1.2))), .v (.int .u64 (wlo (x.2.1.1 * x.2.1.2))), .v (.int .i64 (whi (x.2.2.1 * x.2.2.2))), .v (.int .u64 (wlo (x.2.2.1 * x.2.2.2)))]), iv .i64 0] else rkNo) else rkNo) else rkNo
theorem okReckon3 : Ok Try.prog 90 tReckon3 := ok1 (code_mk Try.func90 ratio_reckon.ent ratio_reckon.chk okSpW) (by simp [ratio_reckon.c]) fun x hx _ => by
  obtain ⟨⟨a, b⟩, ⟨c, d⟩, e, f⟩ := x
  simp at hx
  refine ⟨6, ?_⟩
  by_cases h1 : fH (a * b)
  · have g1 : (-170141183460469231731687303715884105728 ≤ a * b ∧ a * b < 170141183460469231731687303715884105728) := h1
    by_cases h2 : fH (c * d)
    · have g2 : (-170141183460469231731687303715884105728 ≤ c * d ∧ c * d < 170141183460469231731687303715884105728) := h2
      by_cases h3 : fH (e * f)
      · have g3 : (-170141183460469231731687303715884105728 ≤ e * f ∧ e * f < 170141183460469231731687303715884105728) := h3
        simp [ratio_reckon.c, ratio_reckon.l1, loopW_succ, xw1, xw2, xw3, hx, h1, h2, h3, g1, g2, g3, relRow, rowQ]
      · have g3 : ¬ (-170141183460469231731687303715884105728 ≤ e * f ∧ e * f < 170141183460469231731687303715884105728) := h3
        simp [ratio_reckon.c, ratio_reckon.l1, loopW_succ, xw1, xw2, xw3, hx, h1, h2, h3, g1, g2, g3, relRow, rowQ]
    · have g2 : ¬ (-170141183460469231731687303715884105728 ≤ c * d ∧ c * d < 170141183460469231731687303715884105728) := h2
      simp [ratio_reckon.c, ratio_reckon.l1, loopW_succ, xw1, xw2, xw3, hx, h1, h2, g1, g2, relRow, rowQ]
  · have g1 : ¬ (-170141183460469231731687303715884105728 ≤ a * b ∧ a * b < 170141183460469231731687303715884105728) := h1
    simp [ratio_reckon.c, ratio_reckon.l1, loopW_succ, xw1, xw2, xw3, hx, h1, g1, relRow, rowQ]
/-! ### Sums and products -/
abbrev raNo : AV := .t [rt 0 0, iv .i64 2]
abbrev raY (n d : Int) : AV := .t [rt (n / gc n d) (d / gc n d), iv .i64 0]
abbrev tRMul := s2 coR coR (fun a b => 0 < a.2 * b.2) fun a b => if fH (a.1 * b.1) then (if fH (a.2 * b.2) then raY (a.1 * b.1) (a.2 * b.2) else raNo) else raNo
theorem okRMul : Ok Try.prog 43 tRMul := ok2 (code_mk Try.func43 ratio_Mul.ent ratio_Mul.chk (specOk_cons okReckon2 (specOk_cons okMake okSpW))) (by simp [ratio_Mul.c]) fun a b ha hb hg => by
  obtain ⟨n1, d1⟩ := a
  obtain ⟨n2, d2⟩ := b
  simp at ha hb hg
  refine ⟨0, ?_⟩
  have hg' := Int.not_le.2 hg
  by_cases h1 : fH (n1 * n2)
  · have g1 : (-170141183460469231731687303715884105728 ≤ n1 * n2 ∧ n1 * n2 < 170141183460469231731687303715884105728) := h1
    by_cases h2 : fH (d1 * d2)
    · have g2 : (-170141183460469231731687303715884105728 ≤ d1 * d2 ∧ d1 * d2 < 170141183460469231731687303715884105728) := h2
      simp [ratio_Mul.c, ha, hb, hg, hg', h1, h2, g1, g2, relRow, rowQ]
    · simp [ratio_Mul.c, ha, hb, hg, hg', h1, h2, relRow, rowQ]
  · simp [ratio_Mul.c, ha, hb, hg, hg', h1, relRow, rowQ]
abbrev tRAdd := s2 coR coR (fun a b => 0 < a.2 * b.2) fun a b => if fH (a.1 * b.2) then (if fH (b.1 * a.2) then (if fH (a.2 * b.2) then (if fH (a.1 * b.2 + b.1 * a.2) then raY (a.1 * b.2 + b.1 * a.2) (a.2 * b.2) else raNo) else raNo) else raNo) else raNo
theorem okRAdd : Ok Try.prog 42 tRAdd := ok2 (code_mk Try.func42 ratio_Add.ent ratio_Add.chk (specOk_cons okReckon3 (specOk_cons okMake okSpW))) (by simp [ratio_Add.c]) fun a b ha hb hg => by
  obtain ⟨n1, d1⟩ := a
  obtain ⟨n2, d2⟩ := b
  simp at ha hb hg
  refine ⟨0, ?_⟩
  have hg' := Int.not_le.2 hg
  by_cases h1 : fH (n1 * d2)
  · have g1 : (-170141183460469231731687303715884105728 ≤ n1 * d2 ∧ n1 * d2 < 170141183460469231731687303715884105728) := h1
    by_cases h2 : fH (n2 * d1)
    · have g2 : (-170141183460469231731687303715884105728 ≤ n2 * d1 ∧ n2 * d1 < 170141183460469231731687303715884105728) := h2
      by_cases h3 : fH (d1 * d2)
      · have g3 : (-170141183460469231731687303715884105728 ≤ d1 * d2 ∧ d1 * d2 < 170141183460469231731687303715884105728) := h3
        by_cases h4 : fH (n1 * d2 + n2 * d1)
        · have g4 : (-170141183460469231731687303715884105728 ≤ n1 * d2 + n2 * d1 ∧ n1 * d2 + n2 * d1 < 170141183460469231731687303715884105728) := h4
          simp [ratio_Add.c, ha, hb, hg, hg', h1, h2, h3, h4, g1, g2, g3, g4, relRow, rowQ]
        · have g4 : ¬ (-170141183460469231731687303715884105728 ≤ n1 * d2 + n2 * d1 ∧ n1 * d2 + n2 * d1 < 170141183460469231731687303715884105728) := h4
          simp [ratio_Add.c, ha, hb, hg, hg', h1, h2, h3, h4, g1, g2, g3, g4, relRow, rowQ]
      · simp [ratio_Add.c, ha, hb, hg, hg', h1, h2, h3, relRow, rowQ]
    · simp [ratio_Add.c, ha, hb, hg, hg', h1, h2, relRow, rowQ]
  · simp [ratio_Add.c, ha, hb, hg, hg', h1, relRow, rowQ]
end Go.Proofs.Ytanolecbepjkcaa.E

/- The evaluator is sound: structs compared. -/
import Derived.Test.YtichmemhahbhnaaV7
set_option linter.unusedVariables false
set_option linter.unusedSimpArgs false
namespace Go.VC
open Go.RowKit
section
variable {P : Program} {S0 : Nat → Prop} {w0 : World} {N : Nat} {μ : Nat → Nat} {s s' : St} {a : Act} {w : World} {sp : Spec} {o : Oper} {v : AV} {K : Act → World → Prop} {Q : Exit → Act → World → Prop} {dst : Option Nat}

/-! ### '==' of structs of whole numbers -/
theorem eqCells_append : ∀ (k1 k2 : List IntKind) (as bs : List AC) {r : Bool}, eqCells (k1 ++ k2) as bs = some r →
    ∃ r1 r2, eqCells k1 (as.take k1.length) (bs.take k1.length) = some r1 ∧ eqCells k2 (as.drop k1.length) (bs.drop k1.length) = some r2 ∧ r = (r1 && r2)
  | [], k2, as, bs, r, h => ⟨true, r, by simp [eqCells], by simpa using h, by simp⟩
  | k :: k1, k2, [], bs, r, h => by cases bs <;> simp [eqCells] at h
  | k :: k1, k2, x :: as, [], r, h => by cases x <;> simp [eqCells] at h
  | k :: k1, k2, x :: as, y :: bs, r, h => by
    simp only [List.cons_append] at h
    cases x with
    | v vx =>
      cases y with
      | v vy =>
        cases vx <;> try (simp [eqCells] at h; done)
        cases vy <;> try (simp [eqCells] at h; done)
        rename_i ka na kb nb
        simp only [eqCells] at h
        split at h
        · rename_i hk
          cases hq : eqCells (k1 ++ k2) as bs with
          | none => simp [hq] at h
          | some q =>
            simp [hq] at h
            obtain ⟨r1, r2, h1, h2, rfl⟩ := eqCells_append k1 k2 as bs hq
            refine ⟨(na == nb) && r1, r2, ?_, by simpa using h2, ?_⟩
            · simp [eqCells, hk, h1]
            · rw [← h, Bool.and_assoc]
        · cases h
      | p n q => cases vx <;> simp [eqCells] at h
      | k z => cases vx <;> simp [eqCells] at h
      | r e l => cases vx <;> simp [eqCells] at h
      | s t n len => cases vx <;> simp [eqCells] at h
      | q m cs => cases vx <;> simp [eqCells] at h
      | kq cs => cases vx <;> simp [eqCells] at h
      | nil e => cases vx <;> simp [eqCells] at h
      | u => cases vx <;> simp [eqCells] at h
    | p n q => simp [eqCells] at h
    | k z => simp [eqCells] at h
    | r e l => simp [eqCells] at h
    | s t n len => simp [eqCells] at h
    | q m cs => simp [eqCells] at h
    | kq cs => simp [eqCells] at h
    | nil e => simp [eqCells] at h
    | u => simp [eqCells] at h
/-- The value of a variable of type t out of its cells. -/
def EqOk (P : Program) (d : Nat) (t : TypeId) (ks : List IntKind) : Prop :=
  ∀ (L : Lie) (w : World) (D : Nat) (as bs : List AC) (xs ys : List Value) (r : Bool), d ≤ D → eqCells ks as bs = some r → repL L w as xs → repL L w bs ys →
    (rowP P t = some true → (Op.equalIn D t (.agg xs.toArray) (.agg ys.toArray)).run P w = .ok r w) ∧ (rowP P t = some false → ∃ x y, xs = [x] ∧ ys = [y] ∧ (Op.equalIn D t x y).run P w = .ok r w)
theorem eqFs_sound {d : Nat} (hrec : ∀ t ks, eqKinds P d t = some ks → EqOk P d t ks ∧ sizeP P t = some ks.length) {L : Lie} {D : Nat} (hD : d ≤ D) {xs ys : List Value} {as bs : List AC} (hx : repL L w as xs) (hy : repL L w bs ys) :
    ∀ (fs : List Field) (off : Nat) (ks : List IntKind) {r : Bool}, eqFs (eqKinds P d) off fs = some ks → eqCells ks (as.drop off) (bs.drop off) = some r → (Op.eqFields D xs.toArray ys.toArray fs).run P w = .ok r w
  | [], off, ks, r, h, he => by
    simp only [eqFs, Option.some.injEq] at h
    subst h
    have : r = true := by
      cases h1 : as.drop off <;> cases h2 : bs.drop off <;> simp [h1, h2, eqCells] at he
      exact he
    subst this
    simp [Op.eqFields]
  | f :: fs, off, ks, r, h, he => by
    simp only [eqFs] at h
    split at h
    · rename_i hc
      obtain ⟨hn, rfl⟩ := hc
      split at h
      · rename_i k1 hk1
        split at h
        · rename_i k2 hk2
          cases h
          obtain ⟨r1, r2, e1, e2, rfl⟩ := eqCells_append k1 k2 _ _ he
          obtain ⟨hok, hsz⟩ := hrec _ _ hk1
          have ih := eqFs_sound hrec hD hx hy fs (f.offset + k1.length) k2 hk2 (by simpa [List.drop_drop] using e2)
          have hx1 := repL_take k1.length (repL_drop f.offset hx)
          have hy1 := repL_take k1.length (repL_drop f.offset hy)
          obtain ⟨q1, q2⟩ := hok L w D _ _ _ _ r1 hD e1 hx1 hy1
          have hone : ∃ X Y, (part f.type xs.toArray f.offset).run P w = .ok X w ∧ (part f.type ys.toArray f.offset).run P w = .ok Y w ∧ (Op.equalIn D f.type X Y).run P w = .ok r1 w := by
            cases hrow : rowP P f.type with
            | none =>
              exfalso
              unfold sizeP at hsz
              unfold rowP at hrow
              cases d with
              | zero => simp [eqKinds] at hk1
              | succ d =>
                simp only [eqKinds] at hk1
                cases hu : P.underlying f.type with
                | none => simp [hu] at hk1
                | some dd => simp [hu] at hrow
            | some b =>
              cases b with
              | true =>
                refine ⟨_, _, ?_, ?_, q1 hrow⟩
                · have e : xs.toArray.extract f.offset (f.offset + k1.length) = ((xs.drop f.offset).take k1.length).toArray := by
                    apply Array.ext'
                    simp [List.extract_eq_take_drop]
                  simp only [part, Sem.run_bind, run_isAggP hrow, Result.andThen_ok, if_true, run_size hsz, e, Sem.run_pure]
                · have e : ys.toArray.extract f.offset (f.offset + k1.length) = ((ys.drop f.offset).take k1.length).toArray := by
                    apply Array.ext'
                    simp [List.extract_eq_take_drop]
                  simp only [part, Sem.run_bind, run_isAggP hrow, Result.andThen_ok, if_true, run_size hsz, e, Sem.run_pure]
              | false =>
                obtain ⟨x, y, ex, ey, hq⟩ := q2 hrow
                have gx : xs.toArray[f.offset]? = some x := by
                  have : ((xs.drop f.offset).take k1.length)[0]? = some x := by rw [ex]; rfl
                  rw [List.getElem?_take] at this
                  split at this
                  · simpa using this
                  · cases this
                have gy : ys.toArray[f.offset]? = some y := by
                  have : ((ys.drop f.offset).take k1.length)[0]? = some y := by rw [ey]; rfl
                  rw [List.getElem?_take] at this
                  split at this
                  · simpa using this
                  · cases this
                refine ⟨x, y, ?_, ?_, hq⟩
                · simp only [part, Sem.run_bind, run_isAggP hrow, Result.andThen_ok, Bool.false_eq_true, if_false, gx, Sem.run_pure]
                · simp only [part, Sem.run_bind, run_isAggP hrow, Result.andThen_ok, Bool.false_eq_true, if_false, gy, Sem.run_pure]
          obtain ⟨X, Y, p1, p2, p3⟩ := hone
          rw [Op.eqFields, if_pos hn]
          simp only [Sem.run_bind, p1, p2, p3, Result.andThen_ok]
          cases r1
          · simp
          · simpa using ih
        · cases h
      · cases h
    · cases h
theorem eqKinds_sound : ∀ (d : Nat) (t : TypeId) (ks : List IntKind), eqKinds P d t = some ks → EqOk P d t ks ∧ sizeP P t = some ks.length
  | 0, _, _, h => by simp [eqKinds] at h
  | d + 1, t, ks, h => by
    simp only [eqKinds] at h
    split at h
    · rename_i k hu
      split at h
      · rename_i hsz
        cases h
        refine ⟨fun L w D as bs xs ys r hD he hx hy => ⟨fun hrow => ?_, fun _ => ?_⟩, hsz⟩
        · simp [rowP, hu] at hrow
        · obtain ⟨D, rfl⟩ : ∃ m, D = m + 1 := ⟨D - 1, by omega⟩
          cases as with
          | nil => cases bs <;> simp [eqCells] at he
          | cons x as =>
            cases bs with
            | nil => cases x <;> simp [eqCells] at he
            | cons y bs =>
              cases x with
              | v vx =>
                cases y with
                | v vy =>
                  cases vx <;> try (simp [eqCells] at he; done)
                  cases vy <;> try (simp [eqCells] at he; done)
                  rename_i ka na kb nb
                  simp only [eqCells] at he
                  split at he
                  · rename_i hk
                    obtain ⟨rfl, rfl⟩ := hk
                    cases as <;> cases bs <;> simp [eqCells] at he
                    cases xs with
                    | nil => exact hx.elim
                    | cons z zs =>
                      cases ys with
                      | nil => exact hy.elim
                      | cons z' zs' =>
                        obtain ⟨⟨rfl, _⟩, hx2⟩ := hx
                        obtain ⟨⟨rfl, _⟩, hy2⟩ := hy
                        cases zs with
                        | cons _ _ => exact hx2.elim
                        | nil =>
                          cases zs' with
                          | cons _ _ => exact hy2.elim
                          | nil =>
                            refine ⟨_, _, rfl, rfl, ?_⟩
                            simp [Op.equalIn, run_underlying hu, he]
                  · cases he
                | p n q => cases vx <;> simp [eqCells] at he
                | k z => cases vx <;> simp [eqCells] at he
                | r e l => cases vx <;> simp [eqCells] at he
                | s t n len => cases vx <;> simp [eqCells] at he
                | q m cs => cases vx <;> simp [eqCells] at he
                | kq cs => cases vx <;> simp [eqCells] at he
                | nil e => cases vx <;> simp [eqCells] at he
                | u => cases vx <;> simp [eqCells] at he
              | p n q => simp [eqCells] at he
              | k z => simp [eqCells] at he
              | r e l => simp [eqCells] at he
              | s t n len => simp [eqCells] at he
              | q m cs => simp [eqCells] at he
              | kq cs => simp [eqCells] at he
              | nil e => simp [eqCells] at he
              | u => simp [eqCells] at he
      · cases h
    · rename_i fs hu
      split at h
      · rename_i hheld
        split at h
        · rename_i k1 hk1
          split at h
          · rename_i hsz
            cases h
            refine ⟨fun L w D as bs xs ys r hD he hx hy => ⟨fun _ => ?_, fun hrow => ?_⟩, hsz⟩
            · obtain ⟨D, rfl⟩ : ∃ m, D = m + 1 := ⟨D - 1, by omega⟩
              have hf : P.fieldsOf t = fs := by simp [Program.fieldsOf, hu]
              rw [run_equalIn_struct (P := P) w D t xs.toArray ys.toArray (by rw [hf]; exact hu) hheld, hf]
              exact eqFs_sound (fun t ks hk => eqKinds_sound d t ks hk) (by omega) hx hy fs.toList 0 ks hk1 (by simpa using he)
            · simp [rowP, hu] at hrow
          · cases h
        · cases h
      · cases h
    · cases h
theorem sound_eqs {op : BinOp} {t t' : TypeId} {x y : Operand} {x' y' : SA} {ne : Bool} {ks : List IntKind} (R : Rel S0 w0 N μ s a w) (hop : o.op = .binOp op t x y t') (hs : (structP P t).isSome = true) (hk : eqKinds P 5 t = some ks) (hg : P.eqGuardType P.depth t = false) (ho : op = if ne then .neq else .eql) (hx : chkSA x x' = true) (hy : chkSA y y' = true) (he : absOp sp dst (.eqs ne ks x' y') s = some (v, s')) : Sound P S0 w0 N o s' v a w := by
  simp only [absOp] at he
  split at he
  · rename_i as bs has hbs
    split at he
    · rename_i r hr
      simp only [Option.some.injEq, Prod.mk.injEq] at he
      obtain ⟨rfl, rfl⟩ := he
      obtain ⟨xs, ex, hrx⟩ := R.agg hx has
      obtain ⟨ys, ey, hry⟩ := R.agg hy hbs
      have hrow : rowP P t = some true := by
        unfold structP at hs
        split at hs
        · rename_i fs hu; simp [rowP, hu]
        · cases hs
      have hE : (Op.equal t (.agg xs.toArray) (.agg ys.toArray)).run P w = .ok r w := ((eqKinds_sound 5 t ks hk).1 _ w 10000 as bs xs ys r (by decide) hr hrx hry).1 hrow
      have hguard : (eqGuard op t x y (.agg xs.toArray) (.agg ys.toArray)).run P w = .ok () w := by
        unfold eqGuard
        split <;> simp [hg]
      refine sound_value (y := .bool (if ne then !r else r)) (w' := w) ?_ R ⟨rfl, rfl⟩
      simp only [execOp, hop, ex, ey, Sem.run_bind, hguard, Result.andThen_ok]
      cases ne with
      | true => simp only [if_true] at ho; subst ho; simp [binOp, hE]
      | false => simp only [Bool.false_eq_true, if_false] at ho; subst ho; simp [binOp, hE]
    · cases he
  · cases he
end
end Go.VC

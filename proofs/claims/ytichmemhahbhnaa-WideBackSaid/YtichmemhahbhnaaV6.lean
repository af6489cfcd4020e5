/- The evaluator is sound: stores, fields. -/
import Derived.Test.YtichmemhahbhnaaV5
set_option linter.unusedVariables false
set_option linter.unusedSimpArgs false
namespace Go.VC
open Go.RowKit
section
variable {P : Program} {S0 : Nat → Prop} {w0 : World} {N : Nat} {μ : Nat → Nat} {s s' : St} {a : Act} {w : World} {sp : Spec} {o : Oper} {v : AV} {K : Act → World → Prop} {Q : Exit → Act → World → Prop} {dst : Option Nat}

/-- Cells written into a block that is known whole. -/
theorem setCells_block : ∀ (zs : List Value) (b off : Nat) (w : World) (ys : List Value) (T : TypeId), w.heap[b]? = some (.cells ys.toArray T (0, 0)) → off + zs.length ≤ ys.length →
    (w.setCells b off zs).heap[b]? = some (.cells (ys.take off ++ zs ++ ys.drop (off + zs.length)).toArray T (0, 0)) ∧ (∀ k, k ≠ b → (w.setCells b off zs).heap[k]? = w.heap[k]?) ∧ (w.setCells b off zs).heap.size = w.heap.size ∧ Below b w (w.setCells b off zs)
  | [], b, off, w, ys, T, h, _ => by simp [World.setCells, h, Below.refl]
  | z :: zs, b, off, w, ys, T, h, hl => by
    rw [World.setCells]
    have h1 : (w.setCell ⟨b, off, none⟩ z).heap[b]? = some (.cells (ys.set off z).toArray T (0, 0)) := by
      simp [World.setCell, Array.getElem?_modify, h]
    have hlen : off + (zs.length + 1) ≤ ys.length := by simpa using hl
    obtain ⟨r1, r2, r3, r4⟩ := setCells_block zs b (off + 1) _ (ys.set off z) T h1 (by simp; omega)
    refine ⟨?_, fun k hk => (r2 k hk).trans (Below.heap_setCell _ _ _ _ hk), r3.trans (by simp [World.setCell]), ?_⟩
    · rw [r1]
      have : List.take (off + 1) (ys.set off z) ++ zs ++ List.drop (off + 1 + zs.length) (ys.set off z) = List.take off ys ++ z :: zs ++ List.drop (off + (zs.length + 1)) ys := by
        have e1 : List.take (off + 1) (ys.set off z) = List.take off ys ++ [z] := by
          rw [List.take_add_one, List.take_set_of_le (Nat.le_refl _)]
          simp [List.getElem?_set, show off < ys.length by omega]
        have e2 : List.drop (off + 1 + zs.length) (ys.set off z) = List.drop (off + (zs.length + 1)) ys := by
          rw [List.drop_set_of_lt (by omega)]
          congr 1; omega
        rw [e1, e2]; simp
      rw [this]; rfl
    · have hs : Below b w (w.setCell ⟨b, off, none⟩ z) := ⟨rfl, rfl, rfl, by simp [World.setCell], fun k hk => Below.heap_setCell w ⟨b, off, none⟩ z k (by show k ≠ b; omega)⟩
      exact hs.trans r4

theorem sound_store {t : TypeId} {x y : Operand} {x' y' : SA} {size : Nat} (R : Rel S0 w0 N μ s a w) (hop : o.op = .store t x y) (hsize : sizeP P t = some size) (hx : chkSA x x' = true) (hy : chkSA y y' = true) {nm : Nat} (he : absOp sp dst (.store size x' y' nm) s = some (v, s')) : Sound P S0 w0 N o s' v a w := by
  simp only [absOp] at he
  split at he
  · rename_i n off ap hpt hpa
    obtain ⟨hp, hD⟩ := R.ptr hx hpt
    split at he
    case isFalse => cases he
    split at he
    · rename_i cs hcs
      split at he
      · rename_i hcond
        obtain ⟨hc1, hc2, hc3⟩ := hcond
        simp only [Option.some.injEq, Prod.mk.injEq] at he
        obtain ⟨rfl, rfl⟩ := he
        obtain ⟨hge, ys, zs, T, hb, hr⟩ := R.mem n cs hcs
        have hl := repL_length hr
        have hok : ap.ok = true := by
          cases ap with
          | c q => cases q <;> first | rfl | (simp [AP.cells, AC.known] at hc3)
          | g q => rfl
        have hrp := AP.rep_cells (R.part hy hpa) hok
        have hl2 := repL_length hrp
        have hone : ∀ z ∈ (a.eval y).cells.toList, z.oneCell' = true := known_all hc3 hrp
        have hsz : (a.eval y).cells.size = size := by rw [← hc1, hl2]; simp
        obtain ⟨q1, q2, q3, q4⟩ := setCells_block (a.eval y).cells.toList (μ n) off w (ys ++ zs) T hb (by rw [← hl2, List.length_append, ← hl, hc1]; omega)
        have hthere : ∀ j, j < (a.eval y).cells.size → (w.cell? ⟨μ n, off + j, none⟩).isSome = true ∧ w.frozen? ⟨μ n, off + j, none⟩ = false := by
          intro j hj
          have : off + j < ys.length := by rw [← hl]; omega
          refine ⟨?_, by simp [World.frozen?, hb]⟩
          rw [cell_own hb (List.getElem?_eq_getElem this)]
          rfl
        have hst : (storeVar t ⟨μ n, off, none⟩ (a.eval y)).run P w = .ok () (w.setCells (μ n) off (a.eval y).cells.toList) := by
          have hsc := run_storeCells_cells (P := P) (μ n) off (a.eval y).cells.toList 0 w (fun j hj => by simpa using (hthere j (by simpa using hj)).1) (fun j hj => by simpa using (hthere j (by simpa using hj)).2) hone
          simp only [Nat.add_zero] at hsc
          simp only [storeVar, Sem.run_bind, run_size hsize, Result.andThen_ok, hsz, ne_eq, not_true_eq_false, if_false]
          exact hsc
        have hx1 : Ext (own S0 μ s.mem) w (own S0 μ (upd s.mem n (some (splice cs off ap.cells)))) (w.setCells (μ n) off (a.eval y).cells.toList) := by
          refine ⟨fun m hm => ⟨?_, rfl⟩, fun b hbS hlt => ⟨q2 b (fun e => hbS (.inr ⟨n, hD, e.symm⟩)), ?_⟩, by rw [q3]; exact Nat.le_refl _, fun m hm => ?_⟩
          · show upd s.mem n _ m ≠ none
            by_cases hne : m = n
            · subst hne; rw [upd_same]; simp
            · rw [upd_ne _ _ hne]; exact hm
          · rintro (h | ⟨m, hm, hmb⟩)
            · exact hbS (.inl h)
            · by_cases hne : m = n
              · subst hne; exact hbS (.inr ⟨m, hD, hmb⟩)
              · rw [upd_ne _ _ hne] at hm; exact hbS (.inr ⟨m, hm, hmb⟩)
          · show (World.setCells _ _ _ _).shape? (μ m) = w.shape? (μ m)
            unfold World.shape?
            by_cases hne : μ m = μ n
            · rw [hne, q1, hb]
              simp only [List.size_toArray, List.length_append, List.length_take, List.length_drop]
              congr 2
              have : (a.eval y).cells.toList.length = size := by rw [← hl2, hc1]
              rw [this]; omega
            · rw [q2 _ hne]
        have R' : Rel S0 w0 N μ { s with mem := upd s.mem n (some (splice cs off ap.cells)) } a (w.setCells (μ n) off (a.eval y).cells.toList) := by
          refine R.move hx1 (fun m c h => ?_) (fun i j hi hj hij => ?_) (R.below.trans (q4.mono hge))
          · by_cases hne : m = n
            · subst hne
              rw [upd_same] at h
              cases h
              have hr' := repL_ext hx1 hr
              have hrp' := repL_ext hx1 hrp
              have hz : (a.eval y).cells.toList.length = size := by rw [← hl2, hc1]
              refine ⟨hge, ys.take off ++ (a.eval y).cells.toList ++ ys.drop (off + ap.cells.length), zs, T, ?_, repL_append (repL_append (repL_take _ hr') hrp') (repL_drop _ hr')⟩
              rw [q1, hz, hc1, List.take_append_of_le_length (by omega), List.drop_append_of_le_length (by omega)]
              simp only [List.append_assoc]
            · rw [upd_ne _ _ hne] at h
              obtain ⟨h1, ys', zs', T', h2, h3⟩ := R.mem m c h
              have hmn : μ m ≠ μ n := fun e => hne (R.inj m n (by rw [h]; simp) hD e)
              exact ⟨h1, ys', zs', T', (q2 _ hmn).trans h2, repL_ext hx1 h3⟩
          · have hh : ∀ q, upd s.mem n (some (splice cs off ap.cells)) q ≠ none → s.mem q ≠ none := by
              intro q hq
              by_cases hne : q = n
              · subst hne; exact hD
              · rwa [upd_ne _ _ hne] at hq
            exact R.inj i j (hh i hi) (hh j hj) hij
        refine sound_skip (w' := w.setCells (μ n) off (a.eval y).cells.toList) ?_ R' trivial
        simp only [execOp, hop, hp, Instr.storeAt, Instr.sureAddr, Sem.run_bind, Sem.run_pure, Result.andThen_ok, hst]
      · cases he
    · cases he
  · cases he

theorem sound_fld {t : TypeId} {x : Operand} {y : SA} {i off : Nat} (R : Rel S0 w0 N μ s a w) (hop : o.op = .fieldAddr t x i) (hf : (match fieldP P t i with | some f => f.offset == off && (match sizeP P f.type with | some n => n != 0 | none => false) | none => false) = true) (hx : chkSA x y = true) (he : absOp sp dst (.fld off y) s = some (v, s')) : Sound P S0 w0 N o s' v a w := by
  have hev := R.ev hx
  have step : ∀ (b q : Nat), a.eval x = .pointer (some ⟨b, q, none⟩) → (execOp a.eval o).run P w = .ok (.value (.pointer (some ⟨b, q + off, none⟩))) w := by
    intro b q hp
    split at hf
    · rename_i f hfp
      simp only [Bool.and_eq_true, beq_iff_eq] at hf
      obtain ⟨hoff, hsz⟩ := hf
      split at hsz
      · rename_i m hm
        have hm0 : m ≠ 0 := by simpa using hsz
        unfold fieldP at hfp
        split at hfp
        · rename_i fs hu
          simp only [execOp, hop, hp, Instr.fieldAt, Sem.run_bind, run_underlying hu, Result.andThen_ok, hfp, Instr.sureAddr, Sem.run_pure, fieldPlace, run_size hm, hm0, if_false, Addr.add_mid, hoff]
        · cases hfp
      · cases hsz
    · cases hf
  simp only [absOp] at he
  split at he
  · rename_i n q hq
    simp only [Option.some.injEq, Prod.mk.injEq] at he
    obtain ⟨rfl, rfl⟩ := he
    rw [hq] at hev
    exact sound_value (w' := w) (step _ _ hev.2) R ⟨hev.1, rfl⟩
  · rename_i cs hq
    simp only [Option.some.injEq, Prod.mk.injEq] at he
    obtain ⟨rfl, rfl⟩ := he
    rw [hq] at hev
    obtain ⟨b, q, h1, h2, h3, h4⟩ := hev
    exact sound_value (w' := w) (step _ _ h1) R ⟨b, q + off, rfl, h2, h3, stand_drop off h4⟩
  · cases he

theorem sound_part {t : TypeId} {x : Operand} {y : SA} {i off size : Nat} {agg : Bool} (R : Rel S0 w0 N μ s a w) (hop : o.op = .field t x i) (hf : (match fieldP P t i with | some f => f.offset == off && rowP P f.type == some agg && sizeP P f.type == some size && (agg || size == 1) | none => false) = true) (hx : chkSA x y = true) (he : absOp sp dst (.part agg off size y) s = some (v, s')) : Sound P S0 w0 N o s' v a w := by
  simp only [absOp] at he
  split at he
  · rename_i cs hcs
    obtain ⟨ys, hy, hr⟩ := R.agg hx hcs
    have hl := repL_length hr
    split at hf
    · rename_i f hfp
      simp only [Bool.and_eq_true, beq_iff_eq] at hf
      obtain ⟨⟨⟨hoff, hrow⟩, hsz⟩, h1⟩ := hf
      unfold fieldP at hfp
      split at hfp
      · rename_i fs hu
        split at he
        · rename_i hle
          cases agg with
          | true =>
            simp only [if_true, Option.some.injEq, Prod.mk.injEq] at he
            obtain ⟨rfl, rfl⟩ := he
            refine sound_value (y := .agg ((ys.drop off).take size).toArray) (w' := w) ?_ R ⟨_, rfl, repL_take _ (repL_drop _ hr)⟩
            have e : ys.toArray.extract off (off + size) = ((ys.drop off).take size).toArray := by
              apply Array.ext'
              simp [List.extract_eq_take_drop]
            simp only [execOp, hop, hy, Instr.field, Sem.run_bind, run_underlying hu, Result.andThen_ok, hfp, asAgg, Sem.run_pure, part, run_isAggP hrow, if_true, run_size hsz, hoff, e]
          | false =>
            simp only [Bool.false_eq_true, if_false] at he
            split at he
            · rename_i c hc
              simp only [Option.some.injEq, Prod.mk.injEq] at he
              obtain ⟨rfl, rfl⟩ := he
              obtain ⟨yv, hyv, hrep⟩ := repL_get off hr hc
              refine sound_value (y := yv) (w' := w) ?_ R hrep
              have e : ys.toArray[off]? = some yv := by simpa using hyv
              simp only [execOp, hop, hy, Instr.field, Sem.run_bind, run_underlying hu, Result.andThen_ok, hfp, asAgg, Sem.run_pure, part, run_isAggP hrow, Bool.false_eq_true, if_false, hoff, e]
            · cases he
        · cases he
      · cases hfp
    · cases hf
  · cases he
end
end Go.VC

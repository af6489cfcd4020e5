/- The evaluator is sound: moves, new variables, loads. -/
import Derived.Test.YtichmemhahbhnaaV4
set_option linter.unusedVariables false
set_option linter.unusedSimpArgs false
namespace Go.VC
open Go.RowKit
section
variable {P : Program} {S0 : Nat → Prop} {w0 : World} {N : Nat} {μ : Nat → Nat} {s s' : St} {a : Act} {w : World} {sp : Spec} {o : Oper} {v : AV} {K : Act → World → Prop} {Q : Exit → Act → World → Prop} {dst : Option Nat}

/-- What is to be shown of an operation. -/
def Sound (P : Program) (S0 : Nat → Prop) (w0 : World) (N : Nat) (o : Oper) (s' : St) (v : AV) (a : Act) (w : World) : Prop :=
  ∀ (K : Act → World → Prop) (Q : Exit → Act → World → Prop), (∀ μ' y w', Rel S0 w0 N μ' s' a w' → v.rep (own S0 μ' s'.mem) w' y → K (a.put o.dst y) w') → o.wp P a w K Q

theorem sound_value {y : Value} {w' : World} {μ' : Nat → Nat} (h : (execOp a.eval o).run P w = .ok (.value y) w') (R : Rel S0 w0 N μ' s' a w') (hv : v.rep (own S0 μ' s'.mem) w' y) : Sound P S0 w0 N o s' v a w := by
  intro K Q hK
  unfold Oper.wp
  rw [h]
  exact hK _ _ _ R hv
theorem sound_skip {w' : World} {μ' : Nat → Nat} (h : (execOp a.eval o).run P w = .ok .skip w') (R : Rel S0 w0 N μ' s' a w') (hv : v.rep (own S0 μ' s'.mem) w' undef) : Sound P S0 w0 N o s' v a w := by
  intro K Q hK
  unfold Oper.wp
  rw [h]
  exact hK _ _ _ R hv

theorem run_zero {t : TypeId} {z : Value} (h : (P.info? t).bind (·.zero) = some z) (w : World) : (zeroValue t).run P w = .ok z w := by
  cases hi : P.info? t with
  | none => simp [hi] at h
  | some i =>
    have hz : i.zero = some z := by simpa [hi] using h
    simp [zeroValue, typeInfo, hi, hz]
theorem run_size {t : TypeId} {n : Nat} (h : sizeP P t = some n) (w : World) : (sizeOf t).run P w = .ok n w := by
  unfold sizeP at h
  cases hi : P.info? t with
  | none => simp [hi] at h
  | some i =>
    have hz : i.size = n := by simpa [hi] using h
    simp [sizeOf, typeInfo, hi, hz]
theorem run_isAggP {t : TypeId} {b : Bool} (h : rowP P t = some b) (w : World) : (isAgg t).run P w = .ok b w := by
  unfold rowP at h
  cases hu : P.underlying t with
  | none => simp [hu] at h
  | some d =>
    have hd : d.isRow = b := by simpa [hu] using h
    unfold isAgg
    rw [Sem.run_bind, run_underlying hu w]
    cases d <;> simp_all

theorem sound_mv {x : Operand} {y : SA} (R : Rel S0 w0 N μ s a w) (hop : o.op = .move x ∨ o.op = .assign x) (hx : chkSA x y = true) (he : absOp sp dst (.mv y) s = some (v, s')) : Sound P S0 w0 N o s' v a w := by
  simp only [absOp, Option.some.injEq, Prod.mk.injEq] at he
  obtain ⟨rfl, rfl⟩ := he
  refine sound_value (y := a.eval x) (w' := w) ?_ R (R.ev hx)
  rcases hop with h | h <;> simp [execOp, h]
theorem sound_pick {c x y : Operand} {c' x' y' : SA} (R : Rel S0 w0 N μ s a w) (hop : o.op = .pick c x y) (hc : chkSA c c' = true) (hx : chkSA x x' = true) (hy : chkSA y y' = true) (he : absOp sp dst (.pick c' x' y') s = some (v, s')) : Sound P S0 w0 N o s' v a w := by
  simp only [absOp] at he
  split at he
  · rename_i t ht
    simp only [Option.some.injEq, Prod.mk.injEq] at he
    obtain ⟨rfl, rfl⟩ := he
    have hb := (R.val hc ht).1
    refine sound_value (y := if t then a.eval x else a.eval y) (w' := w) ?_ R ?_
    · simp only [execOp, hop, hb, asBool, Sem.run_bind, Sem.run_pure, Result.andThen_ok]
    · cases t
      · exact R.ev hy
      · exact R.ev hx
  · cases he
theorem sound_alloc {t : TypeId} {z : List AC} (hS0 : ∀ b, S0 b → b < w0.heap.size) (R : Rel S0 w0 N μ s a w) (hop : o.op = .alloc t) (hz : (match (P.info? t).bind (·.zero) with | some v => chkCells v.cells.toList z | none => false) = true) (he : absOp sp dst (.alloc z) s = some (v, s')) : Sound P S0 w0 N o s' v a w := by
  simp only [absOp] at he
  split at hz
  · rename_i zv hzv
    split at he
    · rename_i n
      split at he
      · rename_i hn
        simp only [Option.some.injEq, Prod.mk.injEq] at he
        obtain ⟨rfl, rfl⟩ := he
        obtain ⟨R', h'⟩ := R.alloc hS0 hn t (chkCells_rep (L := own S0 μ s.mem) (w := w) hz)
        refine sound_value (y := .pointer (some ⟨w.heap.size, 0, none⟩)) ?_ R' h'
        simp [execOp, hop, Instr.alloc, run_zero hzv, newVar, newRow]
      · cases he
    · cases he
  · cases hz
theorem sound_box {t : TypeId} {x : Operand} {y : SA} (hS0 : ∀ b, S0 b → b < w0.heap.size) (R : Rel S0 w0 N μ s a w) (hop : o.op = .box t x) (hx : chkSA x y = true) (he : absOp sp dst (.box y) s = some (v, s')) : Sound P S0 w0 N o s' v a w := by
  simp only [absOp] at he
  split at he
  · rename_i n ap hp
    split at he
    · rename_i hn
      split at he
      · rename_i hok
        simp only [Option.some.injEq, Prod.mk.injEq] at he
        obtain ⟨rfl, rfl⟩ := he
        obtain ⟨R', h'⟩ := R.alloc hS0 hn t (AP.rep_cells (R.part hx hp) hok)
        refine sound_value (y := .pointer (some ⟨w.heap.size, 0, none⟩)) ?_ R' h'
        simp [execOp, hop, Instr.box, newVar, newRow]
      · cases he
    · cases he
  · cases he

/-! ### Loads, stores, parts -/
theorem range_of {b : Nat} {ys zs : List Value} {T : TypeId} {fr : Nat × Nat} (h : w.heap[b]? = some (.cells (ys ++ zs).toArray T fr)) (off n : Nat) : w.rangeAt b off ((ys.drop off).take n) := by
  intro j v hv
  rw [cell_of_row w b (off + j) (ys ++ zs).toArray T fr h]
  rw [List.getElem?_take] at hv
  split at hv
  · rw [List.getElem?_drop] at hv
    have hlt : off + j < ys.length := by
      rcases Nat.lt_or_ge (off + j) ys.length with h | h
      · exact h
      · rw [List.getElem?_eq_none h] at hv; cases hv
    simp only [List.getElem?_toArray]
    rw [List.getElem?_append_left hlt]
    exact hv
  · cases hv
theorem cell_own {b : Nat} {ys zs : List Value} {T : TypeId} {fr : Nat × Nat} (h : w.heap[b]? = some (.cells (ys ++ zs).toArray T fr)) {off : Nat} {y : Value} (hy : ys[off]? = some y) : w.cell? ⟨b, off, none⟩ = some y := by
  rw [cell_of_row w b off (ys ++ zs).toArray T fr h]
  have hlt : off < ys.length := (List.getElem?_eq_some_iff.1 hy).1
  simp only [List.getElem?_toArray]
  rw [List.getElem?_append_left hlt]
  exact hy
theorem QC.ac_rep {L : Lie} {c : QC} {y : Value} (h : c.rep L.S w y) : c.ac.rep L w y := by
  cases c with
  | v x => exact h
  | r e l => exact h
theorem stand_rep {L : Lie} {b : Nat} : ∀ (cs : List QC) (o : Nat), Stand L.S w b o cs → ∃ ys : List Value, repL L w (cs.map (·.ac)) ys ∧ w.rangeAt b o ys
  | [], o, _ => ⟨[], trivial, fun j v hv => by simp at hv⟩
  | c :: cs, o, h => by
    obtain ⟨v, h1, h2⟩ := h 0 c rfl
    obtain ⟨ys, h3, h4⟩ := stand_rep (L := L) (b := b) cs (o + 1) (fun j c' hj => by
      have := h (j + 1) c' (by simpa using hj)
      rwa [show o + (j + 1) = o + 1 + j by omega] at this)
    refine ⟨v :: ys, ⟨QC.ac_rep h2, h3⟩, fun j u hu => ?_⟩
    cases j with
    | zero => simp at hu; subst hu; exact h1
    | succ j =>
      have := h4 j u (by simpa using hu)
      rwa [show o + 1 + j = o + (j + 1) by omega] at this
theorem stand_take {S : Nat → Prop} {b o : Nat} {cs : List QC} (n : Nat) (h : Stand S w b o cs) : Stand S w b o (cs.take n) := fun j c hj => h j c (by
  rw [List.getElem?_take] at hj
  split at hj
  · exact hj
  · cases hj)
theorem stand_drop {S : Nat → Prop} {b o : Nat} {cs : List QC} (n : Nat) (h : Stand S w b o cs) : Stand S w b (o + n) (cs.drop n) := fun j c hj => by
  rw [List.getElem?_drop] at hj
  rw [Nat.add_assoc]
  exact h _ c hj
theorem sound_load {t : TypeId} {x : Operand} {y : SA} {agg : Bool} {size : Nat} (R : Rel S0 w0 N μ s a w) (hop : o.op = .load t x) (hrow : rowP P t = some agg) (hsize : sizeP P t = some size) (h1 : agg = true ∨ size = 1) (hx : chkSA x y = true) {nm : Option Nat} (he : absOp sp dst (.load agg size y nm) s = some (v, s')) : Sound P S0 w0 N o s' v a w := by
  have hev := R.ev hx
  simp only [absOp] at he
  split at he
  · rename_i n off hy
    rw [hy] at hev
    obtain ⟨hD, hp⟩ := hev
    split at he
    case isFalse => cases he
    split at he
    · rename_i cs hcs
      obtain ⟨_, ys, zs, T, hb, hr⟩ := R.mem n cs hcs
      have hl := repL_length hr
      split at he
      · rename_i hle
        cases agg with
        | true =>
          simp only [if_true, Option.some.injEq, Prod.mk.injEq] at he
          obtain ⟨rfl, rfl⟩ := he
          have hu : ∃ d, P.underlying t = some d ∧ d.isRow = true := by
            unfold rowP at hrow
            cases hu : P.underlying t with
            | none => simp [hu] at hrow
            | some d => exact ⟨d, rfl, by simpa [hu] using hrow⟩
          obtain ⟨d, hu, hd⟩ := hu
          have hlen : ((ys.drop off).take size).length = size := by rw [List.length_take, List.length_drop]; omega
          refine sound_value (y := .agg ((ys.drop off).take size).toArray) ?_ R ⟨_, rfl, repL_take _ (repL_drop _ hr)⟩
          simp only [execOp, hop, hp, own, Sem.run_bind, run_loadAt_mid w (μ n) off t _ d (range_of hb off size) hu hd (by rw [hlen]; exact hsize), Result.andThen_ok, Sem.run_pure]
        | false =>
          simp only [Bool.false_eq_true, if_false] at he
          split at he
          · rename_i c hc
            split at he
            · simp only [Option.some.injEq, Prod.mk.injEq] at he
              obtain ⟨rfl, rfl⟩ := he
              obtain ⟨yv, hyv, hrep⟩ := repL_get off hr hc
              have hcell : w.cell? ⟨μ n, off, none⟩ = some yv := cell_own hb hyv
              refine sound_value (y := yv) ?_ R hrep
              simp only [execOp, hop, hp, own, Instr.loadAt, Instr.sureAddr, loadVar, Sem.run_bind, Sem.run_pure, Result.andThen_ok, run_isAggP hrow, Bool.false_eq_true, if_false, run_load, hcell]
            · cases he
          · cases he
      · cases he
    · cases he
  · rename_i x' hy
    rw [hy] at hev
    obtain ⟨h0, b, off, hp, hb1, hb2, hcell⟩ := hev
    cases agg with
    | true => simp at he
    | false =>
      simp only [Bool.false_eq_true, if_false] at he
      split at he
      · simp only [Option.some.injEq, Prod.mk.injEq] at he
        obtain ⟨rfl, rfl⟩ := he
        refine sound_value (y := x') ?_ R ⟨rfl, h0⟩
        simp only [execOp, hop, hp, Instr.loadAt, Instr.sureAddr, loadVar, Sem.run_bind, Sem.run_pure, Result.andThen_ok, run_isAggP hrow, Bool.false_eq_true, if_false, run_load, hcell]
      · cases he
  · rename_i cs hy
    rw [hy] at hev
    obtain ⟨b, off, hp, hb1, hb2, hst⟩ := hev
    split at he
    · rename_i hle
      cases agg with
      | true =>
        simp only [if_true, Option.some.injEq, Prod.mk.injEq] at he
        obtain ⟨rfl, rfl⟩ := he
        have hu : ∃ d, P.underlying t = some d ∧ d.isRow = true := by
          unfold rowP at hrow
          cases hu : P.underlying t with
          | none => simp [hu] at hrow
          | some d => exact ⟨d, rfl, by simpa [hu] using hrow⟩
        obtain ⟨d, hu, hd⟩ := hu
        obtain ⟨ys, h3, h4⟩ := stand_rep (L := own S0 μ s.mem) (w := w) (cs.take size) off (stand_take size hst)
        have hlen : ys.length = size := by
          have := repL_length h3
          rw [List.length_map, List.length_take] at this
          omega
        refine sound_value (y := .agg ys.toArray) ?_ R ⟨_, rfl, h3⟩
        simp only [execOp, hop, hp, own, Sem.run_bind, run_loadAt_mid w b off t _ d h4 hu hd (by rw [hlen]; exact hsize), Result.andThen_ok, Sem.run_pure]
      | false =>
        simp only [Bool.false_eq_true, if_false] at he
        split at he
        · rename_i c hc
          split at he
          · simp only [Option.some.injEq, Prod.mk.injEq] at he
            obtain ⟨rfl, rfl⟩ := he
            obtain ⟨yv, hcell, hrep⟩ := hst 0 c hc
            simp only [Nat.add_zero] at hcell
            refine sound_value (y := yv) ?_ R (QC.ac_rep (L := own S0 μ s.mem) hrep)
            simp only [execOp, hop, hp, own, Instr.loadAt, Instr.sureAddr, loadVar, Sem.run_bind, Sem.run_pure, Result.andThen_ok, run_isAggP hrow, Bool.false_eq_true, if_false, run_load, hcell]
          · cases he
        · cases he
    · cases he
  · cases he
end
end Go.VC

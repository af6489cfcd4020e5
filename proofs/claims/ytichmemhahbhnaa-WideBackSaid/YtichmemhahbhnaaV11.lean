/- The evaluator is sound: rows that are made. -/
import Derived.Test.YtichmemhahbhnaaV9
import Derived.Laws.OwnMore
import Derived.Great.BuildSlice
set_option linter.unusedVariables false
set_option linter.unusedSimpArgs false
namespace Go.VC
open Go.RowKit
section
variable {P : Program} {S0 : Nat → Prop} {w0 : World} {N : Nat} {μ : Nat → Nat} {s s' : St} {a : Act} {w : World} {sp : Spec} {o : Oper} {v : AV} {K : Act → World → Prop} {Q : Exit → Act → World → Prop} {dst : Option Nat}

/-! ### The lesser one; strings -/
theorem sound_min {c : Call} {x' y' : SA} (R : Rel S0 w0 N μ s a w) (hop : o.op = .call c) (hcal : c.callee = .builtin .min) (hargs : chkArgs c.args.toList [x', y'] = true) (he : absOp sp dst (.min x' y') s = some (v, s')) : Sound P S0 w0 N o s' v a w := by
  obtain ⟨x, y, hxy, hx, hy⟩ : ∃ x y, c.args = #[x, y] ∧ chkSA x x' = true ∧ chkSA y y' = true := by
    match h : c.args.toList, hargs with
    | [x, y], hargs =>
      simp only [chkArgs, Bool.and_eq_true] at hargs
      exact ⟨x, y, Array.ext' (by simpa using h), hargs.1, hargs.2.1⟩
    | [], hargs => cases hargs
    | [x], hargs => simp [chkArgs] at hargs
    | x :: y :: z :: l, hargs => simp [chkArgs] at hargs
  simp only [absOp] at he
  split at he
  · rename_i k p k' q hp hq
    simp only [Option.some.injEq, Prod.mk.injEq] at he
    obtain ⟨rfl, rfl⟩ := he
    refine sound_value (y := .int k (if q < p then q else p)) (w' := w) ?_ R ⟨rfl, rfl⟩
    simp [execOp, hop, resolve, hcal, hxy, invoke, builtin, Builtin.min_, Builtin.min2, (R.val hx hp).1, (R.val hy hq).1]
  · cases he
theorem strP_spec {t : TypeId} (h : strP P t = true) : P.underlying t = some .string := by
  unfold strP at h
  split at h
  · assumption
  · cases h
theorem sound_str {p q el : TypeId} {x : Operand} {y : SA} (R : Rel S0 w0 N μ s a w) (hop : o.op = .convert p q x) (hel : elemP P p = some el) (hk : kindP P el = some .u8) (hq : strP P q = true) (hx : chkSA x y = true) (he : absOp sp dst (.str y) s = some (v, s')) : Sound P S0 w0 N o s' v a w := by
  simp only [absOp] at he
  split at he
  · rename_i l hl
    simp only [Option.some.injEq, Prod.mk.injEq] at he
    obtain ⟨rfl, rfl⟩ := he
    refine sound_value (y := .string (strOfNums l)) (w' := w) ?_ R ⟨rfl, rfl⟩
    rcases R.row hx hl with ⟨h1, rfl⟩ | ⟨b, off, c, h1, h2, h3, h4, h5⟩
    · have := run_convert_bytes_nil (P := P) (w := w) p el (elemP_spec hel) (kindP_spec hk) 0 0 q (strP_spec hq)
      simp only [execOp, hop, h1, Sem.run_bind, this, Result.andThen_ok, Sem.run_pure]
      rfl
    · have := run_convert_bytes_arg_in (P := P) (w := w) (w' := w) (World.Extends.refl w) p el (elemP_spec hel) (kindP_spec hk) b off l.length c l rfl (fun i hi => h5 i hi) q (strP_spec hq)
      simp only [execOp, hop, h1, Sem.run_bind, this, Result.andThen_ok, Sem.run_pure]
  · cases he
theorem guard_str {op : BinOp} {t : TypeId} {x y : Operand} {m n : ByteArray} : (eqGuard op t x y (.string m) (.string n)).run P w = .ok () w := by
  unfold eqGuard
  split <;> simp
theorem sound_eqt {op : BinOp} {t t' : TypeId} {x y : Operand} {x' y' : SA} {ne : Bool} (R : Rel S0 w0 N μ s a w) (hop : o.op = .binOp op t x y t') (ho : op = if ne then .neq else .eql) (hx : chkSA x x' = true) (hy : chkSA y y' = true) (he : absOp sp dst (.eqt ne x' y') s = some (v, s')) : Sound P S0 w0 N o s' v a w := by
  simp only [absOp] at he
  split at he
  · rename_i p q hp hq
    simp only [Option.some.injEq, Prod.mk.injEq] at he
    obtain ⟨rfl, rfl⟩ := he
    refine sound_value (y := .bool (if ne then !(p.toList == q.toList) else p.toList == q.toList)) (w' := w) ?_ R ⟨rfl, rfl⟩
    simp only [execOp, hop, (R.val hx hp).1, (R.val hy hq).1, Sem.run_bind, guard_str, Result.andThen_ok]
    cases ne with
    | true => simp only [if_true] at ho; subst ho; simp [binOp, Op.stringOp]
    | false => simp only [Bool.false_eq_true, if_false] at ho; subst ho; simp [binOp, Op.stringOp]
  · cases he

/-! ### A row that is made -/
theorem chkRT_spec {ty : TypeId} {t : RT} (h : chkRT P ty t = true) : P.underlying ty = some (.slice t.e) ∧ sizeP P t.e = some t.m ∧ 0 < t.m ∧ ∃ i z, P.info? t.e = some i ∧ i.zero = some z ∧ i.size = t.m ∧ i.bytes ≤ 128 ∧ z.cells.size = t.m := by
  unfold chkRT at h
  split at h
  · rename_i e he
    simp only [Bool.and_eq_true, beq_iff_eq, decide_eq_true_eq] at h
    obtain ⟨⟨⟨rfl, h2⟩, h3⟩, h4⟩ := h
    refine ⟨elemP_spec he, h2, h3, ?_⟩
    split at h4
    · rename_i i hi
      simp only [Bool.and_eq_true, decide_eq_true_eq] at h4
      obtain ⟨h5, h6⟩ := h4
      split at h6
      · rename_i z hz
        refine ⟨i, z, hi, hz, ?_, h5, by simpa using h6⟩
        simpa [sizeP, hi] using h2
      · cases h6
    · cases h4
  · cases h
theorem own_shape {b : Nat} {cur : Array Value} {T : TypeId} (h : w.heap[b]? = some (.cells cur T (0, 0))) : w.shape? b = some (T, cur.size) := by simp [World.shape?, h]

theorem sound_mkS {ty : TypeId} {l c : Operand} {t : RT} {z : Value} {n : SA} (hS0 : ∀ b, S0 b → b < w0.heap.size) (R : Rel S0 w0 N μ s a w) (hop : o.op = .makeSlice ty l c) (ht : chkRT P ty t = true) (hm : t.m = 1) (hz : chkCells (zerosP P t.e 1) [.v z] = true) (hl : chkSA l n = true) (hc : chkSA c n = true) (he : absOp sp dst (.mkS t z n) s = some (v, s')) : Sound P S0 w0 N o s' v a w := by
  obtain ⟨hu, hsz, _, i, z', hi, hz', hisz, hby, hzs⟩ := chkRT_spec ht
  simp only [absOp] at he
  split at he
  · rename_i d k j hj
    split at he
    · rename_i hd
      split at he
      · rename_i hj0
        simp only [Option.some.injEq, Prod.mk.injEq] at he
        obtain ⟨rfl, rfl⟩ := he
        have e1 := (R.val hl hj).1
        have e2 := (R.val hc hj).1
        have hjn : ((j.toNat : Nat) : Int) = j := by omega
        have hzc : z'.cells = #[z] := by
          have hzz : (P.info? t.e).bind (·.zero) = some z' := by rw [hi]; exact hz'
          unfold zerosP at hz
          rw [hzz] at hz
          simp only [List.range_succ, List.range_zero, List.nil_append, List.map_cons, List.map_nil, chkCells, Bool.and_eq_true] at hz
          have h0 : _ = z := (chkCell_eq hz.1).1
          rw [hm] at hzs
          apply Array.ext (by simp [hzs])
          intro q h1 h2
          have : q = 0 := by omega
          subst this
          rw [hzs] at h0
          simpa [h1] using h0
        have hz1 : z.oneCell' = true := by
          have hzz : (P.info? t.e).bind (·.zero) = some z' := by rw [hi]; exact hz'
          unfold zerosP at hz
          rw [hzz] at hz
          simp only [List.range_succ, List.range_zero, List.nil_append, List.map_cons, List.map_nil, chkCells, Bool.and_eq_true] at hz
          obtain ⟨h1, h2⟩ := chkCell_eq hz.1
          rw [← h1]; exact h2
        have hb1 : i.bytes * j.toNat ≤ 128 * 1000000000000 := Nat.mul_le_mul hby (by omega)
        obtain ⟨w', hrun, ⟨hlen, hown⟩, hg⟩ := run_make_full (P := P) w w.heap.size ty t.e i z' 1 hu hi hz' (by rw [hisz, hm]) k k j.toNat (by omega) (by simp only [maxLen]; omega) (Nat.le_refl _)
        rcases hown with ⟨h, _⟩ | ⟨g, cap, cur, h, hbg, hblk, hn, hcm, hcs, htk⟩
        · cases h
        · simp only [Value.slice.injEq, Option.some.injEq, Addr.mk.injEq, and_true, true_and] at h
          obtain ⟨rfl, rfl⟩ := h
          have hcur : cur = (List.replicate j.toNat z).toArray := by
            apply Array.ext'
            rw [List.take_of_length_le (by rw [Array.length_toList, hcs]; omega)] at htk
            rw [htk, hzc, Nat.mul_one, toList_madeCells_one]
          have hrep : repL (own S0 μ s.mem) w (List.replicate j.toNat (.v z)) (List.replicate j.toNat z) := by
            generalize j.toNat = q
            induction q with
            | zero => exact trivial
            | succ q ih => rw [List.replicate_succ, List.replicate_succ]; exact ⟨⟨rfl, hz1⟩, ih⟩
          have hbel : Below w.heap.size w w' := ⟨hg.os, hg.tape, hg.output, hg.size, fun q hq => hg.block q hq (by simp)⟩
          obtain ⟨R', hD, hμ⟩ := R.fresh hS0 (zs := []) (T := t.e) (b := w.heap.size) hd (Nat.le_refl _) (by rw [hblk, hcur]; simp) hbel hrep
          refine sound_value (y := .slice (some ⟨w.heap.size, 0, none⟩) j.toNat j.toNat) (w' := w') ?_ R' ⟨hD, j.toNat, ?_, ?_, Nat.le_refl _, by simp only [maxLen]; omega⟩
          · rw [hjn] at hrun
            simp only [execOp, hop, e1, e2, Sem.run_bind, hrun, Result.andThen_ok, Sem.run_pure]
          · show _ = Value.slice (some ⟨upd μ d w.heap.size d, 0, none⟩) _ _
            rw [hμ]
          · show w'.shape? (upd μ d w.heap.size d) = _
            rw [hμ, own_shape hblk, hcur, hm]
            simp
      · cases he
    · cases he
  · cases he

/-! ### A row literal -/
theorem fillS_ok {m : Nat} (R : Rel S0 w0 N μ s a w) :
    ∀ (ps : List (Nat × Operand)) (parts : List (Nat × Nat × SA)) (cs : List AC) (ys : List Value) {res : List AC}, chkPartsS m ps parts = true → repL (own S0 μ s.mem) w cs ys → fillA s cs parts = some res →
      ∃ zs : List Value, Instr.fill (fun i => some (i * m, m)) ys.toArray (ps.map fun x => (x.1, a.eval x.2)) = some zs.toArray ∧ repL (own S0 μ s.mem) w res zs
  | [], [], cs, ys, res, _, hr, hf => by
    simp only [fillA, Option.some.injEq] at hf
    subst hf
    exact ⟨ys, rfl, hr⟩
  | [], _ :: _, _, _, _, h, _, _ => by cases h
  | _ :: _, [], _, _, _, h, _, _ => by cases h
  | (i, x) :: ps, (off, size, y) :: parts, cs, ys, res, h, hr, hf => by
    simp only [chkPartsS, Bool.and_eq_true, beq_iff_eq] at h
    obtain ⟨⟨⟨hoff, hsz⟩, h2⟩, h3⟩ := h
    subst hsz
    simp only [fillA] at hf
    split at hf
    · rename_i ap hap
      split at hf
      · rename_i hcond
        obtain ⟨hok, hc1, hc2⟩ := hcond
        have hrp := AP.rep_cells (R.part h2 hap) hok
        have hl := repL_length hr
        have hl2 := repL_length hrp
        have hcsz : (a.eval x).cells.size = size := by rw [← hc1, hl2]; simp
        obtain ⟨zs, hz, hrz⟩ := fillS_ok R ps parts (splice cs off ap.cells) (ys.take off ++ (a.eval x).cells.toList ++ ys.drop (off + (a.eval x).cells.toList.length)) h3 (by
          unfold splice
          rw [hl2]
          exact repL_append (repL_append (repL_take _ hr) hrp) (repL_drop _ hr)) hf
        refine ⟨zs, ?_, hrz⟩
        simp only [List.map_cons, Instr.fill, hcsz]
        rw [← hoff, if_neg (by simp; rw [← hl]; omega)]
        have e := foldl_splice (a.eval x).cells.toList ys off 0 (by simp; rw [hcsz, ← hl]; omega)
        rw [← hz]
        congr 1
        rw [← Array.foldl_toList, Array.toList_zipIdx]
        simpa using e
      · cases hf
    · cases hf
theorem sound_bldS {ty : TypeId} {n : Nat} {ps : Array (Nat × Operand)} {t : RT} {z : List AC} {parts : List (Nat × Nat × SA)} (hS0 : ∀ b, S0 b → b < w0.heap.size) (R : Rel S0 w0 N μ s a w) (hop : o.op = .buildSlice ty n ps) (ht : chkRT P ty t = true) (hsm : n * t.m ≤ 16777216) (hz : chkCells (zerosP P t.e (n * t.m)) z = true) (hp : chkPartsS t.m ps.toList parts = true)
    (he : absOp sp dst (.bldS t z n parts) s = some (v, s')) : Sound P S0 w0 N o s' v a w := by
  obtain ⟨hu, hsz, hpos, i, z', hi, hz', hisz, hby, hzs⟩ := chkRT_spec ht
  simp only [absOp] at he
  split at he
  · rename_i d cs hcs
    split at he
    · rename_i hd
      simp only [Option.some.injEq, Prod.mk.injEq] at he
      obtain ⟨rfl, rfl⟩ := he
      have hzz : (P.info? t.e).bind (·.zero) = some z' := by rw [hi]; exact hz'
      unfold zerosP at hz
      rw [hzz] at hz
      obtain ⟨zs, hfill, hr⟩ := fillS_ok (m := t.m) R ps.toList parts z _ hp (chkCells_rep hz) hcs
      have hlen : cs.length = n * t.m := by
        have : ∀ (parts : List (Nat × Nat × SA)) (cs res : List AC), fillA s cs parts = some res → res.length = cs.length := by
          intro parts
          induction parts with
          | nil => intro cs res h; simp only [fillA, Option.some.injEq] at h; rw [h]
          | cons p parts ih =>
            intro cs res h
            obtain ⟨off, size, x⟩ := p
            simp only [fillA] at h
            split at h
            · split at h
              · rename_i hc
                rw [ih _ _ h]
                unfold splice
                simp only [List.length_append, List.length_take, List.length_drop]
                omega
              · cases h
            · cases h
        rw [this parts _ _ hcs]
        have hzl : ∀ (vs : List Value) (xs : List AC), chkCells vs xs = true → vs.length = xs.length := by
          intro vs
          induction vs with
          | nil => intro xs h; cases xs with | nil => rfl | cons _ _ => cases h
          | cons q vs ih => intro xs h; cases xs with | nil => cases h | cons y xs => simp only [chkCells, Bool.and_eq_true] at h; simp [ih _ h.2]
        have := hzl _ _ hz
        rw [List.length_map, List.length_range] at this
        exact this.symm
      have hzl2 : zs.length = n * t.m := by rw [← repL_length hr, hlen]
      have hb : Below w.heap.size w (w.alloc (.cells zs.toArray t.e)) := ⟨rfl, rfl, rfl, by simp, fun k hk => heap_alloc_old w _ k hk⟩
      obtain ⟨R', hD, hμ⟩ := R.fresh hS0 (zs := []) (T := t.e) (b := w.heap.size) hd (Nat.le_refl _) (by rw [heap_alloc_new]; simp) hb hr
      refine sound_value (y := .slice (some ⟨w.heap.size, 0, none⟩) n n) (w' := w.alloc (.cells zs.toArray t.e)) ?_ R' ⟨hD, n, ?_, ?_, Nat.le_refl _, ?_⟩
      · have e : (ps.map fun x => (x.1, a.eval x.2)).toList = ps.toList.map fun x => (x.1, a.eval x.2) := by simp
        by_cases h0 : n * i.size = 0
        · have hn0 : n = 0 := by
            rw [hisz] at h0
            rcases Nat.mul_eq_zero.1 h0 with h | h
            · exact h
            · omega
          subst hn0
          have hf2 : Instr.fill (fun j => some (j * t.m, t.m)) #[] (ps.toList.map fun x => (x.1, a.eval x.2)) = some zs.toArray := by simpa using hfill
          have hf3 : Instr.fill (fun j => some (j * i.size, i.size)) #[] (ps.map fun x => (x.1, a.eval x.2)).toList = some zs.toArray := by rw [e, hisz]; exact hf2
          simp only [execOp, hop, Sem.run_bind]
          have hrun : (Instr.buildSlice ty 0 (ps.map fun x => (x.1, a.eval x.2))).run P w = .ok (.slice (some ⟨w.heap.size, 0, none⟩) 0 0) (w.alloc (.cells zs.toArray t.e)) := by
            have hr0 : ∀ f : Nat → Value, Array.map f (Array.range 0) = #[] := fun f => by simp
            simp only [Instr.buildSlice, Sem.run_bind, run_underlying hu, run_size hsz, Result.andThen_ok, Nat.zero_mul, if_true, Sem.run_pure, hr0, newRow]
            rw [← hisz, hf3]
            simp
          have := hrun
          simp only [this, Result.andThen_ok, Sem.run_pure]
        · have hf3 : Instr.fill (fun j => some (j * i.size, i.size)) ((Array.range (n * i.size)).map (z'.cells[· % z'.cells.size]!)) (ps.map fun x => (x.1, a.eval x.2)).toList = some zs.toArray := by
            rw [e, hisz]
            have : (Array.range (n * t.m)).map (z'.cells[· % z'.cells.size]!) = ((List.range (n * t.m)).map (fun i => z'.cells[i % z'.cells.size]!)).toArray := by
              apply Array.ext'
              simp
            rw [this]
            exact hfill
          have hrun := run_buildSlice (P := P) w ty t.e n (ps.map fun x => (x.1, a.eval x.2)) zs.toArray i z' hu hi hz' (by rw [hisz]; omega) h0 hf3
          simp only [execOp, hop, Sem.run_bind, hrun, Result.andThen_ok, Sem.run_pure]
      · show _ = Value.slice (some ⟨upd μ d w.heap.size d, 0, none⟩) _ _
        rw [hμ]
      · show (w.alloc _).shape? (upd μ d w.heap.size d) = _
        rw [hμ, own_shape (heap_alloc_new w _)]
        simp [hzl2]
      · have : n ≤ n * t.m := Nat.le_mul_of_pos_right n hpos
        simp only [maxLen]; omega
    · cases he
  · cases he
end
end Go.VC

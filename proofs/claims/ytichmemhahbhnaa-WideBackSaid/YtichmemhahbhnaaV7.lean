/- The evaluator is sound: structs, numbers, bools. -/
import Derived.Test.YtichmemhahbhnaaV6
set_option linter.unusedVariables false
set_option linter.unusedSimpArgs false
namespace Go.VC
open Go.RowKit
section
variable {P : Program} {S0 : Nat → Prop} {w0 : World} {N : Nat} {μ : Nat → Nat} {s s' : St} {a : Act} {w : World} {sp : Spec} {o : Oper} {v : AV} {K : Act → World → Prop} {Q : Exit → Act → World → Prop} {dst : Option Nat}

/-! ### build -/
theorem foldl_splice : ∀ (zs : List Value) (ys : List Value) (off k : Nat), off + k + zs.length ≤ ys.length →
    ((zs.zipIdx k).foldl (fun (cs : Array Value) (x : Value × Nat) => cs.setIfInBounds (off + x.2) x.1) ys.toArray) = (ys.take (off + k) ++ zs ++ ys.drop (off + k + zs.length)).toArray
  | [], ys, off, k, h => by simp
  | z :: zs, ys, off, k, h => by
    have hlen : off + k + (zs.length + 1) ≤ ys.length := by simpa using h
    simp only [List.zipIdx_cons, List.foldl_cons]
    have e : ys.toArray.setIfInBounds (off + k) z = (ys.set (off + k) z).toArray := by simp
    rw [e, foldl_splice zs (ys.set (off + k) z) off (k + 1) (by simp; omega)]
    have e1 : List.take (off + (k + 1)) (ys.set (off + k) z) = List.take (off + k) ys ++ [z] := by
      rw [← Nat.add_assoc, List.take_add_one, List.take_set_of_le (Nat.le_refl _)]
      simp [List.getElem?_set, show off + k < ys.length by omega]
    have e2 : List.drop (off + (k + 1) + zs.length) (ys.set (off + k) z) = List.drop (off + k + (zs.length + 1)) ys := by
      rw [List.drop_set_of_lt (by omega)]
      congr 1; omega
    rw [e1, e2]; simp
theorem fill_ok {P : Program} {fs : Array Field} {places : Array (Nat × Nat)} (hp : ∀ (i : Nat) (f : Field), fs[i]? = some f → ∃ n, sizeP P f.type = some n ∧ places[i]? = some (f.offset, n)) (R : Rel S0 w0 N μ s a w) :
    ∀ (ps : List (Nat × Operand)) (parts : List (Nat × Nat × SA)) (cs : List AC) (ys : List Value) {res : List AC}, chkParts P fs ps parts = true → repL (own S0 μ s.mem) w cs ys → fillA s cs parts = some res →
      ∃ zs : List Value, Instr.fill (places[·]?) ys.toArray (ps.map fun x => (x.1, a.eval x.2)) = some zs.toArray ∧ repL (own S0 μ s.mem) w res zs
  | [], [], cs, ys, res, _, hr, hf => by
    simp only [fillA, Option.some.injEq] at hf
    subst hf
    exact ⟨ys, rfl, hr⟩
  | [], _ :: _, _, _, _, h, _, _ => by cases h
  | _ :: _, [], _, _, _, h, _, _ => by cases h
  | (i, x) :: ps, (off, size, y) :: parts, cs, ys, res, h, hr, hf => by
    simp only [chkParts, Bool.and_eq_true] at h
    obtain ⟨⟨h1, h2⟩, h3⟩ := h
    simp only [fillA] at hf
    split at hf
    · rename_i ap hap
      split at hf
      · rename_i hcond
        obtain ⟨hok, hc1, hc2⟩ := hcond
        split at h1
        · rename_i f hfi
          simp only [Bool.and_eq_true, beq_iff_eq] at h1
          obtain ⟨hoff, hsz⟩ := h1
          obtain ⟨n, hn, hpl⟩ := hp i f hfi
          have hns : n = size := by rw [hn] at hsz; cases hsz; rfl
          subst hns
          have hrp := AP.rep_cells (R.part h2 hap) hok
          have hl := repL_length hr
          have hl2 := repL_length hrp
          have hcsz : (a.eval x).cells.size = n := by rw [← hc1, hl2]; simp
          obtain ⟨zs, hz, hrz⟩ := fill_ok hp R ps parts (splice cs off ap.cells) (ys.take off ++ (a.eval x).cells.toList ++ ys.drop (off + (a.eval x).cells.toList.length)) h3 (by
            unfold splice
            rw [hl2]
            exact repL_append (repL_append (repL_take _ hr) hrp) (repL_drop _ hr)) hf
          refine ⟨zs, ?_, hrz⟩
          simp only [List.map_cons, Instr.fill, hpl, hoff, hcsz]
          rw [if_neg (by simp; rw [← hl]; omega)]
          have e := foldl_splice (a.eval x).cells.toList ys off 0 (by simp; rw [hcsz, ← hl]; omega)
          rw [← hz]
          congr 1
          rw [← Array.foldl_toList, Array.toList_zipIdx]
          simpa using e
        · cases h1
      · cases hf
    · cases hf
theorem mapM_places {P : Program} {w : World} : ∀ (fs : List Field) (acc : List (Nat × Nat)), (∀ f ∈ fs, (sizeP P f.type).isSome = true) →
    (fs.mapM fun f => (do pure (f.offset, ← sizeOf f.type) : Sem (Nat × Nat))).run P w = .ok (fs.map fun f => (f.offset, (sizeP P f.type).getD 0)) w
  | [], _, _ => by simp
  | f :: fs, acc, h => by
    obtain ⟨n, hn⟩ := Option.isSome_iff_exists.1 (h f (by simp))
    rw [List.mapM_cons]
    simp only [Sem.run_bind, run_size hn, Result.andThen_ok, Sem.run_pure, mapM_places fs acc (fun g hg => h g (by simp [hg])), List.map_cons, hn, Option.getD_some]
theorem sound_build {t : TypeId} {ps : Array (Nat × Operand)} {z : List AC} {parts : List (Nat × Nat × SA)} (R : Rel S0 w0 N μ s a w) (hop : o.op = .build t ps)
    (hz : (match (P.info? t).bind (·.zero) with | some v => chkCells v.cells.toList z | none => false) = true) (hp : (match structP P t with | some fs => chkParts P fs ps.toList parts | none => false) = true) (hsz : sizesP P t = true)
    (he : absOp sp dst (.build z parts) s = some (v, s')) : Sound P S0 w0 N o s' v a w := by
  simp only [absOp] at he
  split at he
  · rename_i cs hcs
    simp only [Option.some.injEq, Prod.mk.injEq] at he
    obtain ⟨rfl, rfl⟩ := he
    split at hz
    · rename_i zv hzv
      split at hp
      · rename_i fs hfs
        have hu : P.underlying t = some (.struct fs) := by
          unfold structP at hfs
          split at hfs
          · cases hfs; assumption
          · cases hfs
        have hall : ∀ f ∈ fs.toList, (sizeP P f.type).isSome = true := by
          unfold sizesP at hsz
          rw [hfs] at hsz
          exact fun f hf => List.all_eq_true.1 hsz f hf
        have hmap : (fs.mapM fun f => (do pure (f.offset, ← sizeOf f.type) : Sem (Nat × Nat))).run P w = .ok (fs.toList.map fun f => (f.offset, (sizeP P f.type).getD 0)).toArray w := by
          rw [Array.mapM_eq_mapM_toList, Sem.run_map, mapM_places fs.toList [] hall]
          rfl
        obtain ⟨zs, hfill, hr⟩ := fill_ok (P := P) (fs := fs) (places := (fs.toList.map fun f => (f.offset, (sizeP P f.type).getD 0)).toArray) (fun i f hi => by
          have hmem : f ∈ fs.toList := by
            have : fs.toList[i]? = some f := by simpa using hi
            exact List.mem_of_getElem? this
          obtain ⟨n, hn⟩ := Option.isSome_iff_exists.1 (hall f hmem)
          refine ⟨n, hn, ?_⟩
          simp [hi, hn]) R ps.toList parts z zv.cells.toList hp (chkCells_rep hz) hcs
        refine sound_value (y := .agg zs.toArray) (w' := w) ?_ R ⟨zs, rfl, hr⟩
        have e : (ps.map fun x => (x.1, a.eval x.2)).toList = ps.toList.map fun x => (x.1, a.eval x.2) := by simp
        have e2 : zv.cells.toList.toArray = zv.cells := by simp
        rw [e2] at hfill
        simp only [execOp, hop, Instr.build, Sem.run_bind, run_zero hzv, Result.andThen_ok, run_underlying hu, hmap]
        rw [e, hfill]
        simp
      · cases hp
    · cases hz
  · cases he

/-! ### Numbers, bools -/
theorem guard_int {op : BinOp} {t : TypeId} {x y : Operand} {k k' : IntKind} {m n : Int} : (eqGuard op t x y (.int k m) (.int k' n)).run P w = .ok () w := by
  unfold eqGuard
  split <;> simp
theorem guard_bool {op : BinOp} {t : TypeId} {x y : Operand} {m n : Bool} : (eqGuard op t x y (.bool m) (.bool n)).run P w = .ok () w := by
  unfold eqGuard
  split <;> simp
theorem run_bin {op : BinOp} {t : TypeId} {x y r : Value} (h : evBin op x y = some r) : (binOp op t x y).run P w = .ok r w := by
  unfold evBin at h
  split at h
  · rename_i k m k' n
    split at h
    · split at h
      · cases h
      · cases h
        rename_i hn
        simp [binOp, Op.shift, hn]
    · split at h
      · cases h
      · cases h
        rename_i hn
        simp [binOp, Op.shift, hn]
    · split at h
      · rename_i hk
        subst hk
        unfold evInt at h
        split at h <;> first
          | (cases h; simp [binOp, Op.intArith, Op.intBits, Op.intCmp, bitsV]; done)
          | (split at h
             · cases h
             · cases h
               rename_i hn
               simp [binOp, Op.intDiv, hn])
          | (cases h; done)
      · cases h
  · cases h
theorem sound_bin {op : BinOp} {t t' : TypeId} {x y : Operand} {x' y' : SA} (R : Rel S0 w0 N μ s a w) (hop : o.op = .binOp op t x y t') (hx : chkSA x x' = true) (hy : chkSA y y' = true) (he : absOp sp dst (.bin op x' y') s = some (v, s')) : Sound P S0 w0 N o s' v a w := by
  simp only [absOp] at he
  split at he
  · rename_i p q hp hq
    split at he
    · rename_i r hr
      simp only [Option.some.injEq, Prod.mk.injEq] at he
      obtain ⟨rfl, rfl⟩ := he
      have e1 := (R.val hx hp).1
      have e2 := (R.val hy hq).1
      have hone : r.oneCell' = true := by
        unfold evBin at hr
        split at hr
        · split at hr
          · split at hr <;> cases hr; rfl
          · split at hr <;> cases hr; rfl
          · split at hr
            · unfold evInt at hr
              split at hr <;> first | (cases hr; rfl) | (split at hr <;> cases hr; rfl) | cases hr
            · cases hr
        · cases hr
      have hg : (eqGuard op t x y p q).run P w = .ok () w := by
        unfold evBin at hr
        split at hr
        · exact guard_int
        · cases hr
      refine sound_value (y := r) (w' := w) ?_ R ⟨rfl, hone⟩
      simp only [execOp, hop, e1, e2, Sem.run_bind, hg, run_bin hr, Result.andThen_ok, Sem.run_pure]
    · cases he
  · cases he
theorem boolP_spec {t : TypeId} (h : boolP P t = true) : P.underlying t = some .bool := by
  unfold boolP at h
  split at h
  · assumption
  · cases h
theorem equal_bool {t : TypeId} (ht : boolP P t = true) (p q : Bool) (d : Nat) : (Op.equalIn (d + 1) t (.bool p) (.bool q)).run P w = .ok (p == q) w := by
  simp [Op.equalIn, run_underlying (boolP_spec ht)]
theorem sound_eqb {op : BinOp} {t t' : TypeId} {x y : Operand} {x' y' : SA} {ne : Bool} (R : Rel S0 w0 N μ s a w) (hop : o.op = .binOp op t x y t') (ht : boolP P t = true) (ho : op = if ne then .neq else .eql) (hx : chkSA x x' = true) (hy : chkSA y y' = true) (he : absOp sp dst (.eqb ne x' y') s = some (v, s')) : Sound P S0 w0 N o s' v a w := by
  simp only [absOp] at he
  split at he
  · rename_i p q hp hq
    simp only [Option.some.injEq, Prod.mk.injEq] at he
    obtain ⟨rfl, rfl⟩ := he
    have e1 := (R.val hx hp).1
    have e2 := (R.val hy hq).1
    refine sound_value (y := .bool (if ne then !(p == q) else p == q)) (w' := w) ?_ R ⟨rfl, rfl⟩
    have hE : (Op.equal t (.bool p) (.bool q)).run P w = .ok (p == q) w := equal_bool ht p q 9999
    simp only [execOp, hop, e1, e2, Sem.run_bind, guard_bool, Result.andThen_ok]
    cases ne with
    | true => simp only [if_true] at ho; subst ho; simp [binOp, hE]
    | false => simp only [Bool.false_eq_true, if_false] at ho; subst ho; simp [binOp, hE]
  · cases he
theorem sound_not {t : TypeId} {x : Operand} {y : SA} (R : Rel S0 w0 N μ s a w) (hop : o.op = .unOp .not t x) (hx : chkSA x y = true) (he : absOp sp dst (.not y) s = some (v, s')) : Sound P S0 w0 N o s' v a w := by
  simp only [absOp] at he
  split at he
  · rename_i p hp
    simp only [Option.some.injEq, Prod.mk.injEq] at he
    obtain ⟨rfl, rfl⟩ := he
    refine sound_value (y := .bool !p) (w' := w) ?_ R ⟨rfl, rfl⟩
    simp [execOp, hop, (R.val hx hp).1, Op.unary]
  · cases he
theorem sound_neg {t : TypeId} {x : Operand} {y : SA} (R : Rel S0 w0 N μ s a w) (hop : o.op = .unOp .neg t x) (hx : chkSA x y = true) (he : absOp sp dst (.neg y) s = some (v, s')) : Sound P S0 w0 N o s' v a w := by
  simp only [absOp] at he
  split at he
  · rename_i k p hp
    simp only [Option.some.injEq, Prod.mk.injEq] at he
    obtain ⟨rfl, rfl⟩ := he
    refine sound_value (y := .int k (k.wrap (0 - p))) (w' := w) ?_ R ⟨rfl, rfl⟩
    simp [execOp, hop, (R.val hx hp).1, Op.unary, Op.intArith]
  · cases he
theorem kindP_spec {t : TypeId} {k : IntKind} (h : kindP P t = some k) : P.underlying t = some (.int k) := by
  unfold kindP at h
  split at h
  · cases h; assumption
  · cases h
theorem sound_cvt {p q : TypeId} {x : Operand} {y : SA} {k : IntKind} (R : Rel S0 w0 N μ s a w) (hop : o.op = .convert p q x) (hp : (P.underlying p).isSome = true) (hq : kindP P q = some k) (hx : chkSA x y = true) (he : absOp sp dst (.cvt k y) s = some (v, s')) : Sound P S0 w0 N o s' v a w := by
  simp only [absOp] at he
  split at he
  · rename_i k' n hv
    simp only [Option.some.injEq, Prod.mk.injEq] at he
    obtain ⟨rfl, rfl⟩ := he
    obtain ⟨d, hd⟩ := Option.isSome_iff_exists.1 hp
    refine sound_value (y := .int k (k.wrap n)) (w' := w) ?_ R ⟨rfl, rfl⟩
    simp [execOp, hop, (R.val hx hv).1, convert, run_underlying hd, run_underlying (kindP_spec hq), Conv.intToInt]
  · cases he
theorem repP_get {L : Lie} : ∀ {as : List AP} {ys : List Value} (i : Nat) {a : AP}, repP L w as ys → as[i]? = some a → ∃ y, ys[i]? = some y ∧ a.rep L w y
  | [], [], _, _, _, h => by simp at h
  | [], _ :: _, _, _, hr, _ => hr.elim
  | _ :: _, [], _, _, hr, _ => hr.elim
  | _ :: _, y :: _, 0, _, hr, h => by simp at h; subst h; exact ⟨y, rfl, hr.1⟩
  | _ :: _, _ :: _, i + 1, _, hr, h => by simpa using repP_get i hr.2 (by simpa using h)
theorem sound_ext {x : Operand} {y : SA} {i : Nat} (R : Rel S0 w0 N μ s a w) (hop : o.op = .extract x i) (hx : chkSA x y = true) (he : absOp sp dst (.ext y i) s = some (v, s')) : Sound P S0 w0 N o s' v a w := by
  have hev := R.ev hx
  simp only [absOp] at he
  split at he
  · rename_i l hl
    rw [hl] at hev
    obtain ⟨ys, hy, hr⟩ := hev
    split at he
    · rename_i b hb
      simp only [Option.some.injEq, Prod.mk.injEq] at he
      obtain ⟨rfl, rfl⟩ := he
      obtain ⟨z, hz, hrz⟩ := repP_get i hr hb
      refine sound_value (y := z) (w' := w) ?_ R hrz
      have e : ys.toArray[i]? = some z := by simpa using hz
      simp only [execOp, hop, hy, Instr.extract, Sem.run_bind, e, Sem.run_pure, Result.andThen_ok]
    · cases he
  · cases he
end
end Go.VC

/- The evaluator is sound: rows that are read, calls. -/
import Derived.Test.YtichmemhahbhnaaV8
set_option linter.unusedVariables false
set_option linter.unusedSimpArgs false
namespace Go.VC
open Go.RowKit
section
variable {P : Program} {S0 : Nat → Prop} {w0 : World} {N : Nat} {μ : Nat → Nat} {s s' : St} {a : Act} {w : World} {sp : Spec} {o : Oper} {v : AV} {K : Act → World → Prop} {Q : Exit → Act → World → Prop} {dst : Option Nat}

/-! ### len, an element, a piece -/
theorem elemP_spec {t e : TypeId} (h : elemP P t = some e) : P.underlying t = some (.slice e) := by
  unfold elemP at h
  split at h
  · cases h; assumption
  · cases h
theorem sound_len {c : Call} {x : Operand} {y : SA} {t : TypeId} (R : Rel S0 w0 N μ s a w) (hop : o.op = .call c) (hcal : c.callee = .builtin .len) (hargs : c.args = #[x]) (ht : c.argTypes[0]? = some t) (hel : (elemP P t).isSome = true) (hx : chkSA x y = true) (he : absOp sp dst (.len y) s = some (v, s')) : Sound P S0 w0 N o s' v a w := by
  have hev := R.ev hx
  obtain ⟨e, hel⟩ := Option.isSome_iff_exists.1 hel
  have hu := elemP_spec hel
  simp only [absOp] at he
  split at he
  · rename_i n hn
    simp only [Option.some.injEq, Prod.mk.injEq] at he
    obtain ⟨rfl, rfl⟩ := he
    have hval : ∃ A c', a.eval x = .slice A n c' := by
      unfold AV.rlen at hn
      split at hn
      · rename_i e' l hl
        cases hn
        rw [hl] at hev
        rcases hev with ⟨h1, rfl⟩ | ⟨b, o', c', h1, _⟩
        · exact ⟨none, 0, h1⟩
        · exact ⟨_, _, h1⟩
      · rename_i t' n' len' hl
        cases hn
        rw [hl] at hev
        obtain ⟨_, cap, h1, _⟩ := hev
        exact ⟨_, _, h1⟩
      · rename_i m cs hl
        rw [hl] at hev
        split at hn
        · cases hn
        · rename_i hm
          cases hn
          rcases hev with ⟨h1, rfl⟩ | ⟨b, o', n', c', h1, h2, _⟩
          · exact ⟨none, 0, by simpa using h1⟩
          · have e : cs.length / m = n' := by rw [h2, Nat.mul_div_cancel _ (by omega)]
            exact ⟨some ⟨b, o', none⟩, c', by rw [e]; exact h1⟩
      · rename_i hl
        cases hn
        rw [hl] at hev
        exact ⟨none, 0, hev⟩
      · cases hn
    obtain ⟨A, c', hA⟩ := hval
    refine sound_value (y := .int .i64 n) (w' := w) ?_ R ⟨rfl, rfl⟩
    simp [execOp, hop, resolve, hcal, hargs, invoke, builtin, Builtin.len_, ht, hA, run_underlying hu, goInt]
  · cases he
theorem sound_idx {t el : TypeId} {x i : Operand} {y j : SA} {m : Nat} (R : Rel S0 w0 N μ s a w) (hop : o.op = .indexAddr t x i) (hel : elemP P t = some el) (hsz : sizeP P el = some m) (hx : chkSA x y = true) (hi : chkSA i j = true) (he : absOp sp dst (.idx m y j) s = some (v, s')) : Sound P S0 w0 N o s' v a w := by
  have hu := elemP_spec hel
  have hev := R.ev hx
  have step : ∀ (b q n c : Nat) (k : IntKind) (jj : Int), a.eval x = .slice (some ⟨b, q, none⟩) n c → a.eval i = .int k jj → 0 ≤ jj ∧ jj < n → (execOp a.eval o).run P w = .ok (.value (.pointer (some ⟨b, q + jj.toNat * m, none⟩))) w := by
    intro b q n c k jj h1 ej hc
    simp only [execOp, hop, h1, ej, Instr.indexAt, Sem.run_bind, asIntOf, Sem.run_pure, Result.andThen_ok, run_underlying hu, run_size hsz]
    rw [if_pos hc]
    simp only [Sem.run_bind, run_size hsz, Result.andThen_ok, Sem.run_pure, Addr.add_mid]
  simp only [absOp] at he
  split at he
  · rename_i k jj hj
    have ej := (R.val hi hj).1
    split at he
    · rename_i t' n len hy
      rw [hy] at hev
      split at he
      · rename_i hc
        obtain ⟨hm, h0, h1⟩ := hc
        simp only [Option.some.injEq, Prod.mk.injEq] at he
        obtain ⟨rfl, rfl⟩ := he
        obtain ⟨hD, cap, g1, _⟩ := hev
        exact sound_value (w' := w) (step _ _ _ _ _ _ g1 ej ⟨h0, h1⟩) R ⟨hD, by rw [Nat.zero_add]⟩
      · cases he
    · rename_i e l hy
      rw [hy] at hev
      split at he
      · rename_i hc
        obtain ⟨hm, h0, h1⟩ := hc
        subst hm
        simp only [Option.some.injEq, Prod.mk.injEq] at he
        obtain ⟨rfl, rfl⟩ := he
        rcases hev with ⟨g1, rfl⟩ | ⟨b, o', c', g1, g2, g3, g4, g5⟩
        · exfalso; simp at h1; omega
        · exact sound_value (w' := w) (step _ _ _ _ _ _ g1 ej ⟨h0, h1⟩) R ⟨rfl, b, _, rfl, g3, g4, by rw [Nat.mul_one]; exact g5 jj.toNat (by omega)⟩
      · cases he
    · rename_i m' cs hy
      rw [hy] at hev
      split at he
      · rename_i hc
        obtain ⟨hm, h0, h1, hpos⟩ := hc
        subst hm
        simp only [Option.some.injEq, Prod.mk.injEq] at he
        obtain ⟨rfl, rfl⟩ := he
        rcases hev with ⟨g1, rfl⟩ | ⟨b, o', n, c', g1, g2, g3, g4, g5, g6⟩
        · exfalso; simp at h1; omega
        · have hlt : jj < n := by
            rw [g2] at h1
            have : jj.toNat < n := by
              rcases Nat.lt_or_ge jj.toNat n with h | h
              · exact h
              · have := Nat.mul_le_mul_right m' h; omega
            omega
          exact sound_value (w' := w) (step _ _ _ _ _ _ g1 ej ⟨h0, hlt⟩) R ⟨b, _, rfl, g4, g5, stand_drop _ g6⟩
      · cases he
    · cases he
  · cases he
theorem opt_val (R : Rel S0 w0 N μ s a w) {x : Option Operand} {y : Option SA} (h : chkOpt x y = true) {d i : Int} (hv : optI s y d = some i) : (x = none ∧ i = d) ∨ ∃ x' k, x = some x' ∧ a.eval x' = .int k i := by
  unfold chkOpt at h
  split at h
  · simp only [optI, Option.some.injEq] at hv
    exact .inl ⟨rfl, hv.symm⟩
  · rename_i x' y'
    simp only [optI] at hv
    split at hv
    · rename_i k i' hi
      cases hv
      exact .inr ⟨x', k, rfl, (R.val h hi).1⟩
    · cases hv
  · cases h
theorem bound_ok {k : IntKind} {i : Int} {m : Nat} {c : BoundsCode} (h0 : 0 ≤ i) (h1 : i ≤ m) : (Instr.sliceBound (.int k i) m c).run P w = .ok i.toNat w := by
  simp only [Instr.sliceBound, asIntOf, Sem.run_bind, Sem.run_pure, Result.andThen_ok, Sem.run_ite]
  rw [if_pos ⟨h0, h1⟩]
theorem bounds_ok (R : Rel S0 w0 N μ s a w) {lo hi : Option Operand} {lo' hi' : Option SA} (hl : chkOpt lo lo' = true) (hh : chkOpt hi hi' = true) {len cap : Nat} {i j : Int} (hi1 : optI s lo' 0 = some i) (hj1 : optI s hi' len = some j) (h0 : 0 ≤ i) (h1 : i ≤ j) (h2 : j ≤ len) (hc : len ≤ cap) :
    (Instr.sliceBounds true len cap (lo.map a.eval) (hi.map a.eval) none).run P w = .ok (i.toNat, j.toNat, cap) w := by
  have hj' : (j.toNat : Int) = j := by omega
  rcases opt_val R hl hi1 with ⟨rfl, rfl⟩ | ⟨x1, k1, rfl, e1⟩ <;> rcases opt_val R hh hj1 with ⟨rfl, rfl⟩ | ⟨x2, k2, rfl, e2⟩
  · simp [Instr.sliceBounds]
  · simp [Instr.sliceBounds, e2, bound_ok (P := P) (w := w) (show (0 : Int) ≤ j by omega) (show j ≤ (cap : Int) by omega)]
  · simp [Instr.sliceBounds, e1, bound_ok (P := P) (w := w) h0 (show i ≤ (len : Int) by omega)]
  · simp [Instr.sliceBounds, e1, e2, bound_ok (P := P) (w := w) (show (0 : Int) ≤ j by omega) (show j ≤ (cap : Int) by omega), bound_ok (P := P) (w := w) h0 (show i ≤ ((j.toNat : Nat) : Int) by omega)]
theorem sound_sl {t el : TypeId} {x : Operand} {y : SA} {lo hi : Option Operand} {lo' hi' : Option SA} (R : Rel S0 w0 N μ s a w) (hop : o.op = .slice t x lo hi none) (hel : elemP P t = some el) (hsz : sizeP P el = some 1) (hx : chkSA x y = true) (hlo : chkOpt lo lo' = true) (hhi : chkOpt hi hi' = true) (he : absOp sp dst (.sl y lo' hi') s = some (v, s')) : Sound P S0 w0 N o s' v a w := by
  have hu := elemP_spec hel
  have hev := R.ev hx
  have nil : ∀ {i j : Int}, a.eval x = .slice none 0 0 → optI s lo' 0 = some i → optI s hi' 0 = some j → 0 ≤ i → i ≤ j → j ≤ 0 → (execOp a.eval o).run P w = .ok (.value (.slice none 0 0)) w := by
    intro i j g1 hi1 hj1 h0 h1 h2
    have hi0 : i = 0 := by omega
    have hj0 : j = 0 := by omega
    subst hi0 hj0
    have hb := bounds_ok (P := P) (cap := 0) (len := 0) R hlo hhi hi1 hj1 h0 h1 h2 (Nat.le_refl _)
    simp only [execOp, hop, Instr.sliceAt, Sem.run_bind, run_underlying hu, Result.andThen_ok, Instr.slice, g1, Option.map_none, hb, run_size hsz]
    simp
  simp only [absOp] at he
  split at he
  · rename_i e l hl
    rw [hl] at hev
    split at he
    · rename_i i j hi1 hj1
      split at he
      · rename_i hc
        obtain ⟨h0, h1, h2⟩ := hc
        simp only [Option.some.injEq, Prod.mk.injEq] at he
        obtain ⟨rfl, rfl⟩ := he
        have hlen : ((l.take j.toNat).drop i.toNat).length = j.toNat - i.toNat := by rw [List.length_drop, List.length_take]; omega
        rcases hev with ⟨g1, rfl⟩ | ⟨b, o', c', g1, g2, g3, g4, g5⟩
        · exact sound_value (y := .slice none 0 0) (w' := w) (nil g1 hi1 hj1 h0 h1 h2) R (.inl ⟨rfl, by simp⟩)
        · have hb := bounds_ok (P := P) (cap := c') R hlo hhi hi1 hj1 h0 h1 h2 g2
          refine sound_value (y := .slice (some (if c' = i.toNat then ⟨b, o', none⟩ else (⟨b, o', none⟩ : Addr).add (i.toNat * 1))) (j.toNat - i.toNat) (c' - i.toNat)) (w' := w) ?_ R ?_
          · simp only [execOp, hop, Instr.sliceAt, Sem.run_bind, run_underlying hu, Result.andThen_ok, Instr.slice, g1, Option.map_none, hb, run_size hsz]
            split <;> simp_all
          · refine .inr ?_
            by_cases hcc : c' = i.toNat
            · rw [if_pos hcc]
              exact ⟨b, o', c' - i.toNat, by rw [hlen], by rw [hlen]; omega, g3, g4, fun q hq => by rw [hlen] at hq; omega⟩
            · rw [if_neg hcc, Nat.mul_one, Addr.add_mid]
              refine ⟨b, o' + i.toNat, c' - i.toNat, by rw [hlen], by rw [hlen]; omega, g3, g4, fun q hq => ?_⟩
              rw [hlen] at hq
              rw [Nat.add_assoc, g5 (i.toNat + q) (by omega)]
              congr 2
              simp only [List.getD_eq_getElem?_getD, List.getElem?_drop, List.getElem?_take]
              rw [if_pos (by omega)]
      · cases he
    · cases he
  · rename_i hl
    rw [hl] at hev
    split at he
    · rename_i i j hi1 hj1
      split at he
      · rename_i hc
        obtain ⟨h0, h1, h2⟩ := hc
        simp only [Option.some.injEq, Prod.mk.injEq] at he
        obtain ⟨rfl, rfl⟩ := he
        exact sound_value (y := .slice none 0 0) (w' := w) (nil hev hi1 hj1 h0 h1 h2) R rfl
      · cases he
    · cases he
  · cases he

/-! ### A call -/
theorem free_rep {L : Lie} {c : AC} {y : Value} (hf : c.free = true) (h : c.rep L w y) : c.rep ⟨L.S, fun _ => 0, fun _ => False⟩ w y := by
  cases c with
  | p n off => cases hf
  | s t n len => cases hf
  | v x => exact h
  | k x => exact h
  | r e l => exact h
  | q m cs => exact h
  | kq cs => exact h
  | nil e => exact h
  | u => exact h
theorem free_back {S : Nat → Prop} {L : Lie} {c : AC} {y : Value} (hS : L.S = S) (h : c.rep ⟨S, fun _ => 0, fun _ => False⟩ w y) : c.rep L w y := by
  subst hS
  cases c with
  | p n off => exact h.1.elim
  | s t n len => exact h.1.elim
  | v x => exact h
  | k x => exact h
  | r e l => exact h
  | q m cs => exact h
  | kq cs => exact h
  | nil e => exact h
  | u => exact h
theorem freeL_rep {L : Lie} : ∀ {cs : List AC} {ys : List Value}, cs.all (·.free) = true → repL L w cs ys → repL ⟨L.S, fun _ => 0, fun _ => False⟩ w cs ys
  | [], [], _, _ => trivial
  | [], _ :: _, _, h => h.elim
  | _ :: _, [], _, h => h.elim
  | _ :: _, _ :: _, hf, h => by
    simp only [List.all_cons, Bool.and_eq_true] at hf
    exact ⟨free_rep hf.1 h.1, freeL_rep hf.2 h.2⟩
theorem freeL_back {S : Nat → Prop} {L : Lie} (hS : L.S = S) : ∀ {cs : List AC} {ys : List Value}, repL ⟨S, fun _ => 0, fun _ => False⟩ w cs ys → repL L w cs ys
  | [], [], _ => trivial
  | [], _ :: _, h => h.elim
  | _ :: _, [], h => h.elim
  | _ :: _, _ :: _, h => ⟨free_back hS h.1, freeL_back hS h.2⟩
theorem freeP_rep {L : Lie} {c : AP} {y : Value} (hf : c.free = true) (h : c.rep L w y) : c.rep ⟨L.S, fun _ => 0, fun _ => False⟩ w y := by
  cases c with
  | c a => exact free_rep hf h
  | g cs => obtain ⟨ys, h1, h2⟩ := h; exact ⟨ys, h1, freeL_rep hf h2⟩
theorem freeP_back {S : Nat → Prop} {L : Lie} (hS : L.S = S) {c : AP} {y : Value} (h : c.rep ⟨S, fun _ => 0, fun _ => False⟩ w y) : c.rep L w y := by
  cases c with
  | c a => exact free_back hS h
  | g cs => obtain ⟨ys, h1, h2⟩ := h; exact ⟨ys, h1, freeL_back hS h2⟩
theorem freePs_rep {L : Lie} : ∀ {cs : List AP} {ys : List Value}, cs.all (·.free) = true → repP L w cs ys → repP ⟨L.S, fun _ => 0, fun _ => False⟩ w cs ys
  | [], [], _, _ => trivial
  | [], _ :: _, _, h => h.elim
  | _ :: _, [], _, h => h.elim
  | _ :: _, _ :: _, hf, h => by
    simp only [List.all_cons, Bool.and_eq_true] at hf
    exact ⟨freeP_rep hf.1 h.1, freePs_rep hf.2 h.2⟩
theorem freePs_back {S : Nat → Prop} {L : Lie} (hS : L.S = S) : ∀ {cs : List AP} {ys : List Value}, repP ⟨S, fun _ => 0, fun _ => False⟩ w cs ys → repP L w cs ys
  | [], [], _ => trivial
  | [], _ :: _, h => h.elim
  | _ :: _, [], h => h.elim
  | _ :: _, _ :: _, h => ⟨freeP_back hS h.1, freePs_back hS h.2⟩
theorem freeV_back {S : Nat → Prop} {L : Lie} (hS : L.S = S) {c : AV} {y : Value} (h : c.rep ⟨S, fun _ => 0, fun _ => False⟩ w y) : c.rep L w y := by
  cases c with
  | o a => exact freeP_back hS h
  | t l => obtain ⟨ys, h1, h2⟩ := h; exact ⟨ys, h1, freePs_back hS h2⟩
theorem AC.wk_rep {L : Lie} {c : AC} {y : Value} (h : c.rep L w y) : c.wk.rep L w y := by
  cases c with
  | nil e => exact .inl ⟨h, rfl⟩
  | _ => exact h
theorem wkL_rep {L : Lie} : ∀ {cs : List AC} {ys : List Value}, repL L w cs ys → repL L w (cs.map AC.wk) ys
  | [], [], _ => trivial
  | [], _ :: _, h => h.elim
  | _ :: _, [], h => h.elim
  | _ :: _, _ :: _, h => ⟨AC.wk_rep h.1, wkL_rep h.2⟩
theorem AP.wk_rep {L : Lie} {c : AP} {y : Value} (h : c.rep L w y) : c.wk.rep L w y := by
  cases c with
  | c a => exact AC.wk_rep (c := a) h
  | g cs => obtain ⟨ys, h1, h2⟩ := h; exact ⟨ys, h1, wkL_rep h2⟩
theorem wkP_rep {L : Lie} : ∀ {cs : List AP} {ys : List Value}, repP L w cs ys → repP L w (cs.map AP.wk) ys
  | [], [], _ => trivial
  | [], _ :: _, h => h.elim
  | _ :: _, [], h => h.elim
  | _ :: _, _ :: _, h => ⟨AP.wk_rep h.1, wkP_rep h.2⟩
theorem args_rep (R : Rel S0 w0 N μ s a w) : ∀ (xs : List Operand) (ys : List SA) {as : List AP}, chkArgs xs ys = true → evArgs s ys = some as → repP (own S0 μ s.mem) w as (xs.map a.eval)
  | [], [], as, _, h => by simp only [evArgs, Option.some.injEq] at h; subst h; trivial
  | [], _ :: _, _, h, _ => by cases h
  | _ :: _, [], _, h, _ => by cases h
  | x :: xs, y :: ys, as, h, he => by
    simp only [chkArgs, Bool.and_eq_true] at h
    simp only [evArgs] at he
    split at he
    · rename_i b bs hb hbs
      cases he
      exact ⟨R.part h.1 hb, args_rep R xs ys h.2 hbs⟩
    · cases he
theorem sound_call {c : Call} {f : Nat} {args : List SA} (hS0 : ∀ b, S0 b → b < w0.heap.size) (hsp : SpecOk P sp) (R : Rel S0 w0 N μ s a w) (hop : o.op = .call c) (hcal : c.callee = .value (.func f)) (hargs : chkArgs c.args.toList args = true) (he : absOp sp dst (.call f args) s = some (v, s')) : Sound P S0 w0 N o s' v a w := by
  simp only [absOp] at he
  split at he
  · rename_i as has
    split at he
    case isFalse => cases he
    rename_i hf
    split at he
    · rename_i r hr
      split at he
      case isFalse => cases he
      simp only [Option.some.injEq, Prod.mk.injEq] at he
      obtain ⟨rfl, rfl⟩ := he
      have hrep := args_rep R c.args.toList args hargs has
      have hres : (execOp a.eval o).run P w = (callFunc f (c.args.toList.map a.eval).toArray).run P w := by
        have e : (c.args.toList.map a.eval).toArray = c.args.map a.eval := by apply Array.ext'; rw [Array.toList_map]
        rw [e]
        simp [execOp, hop, resolve, hcal, Act.eval, Deferred.ofValue, invoke]
      rename_i hfree
      rcases hsp f _ r hr with ⟨hent, hm⟩ | hin | ⟨_, t, d, rfl, _⟩
      · intro K Q hK
        unfold Oper.wp
        rw [hres, hent]
        have hbd : ∀ b, (own S0 μ s.mem).S b → b < w.heap.size := by
          rintro b (h | ⟨n, hn, rfl⟩)
          · exact Nat.lt_of_lt_of_le (hS0 b h) R.below.size
          · cases h : s.mem n with
            | none => exact absurd h hn
            | some cs => exact R.lt n hn
        refine (hm (own S0 μ s.mem).S w _ hbd (wkP_rep (freePs_rep hf hrep))).mono ?_
        rintro e w' ⟨y, rfl, hy, hb⟩
        exact hK μ y w' (R.below' hb) (freeV_back rfl hy)
      · obtain ⟨y, hy, hL⟩ := hin w (c.args.toList.map a.eval) (by
          have := wkP_rep (freePs_rep hf hrep)
          exact repP_ext (L := ⟨(own S0 μ s.mem).S, fun _ => 0, fun _ => False⟩) (w := w) ⟨fun n h => h.elim, fun b _ _ => ⟨rfl, fun h => h⟩, Nat.le_refl _, fun n h => h.elim⟩ this)
        exact sound_value (y := y) (w' := w) (hres.trans hy) R (hL _ _)
      · cases hfree
    · cases he
  · cases he
end
end Go.VC

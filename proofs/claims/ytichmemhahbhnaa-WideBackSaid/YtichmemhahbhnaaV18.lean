/- The evaluator is sound: rows that are let go. -/
import Derived.Test.YtichmemhahbhnaaV17
set_option linter.unusedVariables false
set_option linter.unusedSimpArgs false
namespace Go.VC
open Go.RowKit
section
variable {P : Program} {S0 : Nat → Prop} {w0 : World} {N : Nat} {μ : Nat → Nat} {s s' : St} {a : Act} {w : World} {sp : Spec} {o : Oper} {v : AV} {K : Act → World → Prop} {Q : Exit → Act → World → Prop} {dst : Option Nat}

/-! ### A row is let go -/
theorem rowInts_rep {L : Lie} {k : IntKind} : ∀ {cs : List AC} {ys : List Value} {l : List Int}, rowInts k cs = some l → repL L w cs ys → ys = l.map (.int k)
  | [], [], l, h, _ => by simp only [rowInts, Option.some.injEq] at h; subst h; rfl
  | [], _ :: _, _, _, hr => hr.elim
  | _ :: _, [], _, _, hr => hr.elim
  | c :: cs, y :: ys, l, h, hr => by
    unfold rowInts at h
    split at h
    · rename_i heq; cases heq
    · rename_i k' x cs' heq
      cases heq
      split at h
      · rename_i hk
        subst hk
        split at h
        · rename_i l' hl
          cases h
          rw [rowInts_rep hl hr.2]
          have := hr.1.1
          rw [this]; rfl
        · cases h
      · cases h
    · cases h
theorem rowQ_rep {L : Lie} : ∀ {cs : List AC} {ys : List Value} {l : List QC}, rowQ cs = some l → repL L w cs ys → l.length = cs.length ∧ ∀ (j : Nat) (c : QC), l[j]? = some c → ∃ y, ys[j]? = some y ∧ c.rep L.S w y
  | [], [], l, h, _ => by simp only [rowQ, Option.some.injEq] at h; subst h; exact ⟨rfl, fun j c hj => by simp at hj⟩
  | [], _ :: _, _, _, hr => hr.elim
  | _ :: _, [], _, _, hr => hr.elim
  | c :: cs, y :: ys, l, h, hr => by
    unfold rowQ at h
    split at h
    · rename_i heq; cases heq
    · rename_i x cs' heq
      cases heq
      split at h
      · rename_i l' hl
        cases h
        obtain ⟨h1, h2⟩ := rowQ_rep hl hr.2
        refine ⟨by simp [h1], fun j c hj => ?_⟩
        cases j with
        | zero => simp at hj; subst hj; exact ⟨y, rfl, hr.1⟩
        | succ j => simpa using h2 j c (by simpa using hj)
      · cases h
    · rename_i e l0 cs' heq
      cases heq
      split at h
      · rename_i l' hl
        cases h
        obtain ⟨h1, h2⟩ := rowQ_rep hl hr.2
        refine ⟨by simp [h1], fun j c hj => ?_⟩
        cases j with
        | zero => simp at hj; subst hj; exact ⟨y, rfl, hr.1⟩
        | succ j => simpa using h2 j c (by simpa using hj)
      · cases h
    · cases h

/-- n is let go: its block may be read from now on. -/
structure ExtR (n : Nat) (L : Lie) (L' : Lie) : Prop where
  D : ∀ m, m ≠ n → L.D m → L'.D m
  μ : L'.μ = L.μ
  S : ∀ b, L'.S b → L.S b
  not : ¬ L'.S (L.μ n)
section
variable {n : Nat} {L L' : Lie} {cs : List AC} {ys zs : List Value} {T : TypeId}
theorem ExtR.e (h : ExtR n L L') : Ext ⟨L.S, L.μ, fun _ => False⟩ w ⟨L'.S, L'.μ, fun _ => False⟩ w :=
  ⟨fun n h => h.elim, fun b hb _ => ⟨rfl, fun h' => hb (h.S b h')⟩, Nat.le_refl _, fun n h => h.elim⟩
theorem relRow_rep (h : ExtR n L L') (hb : w.heap[L.μ n]? = some (.cells (ys ++ zs).toArray T (0, 0))) (hr : repL L w cs ys) {t : RT} {len cap : Nat} (hlt : L.μ n < w.heap.size) (hcap : len ≤ cap) : (relRow t len cs).rep L' w (.slice (some ⟨L.μ n, 0, none⟩) len cap) := by
  have hl := repL_length hr
  unfold relRow
  split
  · rename_i hle
    split
    · rename_i k hk
      split
      · rename_i hm
        rw [hm, Nat.mul_one] at hle
        split
        · rename_i l hrow
          have hv := rowInts_rep hrow (repL_take len hr)
          have hll : l.length = len := by
            have := congrArg List.length hv
            rw [List.length_take, List.length_map] at this
            omega
          refine .inr ⟨L.μ n, 0, cap, by rw [hll], by omega, h.not, hlt, fun j hj => ?_⟩
          rw [Nat.zero_add]
          have hjl : j < len := by omega
          have : ys[j]? = some (.int k (l.getD j 0)) := by
            have h1 : (ys.take len)[j]? = ys[j]? := by rw [List.getElem?_take, if_pos hjl]
            rw [← h1, hv]
            simp [List.getD_eq_getElem?_getD, List.getElem?_eq_getElem hj]
          exact cell_own hb this
        · trivial
      · trivial
    · rename_i hk
      split
      · rename_i l hrow
        obtain ⟨g1, g2⟩ := rowQ_rep hrow (repL_take (len * t.m) hr)
        rw [List.length_take] at g1
        refine .inr ⟨L.μ n, 0, len, cap, rfl, by omega, hcap, h.not, hlt, fun j c hj => ?_⟩
        obtain ⟨y, hy, hrep⟩ := g2 j c hj
        rw [Nat.zero_add]
        refine ⟨y, cell_own hb ?_, QC.rep_ext (L := ⟨L.S, L.μ, fun _ => False⟩) (L' := ⟨L'.S, L'.μ, fun _ => False⟩) h.e hrep⟩
        rw [List.getElem?_take] at hy
        split at hy
        · exact hy
        · cases hy
      · trivial
  · trivial
theorem AC.rep_rel (h : ExtR n L L') (hb : w.heap[L.μ n]? = some (.cells (ys ++ zs).toArray T (0, 0))) (hr : repL L w cs ys) (hlt : L.μ n < w.heap.size) {c : AC} {y : Value} (hc : c.rep L w y) : (c.rel n cs).rep L' w y := by
  cases c with
  | p m off =>
    simp only [AC.rel]
    split
    · trivial
    · rename_i hn
      obtain ⟨h1, h2⟩ := hc
      exact ⟨h.D m hn h1, by rw [h.μ]; exact h2⟩
  | s t m len =>
    obtain ⟨h1, cap, h2, h3, h4, h5⟩ := hc
    simp only [AC.rel]
    split
    · rename_i hn
      subst hn
      rw [h2]
      exact relRow_rep h hb hr hlt h4
    · rename_i hn
      exact ⟨h.D m hn h1, cap, by rw [h.μ]; exact h2, by rw [h.μ]; exact h3, h4, h5⟩
  | v x => exact AC.rep_ext (a := .v x) (w := w) (w' := w) h.e hc
  | k x => exact AC.rep_ext (a := .k x) h.e hc
  | r e l => exact AC.rep_ext (a := .r e l) h.e hc
  | q m cs => exact AC.rep_ext (a := .q m cs) h.e hc
  | kq cs => exact AC.rep_ext (a := .kq cs) h.e hc
  | nil e => exact hc
  | u => trivial
theorem repL_rel (h : ExtR n L L') (hb : w.heap[L.μ n]? = some (.cells (ys ++ zs).toArray T (0, 0))) (hr : repL L w cs ys) (hlt : L.μ n < w.heap.size) : ∀ {as : List AC} {vs : List Value}, repL L w as vs → repL L' w (as.map (·.rel n cs)) vs
  | [], [], _ => trivial
  | [], _ :: _, hr => hr.elim
  | _ :: _, [], hr => hr.elim
  | _ :: _, _ :: _, hq => ⟨AC.rep_rel h hb hr hlt hq.1, repL_rel h hb hr hlt hq.2⟩
theorem AP.rep_rel (h : ExtR n L L') (hb : w.heap[L.μ n]? = some (.cells (ys ++ zs).toArray T (0, 0))) (hr : repL L w cs ys) (hlt : L.μ n < w.heap.size) {c : AP} {y : Value} (hc : c.rep L w y) : (c.rel n cs).rep L' w y := by
  cases c with
  | c a => exact AC.rep_rel (c := a) h hb hr hlt hc
  | g as => obtain ⟨vs, h1, h2⟩ := hc; exact ⟨vs, h1, repL_rel h hb hr hlt h2⟩
theorem repP_rel (h : ExtR n L L') (hb : w.heap[L.μ n]? = some (.cells (ys ++ zs).toArray T (0, 0))) (hr : repL L w cs ys) (hlt : L.μ n < w.heap.size) : ∀ {as : List AP} {vs : List Value}, repP L w as vs → repP L' w (as.map (·.rel n cs)) vs
  | [], [], _ => trivial
  | [], _ :: _, hr => hr.elim
  | _ :: _, [], hr => hr.elim
  | _ :: _, _ :: _, hq => ⟨AP.rep_rel h hb hr hlt hq.1, repP_rel h hb hr hlt hq.2⟩
theorem AV.rep_rel (h : ExtR n L L') (hb : w.heap[L.μ n]? = some (.cells (ys ++ zs).toArray T (0, 0))) (hr : repL L w cs ys) (hlt : L.μ n < w.heap.size) {c : AV} {y : Value} (hc : c.rep L w y) : (c.rel n cs).rep L' w y := by
  cases c with
  | o a => exact AP.rep_rel (c := a) h hb hr hlt hc
  | t l => obtain ⟨vs, h1, h2⟩ := hc; exact ⟨vs, h1, repP_rel h hb hr hlt h2⟩
end

theorem Rel.rel (hS0 : ∀ b, S0 b → b < w0.heap.size) (n : Nat) (R : Rel S0 w0 N μ s a w) : Rel S0 w0 N μ (s.rel n) a w := by
  unfold St.rel
  split
  · rename_i cs hcs
    obtain ⟨hge, ys, zs, T, hb, hr⟩ := R.mem n cs hcs
    have hlt := R.lt n (by rw [hcs]; simp)
    have hdom : ∀ m, (if m = n then none else match s.mem m with | some c => some (c.map (·.rel n cs)) | none => none) ≠ none → m ≠ n ∧ s.mem m ≠ none := fun m hm => by
      split at hm
      · exact absurd rfl hm
      · rename_i hmn
        refine ⟨hmn, fun e => ?_⟩
        rw [e] at hm
        exact hm rfl
    have hx : ExtR n (own S0 μ s.mem) (own S0 μ (fun m => if m = n then none else match s.mem m with | some c => some (c.map (·.rel n cs)) | none => none)) := by
      refine ⟨fun m hm h => ?_, rfl, ?_, ?_⟩
      · show (if m = n then none else match s.mem m with | some c => some (c.map (·.rel n cs)) | none => none) ≠ none
        rw [if_neg hm]
        cases hs : s.mem m with
        | none => exact absurd hs h
        | some c => simp
      · rintro b (h | ⟨m, hm, hmb⟩)
        · exact .inl h
        · exact .inr ⟨m, (hdom m hm).2, hmb⟩
      · rintro (h | ⟨m, hm, hmb⟩)
        · have h1 := hS0 _ h
          have h2 : w0.heap.size ≤ μ n := hge
          exact absurd h1 (Nat.not_lt.2 h2)
        · obtain ⟨h1, h2⟩ := hdom m hm
          exact h1 (R.inj m n h2 (by rw [hcs]; simp) hmb)
    refine { tmp := fun t => AV.rep_rel hx hb hr hlt (R.tmp t), mem := fun m c hm => ?_, inj := fun i j hi hj hij => R.inj i j (hdom i hi).2 (hdom j hj).2 hij, below := R.below, defers := R.defers, size := R.size }
    dsimp only at hm
    split at hm
    · cases hm
    · split at hm
      · rename_i c0 hc0
        cases hm
        obtain ⟨h1, ys', zs', T', h2, h3⟩ := R.mem m c0 hc0
        exact ⟨h1, ys', zs', T', h2, repL_rel hx hb hr hlt h3⟩
      · cases hm
  · exact R
theorem Rel.rels (hS0 : ∀ b, S0 b → b < w0.heap.size) : ∀ (ns : List Nat) {s : St}, Rel S0 w0 N μ s a w → Rel S0 w0 N μ (s.rels ns) a w
  | [], s, R => R
  | n :: ns, s, R => Rel.rels hS0 ns (R.rel hS0 n)

/-! ### Calls with rows, and calls that give a new one -/
theorem sound_callR {c : Call} {f : Nat} {args : List SA} (hS0 : ∀ b, S0 b → b < w0.heap.size) (hsp : SpecOk P sp) (R : Rel S0 w0 N μ s a w) (hop : o.op = .call c) (hcal : c.callee = .value (.func f)) (hargs : chkArgs c.args.toList args = true) (he : absOp sp dst (.callR f args) s = some (v, s')) : Sound P S0 w0 N o s' v a w := by
  simp only [absOp] at he
  split at he
  · rename_i as0 has0
    refine sound_call (dst := dst) (args := args) hS0 hsp (R.rels hS0 (rowsP as0)) hop hcal hargs ?_
    simp only [absOp]
    exact he
  · cases he
theorem sound_callF {c : Call} {f : Nat} {args : List SA} (hS0 : ∀ b, S0 b → b < w0.heap.size) (hsp : SpecOk P sp) (R : Rel S0 w0 N μ s a w) (hop : o.op = .call c) (hcal : c.callee = .value (.func f)) (hargs : chkArgs c.args.toList args = true) (he : absOp sp dst (.callF f args) s = some (v, s')) : Sound P S0 w0 N o s' v a w := by
  simp only [absOp] at he
  split at he
  · rename_i d as has
    split at he
    case isFalse => cases he
    rename_i hf
    split at he
    · rename_i t n hd hr
      simp only [Option.some.injEq, Prod.mk.injEq] at he
      obtain ⟨rfl, rfl⟩ := he
      have hrep := args_rep R c.args.toList args hargs has
      have hres : (execOp a.eval o).run P w = (callFunc f (c.args.toList.map a.eval).toArray).run P w := by
        have e : (c.args.toList.map a.eval).toArray = c.args.map a.eval := by apply Array.ext'; rw [Array.toList_map]
        rw [e]
        simp [execOp, hop, resolve, hcal, Act.eval, Deferred.ofValue, invoke]
      have hbd : ∀ b, (own S0 μ s.mem).S b → b < w.heap.size := by
        rintro b (h | ⟨n, hn, rfl⟩)
        · exact Nat.lt_of_lt_of_le (hS0 b h) R.below.size
        · exact R.lt n hn
      rcases hsp f _ _ hr with ⟨hent, hm⟩ | hin | ⟨hent, t', d', htd, hm⟩
      · intro K Q hK
        unfold Oper.wp
        rw [hres, hent]
        refine (hm (own S0 μ s.mem).S w _ hbd (wkP_rep (freePs_rep hf hrep))).mono ?_
        rintro e w' ⟨y, rfl, hy, hb⟩
        exact absurd hy.1 id
      · obtain ⟨y, hy, hL⟩ := hin w (c.args.toList.map a.eval) (by
          have := wkP_rep (freePs_rep hf hrep)
          exact repP_ext (L := ⟨(own S0 μ s.mem).S, fun _ => 0, fun _ => False⟩) (w := w) ⟨fun n h => h.elim, fun b _ _ => ⟨rfl, fun h => h⟩, Nat.le_refl _, fun n h => h.elim⟩ this)
        exact absurd (hL ⟨fun _ => False, fun _ => 0, fun _ => False⟩ w).1 id
      · simp only [AV.o.injEq, AP.c.injEq, AC.s.injEq, and_true] at htd
        obtain ⟨rfl, rfl⟩ := htd
        intro K Q hK
        unfold Oper.wp
        rw [hres, hent]
        refine (hm (own S0 μ s.mem).S w _ hbd (wkP_rep (freePs_rep hf hrep))).mono ?_
        rintro e w' ⟨b, cap, cur, rfl, hb, hblk, hcs, hcm, hbel⟩
        obtain ⟨R', hD, hμ⟩ := R.fresh hS0 (cs := []) (ys := []) (zs := cur.toList) (T := t.e) (b := b) hd hb (by rw [hblk]; simp) hbel trivial
        refine hK _ _ w' R' ⟨hD, cap, ?_, ?_, Nat.zero_le _, hcm⟩
        · show _ = Value.slice (some ⟨upd μ d b d, 0, none⟩) _ _
          rw [hμ]
        · show w'.shape? (upd μ d b d) = _
          rw [hμ, own_shape hblk, hcs]
    · cases he
  · cases he
end
end Go.VC

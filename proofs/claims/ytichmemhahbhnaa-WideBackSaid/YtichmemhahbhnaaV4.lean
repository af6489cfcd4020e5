/- The relation stays, from world to world. -/
import Derived.Test.YtichmemhahbhnaaV3
set_option linter.unusedVariables false
set_option linter.unusedSimpArgs false
namespace Go.VC
open Go.RowKit

/-- Calling function f with values that a tells, it returns what r tells, and nothing that was there has changed. -/
def Meets (P : Program) (f : Nat) (as : List AP) (r : AV) : Prop :=
  ∀ (S : Nat → Prop) (w : World) (vs : List Value), (∀ b, S b → b < w.heap.size) → repP ⟨S, fun _ => 0, fun _ => False⟩ w as vs →
    Calls P f vs.toArray w fun e w' => ∃ v, e = .returned v ∧ r.rep ⟨S, fun _ => 0, fun _ => False⟩ w' v ∧ Below w.heap.size w w'
/-- A function that is run in place. -/
def Inline (P : Program) (f : Nat) (as : List AP) (r : AV) : Prop :=
  ∀ (w : World) (vs : List Value), repP ⟨fun _ => False, fun _ => 0, fun _ => False⟩ w as vs →
    ∃ v, (callFunc f vs.toArray).run P w = .ok (.value v) w ∧ ∀ L w', r.rep L w' v
/-- A function that returns a new row, of no elements, that nobody else has. -/
def Fresh (P : Program) (f : Nat) (as : List AP) (r : AV) : Prop :=
  ∃ t d, r = .o (.c (.s t d 0)) ∧ ∀ (S : Nat → Prop) (w : World) (vs : List Value), (∀ b, S b → b < w.heap.size) → repP ⟨S, fun _ => 0, fun _ => False⟩ w as vs →
    Calls P f vs.toArray w fun e w' => ∃ b cap cur, e = .returned (.slice (some ⟨b, 0, none⟩) 0 cap) ∧ w.heap.size ≤ b ∧ w'.heap[b]? = some (.cells cur t.e (0, 0)) ∧ cur.size = cap * t.m ∧ cap ≤ maxLen ∧ Below w.heap.size w w'
def Enters (P : Program) (f : Nat) : Prop := ∀ args w, (callFunc f args).run P w = .ok (.enter f args) w
def SpecOk (P : Program) (sp : Spec) : Prop :=
  ∀ f as r, sp f as = some r → (Enters P f ∧ Meets P f as r) ∨ Inline P f as r ∨ (Enters P f ∧ Fresh P f as r)

section
variable {P : Program} {S0 : Nat → Prop} {w0 : World} {N : Nat} {μ : Nat → Nat} {s : St} {a : Act} {w : World}

/-! ### New variables, stores, calls -/
theorem upd_same {α : Type} (f : Nat → α) (n : Nat) (x : α) : upd f n x n = x := by simp [upd]
theorem upd_ne {α : Type} (f : Nat → α) {n m : Nat} (x : α) (h : m ≠ n) : upd f n x m = f m := by simp [upd, h]

/-- Another world, another μ, another mem; the slots are as they were. -/
theorem Rel.move {μ' : Nat → Nat} {mem' : Nat → Option (List AC)} {w' : World} (R : Rel S0 w0 N μ s a w)
    (hx : Ext (own S0 μ s.mem) w (own S0 μ' mem') w')
    (hm : ∀ n cs, mem' n = some cs → w0.heap.size ≤ μ' n ∧ ∃ (ys zs : List Value) (T : TypeId), w'.heap[μ' n]? = some (.cells (ys ++ zs).toArray T (0, 0)) ∧ repL (own S0 μ' mem') w' cs ys)
    (hi : ∀ n m, mem' n ≠ none → mem' m ≠ none → μ' n = μ' m → n = m) (hb : Below w0.heap.size w0 w') :
    Rel S0 w0 N μ' { s with mem := mem' } a w' :=
  { tmp := fun t => AV.rep_ext hx (R.tmp t), mem := hm, inj := hi, below := hb, defers := R.defers, size := R.size }

theorem ext_below {L : Lie} {w' : World} (hD : ∀ n, L.D n → L.μ n < w.heap.size) (hb : Below w.heap.size w w') : Ext L w L w' :=
  ⟨fun n h => ⟨h, rfl⟩, fun b h hlt => ⟨hb.block b hlt, h⟩, hb.size, fun n h => by unfold World.shape?; rw [hb.block _ (hD n h)]⟩
theorem Rel.lt (R : Rel S0 w0 N μ s a w) : ∀ n, s.mem n ≠ none → μ n < w.heap.size := fun n hn => by
  cases h : s.mem n with
  | none => exact absurd h hn
  | some c => obtain ⟨_, ys, zs, T, h2, _⟩ := R.mem n c h; exact (Array.getElem?_eq_some_iff.1 h2).1
theorem Rel.ge (R : Rel S0 w0 N μ s a w) : ∀ n, s.mem n ≠ none → w0.heap.size ≤ μ n := fun n hn => by
  cases h : s.mem n with
  | none => exact absurd h hn
  | some c => exact (R.mem n c h).1

/-- Behind something that turns nothing that was there. -/
theorem Rel.below' {w' : World} (R : Rel S0 w0 N μ s a w) (hb : Below w.heap.size w w') : Rel S0 w0 N μ s a w' := by
  have hx : Ext (own S0 μ s.mem) w (own S0 μ s.mem) w' := ext_below R.lt hb
  refine R.move (mem' := s.mem) (μ' := μ) hx (fun n cs h => ?_) R.inj (R.below.trans ?_)
  · obtain ⟨h1, ys, zs, T, h2, h3⟩ := R.mem n cs h
    have hlt : μ n < w.heap.size := (Array.getElem?_eq_some_iff.1 h2).1
    exact ⟨h1, ys, zs, T, (hb.block _ hlt).trans h2, repL_ext hx h3⟩
  · exact hb.mono R.below.size

theorem Rel.drew (R : Rel S0 w0 N μ s a w) : Rel S0 w0 N μ s a { w with drawn := w.drawn + 1 } :=
  R.below' ⟨rfl, rfl, rfl, Nat.le_refl _, fun _ _ => rfl⟩

/-! ### Variables fall away -/
structure ExtK (ns : List Nat) (L : Lie) (w : World) (L' : Lie) (w' : World) : Prop where
  D : ∀ n, n ∉ ns → L.D n → L'.D n ∧ L'.μ n = L.μ n
  blk : ∀ b, ¬ L.S b → b < w.heap.size → w'.heap[b]? = w.heap[b]? ∧ ¬ L'.S b
  size : w.heap.size ≤ w'.heap.size
  shp : ∀ n, n ∉ ns → L.D n → w'.shape? (L.μ n) = w.shape? (L.μ n)
theorem ExtK.e {ns : List Nat} {L L' : Lie} {w w' : World} (h : ExtK ns L w L' w') : Ext ⟨L.S, L.μ, fun _ => False⟩ w ⟨L'.S, L'.μ, fun _ => False⟩ w' :=
  ⟨fun n h => h.elim, h.blk, h.size, fun n h => h.elim⟩
section
variable {ns : List Nat} {L L' : Lie} {w' : World}
theorem AC.rep_kill (h : ExtK ns L w L' w') {c : AC} {y : Value} (hr : c.rep L w y) : (c.kill ns).rep L' w' y := by
  cases c with
  | p n off =>
    simp only [AC.kill]
    split
    · trivial
    · rename_i hn
      obtain ⟨h1, h2⟩ := hr
      exact ⟨(h.D n hn h1).1, by rw [(h.D n hn h1).2]; exact h2⟩
  | s t n len =>
    simp only [AC.kill]
    split
    · trivial
    · rename_i hn
      obtain ⟨h1, cap, h2, h3, h4, h5⟩ := hr
      obtain ⟨h6, h7⟩ := h.D n hn h1
      exact ⟨h6, cap, by rw [h7]; exact h2, by rw [h7, h.shp n hn h1]; exact h3, h4, h5⟩
  | v x => exact AC.rep_ext (a := .v x) h.e hr
  | k x => exact AC.rep_ext (a := .k x) h.e hr
  | r e l => exact AC.rep_ext (a := .r e l) h.e hr
  | q m cs => exact AC.rep_ext (a := .q m cs) h.e hr
  | kq cs => exact AC.rep_ext (a := .kq cs) h.e hr
  | nil e => exact hr
  | u => trivial
theorem repL_kill (h : ExtK ns L w L' w') : ∀ {as : List AC} {ys : List Value}, repL L w as ys → repL L' w' (as.map (·.kill ns)) ys
  | [], [], _ => trivial
  | [], _ :: _, hr => hr.elim
  | _ :: _, [], hr => hr.elim
  | _ :: _, _ :: _, hr => ⟨AC.rep_kill h hr.1, repL_kill h hr.2⟩
theorem AP.rep_kill (h : ExtK ns L w L' w') {c : AP} {y : Value} (hr : c.rep L w y) : (c.kill ns).rep L' w' y := by
  cases c with
  | c a => exact AC.rep_kill (c := a) h hr
  | g cs => obtain ⟨ys, h1, h2⟩ := hr; exact ⟨ys, h1, repL_kill h h2⟩
theorem repP_kill (h : ExtK ns L w L' w') : ∀ {as : List AP} {ys : List Value}, repP L w as ys → repP L' w' (as.map (·.kill ns)) ys
  | [], [], _ => trivial
  | [], _ :: _, hr => hr.elim
  | _ :: _, [], hr => hr.elim
  | _ :: _, _ :: _, hr => ⟨AP.rep_kill h hr.1, repP_kill h hr.2⟩
theorem AV.rep_kill (h : ExtK ns L w L' w') {c : AV} {y : Value} (hr : c.rep L w y) : (c.kill ns).rep L' w' y := by
  cases c with
  | o a => exact AP.rep_kill (c := a) h hr
  | t l => obtain ⟨ys, h1, h2⟩ := hr; exact ⟨ys, h1, repP_kill h h2⟩
end
theorem kill_nil : ∀ c : AC, c.kill [] = c := fun c => by cases c <;> simp [AC.kill]
theorem killP_nil : ∀ c : AP, c.kill [] = c := fun c => by
  cases c with
  | c a => simp [AP.kill, kill_nil]
  | g cs => simp only [AP.kill]; congr 1; rw [show (fun c : AC => c.kill []) = id from funext kill_nil]; simp
theorem killV_nil : ∀ c : AV, c.kill [] = c := fun c => by
  cases c with
  | o a => simp [AV.kill, killP_nil]
  | t l => simp only [AV.kill]; congr 1; rw [show (fun c : AP => c.kill []) = id from funext killP_nil]; simp
theorem drop_nil (s : St) : s.drop [] = s := by
  unfold St.drop
  cases s with
  | mk tm mem =>
    congr 1
    · funext t; exact killV_nil _
    · funext n
      simp only [List.not_mem_nil, if_false]
      split
      · rename_i cs h; rw [h]; congr 1; rw [show (fun c : AC => c.kill []) = id from funext kill_nil]; simp
      · rename_i h; rw [h]
theorem drop_mem {s : St} {ns : List Nat} {n : Nat} (h : (s.drop ns).mem n ≠ none) : n ∉ ns ∧ s.mem n ≠ none := by
  unfold St.drop at h
  simp only at h
  split at h
  · exact absurd rfl h
  · rename_i hn
    refine ⟨hn, fun e => ?_⟩
    rw [e] at h
    exact h rfl
theorem drop_mem_of {s : St} {ns : List Nat} {n : Nat} (hn : n ∉ ns) (h : s.mem n ≠ none) : (s.drop ns).mem n ≠ none := by
  unfold St.drop
  simp only [if_neg hn]
  cases hs : s.mem n with
  | none => exact absurd hs h
  | some c => simp
theorem drop_get {s : St} {ns : List Nat} {n : Nat} {cs : List AC} (h : (s.drop ns).mem n = some cs) : n ∉ ns ∧ ∃ c, s.mem n = some c ∧ cs = c.map (·.kill ns) := by
  unfold St.drop at h
  simp only at h
  split at h
  · cases h
  · rename_i hn
    refine ⟨hn, ?_⟩
    split at h
    · rename_i c hc; exact ⟨c, hc, by cases h; rfl⟩
    · cases h

/-- The variables ns fall away. -/
theorem Rel.drop (ns : List Nat) (R : Rel S0 w0 N μ s a w) : Rel S0 w0 N μ (s.drop ns) a w := by
  have hx : ExtK ns (own S0 μ s.mem) w (own S0 μ (s.drop ns).mem) w := by
    refine ⟨fun n hn h => ⟨drop_mem_of hn h, rfl⟩, fun b hb hlt => ⟨rfl, ?_⟩, Nat.le_refl _, fun _ _ _ => rfl⟩
    rintro (h | ⟨m, hm, hmb⟩)
    · exact hb (.inl h)
    · exact hb (.inr ⟨m, (drop_mem hm).2, hmb⟩)
  refine { tmp := fun t => AV.rep_kill hx (R.tmp t), mem := fun n cs h => ?_, inj := fun n m hn hm => R.inj n m (drop_mem hn).2 (drop_mem hm).2, below := R.below, defers := R.defers, size := R.size }
  obtain ⟨hn, c, hc, rfl⟩ := drop_get h
  obtain ⟨h1, ys, zs, T, h2, h3⟩ := R.mem n c hc
  exact ⟨h1, ys, zs, T, h2, repL_kill hx h3⟩

/-- The variables ns fall away, and d is a new one, in a new block or in one of theirs. -/
theorem Rel.turn (hS0 : ∀ b, S0 b → b < w0.heap.size) (R : Rel S0 w0 N μ s a w) {ns : List Nat} {d b : Nat} {cs : List AC} {ys zs : List Value} {T : TypeId} {w' : World} (hd : s.mem d = none ∨ d ∈ ns) (hb0 : w0.heap.size ≤ b)
    (hb : w.heap.size ≤ b ∨ ∃ n ∈ ns, s.mem n ≠ none ∧ μ n = b) (hblk : w'.heap[b]? = some (.cells (ys ++ zs).toArray T (0, 0))) (hold : ∀ k, k < w.heap.size → k ≠ b → w'.heap[k]? = w.heap[k]?) (hsz : w.heap.size ≤ w'.heap.size)
    (hbel : Below w0.heap.size w0 w') (hr : repL (own S0 μ s.mem) w cs ys) :
    Rel S0 w0 N (upd μ d b) ⟨(s.drop ns).tm, upd (s.drop ns).mem d (some (cs.map (·.kill ns)))⟩ a w' ∧ (own S0 (upd μ d b) (upd (s.drop ns).mem d (some (cs.map (·.kill ns))))).D d ∧ upd μ d b d = b := by
  have hne : ∀ n, n ∉ ns → s.mem n ≠ none → n ≠ d := fun n hn hm e => by
    subst e
    rcases hd with h | h
    · exact hm h
    · exact hn h
  have hμb : ∀ n, n ∉ ns → s.mem n ≠ none → μ n ≠ b := fun n hn hm e => by
    rcases hb with h | ⟨m, h1, h2, h3⟩
    · have := R.lt n hm; omega
    · have := R.inj n m hm h2 (e.trans h3.symm)
      exact hn (this ▸ h1)
  have hx : ExtK ns (own S0 μ s.mem) w (own S0 (upd μ d b) (upd (s.drop ns).mem d (some (cs.map (·.kill ns))))) w' := by
    refine ⟨fun n hn h => ⟨?_, ?_⟩, fun k hk hlt => ?_, hsz, fun n hn h => ?_⟩
    · show upd _ d _ n ≠ none
      rw [upd_ne _ _ (hne n hn h)]
      exact drop_mem_of hn h
    · show upd μ d b n = μ n
      rw [upd_ne _ _ (hne n hn h)]
    · have hkb : k ≠ b := fun e => by
        subst e
        rcases hb with h | ⟨m, h1, h2, h3⟩
        · omega
        · exact hk (.inr ⟨m, h2, h3⟩)
      refine ⟨hold k hlt hkb, ?_⟩
      rintro (h | ⟨m, hm, hmk⟩)
      · exact hk (.inl h)
      · by_cases hmd : m = d
        · subst hmd; rw [upd_same] at hmk; exact hkb hmk.symm
        · rw [upd_ne _ _ hmd] at hm hmk
          exact hk (.inr ⟨m, (drop_mem hm).2, hmk⟩)
    · show w'.shape? (μ n) = w.shape? (μ n)
      unfold World.shape?
      rw [hold _ (R.lt n h) (hμb n hn h)]
  refine ⟨{ tmp := fun t => AV.rep_kill hx (R.tmp t), mem := fun n c h => ?_, inj := fun i j hi hj hij => ?_, below := hbel, defers := R.defers, size := R.size }, ?_, upd_same _ _ _⟩
  · dsimp only at h ⊢
    by_cases hnd : n = d
    · subst hnd
      rw [upd_same] at h ⊢
      cases h
      exact ⟨hb0, ys, zs, T, hblk, repL_kill hx hr⟩
    · rw [upd_ne _ _ hnd] at h ⊢
      obtain ⟨hn, c0, hc0, rfl⟩ := drop_get h
      obtain ⟨h1, ys', zs', T', h2, h3⟩ := R.mem n c0 hc0
      have hm : s.mem n ≠ none := by rw [hc0]; simp
      exact ⟨h1, ys', zs', T', (hold _ (R.lt n hm) (hμb n hn hm)).trans h2, repL_kill hx h3⟩
  · dsimp only at hi hj
    by_cases hi' : i = d <;> by_cases hj' : j = d
    · rw [hi', hj']
    · subst hi'
      rw [upd_same, upd_ne _ _ hj'] at hij
      rw [upd_ne _ _ hj'] at hj
      obtain ⟨q1, q2⟩ := drop_mem hj
      exact absurd hij.symm (hμb j q1 q2)
    · subst hj'
      rw [upd_same, upd_ne _ _ hi'] at hij
      rw [upd_ne _ _ hi'] at hi
      obtain ⟨q1, q2⟩ := drop_mem hi
      exact absurd hij (hμb i q1 q2)
    · rw [upd_ne _ _ hi'] at hi hij
      rw [upd_ne _ _ hj'] at hj hij
      exact R.inj i j (drop_mem hi).2 (drop_mem hj).2 hij
  · show upd _ d _ d ≠ none
    rw [upd_same]; simp

/-- A new variable in a new block. -/
theorem Rel.fresh (hS0 : ∀ b, S0 b → b < w0.heap.size) (R : Rel S0 w0 N μ s a w) {d b : Nat} {cs : List AC} {ys zs : List Value} {T : TypeId} {w' : World} (hd : s.mem d = none) (hb : w.heap.size ≤ b)
    (hblk : w'.heap[b]? = some (.cells (ys ++ zs).toArray T (0, 0))) (hbel : Below w.heap.size w w') (hr : repL (own S0 μ s.mem) w cs ys) :
    Rel S0 w0 N (upd μ d b) ⟨s.tm, upd s.mem d (some cs)⟩ a w' ∧ (own S0 (upd μ d b) (upd s.mem d (some cs))).D d ∧ upd μ d b d = b := by
  have := R.turn hS0 (ns := []) (d := d) (b := b) (cs := cs) (ys := ys) (zs := zs) (T := T) (w' := w') (.inl hd) (Nat.le_trans R.below.size hb) (.inl hb) hblk (fun k hk _ => hbel.block k hk) hbel.size (R.below.trans (hbel.mono R.below.size)) hr
  rw [drop_nil] at this
  rwa [show (fun c : AC => c.kill []) = id from funext kill_nil, List.map_id] at this

theorem Rel.alloc (hS0 : ∀ b, S0 b → b < w0.heap.size) (R : Rel S0 w0 N μ s a w) {n : Nat} (hn : s.mem n = none) {cs : List AC} {ys : List Value} (T : TypeId) (hr : repL (own S0 μ s.mem) w cs ys) :
    Rel S0 w0 N (upd μ n w.heap.size) { s with mem := upd s.mem n (some cs) } a { w with heap := w.heap.push (.cells ys.toArray T (0, 0)) } ∧
    AC.rep (own S0 (upd μ n w.heap.size) (upd s.mem n (some cs))) { w with heap := w.heap.push (.cells ys.toArray T (0, 0)) } (.p n 0) (.pointer (some ⟨w.heap.size, 0, none⟩)) := by
  have hb : Below w.heap.size w { w with heap := w.heap.push (.cells ys.toArray T (0, 0)) } :=
    ⟨rfl, rfl, rfl, by simp, fun k hk => by show (w.heap.push _)[k]? = _; rw [Array.getElem?_push, if_neg (by omega)]⟩
  obtain ⟨h1, h2, h3⟩ := R.fresh hS0 (zs := []) (T := T) hn (Nat.le_refl _) (by show (w.heap.push _)[w.heap.size]? = _; simp) hb hr
  exact ⟨h1, h2, by show _ = Value.pointer (some ⟨upd μ n w.heap.size n, 0, none⟩); rw [h3]⟩

theorem Rel.put {d : Option Nat} {v : AV} {y : Value} (R : Rel S0 w0 N μ s a w) (h : v.rep (own S0 μ s.mem) w y) (hd : ∀ n, d = some n → n < N) : Rel S0 w0 N μ (s.put d v) (a.put d y) w := by
  cases d with
  | none => exact R
  | some n =>
    have hn : n < a.tmps.size := by rw [R.size]; exact hd n rfl
    refine { tmp := fun t => ?_, mem := R.mem, inj := R.inj, below := R.below, defers := R.defers, size := by simpa [Act.put] using R.size }
    show (upd s.tm n v t).rep _ w ((a.tmps.setIfInBounds n y).getD t undef)
    by_cases ht : t = n
    · subst ht
      rw [upd_same]
      have e : (a.tmps.setIfInBounds t y).getD t undef = y := by simp [Array.getD, hn]
      rw [e]
      exact h
    · rw [upd_ne _ _ ht]
      have := R.tmp t
      rw [Array.getD_eq_getD_getElem?] at this ⊢
      rwa [Array.getElem?_setIfInBounds_ne (Ne.symm ht)]
end
end Go.VC

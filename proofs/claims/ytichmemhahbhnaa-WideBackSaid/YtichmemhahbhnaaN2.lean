/- How the evaluator's run of a code ends, step by step. -/
import Derived.Test.YtichmemhahbhnaaN1
set_option linter.unusedVariables false
set_option linter.unusedSimpArgs false
namespace Go.VC

def EndsIn (o : Option (AX × St)) (Q : AX → St → Prop) : Prop :=
  match o with
  | some (a, s) => Q a s
  | none => False
theorem EndsIn.mono {o : Option (AX × St)} {Q Q' : AX → St → Prop} (h : EndsIn o Q) (hQ : ∀ a s, Q a s → Q' a s) : EndsIn o Q' := by
  unfold EndsIn at *
  split at h
  · exact hQ _ _ h
  · exact h
theorem ends_some {a : AX} {s : St} {Q : AX → St → Prop} : EndsIn (some (a, s)) Q = Q a s := _root_.id rfl
theorem ends_ite {c : Prop} [Decidable c] {x y : Option (AX × St)} {Q : AX → St → Prop} : EndsIn (if c then x else y) Q = if c then EndsIn x Q else EndsIn y Q := by split <;> rfl

theorem spOf_cons {g : Nat} {s : List AP → Option AV} {l : List (Nat × (List AP → Option AV))} {f : Nat} {as : List AP} : spOf ((g, s) :: l) f as = if f = g then s as else spOf l f as := _root_.id rfl
theorem spOf_nil {f : Nat} {as : List AP} : spOf [] f as = none := _root_.id rfl
attribute [simp] spOf_cons spOf_nil
section
variable {sp : Spec} {k : Nat} {s : St} {Q : AX → St → Prop}
theorem ends_skip : EndsIn (absCode sp k .skip s) Q = Q .n s := _root_.id rfl
theorem ends_exit {i : Nat} : EndsIn (absCode sp k (.exit i) s) Q = Q (.e i) s := _root_.id rfl
theorem ends_ret : EndsIn (absCode sp k .ret s) Q = Q .r s := _root_.id rfl
/-- What comes behind. -/
def after (sp : Spec) (k : Nat) (b : SC) (Q : AX → St → Prop) : AX → St → Prop
  | .n, s => EndsIn (absCode sp k b s) Q
  | .e i, s => Q (.e i) s
  | .r, s => Q .r s
theorem after_n {b : SC} : after sp k b Q .n s = EndsIn (absCode sp k b s) Q := _root_.id rfl
theorem after_e {b : SC} {i : Nat} : after sp k b Q (.e i) s = Q (.e i) s := _root_.id rfl
theorem after_r {b : SC} : after sp k b Q .r s = Q .r s := _root_.id rfl
theorem ends_seq {a b : SC} : EndsIn (absCode sp k (.seq a b) s) Q = EndsIn (absCode sp k a s) (after sp k b Q) := by
  simp only [absCode]
  cases h : absCode sp k a s with
  | none => rfl
  | some x =>
    obtain ⟨ax, s'⟩ := x
    cases ax <;> rfl
def inBlock (id : Nat) (Q : AX → St → Prop) : AX → St → Prop
  | .n, s => Q .n s
  | .e i, s => if i = id then Q .n s else Q (.e i) s
  | .r, s => Q .r s
theorem inBlock_n {id : Nat} : inBlock id Q .n s = Q .n s := _root_.id rfl
theorem inBlock_e {id i : Nat} : inBlock id Q (.e i) s = if i = id then Q .n s else Q (.e i) s := _root_.id rfl
theorem inBlock_r {id : Nat} : inBlock id Q .r s = Q .r s := _root_.id rfl
theorem ends_block {id : Nat} {a : SC} : EndsIn (absCode sp k (.block id a) s) Q = EndsIn (absCode sp k a s) (inBlock id Q) := by
  simp only [absCode]
  cases h : absCode sp k a s with
  | none => rfl
  | some x =>
    obtain ⟨ax, s'⟩ := x
    cases ax with
    | n => rfl
    | r => rfl
    | e i =>
      simp only [EndsIn, inBlock]
      by_cases hi : i = id
      · simp [hi]
      · simp [hi]
theorem ends_cond {c : SA} {a b : SC} : EndsIn (absCode sp k (.cond c a b) s) Q = match (c.ev s).val with
    | some (.bool t) => if t then EndsIn (absCode sp k a s) Q else EndsIn (absCode sp k b s) Q
    | _ => False := by
  simp only [absCode]
  generalize (c.ev s).val = v
  cases v with
  | none => rfl
  | some v => cases v <;> first | rfl | (rename_i t; cases t <;> rfl)
theorem ends_forget {ns : List Nat} {a : SC} : EndsIn (absCode sp k (.forget ns a) s) Q = EndsIn (absCode sp k a (s.drop ns)) Q := _root_.id rfl
def endO (o : Option St) (Q : St → Prop) : Prop :=
  match o with
  | some s => Q s
  | none => False
theorem endO_some {Q : St → Prop} : endO (some s) Q = Q s := _root_.id rfl
theorem ends_region {ops : List SOper} : EndsIn (absCode sp k (.region ops) s) Q = endO (absOps sp ops s) (Q .n) := by
  simp only [absCode]
  cases absOps sp ops s <;> rfl
theorem endO_nil {Q : St → Prop} : endO (absOps sp [] s) Q = Q s := _root_.id rfl
theorem endO_cons {o : SOper} {os : List SOper} {Q : St → Prop} : endO (absOps sp (o :: os) s) Q = endO (absOper sp o s) (fun s' => endO (absOps sp os s') Q) := by
  simp only [absOps]
  cases absOper sp o s <;> rfl
theorem endO_ite {c : Prop} [Decidable c] {x y : Option St} {Q : St → Prop} : endO (if c then x else y) Q = if c then endO x Q else endO y Q := by split <;> rfl
theorem ends_loop {a : SC} : EndsIn (absCode sp k (.loop a) s) Q = EndsIn (iter (absCode sp k a) k s) Q := _root_.id rfl
end

/-- A loop: I i holds ahead of round i; there are n rounds that go on. -/
theorem ends_iter {f : St → Option (AX × St)} {Q : AX → St → Prop} (I : Nat → St → Prop) (n : Nat) (step : ∀ i s, i < n → I i s → EndsIn (f s) (fun ax s' => match ax with | .n => I (i + 1) s' | ax => Q ax s'))
    (last : ∀ s, I n s → EndsIn (f s) (fun ax s' => match ax with | .n => False | ax => Q ax s')) : ∀ (k i : Nat) (s : St), i ≤ n → n - i < k → I i s → EndsIn (iter f k s) Q
  | 0, i, s, hi, hk, hI => by omega
  | k + 1, i, s, hi, hk, hI => by
    simp only [iter]
    by_cases hin : i < n
    · have h := step i s hin hI
      cases hf : f s with
      | none => rw [hf] at h; exact h.elim
      | some x =>
        obtain ⟨ax, s'⟩ := x
        rw [hf] at h
        cases ax with
        | n => exact ends_iter I n step last k (i + 1) s' (by omega) (by omega) h
        | e id => exact h
        | r => exact h
    · have : i = n := by omega
      subst this
      have h := last s hI
      cases hf : f s with
      | none => rw [hf] at h; exact h.elim
      | some x =>
        obtain ⟨ax, s'⟩ := x
        rw [hf] at h
        cases ax with
        | n => exact h.elim
        | e id => exact h
        | r => exact h
/-- A loop that does not say ahead how many rounds there are: m counts down. -/
theorem ends_while {f : St → Option (AX × St)} {Q : AX → St → Prop} (I : Nat → St → Prop) (step : ∀ m s, I m s → EndsIn (f s) (fun ax s' => match ax with | .n => ∃ m', m' < m ∧ I m' s' | ax => Q ax s')) :
    ∀ (k m : Nat) (s : St), m < k → I m s → EndsIn (iter f k s) Q
  | 0, m, s, hk, hI => by omega
  | k + 1, m, s, hk, hI => by
    simp only [iter]
    have h := step m s hI
    cases hf : f s with
    | none => rw [hf] at h; exact h.elim
    | some x =>
      obtain ⟨ax, s'⟩ := x
      rw [hf] at h
      cases ax with
      | n =>
        obtain ⟨m', h1, h2⟩ := h
        exact ends_while I step k m' s' (by omega) h2
      | e id => exact h
      | r => exact h

def absOut (f : SF) (s : St) : Option AV :=
  match absRes s f.res with
  | some l0 => match absRes (s.rels (rowsP l0)) f.res with
    | some l => if l.all (·.free) = true then some (wrapRes (l.map AP.wk)) else none
    | none => none
  | none => none
/-- The function's end. -/
def done (f : SF) (r : AV) : AX → St → Prop
  | .n, s => absOut f s = some r
  | .e _, _ => False
  | .r, s => absOut f s = some r
theorem done_n {f : SF} {r : AV} {s : St} : done f r .n s = (absOut f s = some r) := _root_.id rfl
theorem done_r {f : SF} {r : AV} {s : St} : done f r .r s = (absOut f s = some r) := _root_.id rfl
theorem absFn_of {sp : Spec} {k : Nat} {f : SF} {as : List AP} {r : AV} (h : EndsIn (absCode sp k f.code (st0 as)) (done f r)) : absFn sp k f as = some r := by
  unfold absFn
  cases hc : absCode sp k f.code (st0 as) with
  | none => rw [hc] at h; exact h.elim
  | some x =>
    obtain ⟨ax, s⟩ := x
    rw [hc] at h
    cases ax with
    | n => exact h
    | e i => exact h.elim
    | r => exact h
theorem ok_of' {P : Program} {sp : Spec} {f : Nat} {fn : Func} {sf : SF} {s : List AP → Option AV} (hf : P.funcs[f]? = some fn) (hent : Enters P f) (hchk : chkFn P fn sf = true) (hsp : SpecOk P sp)
    (h : ∀ as r, s as = some r → as.length ≤ sf.ntmps ∧ ∃ k, EndsIn (absCode sp k sf.code (st0 as)) (done sf r)) : Ok P f s :=
  ok_of hf hent hchk hsp fun as r hr => by
    obtain ⟨h1, k, h2⟩ := h as r hr
    exact ⟨h1, k, absFn_of h2⟩
attribute [simp] ends_skip ends_exit ends_ret after_n after_e after_r ends_seq inBlock_n inBlock_e inBlock_r ends_block ends_cond ends_forget endO_some ends_region  ends_loop absOut done_n done_r
end Go.VC
namespace Go.VC
/-- Calling f with what s speaks of, it returns what s tells. -/
def MeetsAll (P : Program) (f : Nat) (s : List AP → Option AV) : Prop := ∀ as r, s as = some r → Meets P f as r
theorem meets_all {P : Program} {sp : Spec} {f : Nat} {fn : Func} {sf : SF} {s : List AP → Option AV} (hf : P.funcs[f]? = some fn) (hchk : chkFn P fn sf = true) (hsp : SpecOk P sp)
    (h : ∀ as r, s as = some r → as.length ≤ sf.ntmps ∧ ∃ k, EndsIn (absCode sp k sf.code (st0 as)) (done sf r)) : MeetsAll P f s := fun as r hr => by
  obtain ⟨h1, k, h2⟩ := h as r hr
  exact meets_of k hf hchk hsp h1 (absFn_of h2)
theorem MeetsAll.ok {P : Program} {f : Nat} {s : List AP → Option AV} (h : MeetsAll P f s) (hent : Enters P f) : Ok P f s := fun as r hr => .inl ⟨hent, h as r hr⟩
end Go.VC

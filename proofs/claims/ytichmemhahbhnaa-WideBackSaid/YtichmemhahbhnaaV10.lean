/- What an operation looks at, and that it does the same where that is the same. -/
import Derived.Test.YtichmemhahbhnaaV18
set_option linter.unusedVariables false
set_option linter.unusedSimpArgs false
namespace Go.VC
open Go.RowKit

/-! ### What an operation looks at -/
def SA.rd : SA → List Nat
  | .t n => [n]
  | .k _ => []
  | .nil _ => []
  | .g _ => []
def optRd : Option SA → List Nat
  | none => []
  | some x => x.rd
def partsRd : List (Nat × Nat × SA) → List Nat
  | [] => []
  | (_, _, x) :: r => x.rd ++ partsRd r
def argsRd : List SA → List Nat
  | [] => []
  | x :: r => x.rd ++ argsRd r
def SOp.rd : SOp → List Nat
  | .mv x | .box x | .not x | .neg x | .cvt _ x | .ext x _ | .len x | .load _ _ x _ | .fld _ x | .part _ _ _ x | .str x | .mkS _ _ x => x.rd
  | .pick c a b => c.rd ++ (a.rd ++ b.rd)
  | .alloc _ => []
  | .build _ ps => partsRd ps
  | .bldS _ _ _ ps => partsRd ps
  | .store _ p x _ => p.rd ++ x.rd
  | .bin _ x y | .eqb _ x y | .eqs _ _ x y | .min x y | .eqt _ x y | .app _ x y => x.rd ++ y.rd
  | .call _ as | .callR _ as | .callF _ as => argsRd as
  | .idx _ x i => x.rd ++ i.rd
  | .sl x lo hi => x.rd ++ (optRd lo ++ optRd hi)
def SOper.rd (o : SOper) : List Nat := o.op.rd ++ (match o.guard with | some (g, _) => [g] | none => [])
/-- The variable that is read, or written. -/
def SOp.rdM : SOp → Option Nat
  | .load _ _ _ nm => nm
  | _ => none
def SOp.wrM : SOp → Option Nat
  | .store _ _ _ nm => some nm
  | _ => none
def SOp.isA : SOp → Bool
  | .alloc _ | .box _ | .mkS _ _ _ | .bldS _ _ _ _ | .callF _ _ => true
  | _ => false
/-- Does it turn more than its slot and one variable? -/
def SOp.hard : SOp → Bool
  | .app _ _ _ | .callR _ _ => true
  | _ => false

/-- What an operation does to the call's own variables. -/
inductive ME where
  | no
  | nw (n : Nat) (cs : List AC)
  | st (n : Nat) (cs : List AC)
def ME.app : ME → (Nat → Option (List AC)) → Nat → Option (List AC)
  | .no, m => m
  | .nw n cs, m => upd m n (some cs)
  | .st n cs, m => upd m n (some cs)

theorem ev_agree {s s2 : St} {x : SA} (h : ∀ t ∈ x.rd, s2.tm t = s.tm t) : x.ev s2 = x.ev s := by
  cases x with
  | t n => exact h n (by simp [SA.rd])
  | k a => rfl
  | nil e => rfl
  | g a => rfl
theorem fillA_agree {s s2 : St} : ∀ (ps : List (Nat × Nat × SA)) (cs : List AC), (∀ t ∈ partsRd ps, s2.tm t = s.tm t) → fillA s2 cs ps = fillA s cs ps
  | [], cs, _ => rfl
  | (off, size, x) :: ps, cs, h => by
    simp only [fillA]
    rw [ev_agree (fun t ht => h t (by simp [partsRd, ht]))]
    split
    · split
      · exact fillA_agree ps _ (fun t ht => h t (by simp [partsRd, ht]))
      · rfl
    · rfl
theorem evArgs_agree {s s2 : St} : ∀ (xs : List SA), (∀ t ∈ argsRd xs, s2.tm t = s.tm t) → evArgs s2 xs = evArgs s xs
  | [], _ => rfl
  | x :: xs, h => by
    simp only [evArgs]
    rw [ev_agree (fun t ht => h t (by simp [argsRd, ht])), evArgs_agree xs (fun t ht => h t (by simp [argsRd, ht]))]
theorem optI_agree {s s2 : St} {x : Option SA} {d : Int} (h : ∀ t ∈ optRd x, s2.tm t = s.tm t) : optI s2 x d = optI s x d := by
  cases x with
  | none => rfl
  | some x => simp only [optI]; rw [ev_agree h]

/-- The same operation in another state that agrees in what it looks at. -/
structure Tr (sp : Spec) (d : Option Nat) (o : SOp) (s : St) (v : AV) (m : ME) : Prop where
  go : ∀ s2 : St, (∀ t ∈ o.rd, s2.tm t = s.tm t) → (∀ n, o.rdM = some n ∨ o.wrM = some n → s2.mem n = s.mem n) → (∀ n cs, m = .nw n cs → s2.mem n = none) →
    absOp sp d o s2 = some (v, { s2 with mem := m.app s2.mem })
  new : ∀ n cs, m = .nw n cs → o.isA = true ∧ d = some n ∧ s.mem n = none
  old : ∀ n cs, m = .st n cs → o.wrM = some n ∧ s.mem n ≠ none

theorem Tr.pure {sp : Spec} {d : Option Nat} {o : SOp} {s : St} {v : AV} (h : ∀ s2 : St, (∀ t ∈ o.rd, s2.tm t = s.tm t) → absOp sp d o s2 = some (v, s2)) : ∃ m, ({ s with mem := m.app s.mem } : St) = s ∧ Tr sp d o s v m :=
  ⟨.no, rfl, { go := fun s2 h1 _ _ => h s2 h1, new := fun _ _ e => (by cases e), old := fun _ _ e => (by cases e) }⟩

theorem absOp_tr {sp : Spec} {d : Option Nat} {o : SOp} {s s' : St} {v : AV} (hh : o.hard = false) (he : absOp sp d o s = some (v, s')) : ∃ m, s' = { s with mem := m.app s.mem } ∧ Tr sp d o s v m := by
  cases o with
  | mv x =>
    simp only [absOp, Option.some.injEq, Prod.mk.injEq] at he
    obtain ⟨rfl, rfl⟩ := he
    obtain ⟨m, h1, h2⟩ := Tr.pure (sp := sp) (d := d) (o := .mv x) (s := s) (v := x.ev s) (fun s2 h => by simp only [absOp, ev_agree (show ∀ t ∈ x.rd, s2.tm t = s.tm t from h)])
    exact ⟨m, h1.symm, h2⟩
  | pick c a b =>
    have he0 := he
    simp only [absOp] at he
    split at he
    · rename_i t ht
      simp only [Option.some.injEq, Prod.mk.injEq] at he
      obtain ⟨rfl, rfl⟩ := he
      obtain ⟨m, h1, h2⟩ := Tr.pure (sp := sp) (d := d) (o := .pick c a b) (s := s) (v := if t then a.ev s else b.ev s) (fun s2 h => by
        have e1 : c.ev s2 = c.ev s := ev_agree (fun t ht => h t (by simp [SOp.rd, ht]))
        have e2 : a.ev s2 = a.ev s := ev_agree (fun t ht => h t (by simp [SOp.rd, ht]))
        have e3 : b.ev s2 = b.ev s := ev_agree (fun t ht => h t (by simp [SOp.rd, ht]))
        simp only [absOp, e1, e2, e3, ht])
      exact ⟨m, h1.symm, h2⟩
    · cases he
  | alloc z =>
    simp only [absOp] at he
    split at he
    · rename_i n
      split at he
      · rename_i hn
        simp only [Option.some.injEq, Prod.mk.injEq] at he
        obtain ⟨rfl, rfl⟩ := he
        refine ⟨.nw n z, rfl, { go := fun s2 h1 h2 h3 => ?_, new := fun n' cs e => ?_, old := fun _ _ e => (by cases e) }⟩
        · simp only [absOp, h3 n _ rfl, ME.app]
        · cases e; exact ⟨rfl, rfl, hn⟩
      · cases he
    · cases he
  | box x =>
    simp only [absOp] at he
    split at he
    · rename_i n ap hap
      split at he
      · rename_i hn
        split at he
        · rename_i hok
          simp only [Option.some.injEq, Prod.mk.injEq] at he
          obtain ⟨rfl, rfl⟩ := he
          refine ⟨.nw n ap.cells, rfl, { go := fun s2 h1 h2 h3 => ?_, new := fun n' cs e => ?_, old := fun _ _ e => (by cases e) }⟩
          · have e1 : x.ev s2 = x.ev s := ev_agree h1
            simp only [absOp, e1, hap, h3 n _ rfl, hok, if_true, ME.app]
          · cases e; exact ⟨rfl, rfl, hn⟩
        · cases he
      · cases he
    · cases he
  | load agg size p nm =>
    have hs : s' = s := by
      simp only [absOp] at he
      (repeat' split at he) <;> first | (cases he; rfl) | cases he
    subst hs
    refine ⟨.no, rfl, { go := fun s2 h1 h2 _ => ?_, new := fun _ _ e => (by cases e), old := fun _ _ e => (by cases e) }⟩
    have e1 : p.ev s2 = p.ev s' := ev_agree (fun t ht => h1 t (by simp [SOp.rd, ht]))
    have e2 : ∀ n, nm = some n → s2.mem n = s'.mem n := fun n hn => h2 n (.inl hn)
    simp only [absOp] at he ⊢
    rw [e1]
    split at he
    · rename_i n off hp
      split at he
      case isFalse => cases he
      rename_i hn
      rw [if_pos hn, e2 n hn]
      (repeat' split at he) <;> first | (cases he; done) | (cases he; simp_all [ME.app]; done) | (simp_all [ME.app]; done)
    · (repeat' split at he) <;> first | (cases he; done) | (cases he; simp_all [ME.app]; done) | (simp_all [ME.app]; done)
    · (repeat' split at he) <;> first | (cases he; done) | (cases he; simp_all [ME.app]; done) | (simp_all [ME.app]; done)
    · cases he
  | store size p x nm =>
    simp only [absOp] at he
    split at he
    · rename_i n off ap hpt hap
      split at he
      case isFalse => cases he
      rename_i hn
      subst hn
      split at he
      · rename_i cs hcs
        split at he
        · rename_i hc
          simp only [Option.some.injEq, Prod.mk.injEq] at he
          obtain ⟨rfl, rfl⟩ := he
          refine ⟨.st nm (splice cs off ap.cells), rfl, { go := fun s2 h1 h2 h3 => ?_, new := fun _ _ e => (by cases e), old := fun n' cs' e => ?_ }⟩
          · have e1 : p.ev s2 = p.ev s := ev_agree (fun t ht => h1 t (by simp [SOp.rd, ht]))
            have e3 : x.ev s2 = x.ev s := ev_agree (fun t ht => h1 t (by simp [SOp.rd, ht]))
            have e2 : s2.mem nm = s.mem nm := h2 nm (.inr rfl)
            simp only [absOp, e1, e3, hpt, hap, e2, hcs, ME.app, if_true]
            rw [if_pos hc]
          · cases e; exact ⟨rfl, by rw [hcs]; simp⟩
        · cases he
      · cases he
    · cases he
  | build z ps =>
    have hs : s' = s := by
      simp only [absOp] at he
      (repeat' split at he) <;> first | (cases he; rfl) | cases he
    subst hs
    refine ⟨.no, rfl, { go := fun s2 h1 _ _ => ?_, new := fun _ _ e => (by cases e), old := fun _ _ e => (by cases e) }⟩
    have e0 : fillA s2 z ps = fillA s' z ps := fillA_agree ps _ (fun t ht => h1 t ht)
    simp only [absOp] at he ⊢
    simp only [e0]
    (repeat' split at he) <;> first | (cases he; done) | (cases he; simp_all [ME.app]; done) | (simp_all [ME.app]; done)
  | fld off p =>
    have hs : s' = s := by
      simp only [absOp] at he
      (repeat' split at he) <;> first | (cases he; rfl) | cases he
    subst hs
    refine ⟨.no, rfl, { go := fun s2 h1 _ _ => ?_, new := fun _ _ e => (by cases e), old := fun _ _ e => (by cases e) }⟩
    have e0 : p.ev s2 = p.ev s' := ev_agree (fun t ht => h1 t (by simp [SOp.rd, ht]))
    simp only [absOp] at he ⊢
    simp only [e0]
    (repeat' split at he) <;> first | (cases he; done) | (cases he; simp_all [ME.app]; done) | (simp_all [ME.app]; done)
  | part agg off size x =>
    have hs : s' = s := by
      simp only [absOp] at he
      (repeat' split at he) <;> first | (cases he; rfl) | cases he
    subst hs
    refine ⟨.no, rfl, { go := fun s2 h1 _ _ => ?_, new := fun _ _ e => (by cases e), old := fun _ _ e => (by cases e) }⟩
    have e0 : x.ev s2 = x.ev s' := ev_agree (fun t ht => h1 t (by simp [SOp.rd, ht]))
    simp only [absOp] at he ⊢
    simp only [e0]
    (repeat' split at he) <;> first | (cases he; done) | (cases he; simp_all [ME.app]; done) | (simp_all [ME.app]; done)
  | bin op x y =>
    have hs : s' = s := by
      simp only [absOp] at he
      (repeat' split at he) <;> first | (cases he; rfl) | cases he
    subst hs
    refine ⟨.no, rfl, { go := fun s2 h1 _ _ => ?_, new := fun _ _ e => (by cases e), old := fun _ _ e => (by cases e) }⟩
    have e0 : x.ev s2 = x.ev s' := ev_agree (fun t ht => h1 t (by simp [SOp.rd, ht]))
    have e1 : y.ev s2 = y.ev s' := ev_agree (fun t ht => h1 t (by simp [SOp.rd, ht]))
    simp only [absOp] at he ⊢
    simp only [e0, e1]
    (repeat' split at he) <;> first | (cases he; done) | (cases he; simp_all [ME.app]; done) | (simp_all [ME.app]; done)
  | eqb ne x y =>
    have hs : s' = s := by
      simp only [absOp] at he
      (repeat' split at he) <;> first | (cases he; rfl) | cases he
    subst hs
    refine ⟨.no, rfl, { go := fun s2 h1 _ _ => ?_, new := fun _ _ e => (by cases e), old := fun _ _ e => (by cases e) }⟩
    have e0 : x.ev s2 = x.ev s' := ev_agree (fun t ht => h1 t (by simp [SOp.rd, ht]))
    have e1 : y.ev s2 = y.ev s' := ev_agree (fun t ht => h1 t (by simp [SOp.rd, ht]))
    simp only [absOp] at he ⊢
    simp only [e0, e1]
    (repeat' split at he) <;> first | (cases he; done) | (cases he; simp_all [ME.app]; done) | (simp_all [ME.app]; done)
  | eqs ne ks x y =>
    have hs : s' = s := by
      simp only [absOp] at he
      (repeat' split at he) <;> first | (cases he; rfl) | cases he
    subst hs
    refine ⟨.no, rfl, { go := fun s2 h1 _ _ => ?_, new := fun _ _ e => (by cases e), old := fun _ _ e => (by cases e) }⟩
    have e0 : x.ev s2 = x.ev s' := ev_agree (fun t ht => h1 t (by simp [SOp.rd, ht]))
    have e1 : y.ev s2 = y.ev s' := ev_agree (fun t ht => h1 t (by simp [SOp.rd, ht]))
    simp only [absOp] at he ⊢
    simp only [e0, e1]
    (repeat' split at he) <;> first | (cases he; done) | (cases he; simp_all [ME.app]; done) | (simp_all [ME.app]; done)
  | not x =>
    have hs : s' = s := by
      simp only [absOp] at he
      (repeat' split at he) <;> first | (cases he; rfl) | cases he
    subst hs
    refine ⟨.no, rfl, { go := fun s2 h1 _ _ => ?_, new := fun _ _ e => (by cases e), old := fun _ _ e => (by cases e) }⟩
    have e0 : x.ev s2 = x.ev s' := ev_agree (fun t ht => h1 t (by simp [SOp.rd, ht]))
    simp only [absOp] at he ⊢
    simp only [e0]
    (repeat' split at he) <;> first | (cases he; done) | (cases he; simp_all [ME.app]; done) | (simp_all [ME.app]; done)
  | neg x =>
    have hs : s' = s := by
      simp only [absOp] at he
      (repeat' split at he) <;> first | (cases he; rfl) | cases he
    subst hs
    refine ⟨.no, rfl, { go := fun s2 h1 _ _ => ?_, new := fun _ _ e => (by cases e), old := fun _ _ e => (by cases e) }⟩
    have e0 : x.ev s2 = x.ev s' := ev_agree (fun t ht => h1 t (by simp [SOp.rd, ht]))
    simp only [absOp] at he ⊢
    simp only [e0]
    (repeat' split at he) <;> first | (cases he; done) | (cases he; simp_all [ME.app]; done) | (simp_all [ME.app]; done)
  | cvt k x =>
    have hs : s' = s := by
      simp only [absOp] at he
      (repeat' split at he) <;> first | (cases he; rfl) | cases he
    subst hs
    refine ⟨.no, rfl, { go := fun s2 h1 _ _ => ?_, new := fun _ _ e => (by cases e), old := fun _ _ e => (by cases e) }⟩
    have e0 : x.ev s2 = x.ev s' := ev_agree (fun t ht => h1 t (by simp [SOp.rd, ht]))
    simp only [absOp] at he ⊢
    simp only [e0]
    (repeat' split at he) <;> first | (cases he; done) | (cases he; simp_all [ME.app]; done) | (simp_all [ME.app]; done)
  | ext x i =>
    have hs : s' = s := by
      simp only [absOp] at he
      (repeat' split at he) <;> first | (cases he; rfl) | cases he
    subst hs
    refine ⟨.no, rfl, { go := fun s2 h1 _ _ => ?_, new := fun _ _ e => (by cases e), old := fun _ _ e => (by cases e) }⟩
    have e0 : x.ev s2 = x.ev s' := ev_agree (fun t ht => h1 t (by simp [SOp.rd, ht]))
    simp only [absOp] at he ⊢
    simp only [e0]
    (repeat' split at he) <;> first | (cases he; done) | (cases he; simp_all [ME.app]; done) | (simp_all [ME.app]; done)
  | call f args =>
    have hs : s' = s := by
      simp only [absOp] at he
      (repeat' split at he) <;> first | (cases he; rfl) | cases he
    subst hs
    refine ⟨.no, rfl, { go := fun s2 h1 _ _ => ?_, new := fun _ _ e => (by cases e), old := fun _ _ e => (by cases e) }⟩
    have e0 : evArgs s2 args = evArgs s' args := evArgs_agree args (fun t ht => h1 t ht)
    simp only [absOp] at he ⊢
    simp only [e0]
    (repeat' split at he) <;> first | (cases he; done) | (cases he; simp_all [ME.app]; done) | (simp_all [ME.app]; done)
  | len x =>
    have hs : s' = s := by
      simp only [absOp] at he
      (repeat' split at he) <;> first | (cases he; rfl) | cases he
    subst hs
    refine ⟨.no, rfl, { go := fun s2 h1 _ _ => ?_, new := fun _ _ e => (by cases e), old := fun _ _ e => (by cases e) }⟩
    have e0 : x.ev s2 = x.ev s' := ev_agree (fun t ht => h1 t (by simp [SOp.rd, ht]))
    simp only [absOp] at he ⊢
    simp only [e0]
    (repeat' split at he) <;> first | (cases he; done) | (cases he; simp_all [ME.app]; done) | (simp_all [ME.app]; done)
  | idx e x i =>
    have hs : s' = s := by
      simp only [absOp] at he
      (repeat' split at he) <;> first | (cases he; rfl) | cases he
    subst hs
    refine ⟨.no, rfl, { go := fun s2 h1 _ _ => ?_, new := fun _ _ e => (by cases e), old := fun _ _ e => (by cases e) }⟩
    have e0 : x.ev s2 = x.ev s' := ev_agree (fun t ht => h1 t (by simp [SOp.rd, ht]))
    have e1 : i.ev s2 = i.ev s' := ev_agree (fun t ht => h1 t (by simp [SOp.rd, ht]))
    simp only [absOp] at he ⊢
    simp only [e0, e1]
    (repeat' split at he) <;> first | (cases he; done) | (cases he; simp_all [ME.app]; done) | (simp_all [ME.app]; done)
  | sl x lo hi =>
    have hs : s' = s := by
      simp only [absOp] at he
      (repeat' split at he) <;> first | (cases he; rfl) | cases he
    subst hs
    refine ⟨.no, rfl, { go := fun s2 h1 _ _ => ?_, new := fun _ _ e => (by cases e), old := fun _ _ e => (by cases e) }⟩
    have e0 : x.ev s2 = x.ev s' := ev_agree (fun t ht => h1 t (by simp [SOp.rd, ht]))
    have e1 : ∀ d, optI s2 lo d = optI s' lo d := fun d => optI_agree (fun t ht => h1 t (by simp [SOp.rd, ht]))
    have e2 : ∀ d, optI s2 hi d = optI s' hi d := fun d => optI_agree (fun t ht => h1 t (by simp [SOp.rd, ht]))
    simp only [absOp] at he ⊢
    simp only [e0, e1, e2]
    (repeat' split at he) <;> first | (cases he; done) | (cases he; simp_all [ME.app]; done) | (simp_all [ME.app]; done)
  | min x y =>
    have hs : s' = s := by
      simp only [absOp] at he
      (repeat' split at he) <;> first | (cases he; rfl) | cases he
    subst hs
    refine ⟨.no, rfl, { go := fun s2 h1 _ _ => ?_, new := fun _ _ e => (by cases e), old := fun _ _ e => (by cases e) }⟩
    have e0 : x.ev s2 = x.ev s' := ev_agree (fun t ht => h1 t (by simp [SOp.rd, ht]))
    have e1 : y.ev s2 = y.ev s' := ev_agree (fun t ht => h1 t (by simp [SOp.rd, ht]))
    simp only [absOp] at he ⊢
    simp only [e0, e1]
    split at he
    · simp only [Option.some.injEq, Prod.mk.injEq] at he
      obtain ⟨rfl, _⟩ := he
      rfl
    · cases he
  | str x =>
    have hs : s' = s := by
      simp only [absOp] at he
      (repeat' split at he) <;> first | (cases he; rfl) | cases he
    subst hs
    refine ⟨.no, rfl, { go := fun s2 h1 _ _ => ?_, new := fun _ _ e => (by cases e), old := fun _ _ e => (by cases e) }⟩
    have e0 : x.ev s2 = x.ev s' := ev_agree (fun t ht => h1 t (by simp [SOp.rd, ht]))
    simp only [absOp] at he ⊢
    simp only [e0]
    (repeat' split at he) <;> first | (cases he; done) | (cases he; simp_all [ME.app]; done) | (simp_all [ME.app]; done)
  | eqt ne x y =>
    have hs : s' = s := by
      simp only [absOp] at he
      (repeat' split at he) <;> first | (cases he; rfl) | cases he
    subst hs
    refine ⟨.no, rfl, { go := fun s2 h1 _ _ => ?_, new := fun _ _ e => (by cases e), old := fun _ _ e => (by cases e) }⟩
    have e0 : x.ev s2 = x.ev s' := ev_agree (fun t ht => h1 t (by simp [SOp.rd, ht]))
    have e1 : y.ev s2 = y.ev s' := ev_agree (fun t ht => h1 t (by simp [SOp.rd, ht]))
    simp only [absOp] at he ⊢
    simp only [e0, e1]
    split at he
    · simp only [Option.some.injEq, Prod.mk.injEq] at he
      obtain ⟨rfl, _⟩ := he
      rfl
    · cases he
  | mkS t z n =>
    simp only [absOp] at he
    split at he
    · rename_i n' k m hj
      split at he
      · rename_i hn
        split at he
        · rename_i hj0
          simp only [Option.some.injEq, Prod.mk.injEq] at he
          obtain ⟨rfl, rfl⟩ := he
          refine ⟨.nw n' (List.replicate m.toNat (.v z)), rfl, { go := fun s2 h1 h2 h3 => ?_, new := fun n'' cs e => ?_, old := fun _ _ e => (by cases e) }⟩
          · have e1 : n.ev s2 = n.ev s := ev_agree h1
            simp only [absOp, e1, hj, h3 n' _ rfl, hj0, ME.app]
            simp
          · cases e; exact ⟨rfl, rfl, hn⟩
        · cases he
      · cases he
    · cases he
  | bldS t z n ps =>
    simp only [absOp] at he
    split at he
    · rename_i n' cs hj
      split at he
      · rename_i hn
        simp only [Option.some.injEq, Prod.mk.injEq] at he
        obtain ⟨rfl, rfl⟩ := he
        refine ⟨.nw n' cs, rfl, { go := fun s2 h1 h2 h3 => ?_, new := fun n'' cs e => ?_, old := fun _ _ e => (by cases e) }⟩
        · have e0 : fillA s2 z ps = fillA s z ps := fillA_agree ps _ (fun t ht => h1 t ht)
          simp only [absOp, e0, hj, h3 n' _ rfl, ME.app]
        · cases e; exact ⟨rfl, rfl, hn⟩
      · cases he
    · cases he
  | callF f args =>
    simp only [absOp] at he
    split at he
    · rename_i n' as has
      split at he
      case isFalse => cases he
      rename_i hf
      split at he
      · rename_i t n hn hr
        simp only [Option.some.injEq, Prod.mk.injEq] at he
        obtain ⟨rfl, rfl⟩ := he
        refine ⟨.nw n' [], rfl, { go := fun s2 h1 h2 h3 => ?_, new := fun n'' cs e => ?_, old := fun _ _ e => (by cases e) }⟩
        · have e0 : evArgs s2 args = evArgs s args := evArgs_agree args (fun t ht => h1 t ht)
          simp only [absOp, e0, has, h3 n' _ rfl, hf, if_true, hr, ME.app]
        · cases e; exact ⟨rfl, rfl, hn⟩
      · cases he
    · cases he
  | app t x y => cases hh
  | callR f args => cases hh
end Go.VC

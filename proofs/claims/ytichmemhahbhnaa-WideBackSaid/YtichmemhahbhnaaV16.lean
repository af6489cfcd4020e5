/- Specifications of functions, in a list. -/
import Derived.Test.YtichmemhahbhnaaV15
set_option linter.unusedVariables false
set_option linter.unusedSimpArgs false
namespace Go.VC
open Go.RowKit

theorem enters {P : Program} {f : Nat} {fn : Func} (hf : P.funcs[f]? = some fn) (hn : (fn.name == "runtime.NumGoroutine") = false) (hb : fn.body.isNone = false) : Enters P f := by
  intro args w
  have h1 : fn.name ≠ "runtime.NumGoroutine" := by simpa using hn
  have h2 : ¬ (fn.body.isNone = true) := by simp [hb]
  have h3 : fn.body ≠ none := by simpa using h2
  simp [callFunc, hf, h1, h3]

/-! ### A list of specifications -/
def spOf : List (Nat × (List AP → Option AV)) → Spec
  | [], _, _ => none
  | (g, s) :: l, f, as => if f = g then s as else spOf l f as
/-- Function f does what s tells. -/
def Ok (P : Program) (f : Nat) (s : List AP → Option AV) : Prop :=
  ∀ as r, s as = some r → (Enters P f ∧ Meets P f as r) ∨ Inline P f as r ∨ (Enters P f ∧ Fresh P f as r)
theorem specOk_nil {P : Program} : SpecOk P (spOf []) := fun f as r h => by cases h
theorem specOk_cons {P : Program} {g : Nat} {s : List AP → Option AV} {l : List (Nat × (List AP → Option AV))} (h : Ok P g s) (hl : SpecOk P (spOf l)) : SpecOk P (spOf ((g, s) :: l)) := fun f as r hr => by
  simp only [spOf] at hr
  split at hr
  · rename_i hfg
    subst hfg
    exact h as r hr
  · exact hl f as r hr
theorem ok_of {P : Program} {sp : Spec} {f : Nat} {fn : Func} {sf : SF} {s : List AP → Option AV} (hf : P.funcs[f]? = some fn) (hent : Enters P f) (hchk : chkFn P fn sf = true) (hsp : SpecOk P sp)
    (h : ∀ as r, s as = some r → as.length ≤ sf.ntmps ∧ ∃ k, absFn sp k sf as = some r) : Ok P f s := fun as r hr => by
  obtain ⟨h1, k, h2⟩ := h as r hr
  exact .inl ⟨hent, meets_of k hf hchk hsp h1 h2⟩
end Go.VC

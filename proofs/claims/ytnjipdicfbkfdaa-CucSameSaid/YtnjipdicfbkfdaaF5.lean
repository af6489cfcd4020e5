/- Rows of octets, put together: slices.Concat, and the reference's join. -/
import Derived.Test.YtnjipdicfbkfdaaF3
set_option linter.unusedVariables false
set_option linter.unusedSimpArgs false
set_option maxHeartbeats 2000000
set_option maxRecDepth 100000
namespace Go.Proofs.Ytnjipdicfbkfdaa.E
open Go.VC Go.RowKit

/-! ### A function that gives a new row -/
def doneF (f : SF) (t : RT) (n : Nat) : AX → St → Prop
  | .n, s => absRes s f.res = some [.c (.s t n 0)]
  | .e _, _ => False
  | .r, s => absRes s f.res = some [.c (.s t n 0)]
theorem doneF_n {f : SF} {t : RT} {n : Nat} {s : St} : doneF f t n .n s = (absRes s f.res = some [.c (.s t n 0)]) := _root_.id rfl
theorem doneF_r {f : SF} {t : RT} {n : Nat} {s : St} : doneF f t n .r s = (absRes s f.res = some [.c (.s t n 0)]) := _root_.id rfl
attribute [simp] doneF_n doneF_r
theorem absFnF_of {sp : VC.Spec} {k : Nat} {f : SF} {av : List AP} {t : RT} {n : Nat} (h : codeW sp k f.code (st0 av) (doneF f t n)) : absFnF sp k f av = some (t, n) := by
  unfold absFnF
  unfold codeW EndsIn at h
  cases hc : absCode sp k f.code (st0 av) with
  | none => rw [hc] at h; exact h.elim
  | some x =>
    obtain ⟨ax, s⟩ := x
    rw [hc] at h
    cases ax with
    | n => have h : absRes s f.res = _ := h; simp only [h]
    | e i => exact h.elim
    | r => have h : absRes s f.res = _ := h; simp only [h]
def tGrow : List AP → Option AV
  | [.c (.nil .u8), .c (.v (.int .i64 n))] => if 0 < n ∧ n ≤ 1000000000 then some (.o (.c (.s ⟨5, 1, some .u8⟩ 22 0))) else none
  | _ => none
theorem okGrow : Ok Try.prog 109 tGrow := fun av r h => by
  unfold tGrow at h
  split at h
  · rename_i n
    split at h
    · rename_i hn
      cases h
      refine .inr (.inr ⟨slices_Grow_byte_byte.ent, fresh_of 0 Try.func109 slices_Grow_byte_byte.chk specOk_nil (by simp [slices_Grow_byte_byte.c]) (absFnF_of ?_)⟩)
      have w0 : IntKind.i64.wrap 0 = 0 := rfl
      have w1 : IntKind.i64.wrap n = n := wrap_i64_in (by omega) (by omega)
      have h1 : ¬ n < 0 := by omega
      have h2 : 0 < n := hn.1
      have h3 : n ≤ 1000000000 := hn.2
      have h4 : 0 ≤ n := by omega
      simp [slices_Grow_byte_byte.c, w0, w1, h1, h2, h3, h4]
      omega
    · cases h
  · cases h
/-! ### Rows of octets, in a row -/
def rowsOf : List QC → Option (List (List Int))
  | [] => some []
  | .r .u8 l :: cs => match rowsOf cs with
    | some ls => if allB l then some (l :: ls) else none
    | none => none
  | _ => none
theorem rowsOf_nil : rowsOf [] = some [] := _root_.id rfl
theorem rowsOf_cons {l : List Int} {cs : List QC} : rowsOf (.r .u8 l :: cs) = match rowsOf cs with
    | some ls => if allB l then some (l :: ls) else none
    | none => none := _root_.id rfl
theorem rowsOf_some : ∀ {cs : List QC} {ls : List (List Int)}, rowsOf cs = some ls → cs = ls.map (QC.r .u8) ∧ ∀ l ∈ ls, allB l
  | [], ls, h => by cases h; exact ⟨rfl, fun _ h => by cases h⟩
  | .v x :: cs, ls, h => by cases h
  | .r k l :: cs, ls, h => by
    cases k with
    | u8 =>
      rw [rowsOf_cons] at h
      split at h
      · rename_i ls' hl
        split at h
        · rename_i hb
          cases h
          obtain ⟨h1, h2⟩ := rowsOf_some hl
          refine ⟨by rw [h1]; rfl, fun l' hl' => ?_⟩
          rcases List.mem_cons.1 hl' with rfl | hl'
          · exact hb
          · exact h2 l' hl'
        · cases h
      · cases h
    | _ => cases h
theorem rowsOf_map : ∀ {ls : List (List Int)}, (∀ l ∈ ls, allB l) → rowsOf (ls.map (QC.r .u8)) = some ls
  | [], _ => rfl
  | l :: ls, h => by
    rw [List.map_cons, rowsOf_cons, rowsOf_map (fun l' hl' => h l' (by simp [hl']))]
    simp only
    rw [if_pos (h l (by simp))]
def vQ : AP → Bool
  | .c (.q 1 cs) => (rowsOf cs).isSome
  | _ => false
def tQ : AP → List (List Int)
  | .c (.q _ cs) => (rowsOf cs).getD []
  | _ => []
theorem vQ_q {cs : List QC} : vQ (.c (.q 1 cs)) = (rowsOf cs).isSome := _root_.id rfl
theorem tQ_q {m : Nat} {cs : List QC} : tQ (.c (.q m cs)) = (rowsOf cs).getD [] := _root_.id rfl
def coQ : Co (List (List Int)) where
  e := fun ls => .c (.q 1 (ls.map (QC.r .u8)))
  p := fun ls => ∀ l ∈ ls, allB l
  v a := vQ a = true
  dv a := inferInstance
  t := tQ
  some {a} h := by
    unfold vQ at h
    split at h
    · rename_i cs
      obtain ⟨ls, hl⟩ := Option.isSome_iff_exists.1 h
      obtain ⟨h1, h2⟩ := rowsOf_some hl
      simp only [tQ, hl, Option.getD_some]
      exact ⟨by rw [h1], h2⟩
    · cases h
  enc {x} h := ⟨by rw [vQ_q, rowsOf_map h]; rfl, by rw [tQ_q, rowsOf_map h]; rfl⟩
theorem coQ_e {x : List (List Int)} : coQ.e x = .c (.q 1 (x.map (QC.r .u8))) := _root_.id rfl
theorem coQ_p {x : List (List Int)} : coQ.p x = ∀ l ∈ x, allB l := _root_.id rfl
theorem coQ_v {a : AP} : coQ.v a = (vQ a = true) := _root_.id rfl
theorem coQ_t {a : AP} : coQ.t a = tQ a := _root_.id rfl
theorem qac_r {e : IntKind} {l : List Int} : (QC.r e l).ac = .r e l := _root_.id rfl
attribute [simp] qac_r coQ_e coQ_p coQ_v coQ_t vQ_q tQ_q rowsOf_nil rowsOf_cons
abbrev tConcat := s1 coQ (fun ls => 0 < ls.flatten.length ∧ ls.flatten.length ≤ 1000 ∧ ls.length ≤ 1000) fun ls => .o (.c (.r .u8 ls.flatten))
theorem known_c8 (l : List Int) : ∀ x, x ∈ c8 l → (match x with | AC.u => false | _ => true) = true := fun x hx => by
  simp only [c8, List.mem_map] at hx
  obtain ⟨y, _, rfl⟩ := hx
  rfl
theorem flat_take (ls : List (List Int)) (i : Nat) (h : i < ls.length) : (ls.take (i + 1)).flatten = (ls.take i).flatten ++ ls[i] := by
  rw [List.take_add_one, List.getElem?_eq_getElem h, List.flatten_append, Option.toList_some, List.flatten_cons, List.flatten_nil, List.append_nil]
theorem flat_le (ls : List (List Int)) (i : Nat) : (ls.take i).flatten.length ≤ ls.flatten.length := by
  conv => rhs; rw [← List.take_append_drop i ls]
  rw [List.flatten_append, List.length_append]
  omega
theorem okConcat : Ok Try.prog 69 tConcat := ok1 (code_mk Try.func69 slices_Concat_byte_byte.ent slices_Concat_byte_byte.chk (specOk_cons okGrow specOk_nil)) (by simp [slices_Concat_byte_byte.c]) fun ls _ hg => by
  obtain ⟨g1, g2, g3⟩ := hg
  refine ⟨2000, ?_⟩
  simp [-List.length_flatten, slices_Concat_byte_byte.c]
  refine loopW_iter (fun i s => s.tm 0 = .o (.c (.q 1 (ls.map (QC.r .u8)))) ∧ s.tm 9 = .o (.c (.q 1 (ls.map (QC.r .u8)))) ∧ s.tm 10 = .o (.c (.v (.int .i64 (ls.length : Int)))) ∧ s.tm 11 = .o (.c (.v (.int .i64 (i : Int)))) ∧ s.tm 3 = .o (.c (.v (.int .i64 (((ls.take i).flatten.length : Int))))) ∧ s.mem 24 = none ∧ s.mem 33 = none) ls.length ?_ ?_ 2000 _ (by omega) ?_
  · rintro i s hi ⟨t0, t9, t10, t11, t3, m24, m33⟩
    have hf := flat_take ls i hi
    have hle := flat_le ls (i + 1)
    rw [hf, List.length_append] at hle
    have w1 : IntKind.i64.wrap (((ls.take i).flatten.length : Int) + (ls[i].length : Int)) = ((ls.take i).flatten.length : Int) + (ls[i].length : Int) := wrap_i64_in (by omega) (by omega)
    have w2 : IntKind.i64.wrap ((i : Int) + 1) = (i : Int) + 1 := wrap_i64_in (by omega) (by omega)
    have c1 : ¬ (((ls.take i).flatten.length : Int) + (ls[i].length : Int)) < 0 := by omega
    have c2 : i + 1 ≤ ls.length := hi
    have c3 : 1 ≤ ls.length - i := by omega
    simp [-List.length_flatten, slices_Concat_byte_byte.l1, t0, t9, t10, t11, t3, m24, m33, hi, w1, w2, c1, c2, c3, hf]
  · rintro s ⟨t0, t9, t10, t11, t3, m24, m33⟩
    rw [List.take_of_length_le (Nat.le_refl _)] at t3
    have c1 : (0 : Int) < (ls.flatten.length : Int) := by omega
    have c2 : (ls.flatten.length : Int) ≤ 1000000000 := by omega
    simp [-List.length_flatten, slices_Concat_byte_byte.l1, t0, t9, t10, t11, t3, m24, m33, tGrow, c1, c2, g1]
    refine loopW_iter (fun i s => s.tm 25 = .o (.c (.q 1 (ls.map (QC.r .u8)))) ∧ s.tm 26 = .o (.c (.v (.int .i64 (ls.length : Int)))) ∧ s.tm 27 = .o (.c (.v (.int .i64 (i : Int)))) ∧ ∃ q : Nat, (q = 33 ∨ (q = 24 ∧ s.mem 33 = none)) ∧ s.tm 6 = .o (.c (.s ⟨5, 1, some .u8⟩ q (ls.take i).flatten.length)) ∧ s.mem q = some (c8 (ls.take i).flatten)) ls.length ?_ ?_ 2000 _ (by omega) ?_
    · rintro i s hi ⟨t25, t26, t27, q, hq, t6, mq⟩
      have hf := flat_take ls i hi
      have hle := flat_le ls (i + 1)
      rw [hf, List.length_append] at hle
      have w2 : IntKind.i64.wrap ((i : Int) + 1) = (i : Int) + 1 := wrap_i64_in (by omega) (by omega)
      have c2 : i + 1 ≤ ls.length := hi
      have c3 : 1 ≤ ls.length - i := by omega
      have c4 : (ls.take i).flatten.length + ls[i].length ≤ 1000000000000 := by omega
      have tk : List.take (ls.take i).flatten.length (c8 (ls.take i).flatten) = c8 (ls.take i).flatten := List.take_of_length_le (by simp)
      rcases hq with rfl | ⟨rfl, m33⟩
      · simp [-List.length_flatten, slices_Concat_byte_byte.l2, t25, t26, t27, t6, mq, hi, w2, c2, c3, c4, hf, tk]
        exact known_c8 _
      · simp [-List.length_flatten, slices_Concat_byte_byte.l2, t25, t26, t27, t6, mq, m33, hi, w2, c2, c3, c4, hf, tk]
        exact known_c8 _
    · rintro s ⟨t25, t26, t27, q, hq, t6, mq⟩
      rw [List.take_of_length_le (Nat.le_refl _)] at t6 mq
      have tk : List.take ls.flatten.length ls.flatten = ls.flatten := List.take_of_length_le (Nat.le_refl _)
      rcases hq with rfl | ⟨rfl, m33⟩
      · simp [-List.length_flatten, slices_Concat_byte_byte.l2, t25, t26, t27, t6, mq, tk]
      · simp [-List.length_flatten, slices_Concat_byte_byte.l2, t25, t26, t27, t6, mq, tk]
    · simp
      exact ⟨24, ⟨rfl, m33⟩, rfl, rfl⟩
  · simp
end Go.Proofs.Ytnjipdicfbkfdaa.E

/- When compact code is a given code; the relation between what is known and what is. -/
import Derived.Test.YtichmemhahbhnaaV2
set_option linter.unusedVariables false
set_option linter.unusedSimpArgs false
namespace Go.VC
open Go.RowKit

/-! ### Is this compact operation that operation? -/
def chkCell : Value → Value → Bool
  | .int k n, .int k' n' => decide (k = k') && decide (n = n')
  | .bool b, .bool b' => b == b'
  | .string s, .string s' => decide (s.data.toList = s'.data.toList)
  | _, _ => false
def chkAC : Value → AC → Bool
  | v, .v x => chkCell v x
  | .slice none 0 0, .nil _ => true
  | _, _ => false
def chkCells : List Value → List AC → Bool
  | [], [] => true
  | v :: vs, a :: as => chkAC v a && chkCells vs as
  | _, _ => false
def chkSA : Operand → SA → Bool
  | .tmp n, .t m => n == m
  | .const (.agg cs), .g xs => chkCells cs.toList xs
  | .const v, .k x => chkCell v x
  | .const (.slice none 0 0), .nil _ => true
  | _, _ => false
def chkArgs : List Operand → List SA → Bool
  | [], [] => true
  | x :: xs, y :: ys => chkSA x y && chkArgs xs ys
  | _, _ => false
def chkOpt : Option Operand → Option SA → Bool
  | none, none => true
  | some x, some y => chkSA x y
  | _, _ => false
def sizeP (P : Program) (t : TypeId) : Option Nat := (P.info? t).map (·.size)
def rowP (P : Program) (t : TypeId) : Option Bool := (P.underlying t).map (·.isRow)
def kindP (P : Program) (t : TypeId) : Option IntKind := match P.underlying t with | some (.int k) => some k | _ => none
def boolP (P : Program) (t : TypeId) : Bool := match P.underlying t with | some .bool => true | _ => false
def fieldP (P : Program) (t : TypeId) (i : Nat) : Option Field := match P.underlying t with | some (.struct fs) => fs[i]? | _ => none
def structP (P : Program) (t : TypeId) : Option (Array Field) := match P.underlying t with | some (.struct fs) => some fs | _ => none
def elemP (P : Program) (t : TypeId) : Option TypeId := match P.underlying t with | some (.slice e) => some e | _ => none
def chkParts (P : Program) (fs : Array Field) : List (Nat × Operand) → List (Nat × Nat × SA) → Bool
  | [], [] => true
  | (i, x) :: xs, (off, size, y) :: ys => (match fs[i]? with | some f => f.offset == off && sizeP P f.type == some size | none => false) && chkSA x y && chkParts P fs xs ys
  | _, _ => false
def eqFs (rec_ : TypeId → Option (List IntKind)) : Nat → List Field → Option (List IntKind)
  | _, [] => some []
  | off, f :: fs => if f.name ≠ "_" ∧ f.offset = off then
      match rec_ f.type with
      | some ks => match eqFs rec_ (off + ks.length) fs with
        | some l => some (ks ++ l)
        | none => none
      | none => none
    else none
/-- The kinds of a struct's cells, if all are whole numbers and '==' holds cell against cell. -/
def eqKinds (P : Program) : Nat → TypeId → Option (List IntKind)
  | 0, _ => none
  | d + 1, t =>
    match P.underlying t with
    | some (.int k) => if sizeP P t = some 1 then some [k] else none
    | some (.struct fs) => if P.stoodInHeld t = false then
        match eqFs (eqKinds P d) 0 fs.toList with
        | some ks => if sizeP P t = some ks.length then some ks else none
        | none => none
      else none
    | _ => none

/-- A slice's element is told by t. -/
def chkRT (P : Program) (ty : TypeId) (t : RT) : Bool :=
  match elemP P ty with
  | some e => e == t.e && sizeP P e == some t.m && decide (0 < t.m) && (match P.info? e with
    | some i => decide (i.bytes ≤ 128) && (match i.zero with | some z => z.cells.size == t.m | none => false)
    | none => false)
  | none => false
def chkPartsS (m : Nat) : List (Nat × Operand) → List (Nat × Nat × SA) → Bool
  | [], [] => true
  | (i, x) :: xs, (off, size, y) :: ys => off == i * m && size == m && chkSA x y && chkPartsS m xs ys
  | _, _ => false
def zerosP (P : Program) (e : TypeId) (n : Nat) : List Value := match (P.info? e).bind (·.zero) with
  | some z => (List.range n).map (fun i => z.cells[i % z.cells.size]!)
  | none => []
def strP (P : Program) (t : TypeId) : Bool := match P.underlying t with | some .string => true | _ => false
/-- All fields' sizes are known. -/
def sizesP (P : Program) (t : TypeId) : Bool := match structP P t with | some fs => fs.toList.all fun f => (sizeP P f.type).isSome | none => false
def chkOp (P : Program) : Op → SOp → Bool
  | .move x, .mv y => chkSA x y
  | .assign x, .mv y => chkSA x y
  | .pick c a b, .pick c' a' b' => chkSA c c' && chkSA a a' && chkSA b b'
  | .alloc t, .alloc z => match (P.info? t).bind (·.zero) with | some v => chkCells v.cells.toList z | none => false
  | .box _ x, .box y => chkSA x y
  | .build t ps, .build z parts => sizesP P t && (match (P.info? t).bind (·.zero) with | some v => chkCells v.cells.toList z | none => false) && (match structP P t with | some fs => chkParts P fs ps.toList parts | none => false)
  | .load t p, .load agg size q _ => rowP P t == some agg && sizeP P t == some size && (agg || size == 1) && chkSA p q
  | .store t p x, .store size q y _ => sizeP P t == some size && chkSA p q && chkSA x y
  | .fieldAddr t x i, .fld off q => (match fieldP P t i with | some f => f.offset == off && (match sizeP P f.type with | some n => n != 0 | none => false) | none => false) && chkSA x q
  | .field t x i, .part agg off size q => (match fieldP P t i with | some f => f.offset == off && rowP P f.type == some agg && sizeP P f.type == some size && (agg || size == 1) | none => false) && chkSA x q
  | .binOp op _ x y _, .bin op' x' y' => decide (op = op') && chkSA x x' && chkSA y y'
  | .binOp op t x y _, .eqb ne x' y' => boolP P t && decide (op = if ne then .neq else .eql) && chkSA x x' && chkSA y y'
  | .binOp op t x y _, .eqs ne ks x' y' => (structP P t).isSome && eqKinds P 5 t == some ks && !P.eqGuardType P.depth t && decide (op = if ne then .neq else .eql) && chkSA x x' && chkSA y y'
  | .unOp .not _ x, .not y => chkSA x y
  | .unOp .neg _ x, .neg y => chkSA x y
  | .convert s d x, .cvt k y => (P.underlying s).isSome && kindP P d == some k && chkSA x y
  | .extract x i, .ext y j => i == j && chkSA x y
  | .call c, .call f args => (match c.callee with | .value (.func g) => g == f | _ => false) && chkArgs c.args.toList args
  | .call c, .len y => (match c.callee with | .builtin .len => true | _ => false) && (match c.args.toList, c.argTypes[0]? with | [x], some t => (elemP P t).isSome && chkSA x y | _, _ => false)
  | .indexAddr t x i, .idx m y j => (match elemP P t with | some el => sizeP P el == some m | none => false) && chkSA x y && chkSA i j
  | .slice t x lo hi none, .sl y lo' hi' => (match elemP P t with | some el => sizeP P el == some 1 | none => false) && chkSA x y && chkOpt lo lo' && chkOpt hi hi'
  | .call c, .min y y' => (match c.callee with | .builtin .min => true | _ => false) && chkArgs c.args.toList [y, y']
  | .convert s d x, .str y => (match elemP P s with | some el => kindP P el == some .u8 | none => false) && strP P d && chkSA x y
  | .binOp op t x y _, .eqt ne x' y' => strP P t && decide (op = if ne then .neq else .eql) && chkSA x x' && chkSA y y'
  | .makeSlice ty l c, .mkS t z n => chkRT P ty t && t.m == 1 && chkCells (zerosP P t.e 1) [.v z] && chkSA l n && chkSA c n
  | .buildSlice ty n ps, .bldS t z n' parts => chkRT P ty t && n == n' && decide (n * t.m ≤ 16777216) && chkCells (zerosP P t.e (n * t.m)) z && chkPartsS t.m ps.toList parts
  | .call c, .app t x y => (match c.callee with | .builtin .append => true | _ => false) && (match c.argTypes.toList with | [t1, t2] => t1 == t2 && chkRT P t1 t | _ => false) && chkArgs c.args.toList [x, y]
  | .call c, .callR f args => (match c.callee with | .value (.func g) => g == f | _ => false) && chkArgs c.args.toList args
  | .call c, .callF f args => (match c.callee with | .value (.func g) => g == f | _ => false) && chkArgs c.args.toList args
  | _, _ => false

/-! ### The relation between what is known and what is -/
def own (S0 : Nat → Prop) (μ : Nat → Nat) (mem : Nat → Option (List AC)) : Lie :=
  { S := fun b => S0 b ∨ ∃ n, mem n ≠ none ∧ μ n = b, μ := μ, D := fun n => mem n ≠ none }

structure Rel (S0 : Nat → Prop) (w0 : World) (N : Nat) (μ : Nat → Nat) (s : St) (a : Act) (w : World) : Prop where
  tmp : ∀ t, (s.tm t).rep (own S0 μ s.mem) w (a.tmps.getD t undef)
  mem : ∀ n cs, s.mem n = some cs → w0.heap.size ≤ μ n ∧ ∃ (ys zs : List Value) (T : TypeId), w.heap[μ n]? = some (.cells (ys ++ zs).toArray T (0, 0)) ∧ repL (own S0 μ s.mem) w cs ys
  inj : ∀ n m, s.mem n ≠ none → s.mem m ≠ none → μ n = μ m → n = m
  below : Below w0.heap.size w0 w
  defers : a.defers = []
  size : a.tmps.size = N

section
variable {P : Program} {S0 : Nat → Prop} {w0 : World} {N : Nat} {μ : Nat → Nat} {s : St} {a : Act} {w : World}

theorem chkCell_eq {v x : Value} (h : chkCell v x = true) : v = x ∧ v.oneCell' = true := by
  unfold chkCell at h
  split at h
  · simp at h; obtain ⟨rfl, rfl⟩ := h; exact ⟨rfl, rfl⟩
  · simp at h; subst h; exact ⟨rfl, rfl⟩
  · rename_i a b
    have : a.data = b.data := by
      have := of_decide_eq_true h
      exact Array.ext' this
    cases a; cases b; cases this
    exact ⟨rfl, rfl⟩
  · cases h
theorem chkAC_rep {L : Lie} {v : Value} {x : AC} (h : chkAC v x = true) : x.rep L w v := by
  unfold chkAC at h
  split at h
  · obtain ⟨rfl, h1⟩ := chkCell_eq h; exact ⟨rfl, h1⟩
  · rfl
  · cases h
theorem chkCells_rep {L : Lie} : ∀ {vs : List Value} {xs : List AC}, chkCells vs xs = true → repL L w xs vs
  | [], [], _ => trivial
  | [], _ :: _, h => by cases h
  | _ :: _, [], h => by cases h
  | v :: vs, x :: xs, h => by
    simp only [chkCells, Bool.and_eq_true] at h
    exact ⟨chkAC_rep h.1, chkCells_rep h.2⟩
theorem Rel.ev (R : Rel S0 w0 N μ s a w) {x : Operand} {y : SA} (h : chkSA x y = true) : (y.ev s).rep (own S0 μ s.mem) w (a.eval x) := by
  unfold chkSA at h
  split at h
  · rename_i n m
    have : n = m := by simpa using h
    subst this
    exact R.tmp n
  · rename_i cs xs
    exact ⟨cs.toList, by simp [Act.eval], chkCells_rep h⟩
  · obtain ⟨rfl, h1⟩ := chkCell_eq h
    exact ⟨rfl, h1⟩
  · rfl
  · cases h
theorem Rel.val (R : Rel S0 w0 N μ s a w) {x : Operand} {y : SA} (h : chkSA x y = true) {v : Value} (hv : (y.ev s).val = some v) : a.eval x = v ∧ v.oneCell' = true := by
  have := R.ev h
  unfold AV.val at hv
  split at hv
  · rename_i z hz
    cases hv
    rw [hz] at this
    exact this
  · cases hv
theorem Rel.ptr (R : Rel S0 w0 N μ s a w) {x : Operand} {y : SA} (h : chkSA x y = true) {n off : Nat} (hv : (y.ev s).ptr = some (n, off)) : a.eval x = .pointer (some ⟨μ n, off, none⟩) ∧ s.mem n ≠ none := by
  have := R.ev h
  unfold AV.ptr at hv
  split at hv
  · rename_i z1 z2 hz
    cases hv
    rw [hz] at this
    exact ⟨this.2, this.1⟩
  · cases hv
theorem Rel.part (R : Rel S0 w0 N μ s a w) {x : Operand} {y : SA} (h : chkSA x y = true) {v : AP} (hv : (y.ev s).part = some v) : v.rep (own S0 μ s.mem) w (a.eval x) := by
  have := R.ev h
  unfold AV.part at hv
  split at hv
  · rename_i z hz
    cases hv
    rw [hz] at this
    exact this
  · cases hv
theorem Rel.agg (R : Rel S0 w0 N μ s a w) {x : Operand} {y : SA} (h : chkSA x y = true) {cs : List AC} (hv : (y.ev s).agg = some cs) : ∃ ys : List Value, a.eval x = .agg ys.toArray ∧ repL (own S0 μ s.mem) w cs ys := by
  have := R.ev h
  unfold AV.agg at hv
  split at hv
  · rename_i z hz
    cases hv
    rw [hz] at this
    exact this
  · cases hv
theorem Rel.row (R : Rel S0 w0 N μ s a w) {x : Operand} {y : SA} (h : chkSA x y = true) {e : IntKind} {l : List Int} (hv : (y.ev s).row e = some l) : Reads (own S0 μ s.mem).S w e (a.eval x) l := by
  have := R.ev h
  unfold AV.row at hv
  split at hv
  · rename_i e' l' hz
    rw [hz] at this
    split at hv
    · rename_i he
      cases hv
      subst he
      exact this
    · cases hv
  · rename_i hz
    cases hv
    rw [hz] at this
    exact .inl ⟨this, rfl⟩
  · cases hv
theorem AP.rep_cells {L : Lie} {x : AP} {y : Value} (h : x.rep L w y) (hk : x.ok = true) : repL L w x.cells y.cells.toList := by
  cases x with
  | c a =>
    have hk' : a.known = true := by cases a <;> first | rfl | cases hk
    have h1 := AC.known_one hk' h
    have : y.cells = #[y] := by cases y <;> first | rfl | cases h1
    rw [this]
    exact ⟨h, trivial⟩
  | g cs =>
    obtain ⟨ys, rfl, h⟩ := h
    simpa [AP.cells, Value.cells] using h
end
end Go.VC

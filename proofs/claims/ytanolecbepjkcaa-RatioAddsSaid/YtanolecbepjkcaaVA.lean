/- A small evaluator of the program's functions, with values told in part, and that it is sound. -/
import Derived.Deep.MidRow
import Derived.Below
import Derived.Orders
import Derived.Laws.StructEq
import Derived.Laws.BytesArg
import Derived.Laws.OwnMore
import Derived.Great.BuildSlice
import Derived.LoopN
set_option linter.unusedVariables false
set_option linter.unusedSimpArgs false
set_option maxHeartbeats 2000000
set_option maxRecDepth 100000
/- What the evaluator knows of a value, and what that means in a world. -/
namespace Go.VC
open Go.RowKit

/-! ### What the evaluator knows of a value -/
/-- A cell of a row that is only read. -/
inductive QC where
  | v (x : Value)
  | r (e : IntKind) (l : List Int)
/-- Of a row of the call's own: the element's type, how many cells it has, and what kind of number it is, if it is one. -/
structure RT where
  e : TypeId
  m : Nat
  k : Option IntKind
/-- One cell: a value; a place in a variable; a place where a value stands; a row of numbers; a row of the call's own; a row of such cells; a place where such cells begin; whatever. -/
inductive AC where
  | v (x : Value)
  | p (n off : Nat)
  | k (x : Value)
  | r (e : IntKind) (l : List Int)
  | s (t : RT) (n len : Nat)
  | q (m : Nat) (cs : List QC)
  | kq (cs : List QC)
  | nil (e : IntKind)
  | u
/-- A value that is no tuple. -/
inductive AP where
  | c (a : AC)
  | g (cs : List AC)
inductive AV where
  | o (a : AP)
  | t (l : List AP)

def AP.cells : AP → List AC
  | .c a => [a]
  | .g cs => cs

/-! ### What it means -/
def Reads (S : Nat → Prop) (w : World) (e : IntKind) (y : Value) (l : List Int) : Prop :=
  (y = .slice none 0 0 ∧ l = []) ∨
  ∃ b o c, y = .slice (some ⟨b, o, none⟩) l.length c ∧ l.length ≤ c ∧ ¬ S b ∧ b < w.heap.size ∧ ∀ j, j < l.length → w.cell? ⟨b, o + j, none⟩ = some (.int e (l.getD j 0))

def QC.rep (S : Nat → Prop) (w : World) : QC → Value → Prop
  | .v x, y => y = x ∧ x.oneCell' = true
  | .r e l, y => Reads S w e y l
/-- From a place on such cells stand. -/
def Stand (S : Nat → Prop) (w : World) (b o : Nat) (cs : List QC) : Prop := ∀ j c, cs[j]? = some c → ∃ v, w.cell? ⟨b, o + j, none⟩ = some v ∧ c.rep S w v
def ReadsQ (S : Nat → Prop) (w : World) (m : Nat) (y : Value) (cs : List QC) : Prop :=
  (y = .slice none 0 0 ∧ cs = []) ∨
  ∃ b o n c, y = .slice (some ⟨b, o, none⟩) n c ∧ cs.length = n * m ∧ n ≤ c ∧ ¬ S b ∧ b < w.heap.size ∧ Stand S w b o cs

/-- How the call's own variables lie in memory: S: blocks that nothing that is read lies in; μ: the block of variable n; D: which variables there are. -/
structure Lie where
  S : Nat → Prop
  μ : Nat → Nat
  D : Nat → Prop

def AC.rep (L : Lie) (w : World) : AC → Value → Prop
  | .v x, y => y = x ∧ x.oneCell' = true
  | .p n off, y => L.D n ∧ y = .pointer (some ⟨L.μ n, off, none⟩)
  | .k x, y => x.oneCell' = true ∧ ∃ b o, y = .pointer (some ⟨b, o, none⟩) ∧ ¬ L.S b ∧ b < w.heap.size ∧ w.cell? ⟨b, o, none⟩ = some x
  | .r e l, y => Reads L.S w e y l
  | .s t n len, y => L.D n ∧ ∃ cap, y = .slice (some ⟨L.μ n, 0, none⟩) len cap ∧ w.shape? (L.μ n) = some (t.e, cap * t.m) ∧ len ≤ cap ∧ cap ≤ maxLen
  | .q m cs, y => ReadsQ L.S w m y cs
  | .kq cs, y => ∃ b o, y = .pointer (some ⟨b, o, none⟩) ∧ ¬ L.S b ∧ b < w.heap.size ∧ Stand L.S w b o cs
  | .nil _, y => y = .slice none 0 0
  | .u, _ => True

def repL (L : Lie) (w : World) : List AC → List Value → Prop
  | [], [] => True
  | a :: as, y :: ys => a.rep L w y ∧ repL L w as ys
  | _, _ => False

def AP.rep (L : Lie) (w : World) : AP → Value → Prop
  | .c a, y => a.rep L w y
  | .g cs, y => ∃ ys : List Value, y = .agg ys.toArray ∧ repL L w cs ys

def repP (L : Lie) (w : World) : List AP → List Value → Prop
  | [], [] => True
  | a :: as, y :: ys => a.rep L w y ∧ repP L w as ys
  | _, _ => False

def AV.rep (L : Lie) (w : World) : AV → Value → Prop
  | .o a, y => a.rep L w y
  | .t l, y => ∃ ys : List Value, y = .tuple ys.toArray ∧ repP L w l ys

/-! ### It stays -/
/-- From one world and lie to another: what is read stays. -/
structure Ext (L : Lie) (w : World) (L' : Lie) (w' : World) : Prop where
  D : ∀ n, L.D n → L'.D n ∧ L'.μ n = L.μ n
  blk : ∀ b, ¬ L.S b → b < w.heap.size → w'.heap[b]? = w.heap[b]? ∧ ¬ L'.S b
  size : w.heap.size ≤ w'.heap.size
  shp : ∀ n, L.D n → w'.shape? (L.μ n) = w.shape? (L.μ n)

theorem Ext.cell {L L' : Lie} {w w' : World} (h : Ext L w L' w') {b o : Nat} {x : Value} (hb : ¬ L.S b) (hlt : b < w.heap.size) (hc : w.cell? ⟨b, o, none⟩ = some x) : w'.cell? ⟨b, o, none⟩ = some x := by
  have := (h.blk b hb hlt).1
  unfold World.cell? at hc ⊢
  simp only [this]
  exact hc

theorem Reads.ext {L L' : Lie} {w w' : World} (h : Ext L w L' w') {e : IntKind} {y : Value} {l : List Int} (hr : Reads L.S w e y l) : Reads L'.S w' e y l := by
  rcases hr with hr | ⟨b, o, c, h1, h2, h3, h4, h5⟩
  · exact .inl hr
  · exact .inr ⟨b, o, c, h1, h2, (h.blk b h3 h4).2, Nat.lt_of_lt_of_le h4 h.size, fun j hj => h.cell h3 h4 (h5 j hj)⟩

theorem QC.rep_ext {L L' : Lie} {w w' : World} (h : Ext L w L' w') {c : QC} {y : Value} (hr : c.rep L.S w y) : c.rep L'.S w' y := by
  cases c with
  | v x => exact hr
  | r e l => exact Reads.ext (e := e) (l := l) h hr
theorem Stand.ext {L L' : Lie} {w w' : World} (h : Ext L w L' w') {b o : Nat} {cs : List QC} (hb : ¬ L.S b) (hlt : b < w.heap.size) (hs : Stand L.S w b o cs) : Stand L'.S w' b o cs := fun j c hj => by
  obtain ⟨v, h1, h2⟩ := hs j c hj
  exact ⟨v, h.cell hb hlt h1, QC.rep_ext h h2⟩
theorem AC.rep_ext {L L' : Lie} {w w' : World} (h : Ext L w L' w') {a : AC} {y : Value} (hr : a.rep L w y) : a.rep L' w' y := by
  cases a with
  | v x => exact hr
  | p n off => obtain ⟨h1, h2⟩ := hr; exact ⟨(h.D n h1).1, by rw [(h.D n h1).2]; exact h2⟩
  | k x => obtain ⟨h0, b, o, h1, h2, h3, h4⟩ := hr; exact ⟨h0, b, o, h1, (h.blk b h2 h3).2, Nat.lt_of_lt_of_le h3 h.size, h.cell h2 h3 h4⟩
  | r e l => exact Reads.ext (e := e) (l := l) h hr
  | s t n len =>
    obtain ⟨h1, cap, h2, h3, h4, h5⟩ := hr
    obtain ⟨h6, h7⟩ := h.D n h1
    exact ⟨h6, cap, by rw [h7]; exact h2, by rw [h7, h.shp n h1]; exact h3, h4, h5⟩
  | q m cs =>
    rcases hr with hr | ⟨b, o, n, c, h1, h2, h3, h4, h5, h6⟩
    · exact .inl hr
    · exact .inr ⟨b, o, n, c, h1, h2, h3, (h.blk b h4 h5).2, Nat.lt_of_lt_of_le h5 h.size, h6.ext h h4 h5⟩
  | kq cs =>
    obtain ⟨b, o, h1, h2, h3, h4⟩ := hr
    exact ⟨b, o, h1, (h.blk b h2 h3).2, Nat.lt_of_lt_of_le h3 h.size, h4.ext h h2 h3⟩
  | nil e => exact hr
  | u => trivial

theorem repL_ext {L L' : Lie} {w w' : World} (h : Ext L w L' w') : ∀ {as : List AC} {ys : List Value}, repL L w as ys → repL L' w' as ys
  | [], [], _ => trivial
  | [], _ :: _, hr => hr.elim
  | _ :: _, [], hr => hr.elim
  | _ :: _, _ :: _, hr => ⟨AC.rep_ext h hr.1, repL_ext h hr.2⟩

theorem AP.rep_ext {L L' : Lie} {w w' : World} (h : Ext L w L' w') {a : AP} {y : Value} (hr : a.rep L w y) : a.rep L' w' y := by
  cases a with
  | c a => exact AC.rep_ext (a := a) h hr
  | g cs => obtain ⟨ys, h1, h2⟩ := hr; exact ⟨ys, h1, repL_ext h h2⟩

theorem repP_ext {L L' : Lie} {w w' : World} (h : Ext L w L' w') : ∀ {as : List AP} {ys : List Value}, repP L w as ys → repP L' w' as ys
  | [], [], _ => trivial
  | [], _ :: _, hr => hr.elim
  | _ :: _, [], hr => hr.elim
  | _ :: _, _ :: _, hr => ⟨AP.rep_ext h hr.1, repP_ext h hr.2⟩

theorem AV.rep_ext {L L' : Lie} {w w' : World} (h : Ext L w L' w') {a : AV} {y : Value} (hr : a.rep L w y) : a.rep L' w' y := by
  cases a with
  | o a => exact AP.rep_ext (a := a) h hr
  | t l => obtain ⟨ys, h1, h2⟩ := hr; exact ⟨ys, h1, repP_ext h h2⟩

theorem repL_length {L : Lie} {w : World} : ∀ {as : List AC} {ys : List Value}, repL L w as ys → as.length = ys.length
  | [], [], _ => rfl
  | [], _ :: _, hr => hr.elim
  | _ :: _, [], hr => hr.elim
  | _ :: _, _ :: _, hr => by simp [repL_length hr.2]

theorem repL_get {L : Lie} {w : World} : ∀ {as : List AC} {ys : List Value} (i : Nat) {a : AC}, repL L w as ys → as[i]? = some a → ∃ y, ys[i]? = some y ∧ a.rep L w y
  | [], [], _, _, _, h => by simp at h
  | [], _ :: _, _, _, hr, _ => hr.elim
  | _ :: _, [], _, _, hr, _ => hr.elim
  | _ :: _, y :: _, 0, _, hr, h => by simp at h; subst h; exact ⟨y, rfl, hr.1⟩
  | _ :: _, _ :: _, i + 1, _, hr, h => by simpa using repL_get i hr.2 (by simpa using h)

theorem repL_drop {L : Lie} {w : World} : ∀ {as : List AC} {ys : List Value} (n : Nat), repL L w as ys → repL L w (as.drop n) (ys.drop n)
  | [], [], _, _ => by simp [repL]
  | [], _ :: _, _, hr => hr.elim
  | _ :: _, [], _, hr => hr.elim
  | _ :: _, _ :: _, 0, hr => hr
  | _ :: _, _ :: _, n + 1, hr => repL_drop n hr.2

theorem repL_take {L : Lie} {w : World} : ∀ {as : List AC} {ys : List Value} (n : Nat), repL L w as ys → repL L w (as.take n) (ys.take n)
  | [], [], _, _ => by simp [repL]
  | [], _ :: _, _, hr => hr.elim
  | _ :: _, [], _, hr => hr.elim
  | _ :: _, _ :: _, 0, _ => by simp [repL]
  | _ :: _, _ :: _, n + 1, hr => ⟨hr.1, repL_take n hr.2⟩

theorem repL_append {L : Lie} {w : World} : ∀ {as bs : List AC} {ys zs : List Value}, repL L w as ys → repL L w bs zs → repL L w (as ++ bs) (ys ++ zs)
  | [], _, [], _, _, h => h
  | [], _, _ :: _, _, hr, _ => hr.elim
  | _ :: _, _, [], _, hr, _ => hr.elim
  | _ :: _, _, _ :: _, _, hr, h => ⟨hr.1, repL_append hr.2 h⟩

/-- Is it known, so that it may be stored? -/
def AC.known : AC → Bool
  | .u => false
  | _ => true
theorem AC.known_one {L : Lie} {w : World} {a : AC} {y : Value} (hk : a.known = true) (hr : a.rep L w y) : y.oneCell' = true := by
  cases a with
  | v x => obtain ⟨rfl, h⟩ := hr; exact h
  | p n off => obtain ⟨_, rfl⟩ := hr; rfl
  | k x => obtain ⟨_, b, o, rfl, _⟩ := hr; rfl
  | r e l => rcases hr with ⟨rfl, _⟩ | ⟨b, o, c, rfl, _⟩ <;> rfl
  | s t n len => obtain ⟨_, cap, rfl, _⟩ := hr; rfl
  | q m cs => rcases hr with ⟨rfl, _⟩ | ⟨b, o, n, c, rfl, _⟩ <;> rfl
  | kq cs => obtain ⟨b, o, rfl, _⟩ := hr; rfl
  | nil e => cases hr; rfl
  | u => cases hk
theorem known_all {L : Lie} {w : World} : ∀ {as : List AC} {ys : List Value}, as.all (·.known) = true → repL L w as ys → ∀ y ∈ ys, y.oneCell' = true
  | [], [], _, _ => by simp
  | [], _ :: _, _, hr => hr.elim
  | _ :: _, [], _, hr => hr.elim
  | _ :: _, _ :: _, hk, hr => by
    simp only [List.all_cons, Bool.and_eq_true] at hk
    intro y hy
    rcases List.mem_cons.1 hy with rfl | hy
    · exact AC.known_one hk.1 hr.1
    · exact known_all hk.2 hr.2 y hy
end Go.VC
/- Compact code, and the evaluator that runs it. -/
namespace Go.VC
open Go.RowKit

/-! ### Compact code -/
inductive SA where
  | t (n : Nat)
  | k (x : Value)
  | nil (e : IntKind)
  | g (xs : List AC)
inductive SOp where
  | mv (x : SA)
  | pick (c a b : SA)
  | alloc (z : List AC)
  | box (x : SA)
  | build (z : List AC) (parts : List (Nat × Nat × SA))
  | load (agg : Bool) (size : Nat) (p : SA) (nm : Option Nat)
  | store (size : Nat) (p x : SA) (nm : Nat)
  | fld (off : Nat) (p : SA)
  | part (agg : Bool) (off size : Nat) (x : SA)
  | bin (op : BinOp) (x y : SA)
  | eqb (ne : Bool) (x y : SA)
  | eqs (ne : Bool) (ks : List IntKind) (x y : SA)
  | not (x : SA)
  | neg (x : SA)
  | cvt (k : IntKind) (x : SA)
  | ext (x : SA) (i : Nat)
  | call (f : Nat) (args : List SA)
  | len (x : SA)
  | idx (m : Nat) (x i : SA)
  | sl (x : SA) (lo hi : Option SA)
  | min (x y : SA)
  | str (x : SA)
  | eqt (ne : Bool) (x y : SA)
  | mkS (t : RT) (z : Value) (n : SA)
  | bldS (t : RT) (z : List AC) (n : Nat) (parts : List (Nat × Nat × SA))
  | bldQ (t : RT) (z : List AC) (n : Nat) (parts : List (Nat × Nat × SA))
  | app (t : RT) (x y : SA)
  | callR (f : Nat) (args : List SA)
  | callF (f : Nat) (args : List SA)
  | cap (x : SA)
  | appZ (t : RT) (x n : SA)
structure SOper where
  dst : Option Nat
  op : SOp
  guard : Option (Nat × Bool)
inductive SC where
  | skip
  | region (ops : List SOper)
  | seq (a b : SC)
  | cond (c : SA) (a b : SC)
  | block (id : Nat) (a : SC)
  | loop (a : SC)
  | forget (ns : List Nat) (a : SC)
  | exit (id : Nat)
  | ret
  | bad

/-! ### The evaluator -/
structure St where
  tm : Nat → AV
  mem : Nat → Option (List AC)

def upd {α : Type} (f : Nat → α) (n : Nat) (x : α) : Nat → α := fun m => if m = n then x else f m

abbrev Spec := Nat → List AP → Option AV

def SA.ev (s : St) : SA → AV
  | .t n => s.tm n
  | .k x => .o (.c (.v x))
  | .nil e => .o (.c (.nil e))
  | .g xs => .o (.g xs)

def AV.val : AV → Option Value
  | .o (.c (.v x)) => some x
  | _ => none
def AV.ptr : AV → Option (Nat × Nat)
  | .o (.c (.p n off)) => some (n, off)
  | _ => none
def AV.part : AV → Option AP
  | .o a => some a
  | _ => none
def AV.agg : AV → Option (List AC)
  | .o (.g cs) => some cs
  | _ => none
def AV.row (e : IntKind) : AV → Option (List Int)
  | .o (.c (.r e' l)) => if e = e' then some l else none
  | .o (.c (.nil _)) => some []
  | _ => none
/-- A row of whatever kind: its length. -/
def AV.rlen : AV → Option Nat
  | .o (.c (.r _ l)) => some l.length
  | .o (.c (.s _ _ n)) => some n
  | .o (.c (.q m cs)) => if m = 0 then none else some (cs.length / m)
  | .o (.c (.nil _)) => some 0
  | _ => none
def Value.b? : Value → Option Bool
  | .bool b => some b
  | _ => none
def Value.i? : Value → Option (IntKind × Int)
  | .int k n => some (k, n)
  | _ => none

def bitsV (op : BinOp) (k : IntKind) (a b : Int) : Int :=
  match op with
  | .and => k.wrap (BitVec.ofInt k.bits a &&& BitVec.ofInt k.bits b).toNat
  | .or => k.wrap (BitVec.ofInt k.bits a ||| BitVec.ofInt k.bits b).toNat
  | .xor => k.wrap (BitVec.ofInt k.bits a ^^^ BitVec.ofInt k.bits b).toNat
  | _ => k.wrap (BitVec.ofInt k.bits a &&& ~~~ BitVec.ofInt k.bits b).toNat

/-- No address of the call's own variables. -/
def AC.free : AC → Bool
  | .p _ _ => false
  | .s _ _ _ => false
  | _ => true
def AP.free : AP → Bool
  | .c a => a.free
  | .g cs => cs.all (·.free)
def AV.free : AV → Bool
  | .o a => a.free
  | .t l => l.all (·.free)
/-- Two numbers of one kind. -/
def evInt (op : BinOp) (k : IntKind) (a b : Int) : Option Value :=
  match op with
  | .add => some (.int k (k.wrap (a + b)))
  | .sub => some (.int k (k.wrap (a - b)))
  | .mul => some (.int k (k.wrap (a * b)))
  | .quo => if b = 0 then none else some (.int k (k.wrap (a.tdiv b)))
  | .rem => if b = 0 then none else some (.int k (a.tmod b))
  | .and => some (.int k (bitsV .and k a b))
  | .or => some (.int k (bitsV .or k a b))
  | .xor => some (.int k (bitsV .xor k a b))
  | .andNot => some (.int k (bitsV .andNot k a b))
  | .eql => some (.bool (a == b))
  | .neq => some (.bool (a != b))
  | .lss => some (.bool (decide (a < b)))
  | .leq => some (.bool (decide (a ≤ b)))
  | .gtr => some (.bool (decide (a > b)))
  | .geq => some (.bool (decide (a ≥ b)))
  | _ => none
def evBin (op : BinOp) (x y : Value) : Option Value :=
  match x, y with
  | .int k a, .int k' b =>
    match op with
    | .shl => if b < 0 then none else some (.int k (k.wrap (a * 2 ^ min b.toNat k.bits)))
    | .shr => if b < 0 then none else some (.int k (a.fdiv (2 ^ min b.toNat k.bits)))
    | op => if k = k' then evInt op k a b else none
  | _, _ => none

def eqCells : List IntKind → List AC → List AC → Option Bool
  | [], [], [] => some true
  | k :: ks, .v (.int k1 a) :: as, .v (.int k2 b) :: bs => if k1 = k ∧ k2 = k then (eqCells ks as bs).map fun r => (a == b) && r else none
  | _, _, _ => none

def AP.ok : AP → Bool
  | .c .u => false
  | _ => true
/-- cs with ys from place off on. -/
def splice (cs : List AC) (off : Nat) (ys : List AC) : List AC := cs.take off ++ ys ++ cs.drop (off + ys.length)

def fillA (s : St) : List AC → List (Nat × Nat × SA) → Option (List AC)
  | cs, [] => some cs
  | cs, (off, size, x) :: rest =>
    match (x.ev s).part with
    | some a => if a.ok = true ∧ a.cells.length = size ∧ off + size ≤ cs.length then fillA s (splice cs off a.cells) rest else none
    | none => none

def evArgs (s : St) : List SA → Option (List AP)
  | [] => some []
  | x :: xs => match (x.ev s).part, evArgs s xs with
    | some a, some as => some (a :: as)
    | _, _ => none

def optI (s : St) : Option SA → Int → Option Int
  | none, d => some d
  | some x, _ => match (x.ev s).val with
    | some (.int _ i) => some i
    | _ => none

/-- nil, as a row that is read. -/
def AC.wk : AC → AC
  | .nil e => .r e []
  | a => a
def AP.wk : AP → AP
  | .c a => .c a.wk
  | .g cs => .g (cs.map AC.wk)
/-! ### Rows of the call's own -/
def QC.ac : QC → AC
  | .v x => .v x
  | .r e l => .r e l
/-- What is told of the variables ns falls away. -/
def AC.kill (ns : List Nat) : AC → AC
  | .p n off => if n ∈ ns then .u else .p n off
  | .s t n len => if n ∈ ns then .u else .s t n len
  | a => a
def AP.kill (ns : List Nat) : AP → AP
  | .c a => .c (a.kill ns)
  | .g cs => .g (cs.map (·.kill ns))
def AV.kill (ns : List Nat) : AV → AV
  | .o a => .o (a.kill ns)
  | .t l => .t (l.map (·.kill ns))
def St.drop (s : St) (ns : List Nat) : St :=
  { tm := fun t => (s.tm t).kill ns, mem := fun n => if n ∈ ns then none else match s.mem n with | some cs => some (cs.map (·.kill ns)) | none => none }
/-- A row of the call's own (or nil): its variable, how many elements, its cells. -/
def ownOf (t : RT) (s : St) : AV → Option (List Nat × Nat × List AC)
  | .o (.c (.s t' n len)) => match s.mem n with
    | some cs => if t'.e = t.e ∧ t'.m = t.m ∧ len * t.m ≤ cs.length then some ([n], len, cs.take (len * t.m)) else none
    | none => none
  | .o (.c (.nil _)) => some ([], 0, [])
  | _ => none
/-- A row that is read. -/
def lieOf (m : Nat) (s : St) : AV → Option (List Nat × Nat × List AC)
  | .o (.c (.s t n len)) => match s.mem n with
    | some cs => if t.m = m ∧ len * m ≤ cs.length then some ([n], len, cs.take (len * m)) else none
    | none => none
  | .o (.c (.r e l)) => if m = 1 then some ([], l.length, l.map fun x => .v (.int e x)) else none
  | .o (.c (.q m' cs)) => if m' = m ∧ 0 < m then some ([], cs.length / m, cs.map (·.ac)) else none
  | .o (.c (.nil _)) => some ([], 0, [])
  | _ => none
def rowInts (k : IntKind) : List AC → Option (List Int)
  | [] => some []
  | .v (.int k' x) :: cs => if k' = k then
      match rowInts k cs with
      | some l => some (x :: l)
      | none => none
    else none
  | _ => none
def rowQ : List AC → Option (List QC)
  | [] => some []
  | .v x :: cs => match rowQ cs with
    | some l => some (.v x :: l)
    | none => none
  | .r e l' :: cs => match rowQ cs with
    | some l => some (.r e l' :: l)
    | none => none
  | _ => none
/-- A row of the call's own that is no longer written to. -/
def relRow (t : RT) (len : Nat) (cs : List AC) : AC :=
  if len * t.m ≤ cs.length then
    match t.k with
    | some k => if t.m = 1 then
        match rowInts k (cs.take len) with
        | some l => .r k l
        | none => .u
      else .u
    | none => match rowQ (cs.take (len * t.m)) with
      | some l => .q t.m l
      | none => .u
  else .u
def AC.rel (n : Nat) (cs : List AC) : AC → AC
  | .p n' off => if n' = n then .u else .p n' off
  | .s t n' len => if n' = n then relRow t len cs else .s t n' len
  | a => a
def AP.rel (n : Nat) (cs : List AC) : AP → AP
  | .c a => .c (a.rel n cs)
  | .g as => .g (as.map (·.rel n cs))
def AV.rel (n : Nat) (cs : List AC) : AV → AV
  | .o a => .o (a.rel n cs)
  | .t l => .t (l.map (·.rel n cs))
def St.rel (s : St) (n : Nat) : St :=
  match s.mem n with
  | some cs => { tm := fun t => (s.tm t).rel n cs, mem := fun m => if m = n then none else match s.mem m with | some c => some (c.map (·.rel n cs)) | none => none }
  | none => s
def St.rels (s : St) : List Nat → St
  | [] => s
  | n :: ns => (s.rel n).rels ns
/-- The rows of the call's own among cells. -/
def AC.rows : AC → List Nat
  | .s _ n _ => [n]
  | _ => []
def rowsL : List AC → List Nat
  | [] => []
  | c :: cs => c.rows ++ rowsL cs
def rowsP : List AP → List Nat
  | [] => []
  | a :: as => rowsL a.cells ++ rowsP as

/-- And, before a row of such rows, the rows in it. -/
def rowsIn (s : St) : AC → List Nat
  | .s t n _ => match t.k with
    | some _ => [n]
    | none => match s.mem n with
      | some cs => rowsL cs ++ [n]
      | none => [n]
  | _ => []
def rowsC (s : St) : List AC → List Nat
  | [] => []
  | c :: cs => rowsIn s c ++ rowsC s cs
def rowsD (s : St) : List AP → List Nat
  | [] => []
  | a :: as => rowsC s a.cells ++ rowsD s as

def absOp (sp : Spec) (d : Option Nat) (o : SOp) (s : St) : Option (AV × St) :=
  match o with
  | .mv x => some (x.ev s, s)
  | .pick c a b => match (c.ev s).val with
    | some (.bool t) => some (if t then a.ev s else b.ev s, s)
    | _ => none
  | .alloc z => match d with
    | some n => match s.mem n with
      | none => some (.o (.c (.p n 0)), { s with mem := upd s.mem n (some z) })
      | some _ => none
    | none => none
  | .box x => match d, (x.ev s).part with
    | some n, some a => match s.mem n with
      | none => if a.ok = true then some (.o (.c (.p n 0)), { s with mem := upd s.mem n (some a.cells) }) else none
      | some _ => none
    | _, _ => none
  | .build z parts => match fillA s z parts with
    | some cs => some (.o (.g cs), s)
    | none => none
  | .load agg size p nm => match p.ev s with
    | .o (.c (.p n off)) => if nm = some n then
        match s.mem n with
        | some cs => if off + size ≤ cs.length then
            if agg then some (.o (.g ((cs.drop off).take size)), s)
            else match cs[off]? with
              | some a => if size = 1 then some (.o (.c a), s) else none
              | none => none
          else none
        | none => none
      else none
    | .o (.c (.k x)) => if agg then none else if size = 1 then some (.o (.c (.v x)), s) else none
    | .o (.c (.kq cs)) => if size ≤ cs.length then
        if agg then some (.o (.g ((cs.take size).map (·.ac))), s)
        else match cs[0]? with
          | some c => if size = 1 then some (.o (.c c.ac), s) else none
          | none => none
      else none
    | _ => none
  | .store size p x nm => match (p.ev s).ptr, (x.ev s).part with
    | some (n, off), some a => if nm = n then
        match s.mem n with
        | some cs => if a.cells.length = size ∧ off + size ≤ cs.length ∧ a.cells.all (·.known) = true then some (.o (.c .u), { s with mem := upd s.mem n (some (splice cs off a.cells)) }) else none
        | none => none
      else none
    | _, _ => none
  | .fld off p => match p.ev s with
    | .o (.c (.p n o)) => some (.o (.c (.p n (o + off))), s)
    | .o (.c (.kq cs)) => some (.o (.c (.kq (cs.drop off))), s)
    | _ => none
  | .part agg off size x => match (x.ev s).agg with
    | some cs => if off + size ≤ cs.length then
        if agg then some (.o (.g ((cs.drop off).take size)), s)
        else match cs[off]? with
          | some a => some (.o (.c a), s)
          | none => none
      else none
    | none => none
  | .bin op x y => match (x.ev s).val, (y.ev s).val with
    | some a, some b => match evBin op a b with
      | some v => some (.o (.c (.v v)), s)
      | none => none
    | _, _ => none
  | .eqb ne x y => match (x.ev s).val, (y.ev s).val with
    | some (.bool a), some (.bool b) => some (.o (.c (.v (.bool (if ne then !(a == b) else a == b)))), s)
    | _, _ => none
  | .eqs ne ks x y => match (x.ev s).agg, (y.ev s).agg with
    | some as, some bs => match eqCells ks as bs with
      | some r => some (.o (.c (.v (.bool (if ne then !r else r)))), s)
      | none => none
    | _, _ => none
  | .not x => match (x.ev s).val with
    | some (.bool a) => some (.o (.c (.v (.bool !a))), s)
    | _ => none
  | .neg x => match (x.ev s).val with
    | some (.int k a) => some (.o (.c (.v (.int k (k.wrap (0 - a))))), s)
    | _ => none
  | .cvt k x => match (x.ev s).val with
    | some (.int _ a) => some (.o (.c (.v (.int k (k.wrap a)))), s)
    | _ => none
  | .ext x i => match x.ev s with
    | .t l => match l[i]? with
      | some a => some (.o a, s)
      | none => none
    | _ => none
  | .call f args => match evArgs s args with
    | some as => if as.all (·.free) = true then
        match sp f (as.map AP.wk) with
        | some r => if r.free = true then some (r, s) else none
        | none => none
      else none
    | none => none
  | .len x => match (x.ev s).rlen with
    | some n => some (.o (.c (.v (.int .i64 n))), s)
    | none => none
  | .idx m x i => match (i.ev s).val with
    | some (.int _ j) => match x.ev s with
      | .o (.c (.s t n len)) => if t.m = m ∧ 0 ≤ j ∧ j < len then some (.o (.c (.p n (j.toNat * m))), s) else none
      | .o (.c (.r e l)) => if m = 1 ∧ 0 ≤ j ∧ j < l.length then some (.o (.c (.k (.int e (l.getD j.toNat 0)))), s) else none
      | .o (.c (.q m' cs)) => if m' = m ∧ 0 ≤ j ∧ j.toNat * m + m ≤ cs.length ∧ 0 < m then some (.o (.c (.kq (cs.drop (j.toNat * m)))), s) else none
      | _ => none
    | _ => none
  | .sl x lo hi => match x.ev s with
    | .o (.c (.r e l)) => match optI s lo 0, optI s hi l.length with
      | some i, some j => if 0 ≤ i ∧ i ≤ j ∧ j ≤ l.length then some (.o (.c (.r e ((l.take j.toNat).drop i.toNat))), s) else none
      | _, _ => none
    | .o (.c (.nil e)) => match optI s lo 0, optI s hi 0 with
      | some i, some j => if 0 ≤ i ∧ i ≤ j ∧ j ≤ 0 then some (.o (.c (.nil e)), s) else none
      | _, _ => none
    | .o (.c (.s t n len)) => match optI s lo 0, optI s hi len with
      | some i, some j => if i = 0 ∧ 0 ≤ j ∧ j ≤ len then some (.o (.c (.s t n j.toNat)), s) else none
      | _, _ => none
    | _ => none
  | .appZ t x n => match d, x.ev s, (n.ev s).val with
    | some d, .o (.c (.nil _)), some (.int .i64 m) => match s.mem d with
      | none => if 0 < m ∧ m ≤ 1000000000 then some (.o (.c (.s t d m.toNat)), { s with mem := upd s.mem d (some []) }) else none
      | some _ => none
    | _, _, _ => none
  | .cap x => match x.ev s with
    | .o (.c (.nil _)) => some (.o (.c (.v (.int .i64 0))), s)
    | _ => none
  | .min x y => match (x.ev s).val, (y.ev s).val with
    | some (.int k a), some (.int _ b) => some (.o (.c (.v (.int k (if b < a then b else a)))), s)
    | _, _ => none
  | .str x => match (x.ev s).row .u8 with
    | some l => some (.o (.c (.v (.string (strOfNums l)))), s)
    | none => none
  | .eqt ne x y => match (x.ev s).val, (y.ev s).val with
    | some (.string a), some (.string b) => some (.o (.c (.v (.bool (if ne then !(a.toList == b.toList) else a.toList == b.toList)))), s)
    | _, _ => none
  | .mkS t z n => match d, (n.ev s).val with
    | some d, some (.int _ m) => match s.mem d with
      | none => if 0 ≤ m ∧ m ≤ 1000000000000 then some (.o (.c (.s t d m.toNat)), { s with mem := upd s.mem d (some (List.replicate m.toNat (.v z))) }) else none
      | some _ => none
    | _, _ => none
  | .bldQ t z n parts => match fillA s z parts with
    | some cs => some (.o (.c (relRow t n cs)), s)
    | none => none
  | .bldS t z n parts => match d, fillA s z parts with
    | some d, some cs => match s.mem d with
      | none => some (.o (.c (.s t d n)), { s with mem := upd s.mem d (some cs) })
      | some _ => none
    | _, _ => none
  | .app t x y => match d, ownOf t s (x.ev s), lieOf t.m s (y.ev s) with
    | some d, some (ns, a, xs), some (ms, b, ys) =>
      if (ns = [] → 0 < b) ∧ a + b ≤ 1000000000000 ∧ (s.mem d = none ∨ d ∈ ns ++ ms) ∧ ys.all (·.known) = true then
        some (.o (.c (.s t d (a + b))), ⟨(s.drop (ns ++ ms)).tm, upd (s.drop (ns ++ ms)).mem d (some ((xs ++ ys).map (·.kill (ns ++ ms))))⟩)
      else none
    | _, _, _ => none
  | .callR f args => match evArgs s args with
    | some as0 => match evArgs (s.rels (rowsD s as0)) args with
      | some as => if as.all (·.free) = true then
          match sp f (as.map AP.wk) with
          | some r => if r.free = true then some (r, s.rels (rowsD s as0)) else none
          | none => none
        else none
      | none => none
    | none => none
  | .callF f args => match d, evArgs s args with
    | some d, some as => if as.all (·.free) = true then
        match s.mem d, sp f as with
        | none, some (.o (.c (.s t _ 0))) => some (.o (.c (.s t d 0)), { s with mem := upd s.mem d (some []) })
        | _, _ => none
      else none
    | _, _ => none

def St.put (s : St) (d : Option Nat) (v : AV) : St :=
  match d with
  | some n => { s with tm := upd s.tm n v }
  | none => s

def absOper (sp : Spec) (o : SOper) (s : St) : Option St :=
  match o.guard with
  | none => match absOp sp o.dst o.op s with
    | some (v, s') => some (s'.put o.dst v)
    | none => none
  | some (g, want) => match s.tm g with
    | .o (.c (.v (.bool b))) => if b = want then
        match absOp sp o.dst o.op s with
        | some (v, s') => some (s'.put o.dst v)
        | none => none
      else some (s.put o.dst (.t []))
    | .t _ => some (s.put o.dst (.t []))
    | _ => none

def absOps (sp : Spec) : List SOper → St → Option St
  | [], s => some s
  | o :: os, s => match absOper sp o s with
    | some s' => absOps sp os s'
    | none => none

inductive AX where
  | n
  | e (id : Nat)
  | r

def iter (f : St → Option (AX × St)) : Nat → St → Option (AX × St)
  | 0, _ => none
  | k + 1, s => match f s with
    | some (.n, s') => iter f k s'
    | x => x

def absCode (sp : Spec) (k : Nat) : SC → St → Option (AX × St)
  | .skip, s => some (.n, s)
  | .region ops, s => match absOps sp ops s with
    | some s' => some (.n, s')
    | none => none
  | .seq a b, s => match absCode sp k a s with
    | some (.n, s') => absCode sp k b s'
    | x => x
  | .cond c a b, s => match (c.ev s).val with
    | some (.bool t) => if t then absCode sp k a s else absCode sp k b s
    | _ => none
  | .block id a, s => match absCode sp k a s with
    | some (.e i, s') => if i = id then some (.n, s') else some (.e i, s')
    | x => x
  | .loop a, s => iter (absCode sp k a) k s
  | .forget ns a, s => absCode sp k a (s.drop ns)
  | .exit id, s => some (.e id, s)
  | .ret, s => some (.r, s)
  | .bad, _ => none

inductive SR where
  | t (n : Nat)
  | c (n : Nat) (agg : Bool) (size : Nat)
structure SF where
  ntmps : Nat
  res : List SR
  code : SC

def absRes (s : St) : List SR → Option (List AP)
  | [] => some []
  | .t n :: rs => match (s.tm n).part, absRes s rs with
    | some a, some as => some (a :: as)
    | _, _ => none
  | .c n agg size :: rs => match (s.tm n).ptr, absRes s rs with
    | some (m, 0), some as => match s.mem m with
      | some cs => if cs.length = size then
          if agg then some (.g cs :: as)
          else match cs with
            | [a] => some (.c a :: as)
            | _ => none
        else none
      | none => none
    | _, _ => none
def wrapRes : List AP → AV
  | [a] => .o a
  | l => .t l

def st0 (args : List AP) : St := { tm := fun t => match args[t]? with | some a => .o a | none => .o (.c .u), mem := fun _ => none }

def absFn (sp : Spec) (k : Nat) (f : SF) (args : List AP) : Option AV :=
  match absCode sp k f.code (st0 args) with
  | some (.e _, _) => none
  | some (_, s) => match absRes s f.res with
    | some l0 => match absRes (s.rels (rowsP l0)) f.res with
      | some l => if l.all (·.free) = true then some (wrapRes (l.map AP.wk)) else none
      | none => none
    | none => none
  | none => none
end Go.VC
/- When compact code is a given code; the relation between what is known and what is. -/
namespace Go.VC
open Go.RowKit

/-! ### Is this compact operation that operation? -/
def chkCell : Value → Value → Bool
  | .int k n, .int k' n' => decide (k = k') && decide (n = n')
  | .bool b, .bool b' => b == b'
  | .string s, .string s' => decide (s.data.toList = s'.data.toList)
  | _, _ => false
def chkAC : Value → AC → Bool
  | v, .v x => chkCell v x
  | .slice none 0 0, .nil _ => true
  | _, _ => false
def chkCells : List Value → List AC → Bool
  | [], [] => true
  | v :: vs, a :: as => chkAC v a && chkCells vs as
  | _, _ => false
def chkSA : Operand → SA → Bool
  | .tmp n, .t m => n == m
  | .const (.agg cs), .g xs => chkCells cs.toList xs
  | .const v, .k x => chkCell v x
  | .const (.slice none 0 0), .nil _ => true
  | _, _ => false
def chkArgs : List Operand → List SA → Bool
  | [], [] => true
  | x :: xs, y :: ys => chkSA x y && chkArgs xs ys
  | _, _ => false
def chkOpt : Option Operand → Option SA → Bool
  | none, none => true
  | some x, some y => chkSA x y
  | _, _ => false
def sizeP (P : Program) (t : TypeId) : Option Nat := (P.info? t).map (·.size)
def rowP (P : Program) (t : TypeId) : Option Bool := (P.underlying t).map (·.isRow)
def kindP (P : Program) (t : TypeId) : Option IntKind := match P.underlying t with | some (.int k) => some k | _ => none
def boolP (P : Program) (t : TypeId) : Bool := match P.underlying t with | some .bool => true | _ => false
def fieldP (P : Program) (t : TypeId) (i : Nat) : Option Field := match P.underlying t with | some (.struct fs) => fs[i]? | _ => none
def structP (P : Program) (t : TypeId) : Option (Array Field) := match P.underlying t with | some (.struct fs) => some fs | _ => none
def elemP (P : Program) (t : TypeId) : Option TypeId := match P.underlying t with | some (.slice e) => some e | _ => none
def chkParts (P : Program) (fs : Array Field) : List (Nat × Operand) → List (Nat × Nat × SA) → Bool
  | [], [] => true
  | (i, x) :: xs, (off, size, y) :: ys => (match fs[i]? with | some f => f.offset == off && sizeP P f.type == some size | none => false) && chkSA x y && chkParts P fs xs ys
  | _, _ => false
def eqFs (rec_ : TypeId → Option (List IntKind)) : Nat → List Field → Option (List IntKind)
  | _, [] => some []
  | off, f :: fs => if f.name ≠ "_" ∧ f.offset = off then
      match rec_ f.type with
      | some ks => match eqFs rec_ (off + ks.length) fs with
        | some l => some (ks ++ l)
        | none => none
      | none => none
    else none
/-- The kinds of a struct's cells, if all are whole numbers and '==' holds cell against cell. -/
def eqKinds (P : Program) : Nat → TypeId → Option (List IntKind)
  | 0, _ => none
  | d + 1, t =>
    match P.underlying t with
    | some (.int k) => if sizeP P t = some 1 then some [k] else none
    | some (.struct fs) => if P.stoodInHeld t = false then
        match eqFs (eqKinds P d) 0 fs.toList with
        | some ks => if sizeP P t = some ks.length then some ks else none
        | none => none
      else none
    | _ => none

/-- A slice's element is told by t. -/
def chkRT (P : Program) (ty : TypeId) (t : RT) : Bool :=
  match elemP P ty with
  | some e => e == t.e && sizeP P e == some t.m && decide (0 < t.m) && (match P.info? e with
    | some i => decide (i.bytes ≤ 128) && (match i.zero with | some z => z.cells.size == t.m | none => false)
    | none => false)
  | none => false
def chkPartsS (m : Nat) : List (Nat × Operand) → List (Nat × Nat × SA) → Bool
  | [], [] => true
  | (i, x) :: xs, (off, size, y) :: ys => off == i * m && size == m && chkSA x y && chkPartsS m xs ys
  | _, _ => false
def zerosP (P : Program) (e : TypeId) (n : Nat) : List Value := match (P.info? e).bind (·.zero) with
  | some z => (List.range n).map (fun i => z.cells[i % z.cells.size]!)
  | none => []
def strP (P : Program) (t : TypeId) : Bool := match P.underlying t with | some .string => true | _ => false
/-- All fields' sizes are known. -/
def sizesP (P : Program) (t : TypeId) : Bool := match structP P t with | some fs => fs.toList.all fun f => (sizeP P f.type).isSome | none => false
/-- An array. -/
def arrP (P : Program) (t : TypeId) : Option (Nat × TypeId) := match P.underlying t with | some (.array n e) => some (n, e) | _ => none
def chkArr (P : Program) (t : TypeId) (ps : List (Nat × Operand)) (parts : List (Nat × Nat × SA)) : Bool := match arrP P t with
  | some (_, e) => (match sizeP P e with | some m => chkPartsS m ps parts | none => false)
  | none => false
def chkIx (P : Program) (t : TypeId) (i : Operand) (off : Nat) : Bool := match i, arrP P t with
  | .const (.int _ j), some (n, e) => (match sizeP P e with | some m => decide (0 ≤ j) && decide (j < n) && off == j.toNat * m | none => false)
  | _, _ => false
def chkOp (P : Program) : Op → SOp → Bool
  | .move x, .mv y => chkSA x y
  | .assign x, .mv y => chkSA x y
  | .pick c a b, .pick c' a' b' => chkSA c c' && chkSA a a' && chkSA b b'
  | .alloc t, .alloc z => match (P.info? t).bind (·.zero) with | some v => chkCells v.cells.toList z | none => false
  | .box _ x, .box y => chkSA x y
  | .build t ps, .build z parts => (match (P.info? t).bind (·.zero) with | some v => chkCells v.cells.toList z | none => false) && (sizesP P t && (match structP P t with | some fs => chkParts P fs ps.toList parts | none => false) || chkArr P t ps.toList parts)
  | .indexAddr t x i, .fld off q => chkIx P t i off && chkSA x q
  | .load t p, .load agg size q _ => rowP P t == some agg && sizeP P t == some size && (agg || size == 1) && chkSA p q
  | .store t p x, .store size q y _ => sizeP P t == some size && chkSA p q && chkSA x y
  | .fieldAddr t x i, .fld off q => (match fieldP P t i with | some f => f.offset == off && (match sizeP P f.type with | some n => n != 0 | none => false) | none => false) && chkSA x q
  | .field t x i, .part agg off size q => (match fieldP P t i with | some f => f.offset == off && rowP P f.type == some agg && sizeP P f.type == some size && (agg || size == 1) | none => false) && chkSA x q
  | .binOp op _ x y _, .bin op' x' y' => decide (op = op') && chkSA x x' && chkSA y y'
  | .binOp op t x y _, .eqb ne x' y' => boolP P t && decide (op = if ne then .neq else .eql) && chkSA x x' && chkSA y y'
  | .binOp op t x y _, .eqs ne ks x' y' => (structP P t).isSome && eqKinds P 5 t == some ks && !P.eqGuardType P.depth t && decide (op = if ne then .neq else .eql) && chkSA x x' && chkSA y y'
  | .unOp .not _ x, .not y => chkSA x y
  | .unOp .neg _ x, .neg y => chkSA x y
  | .convert s d x, .cvt k y => (P.underlying s).isSome && kindP P d == some k && chkSA x y
  | .extract x i, .ext y j => i == j && chkSA x y
  | .call c, .call f args => (match c.callee with | .value (.func g) => g == f | _ => false) && chkArgs c.args.toList args
  | .call c, .len y => (match c.callee with | .builtin .len => true | _ => false) && (match c.args.toList, c.argTypes[0]? with | [x], some t => (elemP P t).isSome && chkSA x y | _, _ => false)
  | .indexAddr t x i, .idx m y j => (match elemP P t with | some el => sizeP P el == some m | none => false) && chkSA x y && chkSA i j
  | .slice t x lo hi none, .sl y lo' hi' => (match elemP P t with | some el => sizeP P el == some 1 | none => false) && chkSA x y && chkOpt lo lo' && chkOpt hi hi'
  | .call c, .min y y' => (match c.callee with | .builtin .min => true | _ => false) && chkArgs c.args.toList [y, y']
  | .convert s d x, .str y => (match elemP P s with | some el => kindP P el == some .u8 | none => false) && strP P d && chkSA x y
  | .binOp op t x y _, .eqt ne x' y' => strP P t && decide (op = if ne then .neq else .eql) && chkSA x x' && chkSA y y'
  | .makeSlice ty l c, .mkS t z n => chkRT P ty t && t.m == 1 && chkCells (zerosP P t.e 1) [.v z] && chkSA l n && chkSA c n
  | .buildSlice ty n ps, .bldS t z n' parts => chkRT P ty t && n == n' && decide (n * t.m ≤ 16777216) && chkCells (zerosP P t.e (n * t.m)) z && chkPartsS t.m ps.toList parts
  | .buildSlice ty n ps, .bldQ t z n' parts => chkRT P ty t && n == n' && decide (n * t.m ≤ 16777216) && chkCells (zerosP P t.e (n * t.m)) z && chkPartsS t.m ps.toList parts
  | .call c, .app t x y => (match c.callee with | .builtin .append => true | _ => false) && (match c.argTypes.toList with | [t1, t2] => t1 == t2 && chkRT P t1 t | _ => false) && chkArgs c.args.toList [x, y]
  | .call c, .callR f args => (match c.callee with | .value (.func g) => g == f | _ => false) && chkArgs c.args.toList args
  | .call c, .cap y => (match c.callee with | .builtin .cap => true | _ => false) && (match c.args.toList, c.argTypes[0]? with | [x], some t => (elemP P t).isSome && chkSA x y | _, _ => false)
  | .call c, .appZ t x n => (match c.callee with | .builtin .append => true | _ => false) && (match c.argTypes.toList with | [t1, t2] => chkRT P t1 t && kindP P t2 == some .i64 | _ => false) && chkArgs c.args.toList [x, n]
  | .call c, .callF f args => (match c.callee with | .value (.func g) => g == f | _ => false) && chkArgs c.args.toList args
  | _, _ => false

/-! ### The relation between what is known and what is -/
def own (S0 : Nat → Prop) (μ : Nat → Nat) (mem : Nat → Option (List AC)) : Lie :=
  { S := fun b => S0 b ∨ ∃ n, mem n ≠ none ∧ μ n = b, μ := μ, D := fun n => mem n ≠ none }

structure Rel (S0 : Nat → Prop) (w0 : World) (N : Nat) (μ : Nat → Nat) (s : St) (a : Act) (w : World) : Prop where
  tmp : ∀ t, (s.tm t).rep (own S0 μ s.mem) w (a.tmps.getD t undef)
  mem : ∀ n cs, s.mem n = some cs → w0.heap.size ≤ μ n ∧ ∃ (ys zs : List Value) (T : TypeId), w.heap[μ n]? = some (.cells (ys ++ zs).toArray T (0, 0)) ∧ repL (own S0 μ s.mem) w cs ys
  inj : ∀ n m, s.mem n ≠ none → s.mem m ≠ none → μ n = μ m → n = m
  below : Below w0.heap.size w0 w
  defers : a.defers = []
  size : a.tmps.size = N

section
variable {P : Program} {S0 : Nat → Prop} {w0 : World} {N : Nat} {μ : Nat → Nat} {s : St} {a : Act} {w : World}

theorem chkCell_eq {v x : Value} (h : chkCell v x = true) : v = x ∧ v.oneCell' = true := by
  unfold chkCell at h
  split at h
  · simp at h; obtain ⟨rfl, rfl⟩ := h; exact ⟨rfl, rfl⟩
  · simp at h; subst h; exact ⟨rfl, rfl⟩
  · rename_i a b
    have : a.data = b.data := by
      have := of_decide_eq_true h
      exact Array.ext' this
    cases a; cases b; cases this
    exact ⟨rfl, rfl⟩
  · cases h
theorem chkAC_rep {L : Lie} {v : Value} {x : AC} (h : chkAC v x = true) : x.rep L w v := by
  unfold chkAC at h
  split at h
  · obtain ⟨rfl, h1⟩ := chkCell_eq h; exact ⟨rfl, h1⟩
  · rfl
  · cases h
theorem chkCells_rep {L : Lie} : ∀ {vs : List Value} {xs : List AC}, chkCells vs xs = true → repL L w xs vs
  | [], [], _ => trivial
  | [], _ :: _, h => by cases h
  | _ :: _, [], h => by cases h
  | v :: vs, x :: xs, h => by
    simp only [chkCells, Bool.and_eq_true] at h
    exact ⟨chkAC_rep h.1, chkCells_rep h.2⟩
theorem Rel.ev (R : Rel S0 w0 N μ s a w) {x : Operand} {y : SA} (h : chkSA x y = true) : (y.ev s).rep (own S0 μ s.mem) w (a.eval x) := by
  unfold chkSA at h
  split at h
  · rename_i n m
    have : n = m := by simpa using h
    subst this
    exact R.tmp n
  · rename_i cs xs
    exact ⟨cs.toList, by simp [Act.eval], chkCells_rep h⟩
  · obtain ⟨rfl, h1⟩ := chkCell_eq h
    exact ⟨rfl, h1⟩
  · rfl
  · cases h
theorem Rel.val (R : Rel S0 w0 N μ s a w) {x : Operand} {y : SA} (h : chkSA x y = true) {v : Value} (hv : (y.ev s).val = some v) : a.eval x = v ∧ v.oneCell' = true := by
  have := R.ev h
  unfold AV.val at hv
  split at hv
  · rename_i z hz
    cases hv
    rw [hz] at this
    exact this
  · cases hv
theorem Rel.ptr (R : Rel S0 w0 N μ s a w) {x : Operand} {y : SA} (h : chkSA x y = true) {n off : Nat} (hv : (y.ev s).ptr = some (n, off)) : a.eval x = .pointer (some ⟨μ n, off, none⟩) ∧ s.mem n ≠ none := by
  have := R.ev h
  unfold AV.ptr at hv
  split at hv
  · rename_i z1 z2 hz
    cases hv
    rw [hz] at this
    exact ⟨this.2, this.1⟩
  · cases hv
theorem Rel.part (R : Rel S0 w0 N μ s a w) {x : Operand} {y : SA} (h : chkSA x y = true) {v : AP} (hv : (y.ev s).part = some v) : v.rep (own S0 μ s.mem) w (a.eval x) := by
  have := R.ev h
  unfold AV.part at hv
  split at hv
  · rename_i z hz
    cases hv
    rw [hz] at this
    exact this
  · cases hv
theorem Rel.agg (R : Rel S0 w0 N μ s a w) {x : Operand} {y : SA} (h : chkSA x y = true) {cs : List AC} (hv : (y.ev s).agg = some cs) : ∃ ys : List Value, a.eval x = .agg ys.toArray ∧ repL (own S0 μ s.mem) w cs ys := by
  have := R.ev h
  unfold AV.agg at hv
  split at hv
  · rename_i z hz
    cases hv
    rw [hz] at this
    exact this
  · cases hv
theorem Rel.row (R : Rel S0 w0 N μ s a w) {x : Operand} {y : SA} (h : chkSA x y = true) {e : IntKind} {l : List Int} (hv : (y.ev s).row e = some l) : Reads (own S0 μ s.mem).S w e (a.eval x) l := by
  have := R.ev h
  unfold AV.row at hv
  split at hv
  · rename_i e' l' hz
    rw [hz] at this
    split at hv
    · rename_i he
      cases hv
      subst he
      exact this
    · cases hv
  · rename_i hz
    cases hv
    rw [hz] at this
    exact .inl ⟨this, rfl⟩
  · cases hv
theorem AP.rep_cells {L : Lie} {x : AP} {y : Value} (h : x.rep L w y) (hk : x.ok = true) : repL L w x.cells y.cells.toList := by
  cases x with
  | c a =>
    have hk' : a.known = true := by cases a <;> first | rfl | cases hk
    have h1 := AC.known_one hk' h
    have : y.cells = #[y] := by cases y <;> first | rfl | cases h1
    rw [this]
    exact ⟨h, trivial⟩
  | g cs =>
    obtain ⟨ys, rfl, h⟩ := h
    simpa [AP.cells, Value.cells] using h
end
end Go.VC
/- The relation stays, from world to world. -/
namespace Go.VC
open Go.RowKit

/-- Calling function f with values that a tells, it returns what r tells, and nothing that was there has changed. -/
def Meets (P : Program) (f : Nat) (as : List AP) (r : AV) : Prop :=
  ∀ (S : Nat → Prop) (w : World) (vs : List Value), (∀ b, S b → b < w.heap.size) → repP ⟨S, fun _ => 0, fun _ => False⟩ w as vs →
    Calls P f vs.toArray w fun e w' => ∃ v, e = .returned v ∧ r.rep ⟨S, fun _ => 0, fun _ => False⟩ w' v ∧ Below w.heap.size w w'
/-- A function that is run in place. -/
def Inline (P : Program) (f : Nat) (as : List AP) (r : AV) : Prop :=
  ∀ (w : World) (vs : List Value), repP ⟨fun _ => False, fun _ => 0, fun _ => False⟩ w as vs →
    ∃ v, (callFunc f vs.toArray).run P w = .ok (.value v) w ∧ ∀ L w', r.rep L w' v
/-- A function that returns a new row, of no elements, that nobody else has. -/
def Fresh (P : Program) (f : Nat) (as : List AP) (r : AV) : Prop :=
  ∃ t d, r = .o (.c (.s t d 0)) ∧ ∀ (S : Nat → Prop) (w : World) (vs : List Value), (∀ b, S b → b < w.heap.size) → repP ⟨S, fun _ => 0, fun _ => False⟩ w as vs →
    Calls P f vs.toArray w fun e w' => ∃ b cap cur, e = .returned (.slice (some ⟨b, 0, none⟩) 0 cap) ∧ w.heap.size ≤ b ∧ w'.heap[b]? = some (.cells cur t.e (0, 0)) ∧ cur.size = cap * t.m ∧ cap ≤ maxLen ∧ Below w.heap.size w w'
def Enters (P : Program) (f : Nat) : Prop := ∀ args w, (callFunc f args).run P w = .ok (.enter f args) w
def SpecOk (P : Program) (sp : Spec) : Prop :=
  ∀ f as r, sp f as = some r → (Enters P f ∧ Meets P f as r) ∨ Inline P f as r ∨ (Enters P f ∧ Fresh P f as r)

section
variable {P : Program} {S0 : Nat → Prop} {w0 : World} {N : Nat} {μ : Nat → Nat} {s : St} {a : Act} {w : World}

/-! ### New variables, stores, calls -/
theorem upd_same {α : Type} (f : Nat → α) (n : Nat) (x : α) : upd f n x n = x := by simp [upd]
theorem upd_ne {α : Type} (f : Nat → α) {n m : Nat} (x : α) (h : m ≠ n) : upd f n x m = f m := by simp [upd, h]

/-- Another world, another μ, another mem; the slots are as they were. -/
theorem Rel.move {μ' : Nat → Nat} {mem' : Nat → Option (List AC)} {w' : World} (R : Rel S0 w0 N μ s a w)
    (hx : Ext (own S0 μ s.mem) w (own S0 μ' mem') w')
    (hm : ∀ n cs, mem' n = some cs → w0.heap.size ≤ μ' n ∧ ∃ (ys zs : List Value) (T : TypeId), w'.heap[μ' n]? = some (.cells (ys ++ zs).toArray T (0, 0)) ∧ repL (own S0 μ' mem') w' cs ys)
    (hi : ∀ n m, mem' n ≠ none → mem' m ≠ none → μ' n = μ' m → n = m) (hb : Below w0.heap.size w0 w') :
    Rel S0 w0 N μ' { s with mem := mem' } a w' :=
  { tmp := fun t => AV.rep_ext hx (R.tmp t), mem := hm, inj := hi, below := hb, defers := R.defers, size := R.size }

theorem ext_below {L : Lie} {w' : World} (hD : ∀ n, L.D n → L.μ n < w.heap.size) (hb : Below w.heap.size w w') : Ext L w L w' :=
  ⟨fun n h => ⟨h, rfl⟩, fun b h hlt => ⟨hb.block b hlt, h⟩, hb.size, fun n h => by unfold World.shape?; rw [hb.block _ (hD n h)]⟩
theorem Rel.lt (R : Rel S0 w0 N μ s a w) : ∀ n, s.mem n ≠ none → μ n < w.heap.size := fun n hn => by
  cases h : s.mem n with
  | none => exact absurd h hn
  | some c => obtain ⟨_, ys, zs, T, h2, _⟩ := R.mem n c h; exact (Array.getElem?_eq_some_iff.1 h2).1
theorem Rel.ge (R : Rel S0 w0 N μ s a w) : ∀ n, s.mem n ≠ none → w0.heap.size ≤ μ n := fun n hn => by
  cases h : s.mem n with
  | none => exact absurd h hn
  | some c => exact (R.mem n c h).1

/-- Behind something that turns nothing that was there. -/
theorem Rel.below' {w' : World} (R : Rel S0 w0 N μ s a w) (hb : Below w.heap.size w w') : Rel S0 w0 N μ s a w' := by
  have hx : Ext (own S0 μ s.mem) w (own S0 μ s.mem) w' := ext_below R.lt hb
  refine R.move (mem' := s.mem) (μ' := μ) hx (fun n cs h => ?_) R.inj (R.below.trans ?_)
  · obtain ⟨h1, ys, zs, T, h2, h3⟩ := R.mem n cs h
    have hlt : μ n < w.heap.size := (Array.getElem?_eq_some_iff.1 h2).1
    exact ⟨h1, ys, zs, T, (hb.block _ hlt).trans h2, repL_ext hx h3⟩
  · exact hb.mono R.below.size

theorem Rel.drew (R : Rel S0 w0 N μ s a w) : Rel S0 w0 N μ s a { w with drawn := w.drawn + 1 } :=
  R.below' ⟨rfl, rfl, rfl, Nat.le_refl _, fun _ _ => rfl⟩

/-! ### Variables fall away -/
structure ExtK (ns : List Nat) (L : Lie) (w : World) (L' : Lie) (w' : World) : Prop where
  D : ∀ n, n ∉ ns → L.D n → L'.D n ∧ L'.μ n = L.μ n
  blk : ∀ b, ¬ L.S b → b < w.heap.size → w'.heap[b]? = w.heap[b]? ∧ ¬ L'.S b
  size : w.heap.size ≤ w'.heap.size
  shp : ∀ n, n ∉ ns → L.D n → w'.shape? (L.μ n) = w.shape? (L.μ n)
theorem ExtK.e {ns : List Nat} {L L' : Lie} {w w' : World} (h : ExtK ns L w L' w') : Ext ⟨L.S, L.μ, fun _ => False⟩ w ⟨L'.S, L'.μ, fun _ => False⟩ w' :=
  ⟨fun n h => h.elim, h.blk, h.size, fun n h => h.elim⟩
section
variable {ns : List Nat} {L L' : Lie} {w' : World}
theorem AC.rep_kill (h : ExtK ns L w L' w') {c : AC} {y : Value} (hr : c.rep L w y) : (c.kill ns).rep L' w' y := by
  cases c with
  | p n off =>
    simp only [AC.kill]
    split
    · trivial
    · rename_i hn
      obtain ⟨h1, h2⟩ := hr
      exact ⟨(h.D n hn h1).1, by rw [(h.D n hn h1).2]; exact h2⟩
  | s t n len =>
    simp only [AC.kill]
    split
    · trivial
    · rename_i hn
      obtain ⟨h1, cap, h2, h3, h4, h5⟩ := hr
      obtain ⟨h6, h7⟩ := h.D n hn h1
      exact ⟨h6, cap, by rw [h7]; exact h2, by rw [h7, h.shp n hn h1]; exact h3, h4, h5⟩
  | v x => exact AC.rep_ext (a := .v x) h.e hr
  | k x => exact AC.rep_ext (a := .k x) h.e hr
  | r e l => exact AC.rep_ext (a := .r e l) h.e hr
  | q m cs => exact AC.rep_ext (a := .q m cs) h.e hr
  | kq cs => exact AC.rep_ext (a := .kq cs) h.e hr
  | nil e => exact hr
  | u => trivial
theorem repL_kill (h : ExtK ns L w L' w') : ∀ {as : List AC} {ys : List Value}, repL L w as ys → repL L' w' (as.map (·.kill ns)) ys
  | [], [], _ => trivial
  | [], _ :: _, hr => hr.elim
  | _ :: _, [], hr => hr.elim
  | _ :: _, _ :: _, hr => ⟨AC.rep_kill h hr.1, repL_kill h hr.2⟩
theorem AP.rep_kill (h : ExtK ns L w L' w') {c : AP} {y : Value} (hr : c.rep L w y) : (c.kill ns).rep L' w' y := by
  cases c with
  | c a => exact AC.rep_kill (c := a) h hr
  | g cs => obtain ⟨ys, h1, h2⟩ := hr; exact ⟨ys, h1, repL_kill h h2⟩
theorem repP_kill (h : ExtK ns L w L' w') : ∀ {as : List AP} {ys : List Value}, repP L w as ys → repP L' w' (as.map (·.kill ns)) ys
  | [], [], _ => trivial
  | [], _ :: _, hr => hr.elim
  | _ :: _, [], hr => hr.elim
  | _ :: _, _ :: _, hr => ⟨AP.rep_kill h hr.1, repP_kill h hr.2⟩
theorem AV.rep_kill (h : ExtK ns L w L' w') {c : AV} {y : Value} (hr : c.rep L w y) : (c.kill ns).rep L' w' y := by
  cases c with
  | o a => exact AP.rep_kill (c := a) h hr
  | t l => obtain ⟨ys, h1, h2⟩ := hr; exact ⟨ys, h1, repP_kill h h2⟩
end
theorem kill_nil : ∀ c : AC, c.kill [] = c := fun c => by cases c <;> simp [AC.kill]
theorem killP_nil : ∀ c : AP, c.kill [] = c := fun c => by
  cases c with
  | c a => simp [AP.kill, kill_nil]
  | g cs => simp only [AP.kill]; congr 1; rw [show (fun c : AC => c.kill []) = id from funext kill_nil]; simp
theorem killV_nil : ∀ c : AV, c.kill [] = c := fun c => by
  cases c with
  | o a => simp [AV.kill, killP_nil]
  | t l => simp only [AV.kill]; congr 1; rw [show (fun c : AP => c.kill []) = id from funext killP_nil]; simp
theorem drop_nil (s : St) : s.drop [] = s := by
  unfold St.drop
  cases s with
  | mk tm mem =>
    congr 1
    · funext t; exact killV_nil _
    · funext n
      simp only [List.not_mem_nil, if_false]
      split
      · rename_i cs h; rw [h]; congr 1; rw [show (fun c : AC => c.kill []) = id from funext kill_nil]; simp
      · rename_i h; rw [h]
theorem drop_mem {s : St} {ns : List Nat} {n : Nat} (h : (s.drop ns).mem n ≠ none) : n ∉ ns ∧ s.mem n ≠ none := by
  unfold St.drop at h
  simp only at h
  split at h
  · exact absurd rfl h
  · rename_i hn
    refine ⟨hn, fun e => ?_⟩
    rw [e] at h
    exact h rfl
theorem drop_mem_of {s : St} {ns : List Nat} {n : Nat} (hn : n ∉ ns) (h : s.mem n ≠ none) : (s.drop ns).mem n ≠ none := by
  unfold St.drop
  simp only [if_neg hn]
  cases hs : s.mem n with
  | none => exact absurd hs h
  | some c => simp
theorem drop_get {s : St} {ns : List Nat} {n : Nat} {cs : List AC} (h : (s.drop ns).mem n = some cs) : n ∉ ns ∧ ∃ c, s.mem n = some c ∧ cs = c.map (·.kill ns) := by
  unfold St.drop at h
  simp only at h
  split at h
  · cases h
  · rename_i hn
    refine ⟨hn, ?_⟩
    split at h
    · rename_i c hc; exact ⟨c, hc, by cases h; rfl⟩
    · cases h

/-- The variables ns fall away. -/
theorem Rel.drop (ns : List Nat) (R : Rel S0 w0 N μ s a w) : Rel S0 w0 N μ (s.drop ns) a w := by
  have hx : ExtK ns (own S0 μ s.mem) w (own S0 μ (s.drop ns).mem) w := by
    refine ⟨fun n hn h => ⟨drop_mem_of hn h, rfl⟩, fun b hb hlt => ⟨rfl, ?_⟩, Nat.le_refl _, fun _ _ _ => rfl⟩
    rintro (h | ⟨m, hm, hmb⟩)
    · exact hb (.inl h)
    · exact hb (.inr ⟨m, (drop_mem hm).2, hmb⟩)
  refine { tmp := fun t => AV.rep_kill hx (R.tmp t), mem := fun n cs h => ?_, inj := fun n m hn hm => R.inj n m (drop_mem hn).2 (drop_mem hm).2, below := R.below, defers := R.defers, size := R.size }
  obtain ⟨hn, c, hc, rfl⟩ := drop_get h
  obtain ⟨h1, ys, zs, T, h2, h3⟩ := R.mem n c hc
  exact ⟨h1, ys, zs, T, h2, repL_kill hx h3⟩

/-- The variables ns fall away, and d is a new one, in a new block or in one of theirs. -/
theorem Rel.turn (hS0 : ∀ b, S0 b → b < w0.heap.size) (R : Rel S0 w0 N μ s a w) {ns : List Nat} {d b : Nat} {cs : List AC} {ys zs : List Value} {T : TypeId} {w' : World} (hd : s.mem d = none ∨ d ∈ ns) (hb0 : w0.heap.size ≤ b)
    (hb : w.heap.size ≤ b ∨ ∃ n ∈ ns, s.mem n ≠ none ∧ μ n = b) (hblk : w'.heap[b]? = some (.cells (ys ++ zs).toArray T (0, 0))) (hold : ∀ k, k < w.heap.size → k ≠ b → w'.heap[k]? = w.heap[k]?) (hsz : w.heap.size ≤ w'.heap.size)
    (hbel : Below w0.heap.size w0 w') (hr : repL (own S0 μ s.mem) w cs ys) :
    Rel S0 w0 N (upd μ d b) ⟨(s.drop ns).tm, upd (s.drop ns).mem d (some (cs.map (·.kill ns)))⟩ a w' ∧ (own S0 (upd μ d b) (upd (s.drop ns).mem d (some (cs.map (·.kill ns))))).D d ∧ upd μ d b d = b := by
  have hne : ∀ n, n ∉ ns → s.mem n ≠ none → n ≠ d := fun n hn hm e => by
    subst e
    rcases hd with h | h
    · exact hm h
    · exact hn h
  have hμb : ∀ n, n ∉ ns → s.mem n ≠ none → μ n ≠ b := fun n hn hm e => by
    rcases hb with h | ⟨m, h1, h2, h3⟩
    · have := R.lt n hm; omega
    · have := R.inj n m hm h2 (e.trans h3.symm)
      exact hn (this ▸ h1)
  have hx : ExtK ns (own S0 μ s.mem) w (own S0 (upd μ d b) (upd (s.drop ns).mem d (some (cs.map (·.kill ns))))) w' := by
    refine ⟨fun n hn h => ⟨?_, ?_⟩, fun k hk hlt => ?_, hsz, fun n hn h => ?_⟩
    · show upd _ d _ n ≠ none
      rw [upd_ne _ _ (hne n hn h)]
      exact drop_mem_of hn h
    · show upd μ d b n = μ n
      rw [upd_ne _ _ (hne n hn h)]
    · have hkb : k ≠ b := fun e => by
        subst e
        rcases hb with h | ⟨m, h1, h2, h3⟩
        · omega
        · exact hk (.inr ⟨m, h2, h3⟩)
      refine ⟨hold k hlt hkb, ?_⟩
      rintro (h | ⟨m, hm, hmk⟩)
      · exact hk (.inl h)
      · by_cases hmd : m = d
        · subst hmd; rw [upd_same] at hmk; exact hkb hmk.symm
        · rw [upd_ne _ _ hmd] at hm hmk
          exact hk (.inr ⟨m, (drop_mem hm).2, hmk⟩)
    · show w'.shape? (μ n) = w.shape? (μ n)
      unfold World.shape?
      rw [hold _ (R.lt n h) (hμb n hn h)]
  refine ⟨{ tmp := fun t => AV.rep_kill hx (R.tmp t), mem := fun n c h => ?_, inj := fun i j hi hj hij => ?_, below := hbel, defers := R.defers, size := R.size }, ?_, upd_same _ _ _⟩
  · dsimp only at h ⊢
    by_cases hnd : n = d
    · subst hnd
      rw [upd_same] at h ⊢
      cases h
      exact ⟨hb0, ys, zs, T, hblk, repL_kill hx hr⟩
    · rw [upd_ne _ _ hnd] at h ⊢
      obtain ⟨hn, c0, hc0, rfl⟩ := drop_get h
      obtain ⟨h1, ys', zs', T', h2, h3⟩ := R.mem n c0 hc0
      have hm : s.mem n ≠ none := by rw [hc0]; simp
      exact ⟨h1, ys', zs', T', (hold _ (R.lt n hm) (hμb n hn hm)).trans h2, repL_kill hx h3⟩
  · dsimp only at hi hj
    by_cases hi' : i = d <;> by_cases hj' : j = d
    · rw [hi', hj']
    · subst hi'
      rw [upd_same, upd_ne _ _ hj'] at hij
      rw [upd_ne _ _ hj'] at hj
      obtain ⟨q1, q2⟩ := drop_mem hj
      exact absurd hij.symm (hμb j q1 q2)
    · subst hj'
      rw [upd_same, upd_ne _ _ hi'] at hij
      rw [upd_ne _ _ hi'] at hi
      obtain ⟨q1, q2⟩ := drop_mem hi
      exact absurd hij (hμb i q1 q2)
    · rw [upd_ne _ _ hi'] at hi hij
      rw [upd_ne _ _ hj'] at hj hij
      exact R.inj i j (drop_mem hi).2 (drop_mem hj).2 hij
  · show upd _ d _ d ≠ none
    rw [upd_same]; simp

/-- A new variable in a new block. -/
theorem Rel.fresh (hS0 : ∀ b, S0 b → b < w0.heap.size) (R : Rel S0 w0 N μ s a w) {d b : Nat} {cs : List AC} {ys zs : List Value} {T : TypeId} {w' : World} (hd : s.mem d = none) (hb : w.heap.size ≤ b)
    (hblk : w'.heap[b]? = some (.cells (ys ++ zs).toArray T (0, 0))) (hbel : Below w.heap.size w w') (hr : repL (own S0 μ s.mem) w cs ys) :
    Rel S0 w0 N (upd μ d b) ⟨s.tm, upd s.mem d (some cs)⟩ a w' ∧ (own S0 (upd μ d b) (upd s.mem d (some cs))).D d ∧ upd μ d b d = b := by
  have := R.turn hS0 (ns := []) (d := d) (b := b) (cs := cs) (ys := ys) (zs := zs) (T := T) (w' := w') (.inl hd) (Nat.le_trans R.below.size hb) (.inl hb) hblk (fun k hk _ => hbel.block k hk) hbel.size (R.below.trans (hbel.mono R.below.size)) hr
  rw [drop_nil] at this
  rwa [show (fun c : AC => c.kill []) = id from funext kill_nil, List.map_id] at this

theorem Rel.alloc (hS0 : ∀ b, S0 b → b < w0.heap.size) (R : Rel S0 w0 N μ s a w) {n : Nat} (hn : s.mem n = none) {cs : List AC} {ys : List Value} (T : TypeId) (hr : repL (own S0 μ s.mem) w cs ys) :
    Rel S0 w0 N (upd μ n w.heap.size) { s with mem := upd s.mem n (some cs) } a { w with heap := w.heap.push (.cells ys.toArray T (0, 0)) } ∧
    AC.rep (own S0 (upd μ n w.heap.size) (upd s.mem n (some cs))) { w with heap := w.heap.push (.cells ys.toArray T (0, 0)) } (.p n 0) (.pointer (some ⟨w.heap.size, 0, none⟩)) := by
  have hb : Below w.heap.size w { w with heap := w.heap.push (.cells ys.toArray T (0, 0)) } :=
    ⟨rfl, rfl, rfl, by simp, fun k hk => by show (w.heap.push _)[k]? = _; rw [Array.getElem?_push, if_neg (by omega)]⟩
  obtain ⟨h1, h2, h3⟩ := R.fresh hS0 (zs := []) (T := T) hn (Nat.le_refl _) (by show (w.heap.push _)[w.heap.size]? = _; simp) hb hr
  exact ⟨h1, h2, by show _ = Value.pointer (some ⟨upd μ n w.heap.size n, 0, none⟩); rw [h3]⟩

theorem Rel.put {d : Option Nat} {v : AV} {y : Value} (R : Rel S0 w0 N μ s a w) (h : v.rep (own S0 μ s.mem) w y) (hd : ∀ n, d = some n → n < N) : Rel S0 w0 N μ (s.put d v) (a.put d y) w := by
  cases d with
  | none => exact R
  | some n =>
    have hn : n < a.tmps.size := by rw [R.size]; exact hd n rfl
    refine { tmp := fun t => ?_, mem := R.mem, inj := R.inj, below := R.below, defers := R.defers, size := by simpa [Act.put] using R.size }
    show (upd s.tm n v t).rep _ w ((a.tmps.setIfInBounds n y).getD t undef)
    by_cases ht : t = n
    · subst ht
      rw [upd_same]
      have e : (a.tmps.setIfInBounds t y).getD t undef = y := by simp [Array.getD, hn]
      rw [e]
      exact h
    · rw [upd_ne _ _ ht]
      have := R.tmp t
      rw [Array.getD_eq_getD_getElem?] at this ⊢
      rwa [Array.getElem?_setIfInBounds_ne (Ne.symm ht)]
end
end Go.VC
/- The evaluator is sound: moves, new variables, loads. -/
namespace Go.VC
open Go.RowKit
section
variable {P : Program} {S0 : Nat → Prop} {w0 : World} {N : Nat} {μ : Nat → Nat} {s s' : St} {a : Act} {w : World} {sp : Spec} {o : Oper} {v : AV} {K : Act → World → Prop} {Q : Exit → Act → World → Prop} {dst : Option Nat}

/-- What is to be shown of an operation. -/
def Sound (P : Program) (S0 : Nat → Prop) (w0 : World) (N : Nat) (o : Oper) (s' : St) (v : AV) (a : Act) (w : World) : Prop :=
  ∀ (K : Act → World → Prop) (Q : Exit → Act → World → Prop), (∀ μ' y w', Rel S0 w0 N μ' s' a w' → v.rep (own S0 μ' s'.mem) w' y → K (a.put o.dst y) w') → o.wp P a w K Q

theorem sound_value {y : Value} {w' : World} {μ' : Nat → Nat} (h : (execOp a.eval o).run P w = .ok (.value y) w') (R : Rel S0 w0 N μ' s' a w') (hv : v.rep (own S0 μ' s'.mem) w' y) : Sound P S0 w0 N o s' v a w := by
  intro K Q hK
  unfold Oper.wp
  rw [h]
  exact hK _ _ _ R hv
theorem sound_skip {w' : World} {μ' : Nat → Nat} (h : (execOp a.eval o).run P w = .ok .skip w') (R : Rel S0 w0 N μ' s' a w') (hv : v.rep (own S0 μ' s'.mem) w' undef) : Sound P S0 w0 N o s' v a w := by
  intro K Q hK
  unfold Oper.wp
  rw [h]
  exact hK _ _ _ R hv

theorem run_zero {t : TypeId} {z : Value} (h : (P.info? t).bind (·.zero) = some z) (w : World) : (zeroValue t).run P w = .ok z w := by
  cases hi : P.info? t with
  | none => simp [hi] at h
  | some i =>
    have hz : i.zero = some z := by simpa [hi] using h
    simp [zeroValue, typeInfo, hi, hz]
theorem run_size {t : TypeId} {n : Nat} (h : sizeP P t = some n) (w : World) : (sizeOf t).run P w = .ok n w := by
  unfold sizeP at h
  cases hi : P.info? t with
  | none => simp [hi] at h
  | some i =>
    have hz : i.size = n := by simpa [hi] using h
    simp [sizeOf, typeInfo, hi, hz]
theorem run_isAggP {t : TypeId} {b : Bool} (h : rowP P t = some b) (w : World) : (isAgg t).run P w = .ok b w := by
  unfold rowP at h
  cases hu : P.underlying t with
  | none => simp [hu] at h
  | some d =>
    have hd : d.isRow = b := by simpa [hu] using h
    unfold isAgg
    rw [Sem.run_bind, run_underlying hu w]
    cases d <;> simp_all

theorem sound_mv {x : Operand} {y : SA} (R : Rel S0 w0 N μ s a w) (hop : o.op = .move x ∨ o.op = .assign x) (hx : chkSA x y = true) (he : absOp sp dst (.mv y) s = some (v, s')) : Sound P S0 w0 N o s' v a w := by
  simp only [absOp, Option.some.injEq, Prod.mk.injEq] at he
  obtain ⟨rfl, rfl⟩ := he
  refine sound_value (y := a.eval x) (w' := w) ?_ R (R.ev hx)
  rcases hop with h | h <;> simp [execOp, h]
theorem sound_pick {c x y : Operand} {c' x' y' : SA} (R : Rel S0 w0 N μ s a w) (hop : o.op = .pick c x y) (hc : chkSA c c' = true) (hx : chkSA x x' = true) (hy : chkSA y y' = true) (he : absOp sp dst (.pick c' x' y') s = some (v, s')) : Sound P S0 w0 N o s' v a w := by
  simp only [absOp] at he
  split at he
  · rename_i t ht
    simp only [Option.some.injEq, Prod.mk.injEq] at he
    obtain ⟨rfl, rfl⟩ := he
    have hb := (R.val hc ht).1
    refine sound_value (y := if t then a.eval x else a.eval y) (w' := w) ?_ R ?_
    · simp only [execOp, hop, hb, asBool, Sem.run_bind, Sem.run_pure, Result.andThen_ok]
    · cases t
      · exact R.ev hy
      · exact R.ev hx
  · cases he
theorem sound_alloc {t : TypeId} {z : List AC} (hS0 : ∀ b, S0 b → b < w0.heap.size) (R : Rel S0 w0 N μ s a w) (hop : o.op = .alloc t) (hz : (match (P.info? t).bind (·.zero) with | some v => chkCells v.cells.toList z | none => false) = true) (he : absOp sp dst (.alloc z) s = some (v, s')) : Sound P S0 w0 N o s' v a w := by
  simp only [absOp] at he
  split at hz
  · rename_i zv hzv
    split at he
    · rename_i n
      split at he
      · rename_i hn
        simp only [Option.some.injEq, Prod.mk.injEq] at he
        obtain ⟨rfl, rfl⟩ := he
        obtain ⟨R', h'⟩ := R.alloc hS0 hn t (chkCells_rep (L := own S0 μ s.mem) (w := w) hz)
        refine sound_value (y := .pointer (some ⟨w.heap.size, 0, none⟩)) ?_ R' h'
        simp [execOp, hop, Instr.alloc, run_zero hzv, newVar, newRow]
      · cases he
    · cases he
  · cases hz
theorem sound_box {t : TypeId} {x : Operand} {y : SA} (hS0 : ∀ b, S0 b → b < w0.heap.size) (R : Rel S0 w0 N μ s a w) (hop : o.op = .box t x) (hx : chkSA x y = true) (he : absOp sp dst (.box y) s = some (v, s')) : Sound P S0 w0 N o s' v a w := by
  simp only [absOp] at he
  split at he
  · rename_i n ap hp
    split at he
    · rename_i hn
      split at he
      · rename_i hok
        simp only [Option.some.injEq, Prod.mk.injEq] at he
        obtain ⟨rfl, rfl⟩ := he
        obtain ⟨R', h'⟩ := R.alloc hS0 hn t (AP.rep_cells (R.part hx hp) hok)
        refine sound_value (y := .pointer (some ⟨w.heap.size, 0, none⟩)) ?_ R' h'
        simp [execOp, hop, Instr.box, newVar, newRow]
      · cases he
    · cases he
  · cases he

/-! ### Loads, stores, parts -/
theorem range_of {b : Nat} {ys zs : List Value} {T : TypeId} {fr : Nat × Nat} (h : w.heap[b]? = some (.cells (ys ++ zs).toArray T fr)) (off n : Nat) : w.rangeAt b off ((ys.drop off).take n) := by
  intro j v hv
  rw [cell_of_row w b (off + j) (ys ++ zs).toArray T fr h]
  rw [List.getElem?_take] at hv
  split at hv
  · rw [List.getElem?_drop] at hv
    have hlt : off + j < ys.length := by
      rcases Nat.lt_or_ge (off + j) ys.length with h | h
      · exact h
      · rw [List.getElem?_eq_none h] at hv; cases hv
    simp only [List.getElem?_toArray]
    rw [List.getElem?_append_left hlt]
    exact hv
  · cases hv
theorem cell_own {b : Nat} {ys zs : List Value} {T : TypeId} {fr : Nat × Nat} (h : w.heap[b]? = some (.cells (ys ++ zs).toArray T fr)) {off : Nat} {y : Value} (hy : ys[off]? = some y) : w.cell? ⟨b, off, none⟩ = some y := by
  rw [cell_of_row w b off (ys ++ zs).toArray T fr h]
  have hlt : off < ys.length := (List.getElem?_eq_some_iff.1 hy).1
  simp only [List.getElem?_toArray]
  rw [List.getElem?_append_left hlt]
  exact hy
theorem QC.ac_rep {L : Lie} {c : QC} {y : Value} (h : c.rep L.S w y) : c.ac.rep L w y := by
  cases c with
  | v x => exact h
  | r e l => exact h
theorem stand_rep {L : Lie} {b : Nat} : ∀ (cs : List QC) (o : Nat), Stand L.S w b o cs → ∃ ys : List Value, repL L w (cs.map (·.ac)) ys ∧ w.rangeAt b o ys
  | [], o, _ => ⟨[], trivial, fun j v hv => by simp at hv⟩
  | c :: cs, o, h => by
    obtain ⟨v, h1, h2⟩ := h 0 c rfl
    obtain ⟨ys, h3, h4⟩ := stand_rep (L := L) (b := b) cs (o + 1) (fun j c' hj => by
      have := h (j + 1) c' (by simpa using hj)
      rwa [show o + (j + 1) = o + 1 + j by omega] at this)
    refine ⟨v :: ys, ⟨QC.ac_rep h2, h3⟩, fun j u hu => ?_⟩
    cases j with
    | zero => simp at hu; subst hu; exact h1
    | succ j =>
      have := h4 j u (by simpa using hu)
      rwa [show o + 1 + j = o + (j + 1) by omega] at this
theorem stand_take {S : Nat → Prop} {b o : Nat} {cs : List QC} (n : Nat) (h : Stand S w b o cs) : Stand S w b o (cs.take n) := fun j c hj => h j c (by
  rw [List.getElem?_take] at hj
  split at hj
  · exact hj
  · cases hj)
theorem stand_drop {S : Nat → Prop} {b o : Nat} {cs : List QC} (n : Nat) (h : Stand S w b o cs) : Stand S w b (o + n) (cs.drop n) := fun j c hj => by
  rw [List.getElem?_drop] at hj
  rw [Nat.add_assoc]
  exact h _ c hj
theorem sound_load {t : TypeId} {x : Operand} {y : SA} {agg : Bool} {size : Nat} (R : Rel S0 w0 N μ s a w) (hop : o.op = .load t x) (hrow : rowP P t = some agg) (hsize : sizeP P t = some size) (h1 : agg = true ∨ size = 1) (hx : chkSA x y = true) {nm : Option Nat} (he : absOp sp dst (.load agg size y nm) s = some (v, s')) : Sound P S0 w0 N o s' v a w := by
  have hev := R.ev hx
  simp only [absOp] at he
  split at he
  · rename_i n off hy
    rw [hy] at hev
    obtain ⟨hD, hp⟩ := hev
    split at he
    case isFalse => cases he
    split at he
    · rename_i cs hcs
      obtain ⟨_, ys, zs, T, hb, hr⟩ := R.mem n cs hcs
      have hl := repL_length hr
      split at he
      · rename_i hle
        cases agg with
        | true =>
          simp only [if_true, Option.some.injEq, Prod.mk.injEq] at he
          obtain ⟨rfl, rfl⟩ := he
          have hu : ∃ d, P.underlying t = some d ∧ d.isRow = true := by
            unfold rowP at hrow
            cases hu : P.underlying t with
            | none => simp [hu] at hrow
            | some d => exact ⟨d, rfl, by simpa [hu] using hrow⟩
          obtain ⟨d, hu, hd⟩ := hu
          have hlen : ((ys.drop off).take size).length = size := by rw [List.length_take, List.length_drop]; omega
          refine sound_value (y := .agg ((ys.drop off).take size).toArray) ?_ R ⟨_, rfl, repL_take _ (repL_drop _ hr)⟩
          simp only [execOp, hop, hp, own, Sem.run_bind, run_loadAt_mid w (μ n) off t _ d (range_of hb off size) hu hd (by rw [hlen]; exact hsize), Result.andThen_ok, Sem.run_pure]
        | false =>
          simp only [Bool.false_eq_true, if_false] at he
          split at he
          · rename_i c hc
            split at he
            · simp only [Option.some.injEq, Prod.mk.injEq] at he
              obtain ⟨rfl, rfl⟩ := he
              obtain ⟨yv, hyv, hrep⟩ := repL_get off hr hc
              have hcell : w.cell? ⟨μ n, off, none⟩ = some yv := cell_own hb hyv
              refine sound_value (y := yv) ?_ R hrep
              simp only [execOp, hop, hp, own, Instr.loadAt, Instr.sureAddr, loadVar, Sem.run_bind, Sem.run_pure, Result.andThen_ok, run_isAggP hrow, Bool.false_eq_true, if_false, run_load, hcell]
            · cases he
          · cases he
      · cases he
    · cases he
  · rename_i x' hy
    rw [hy] at hev
    obtain ⟨h0, b, off, hp, hb1, hb2, hcell⟩ := hev
    cases agg with
    | true => simp at he
    | false =>
      simp only [Bool.false_eq_true, if_false] at he
      split at he
      · simp only [Option.some.injEq, Prod.mk.injEq] at he
        obtain ⟨rfl, rfl⟩ := he
        refine sound_value (y := x') ?_ R ⟨rfl, h0⟩
        simp only [execOp, hop, hp, Instr.loadAt, Instr.sureAddr, loadVar, Sem.run_bind, Sem.run_pure, Result.andThen_ok, run_isAggP hrow, Bool.false_eq_true, if_false, run_load, hcell]
      · cases he
  · rename_i cs hy
    rw [hy] at hev
    obtain ⟨b, off, hp, hb1, hb2, hst⟩ := hev
    split at he
    · rename_i hle
      cases agg with
      | true =>
        simp only [if_true, Option.some.injEq, Prod.mk.injEq] at he
        obtain ⟨rfl, rfl⟩ := he
        have hu : ∃ d, P.underlying t = some d ∧ d.isRow = true := by
          unfold rowP at hrow
          cases hu : P.underlying t with
          | none => simp [hu] at hrow
          | some d => exact ⟨d, rfl, by simpa [hu] using hrow⟩
        obtain ⟨d, hu, hd⟩ := hu
        obtain ⟨ys, h3, h4⟩ := stand_rep (L := own S0 μ s.mem) (w := w) (cs.take size) off (stand_take size hst)
        have hlen : ys.length = size := by
          have := repL_length h3
          rw [List.length_map, List.length_take] at this
          omega
        refine sound_value (y := .agg ys.toArray) ?_ R ⟨_, rfl, h3⟩
        simp only [execOp, hop, hp, own, Sem.run_bind, run_loadAt_mid w b off t _ d h4 hu hd (by rw [hlen]; exact hsize), Result.andThen_ok, Sem.run_pure]
      | false =>
        simp only [Bool.false_eq_true, if_false] at he
        split at he
        · rename_i c hc
          split at he
          · simp only [Option.some.injEq, Prod.mk.injEq] at he
            obtain ⟨rfl, rfl⟩ := he
            obtain ⟨yv, hcell, hrep⟩ := hst 0 c hc
            simp only [Nat.add_zero] at hcell
            refine sound_value (y := yv) ?_ R (QC.ac_rep (L := own S0 μ s.mem) hrep)
            simp only [execOp, hop, hp, own, Instr.loadAt, Instr.sureAddr, loadVar, Sem.run_bind, Sem.run_pure, Result.andThen_ok, run_isAggP hrow, Bool.false_eq_true, if_false, run_load, hcell]
          · cases he
        · cases he
    · cases he
  · cases he
end
end Go.VC
/- The evaluator is sound: stores, fields. -/
namespace Go.VC
open Go.RowKit
section
variable {P : Program} {S0 : Nat → Prop} {w0 : World} {N : Nat} {μ : Nat → Nat} {s s' : St} {a : Act} {w : World} {sp : Spec} {o : Oper} {v : AV} {K : Act → World → Prop} {Q : Exit → Act → World → Prop} {dst : Option Nat}

/-- Cells written into a block that is known whole. -/
theorem setCells_block : ∀ (zs : List Value) (b off : Nat) (w : World) (ys : List Value) (T : TypeId), w.heap[b]? = some (.cells ys.toArray T (0, 0)) → off + zs.length ≤ ys.length →
    (w.setCells b off zs).heap[b]? = some (.cells (ys.take off ++ zs ++ ys.drop (off + zs.length)).toArray T (0, 0)) ∧ (∀ k, k ≠ b → (w.setCells b off zs).heap[k]? = w.heap[k]?) ∧ (w.setCells b off zs).heap.size = w.heap.size ∧ Below b w (w.setCells b off zs)
  | [], b, off, w, ys, T, h, _ => by simp [World.setCells, h, Below.refl]
  | z :: zs, b, off, w, ys, T, h, hl => by
    rw [World.setCells]
    have h1 : (w.setCell ⟨b, off, none⟩ z).heap[b]? = some (.cells (ys.set off z).toArray T (0, 0)) := by
      simp [World.setCell, Array.getElem?_modify, h]
    have hlen : off + (zs.length + 1) ≤ ys.length := by simpa using hl
    obtain ⟨r1, r2, r3, r4⟩ := setCells_block zs b (off + 1) _ (ys.set off z) T h1 (by simp; omega)
    refine ⟨?_, fun k hk => (r2 k hk).trans (Below.heap_setCell _ _ _ _ hk), r3.trans (by simp [World.setCell]), ?_⟩
    · rw [r1]
      have : List.take (off + 1) (ys.set off z) ++ zs ++ List.drop (off + 1 + zs.length) (ys.set off z) = List.take off ys ++ z :: zs ++ List.drop (off + (zs.length + 1)) ys := by
        have e1 : List.take (off + 1) (ys.set off z) = List.take off ys ++ [z] := by
          rw [List.take_add_one, List.take_set_of_le (Nat.le_refl _)]
          simp [List.getElem?_set, show off < ys.length by omega]
        have e2 : List.drop (off + 1 + zs.length) (ys.set off z) = List.drop (off + (zs.length + 1)) ys := by
          rw [List.drop_set_of_lt (by omega)]
          congr 1; omega
        rw [e1, e2]; simp
      rw [this]; rfl
    · have hs : Below b w (w.setCell ⟨b, off, none⟩ z) := ⟨rfl, rfl, rfl, by simp [World.setCell], fun k hk => Below.heap_setCell w ⟨b, off, none⟩ z k (by show k ≠ b; omega)⟩
      exact hs.trans r4

theorem sound_store {t : TypeId} {x y : Operand} {x' y' : SA} {size : Nat} (R : Rel S0 w0 N μ s a w) (hop : o.op = .store t x y) (hsize : sizeP P t = some size) (hx : chkSA x x' = true) (hy : chkSA y y' = true) {nm : Nat} (he : absOp sp dst (.store size x' y' nm) s = some (v, s')) : Sound P S0 w0 N o s' v a w := by
  simp only [absOp] at he
  split at he
  · rename_i n off ap hpt hpa
    obtain ⟨hp, hD⟩ := R.ptr hx hpt
    split at he
    case isFalse => cases he
    split at he
    · rename_i cs hcs
      split at he
      · rename_i hcond
        obtain ⟨hc1, hc2, hc3⟩ := hcond
        simp only [Option.some.injEq, Prod.mk.injEq] at he
        obtain ⟨rfl, rfl⟩ := he
        obtain ⟨hge, ys, zs, T, hb, hr⟩ := R.mem n cs hcs
        have hl := repL_length hr
        have hok : ap.ok = true := by
          cases ap with
          | c q => cases q <;> first | rfl | (simp [AP.cells, AC.known] at hc3)
          | g q => rfl
        have hrp := AP.rep_cells (R.part hy hpa) hok
        have hl2 := repL_length hrp
        have hone : ∀ z ∈ (a.eval y).cells.toList, z.oneCell' = true := known_all hc3 hrp
        have hsz : (a.eval y).cells.size = size := by rw [← hc1, hl2]; simp
        obtain ⟨q1, q2, q3, q4⟩ := setCells_block (a.eval y).cells.toList (μ n) off w (ys ++ zs) T hb (by rw [← hl2, List.length_append, ← hl, hc1]; omega)
        have hthere : ∀ j, j < (a.eval y).cells.size → (w.cell? ⟨μ n, off + j, none⟩).isSome = true ∧ w.frozen? ⟨μ n, off + j, none⟩ = false := by
          intro j hj
          have : off + j < ys.length := by rw [← hl]; omega
          refine ⟨?_, by simp [World.frozen?, hb]⟩
          rw [cell_own hb (List.getElem?_eq_getElem this)]
          rfl
        have hst : (storeVar t ⟨μ n, off, none⟩ (a.eval y)).run P w = .ok () (w.setCells (μ n) off (a.eval y).cells.toList) := by
          have hsc := run_storeCells_cells (P := P) (μ n) off (a.eval y).cells.toList 0 w (fun j hj => by simpa using (hthere j (by simpa using hj)).1) (fun j hj => by simpa using (hthere j (by simpa using hj)).2) hone
          simp only [Nat.add_zero] at hsc
          simp only [storeVar, Sem.run_bind, run_size hsize, Result.andThen_ok, hsz, ne_eq, not_true_eq_false, if_false]
          exact hsc
        have hx1 : Ext (own S0 μ s.mem) w (own S0 μ (upd s.mem n (some (splice cs off ap.cells)))) (w.setCells (μ n) off (a.eval y).cells.toList) := by
          refine ⟨fun m hm => ⟨?_, rfl⟩, fun b hbS hlt => ⟨q2 b (fun e => hbS (.inr ⟨n, hD, e.symm⟩)), ?_⟩, by rw [q3]; exact Nat.le_refl _, fun m hm => ?_⟩
          · show upd s.mem n _ m ≠ none
            by_cases hne : m = n
            · subst hne; rw [upd_same]; simp
            · rw [upd_ne _ _ hne]; exact hm
          · rintro (h | ⟨m, hm, hmb⟩)
            · exact hbS (.inl h)
            · by_cases hne : m = n
              · subst hne; exact hbS (.inr ⟨m, hD, hmb⟩)
              · rw [upd_ne _ _ hne] at hm; exact hbS (.inr ⟨m, hm, hmb⟩)
          · show (World.setCells _ _ _ _).shape? (μ m) = w.shape? (μ m)
            unfold World.shape?
            by_cases hne : μ m = μ n
            · rw [hne, q1, hb]
              simp only [List.size_toArray, List.length_append, List.length_take, List.length_drop]
              congr 2
              have : (a.eval y).cells.toList.length = size := by rw [← hl2, hc1]
              rw [this]; omega
            · rw [q2 _ hne]
        have R' : Rel S0 w0 N μ { s with mem := upd s.mem n (some (splice cs off ap.cells)) } a (w.setCells (μ n) off (a.eval y).cells.toList) := by
          refine R.move hx1 (fun m c h => ?_) (fun i j hi hj hij => ?_) (R.below.trans (q4.mono hge))
          · by_cases hne : m = n
            · subst hne
              rw [upd_same] at h
              cases h
              have hr' := repL_ext hx1 hr
              have hrp' := repL_ext hx1 hrp
              have hz : (a.eval y).cells.toList.length = size := by rw [← hl2, hc1]
              refine ⟨hge, ys.take off ++ (a.eval y).cells.toList ++ ys.drop (off + ap.cells.length), zs, T, ?_, repL_append (repL_append (repL_take _ hr') hrp') (repL_drop _ hr')⟩
              rw [q1, hz, hc1, List.take_append_of_le_length (by omega), List.drop_append_of_le_length (by omega)]
              simp only [List.append_assoc]
            · rw [upd_ne _ _ hne] at h
              obtain ⟨h1, ys', zs', T', h2, h3⟩ := R.mem m c h
              have hmn : μ m ≠ μ n := fun e => hne (R.inj m n (by rw [h]; simp) hD e)
              exact ⟨h1, ys', zs', T', (q2 _ hmn).trans h2, repL_ext hx1 h3⟩
          · have hh : ∀ q, upd s.mem n (some (splice cs off ap.cells)) q ≠ none → s.mem q ≠ none := by
              intro q hq
              by_cases hne : q = n
              · subst hne; exact hD
              · rwa [upd_ne _ _ hne] at hq
            exact R.inj i j (hh i hi) (hh j hj) hij
        refine sound_skip (w' := w.setCells (μ n) off (a.eval y).cells.toList) ?_ R' trivial
        simp only [execOp, hop, hp, Instr.storeAt, Instr.sureAddr, Sem.run_bind, Sem.run_pure, Result.andThen_ok, hst]
      · cases he
    · cases he
  · cases he

theorem sound_fld {t : TypeId} {x : Operand} {y : SA} {i off : Nat} (R : Rel S0 w0 N μ s a w) (hop : o.op = .fieldAddr t x i) (hf : (match fieldP P t i with | some f => f.offset == off && (match sizeP P f.type with | some n => n != 0 | none => false) | none => false) = true) (hx : chkSA x y = true) (he : absOp sp dst (.fld off y) s = some (v, s')) : Sound P S0 w0 N o s' v a w := by
  have hev := R.ev hx
  have step : ∀ (b q : Nat), a.eval x = .pointer (some ⟨b, q, none⟩) → (execOp a.eval o).run P w = .ok (.value (.pointer (some ⟨b, q + off, none⟩))) w := by
    intro b q hp
    split at hf
    · rename_i f hfp
      simp only [Bool.and_eq_true, beq_iff_eq] at hf
      obtain ⟨hoff, hsz⟩ := hf
      split at hsz
      · rename_i m hm
        have hm0 : m ≠ 0 := by simpa using hsz
        unfold fieldP at hfp
        split at hfp
        · rename_i fs hu
          simp only [execOp, hop, hp, Instr.fieldAt, Sem.run_bind, run_underlying hu, Result.andThen_ok, hfp, Instr.sureAddr, Sem.run_pure, fieldPlace, run_size hm, hm0, if_false, Addr.add_mid, hoff]
        · cases hfp
      · cases hsz
    · cases hf
  simp only [absOp] at he
  split at he
  · rename_i n q hq
    simp only [Option.some.injEq, Prod.mk.injEq] at he
    obtain ⟨rfl, rfl⟩ := he
    rw [hq] at hev
    exact sound_value (w' := w) (step _ _ hev.2) R ⟨hev.1, rfl⟩
  · rename_i cs hq
    simp only [Option.some.injEq, Prod.mk.injEq] at he
    obtain ⟨rfl, rfl⟩ := he
    rw [hq] at hev
    obtain ⟨b, q, h1, h2, h3, h4⟩ := hev
    exact sound_value (w' := w) (step _ _ h1) R ⟨b, q + off, rfl, h2, h3, stand_drop off h4⟩
  · cases he

theorem sound_part {t : TypeId} {x : Operand} {y : SA} {i off size : Nat} {agg : Bool} (R : Rel S0 w0 N μ s a w) (hop : o.op = .field t x i) (hf : (match fieldP P t i with | some f => f.offset == off && rowP P f.type == some agg && sizeP P f.type == some size && (agg || size == 1) | none => false) = true) (hx : chkSA x y = true) (he : absOp sp dst (.part agg off size y) s = some (v, s')) : Sound P S0 w0 N o s' v a w := by
  simp only [absOp] at he
  split at he
  · rename_i cs hcs
    obtain ⟨ys, hy, hr⟩ := R.agg hx hcs
    have hl := repL_length hr
    split at hf
    · rename_i f hfp
      simp only [Bool.and_eq_true, beq_iff_eq] at hf
      obtain ⟨⟨⟨hoff, hrow⟩, hsz⟩, h1⟩ := hf
      unfold fieldP at hfp
      split at hfp
      · rename_i fs hu
        split at he
        · rename_i hle
          cases agg with
          | true =>
            simp only [if_true, Option.some.injEq, Prod.mk.injEq] at he
            obtain ⟨rfl, rfl⟩ := he
            refine sound_value (y := .agg ((ys.drop off).take size).toArray) (w' := w) ?_ R ⟨_, rfl, repL_take _ (repL_drop _ hr)⟩
            have e : ys.toArray.extract off (off + size) = ((ys.drop off).take size).toArray := by
              apply Array.ext'
              simp [List.extract_eq_take_drop]
            simp only [execOp, hop, hy, Instr.field, Sem.run_bind, run_underlying hu, Result.andThen_ok, hfp, asAgg, Sem.run_pure, part, run_isAggP hrow, if_true, run_size hsz, hoff, e]
          | false =>
            simp only [Bool.false_eq_true, if_false] at he
            split at he
            · rename_i c hc
              simp only [Option.some.injEq, Prod.mk.injEq] at he
              obtain ⟨rfl, rfl⟩ := he
              obtain ⟨yv, hyv, hrep⟩ := repL_get off hr hc
              refine sound_value (y := yv) (w' := w) ?_ R hrep
              have e : ys.toArray[off]? = some yv := by simpa using hyv
              simp only [execOp, hop, hy, Instr.field, Sem.run_bind, run_underlying hu, Result.andThen_ok, hfp, asAgg, Sem.run_pure, part, run_isAggP hrow, Bool.false_eq_true, if_false, hoff, e]
            · cases he
        · cases he
      · cases hfp
    · cases hf
  · cases he
end
end Go.VC
/- The evaluator is sound: structs, numbers, bools. -/
namespace Go.VC
open Go.RowKit
section
variable {P : Program} {S0 : Nat → Prop} {w0 : World} {N : Nat} {μ : Nat → Nat} {s s' : St} {a : Act} {w : World} {sp : Spec} {o : Oper} {v : AV} {K : Act → World → Prop} {Q : Exit → Act → World → Prop} {dst : Option Nat}

/-! ### build -/
theorem foldl_splice : ∀ (zs : List Value) (ys : List Value) (off k : Nat), off + k + zs.length ≤ ys.length →
    ((zs.zipIdx k).foldl (fun (cs : Array Value) (x : Value × Nat) => cs.setIfInBounds (off + x.2) x.1) ys.toArray) = (ys.take (off + k) ++ zs ++ ys.drop (off + k + zs.length)).toArray
  | [], ys, off, k, h => by simp
  | z :: zs, ys, off, k, h => by
    have hlen : off + k + (zs.length + 1) ≤ ys.length := by simpa using h
    simp only [List.zipIdx_cons, List.foldl_cons]
    have e : ys.toArray.setIfInBounds (off + k) z = (ys.set (off + k) z).toArray := by simp
    rw [e, foldl_splice zs (ys.set (off + k) z) off (k + 1) (by simp; omega)]
    have e1 : List.take (off + (k + 1)) (ys.set (off + k) z) = List.take (off + k) ys ++ [z] := by
      rw [← Nat.add_assoc, List.take_add_one, List.take_set_of_le (Nat.le_refl _)]
      simp [List.getElem?_set, show off + k < ys.length by omega]
    have e2 : List.drop (off + (k + 1) + zs.length) (ys.set (off + k) z) = List.drop (off + k + (zs.length + 1)) ys := by
      rw [List.drop_set_of_lt (by omega)]
      congr 1; omega
    rw [e1, e2]; simp
theorem fill_ok {P : Program} {fs : Array Field} {places : Array (Nat × Nat)} (hp : ∀ (i : Nat) (f : Field), fs[i]? = some f → ∃ n, sizeP P f.type = some n ∧ places[i]? = some (f.offset, n)) (R : Rel S0 w0 N μ s a w) :
    ∀ (ps : List (Nat × Operand)) (parts : List (Nat × Nat × SA)) (cs : List AC) (ys : List Value) {res : List AC}, chkParts P fs ps parts = true → repL (own S0 μ s.mem) w cs ys → fillA s cs parts = some res →
      ∃ zs : List Value, Instr.fill (places[·]?) ys.toArray (ps.map fun x => (x.1, a.eval x.2)) = some zs.toArray ∧ repL (own S0 μ s.mem) w res zs
  | [], [], cs, ys, res, _, hr, hf => by
    simp only [fillA, Option.some.injEq] at hf
    subst hf
    exact ⟨ys, rfl, hr⟩
  | [], _ :: _, _, _, _, h, _, _ => by cases h
  | _ :: _, [], _, _, _, h, _, _ => by cases h
  | (i, x) :: ps, (off, size, y) :: parts, cs, ys, res, h, hr, hf => by
    simp only [chkParts, Bool.and_eq_true] at h
    obtain ⟨⟨h1, h2⟩, h3⟩ := h
    simp only [fillA] at hf
    split at hf
    · rename_i ap hap
      split at hf
      · rename_i hcond
        obtain ⟨hok, hc1, hc2⟩ := hcond
        split at h1
        · rename_i f hfi
          simp only [Bool.and_eq_true, beq_iff_eq] at h1
          obtain ⟨hoff, hsz⟩ := h1
          obtain ⟨n, hn, hpl⟩ := hp i f hfi
          have hns : n = size := by rw [hn] at hsz; cases hsz; rfl
          subst hns
          have hrp := AP.rep_cells (R.part h2 hap) hok
          have hl := repL_length hr
          have hl2 := repL_length hrp
          have hcsz : (a.eval x).cells.size = n := by rw [← hc1, hl2]; simp
          obtain ⟨zs, hz, hrz⟩ := fill_ok hp R ps parts (splice cs off ap.cells) (ys.take off ++ (a.eval x).cells.toList ++ ys.drop (off + (a.eval x).cells.toList.length)) h3 (by
            unfold splice
            rw [hl2]
            exact repL_append (repL_append (repL_take _ hr) hrp) (repL_drop _ hr)) hf
          refine ⟨zs, ?_, hrz⟩
          simp only [List.map_cons, Instr.fill, hpl, hoff, hcsz]
          rw [if_neg (by simp; rw [← hl]; omega)]
          have e := foldl_splice (a.eval x).cells.toList ys off 0 (by simp; rw [hcsz, ← hl]; omega)
          rw [← hz]
          congr 1
          rw [← Array.foldl_toList, Array.toList_zipIdx]
          simpa using e
        · cases h1
      · cases hf
    · cases hf
theorem mapM_places {P : Program} {w : World} : ∀ (fs : List Field) (acc : List (Nat × Nat)), (∀ f ∈ fs, (sizeP P f.type).isSome = true) →
    (fs.mapM fun f => (do pure (f.offset, ← sizeOf f.type) : Sem (Nat × Nat))).run P w = .ok (fs.map fun f => (f.offset, (sizeP P f.type).getD 0)) w
  | [], _, _ => by simp
  | f :: fs, acc, h => by
    obtain ⟨n, hn⟩ := Option.isSome_iff_exists.1 (h f (by simp))
    rw [List.mapM_cons]
    simp only [Sem.run_bind, run_size hn, Result.andThen_ok, Sem.run_pure, mapM_places fs acc (fun g hg => h g (by simp [hg])), List.map_cons, hn, Option.getD_some]
theorem sound_build {t : TypeId} {ps : Array (Nat × Operand)} {z : List AC} {parts : List (Nat × Nat × SA)} (R : Rel S0 w0 N μ s a w) (hop : o.op = .build t ps)
    (hz : (match (P.info? t).bind (·.zero) with | some v => chkCells v.cells.toList z | none => false) = true) (hp : (match structP P t with | some fs => chkParts P fs ps.toList parts | none => false) = true) (hsz : sizesP P t = true)
    (he : absOp sp dst (.build z parts) s = some (v, s')) : Sound P S0 w0 N o s' v a w := by
  simp only [absOp] at he
  split at he
  · rename_i cs hcs
    simp only [Option.some.injEq, Prod.mk.injEq] at he
    obtain ⟨rfl, rfl⟩ := he
    split at hz
    · rename_i zv hzv
      split at hp
      · rename_i fs hfs
        have hu : P.underlying t = some (.struct fs) := by
          unfold structP at hfs
          split at hfs
          · cases hfs; assumption
          · cases hfs
        have hall : ∀ f ∈ fs.toList, (sizeP P f.type).isSome = true := by
          unfold sizesP at hsz
          rw [hfs] at hsz
          exact fun f hf => List.all_eq_true.1 hsz f hf
        have hmap : (fs.mapM fun f => (do pure (f.offset, ← sizeOf f.type) : Sem (Nat × Nat))).run P w = .ok (fs.toList.map fun f => (f.offset, (sizeP P f.type).getD 0)).toArray w := by
          rw [Array.mapM_eq_mapM_toList, Sem.run_map, mapM_places fs.toList [] hall]
          rfl
        obtain ⟨zs, hfill, hr⟩ := fill_ok (P := P) (fs := fs) (places := (fs.toList.map fun f => (f.offset, (sizeP P f.type).getD 0)).toArray) (fun i f hi => by
          have hmem : f ∈ fs.toList := by
            have : fs.toList[i]? = some f := by simpa using hi
            exact List.mem_of_getElem? this
          obtain ⟨n, hn⟩ := Option.isSome_iff_exists.1 (hall f hmem)
          refine ⟨n, hn, ?_⟩
          simp [hi, hn]) R ps.toList parts z zv.cells.toList hp (chkCells_rep hz) hcs
        refine sound_value (y := .agg zs.toArray) (w' := w) ?_ R ⟨zs, rfl, hr⟩
        have e : (ps.map fun x => (x.1, a.eval x.2)).toList = ps.toList.map fun x => (x.1, a.eval x.2) := by simp
        have e2 : zv.cells.toList.toArray = zv.cells := by simp
        rw [e2] at hfill
        simp only [execOp, hop, Instr.build, Sem.run_bind, run_zero hzv, Result.andThen_ok, run_underlying hu, hmap]
        rw [e, hfill]
        simp
      · cases hp
    · cases hz
  · cases he

/-! ### Numbers, bools -/
theorem guard_int {op : BinOp} {t : TypeId} {x y : Operand} {k k' : IntKind} {m n : Int} : (eqGuard op t x y (.int k m) (.int k' n)).run P w = .ok () w := by
  unfold eqGuard
  split <;> simp
theorem guard_bool {op : BinOp} {t : TypeId} {x y : Operand} {m n : Bool} : (eqGuard op t x y (.bool m) (.bool n)).run P w = .ok () w := by
  unfold eqGuard
  split <;> simp
theorem run_bin {op : BinOp} {t : TypeId} {x y r : Value} (h : evBin op x y = some r) : (binOp op t x y).run P w = .ok r w := by
  unfold evBin at h
  split at h
  · rename_i k m k' n
    split at h
    · split at h
      · cases h
      · cases h
        rename_i hn
        simp [binOp, Op.shift, hn]
    · split at h
      · cases h
      · cases h
        rename_i hn
        simp [binOp, Op.shift, hn]
    · split at h
      · rename_i hk
        subst hk
        unfold evInt at h
        split at h <;> first
          | (cases h; simp [binOp, Op.intArith, Op.intBits, Op.intCmp, bitsV]; done)
          | (split at h
             · cases h
             · cases h
               rename_i hn
               simp [binOp, Op.intDiv, hn])
          | (cases h; done)
      · cases h
  · cases h
theorem sound_bin {op : BinOp} {t t' : TypeId} {x y : Operand} {x' y' : SA} (R : Rel S0 w0 N μ s a w) (hop : o.op = .binOp op t x y t') (hx : chkSA x x' = true) (hy : chkSA y y' = true) (he : absOp sp dst (.bin op x' y') s = some (v, s')) : Sound P S0 w0 N o s' v a w := by
  simp only [absOp] at he
  split at he
  · rename_i p q hp hq
    split at he
    · rename_i r hr
      simp only [Option.some.injEq, Prod.mk.injEq] at he
      obtain ⟨rfl, rfl⟩ := he
      have e1 := (R.val hx hp).1
      have e2 := (R.val hy hq).1
      have hone : r.oneCell' = true := by
        unfold evBin at hr
        split at hr
        · split at hr
          · split at hr <;> cases hr; rfl
          · split at hr <;> cases hr; rfl
          · split at hr
            · unfold evInt at hr
              split at hr <;> first | (cases hr; rfl) | (split at hr <;> cases hr; rfl) | cases hr
            · cases hr
        · cases hr
      have hg : (eqGuard op t x y p q).run P w = .ok () w := by
        unfold evBin at hr
        split at hr
        · exact guard_int
        · cases hr
      refine sound_value (y := r) (w' := w) ?_ R ⟨rfl, hone⟩
      simp only [execOp, hop, e1, e2, Sem.run_bind, hg, run_bin hr, Result.andThen_ok, Sem.run_pure]
    · cases he
  · cases he
theorem boolP_spec {t : TypeId} (h : boolP P t = true) : P.underlying t = some .bool := by
  unfold boolP at h
  split at h
  · assumption
  · cases h
theorem equal_bool {t : TypeId} (ht : boolP P t = true) (p q : Bool) (d : Nat) : (Op.equalIn (d + 1) t (.bool p) (.bool q)).run P w = .ok (p == q) w := by
  simp [Op.equalIn, run_underlying (boolP_spec ht)]
theorem sound_eqb {op : BinOp} {t t' : TypeId} {x y : Operand} {x' y' : SA} {ne : Bool} (R : Rel S0 w0 N μ s a w) (hop : o.op = .binOp op t x y t') (ht : boolP P t = true) (ho : op = if ne then .neq else .eql) (hx : chkSA x x' = true) (hy : chkSA y y' = true) (he : absOp sp dst (.eqb ne x' y') s = some (v, s')) : Sound P S0 w0 N o s' v a w := by
  simp only [absOp] at he
  split at he
  · rename_i p q hp hq
    simp only [Option.some.injEq, Prod.mk.injEq] at he
    obtain ⟨rfl, rfl⟩ := he
    have e1 := (R.val hx hp).1
    have e2 := (R.val hy hq).1
    refine sound_value (y := .bool (if ne then !(p == q) else p == q)) (w' := w) ?_ R ⟨rfl, rfl⟩
    have hE : (Op.equal t (.bool p) (.bool q)).run P w = .ok (p == q) w := equal_bool ht p q 9999
    simp only [execOp, hop, e1, e2, Sem.run_bind, guard_bool, Result.andThen_ok]
    cases ne with
    | true => simp only [if_true] at ho; subst ho; simp [binOp, hE]
    | false => simp only [Bool.false_eq_true, if_false] at ho; subst ho; simp [binOp, hE]
  · cases he
theorem sound_not {t : TypeId} {x : Operand} {y : SA} (R : Rel S0 w0 N μ s a w) (hop : o.op = .unOp .not t x) (hx : chkSA x y = true) (he : absOp sp dst (.not y) s = some (v, s')) : Sound P S0 w0 N o s' v a w := by
  simp only [absOp] at he
  split at he
  · rename_i p hp
    simp only [Option.some.injEq, Prod.mk.injEq] at he
    obtain ⟨rfl, rfl⟩ := he
    refine sound_value (y := .bool !p) (w' := w) ?_ R ⟨rfl, rfl⟩
    simp [execOp, hop, (R.val hx hp).1, Op.unary]
  · cases he
theorem sound_neg {t : TypeId} {x : Operand} {y : SA} (R : Rel S0 w0 N μ s a w) (hop : o.op = .unOp .neg t x) (hx : chkSA x y = true) (he : absOp sp dst (.neg y) s = some (v, s')) : Sound P S0 w0 N o s' v a w := by
  simp only [absOp] at he
  split at he
  · rename_i k p hp
    simp only [Option.some.injEq, Prod.mk.injEq] at he
    obtain ⟨rfl, rfl⟩ := he
    refine sound_value (y := .int k (k.wrap (0 - p))) (w' := w) ?_ R ⟨rfl, rfl⟩
    simp [execOp, hop, (R.val hx hp).1, Op.unary, Op.intArith]
  · cases he
theorem kindP_spec {t : TypeId} {k : IntKind} (h : kindP P t = some k) : P.underlying t = some (.int k) := by
  unfold kindP at h
  split at h
  · cases h; assumption
  · cases h
theorem sound_cvt {p q : TypeId} {x : Operand} {y : SA} {k : IntKind} (R : Rel S0 w0 N μ s a w) (hop : o.op = .convert p q x) (hp : (P.underlying p).isSome = true) (hq : kindP P q = some k) (hx : chkSA x y = true) (he : absOp sp dst (.cvt k y) s = some (v, s')) : Sound P S0 w0 N o s' v a w := by
  simp only [absOp] at he
  split at he
  · rename_i k' n hv
    simp only [Option.some.injEq, Prod.mk.injEq] at he
    obtain ⟨rfl, rfl⟩ := he
    obtain ⟨d, hd⟩ := Option.isSome_iff_exists.1 hp
    refine sound_value (y := .int k (k.wrap n)) (w' := w) ?_ R ⟨rfl, rfl⟩
    simp [execOp, hop, (R.val hx hv).1, convert, run_underlying hd, run_underlying (kindP_spec hq), Conv.intToInt]
  · cases he
theorem repP_get {L : Lie} : ∀ {as : List AP} {ys : List Value} (i : Nat) {a : AP}, repP L w as ys → as[i]? = some a → ∃ y, ys[i]? = some y ∧ a.rep L w y
  | [], [], _, _, _, h => by simp at h
  | [], _ :: _, _, _, hr, _ => hr.elim
  | _ :: _, [], _, _, hr, _ => hr.elim
  | _ :: _, y :: _, 0, _, hr, h => by simp at h; subst h; exact ⟨y, rfl, hr.1⟩
  | _ :: _, _ :: _, i + 1, _, hr, h => by simpa using repP_get i hr.2 (by simpa using h)
theorem sound_ext {x : Operand} {y : SA} {i : Nat} (R : Rel S0 w0 N μ s a w) (hop : o.op = .extract x i) (hx : chkSA x y = true) (he : absOp sp dst (.ext y i) s = some (v, s')) : Sound P S0 w0 N o s' v a w := by
  have hev := R.ev hx
  simp only [absOp] at he
  split at he
  · rename_i l hl
    rw [hl] at hev
    obtain ⟨ys, hy, hr⟩ := hev
    split at he
    · rename_i b hb
      simp only [Option.some.injEq, Prod.mk.injEq] at he
      obtain ⟨rfl, rfl⟩ := he
      obtain ⟨z, hz, hrz⟩ := repP_get i hr hb
      refine sound_value (y := z) (w' := w) ?_ R hrz
      have e : ys.toArray[i]? = some z := by simpa using hz
      simp only [execOp, hop, hy, Instr.extract, Sem.run_bind, e, Sem.run_pure, Result.andThen_ok]
    · cases he
  · cases he
end
end Go.VC
/- The evaluator is sound: structs compared. -/
namespace Go.VC
open Go.RowKit
section
variable {P : Program} {S0 : Nat → Prop} {w0 : World} {N : Nat} {μ : Nat → Nat} {s s' : St} {a : Act} {w : World} {sp : Spec} {o : Oper} {v : AV} {K : Act → World → Prop} {Q : Exit → Act → World → Prop} {dst : Option Nat}

/-! ### '==' of structs of whole numbers -/
theorem eqCells_append : ∀ (k1 k2 : List IntKind) (as bs : List AC) {r : Bool}, eqCells (k1 ++ k2) as bs = some r →
    ∃ r1 r2, eqCells k1 (as.take k1.length) (bs.take k1.length) = some r1 ∧ eqCells k2 (as.drop k1.length) (bs.drop k1.length) = some r2 ∧ r = (r1 && r2)
  | [], k2, as, bs, r, h => ⟨true, r, by simp [eqCells], by simpa using h, by simp⟩
  | k :: k1, k2, [], bs, r, h => by cases bs <;> simp [eqCells] at h
  | k :: k1, k2, x :: as, [], r, h => by cases x <;> simp [eqCells] at h
  | k :: k1, k2, x :: as, y :: bs, r, h => by
    simp only [List.cons_append] at h
    cases x with
    | v vx =>
      cases y with
      | v vy =>
        cases vx <;> try (simp [eqCells] at h; done)
        cases vy <;> try (simp [eqCells] at h; done)
        rename_i ka na kb nb
        simp only [eqCells] at h
        split at h
        · rename_i hk
          cases hq : eqCells (k1 ++ k2) as bs with
          | none => simp [hq] at h
          | some q =>
            simp [hq] at h
            obtain ⟨r1, r2, h1, h2, rfl⟩ := eqCells_append k1 k2 as bs hq
            refine ⟨(na == nb) && r1, r2, ?_, by simpa using h2, ?_⟩
            · simp [eqCells, hk, h1]
            · rw [← h, Bool.and_assoc]
        · cases h
      | p n q => cases vx <;> simp [eqCells] at h
      | k z => cases vx <;> simp [eqCells] at h
      | r e l => cases vx <;> simp [eqCells] at h
      | s t n len => cases vx <;> simp [eqCells] at h
      | q m cs => cases vx <;> simp [eqCells] at h
      | kq cs => cases vx <;> simp [eqCells] at h
      | nil e => cases vx <;> simp [eqCells] at h
      | u => cases vx <;> simp [eqCells] at h
    | p n q => simp [eqCells] at h
    | k z => simp [eqCells] at h
    | r e l => simp [eqCells] at h
    | s t n len => simp [eqCells] at h
    | q m cs => simp [eqCells] at h
    | kq cs => simp [eqCells] at h
    | nil e => simp [eqCells] at h
    | u => simp [eqCells] at h
/-- The value of a variable of type t out of its cells. -/
def EqOk (P : Program) (d : Nat) (t : TypeId) (ks : List IntKind) : Prop :=
  ∀ (L : Lie) (w : World) (D : Nat) (as bs : List AC) (xs ys : List Value) (r : Bool), d ≤ D → eqCells ks as bs = some r → repL L w as xs → repL L w bs ys →
    (rowP P t = some true → (Op.equalIn D t (.agg xs.toArray) (.agg ys.toArray)).run P w = .ok r w) ∧ (rowP P t = some false → ∃ x y, xs = [x] ∧ ys = [y] ∧ (Op.equalIn D t x y).run P w = .ok r w)
theorem eqFs_sound {d : Nat} (hrec : ∀ t ks, eqKinds P d t = some ks → EqOk P d t ks ∧ sizeP P t = some ks.length) {L : Lie} {D : Nat} (hD : d ≤ D) {xs ys : List Value} {as bs : List AC} (hx : repL L w as xs) (hy : repL L w bs ys) :
    ∀ (fs : List Field) (off : Nat) (ks : List IntKind) {r : Bool}, eqFs (eqKinds P d) off fs = some ks → eqCells ks (as.drop off) (bs.drop off) = some r → (Op.eqFields D xs.toArray ys.toArray fs).run P w = .ok r w
  | [], off, ks, r, h, he => by
    simp only [eqFs, Option.some.injEq] at h
    subst h
    have : r = true := by
      cases h1 : as.drop off <;> cases h2 : bs.drop off <;> simp [h1, h2, eqCells] at he
      exact he
    subst this
    simp [Op.eqFields]
  | f :: fs, off, ks, r, h, he => by
    simp only [eqFs] at h
    split at h
    · rename_i hc
      obtain ⟨hn, rfl⟩ := hc
      split at h
      · rename_i k1 hk1
        split at h
        · rename_i k2 hk2
          cases h
          obtain ⟨r1, r2, e1, e2, rfl⟩ := eqCells_append k1 k2 _ _ he
          obtain ⟨hok, hsz⟩ := hrec _ _ hk1
          have ih := eqFs_sound hrec hD hx hy fs (f.offset + k1.length) k2 hk2 (by simpa [List.drop_drop] using e2)
          have hx1 := repL_take k1.length (repL_drop f.offset hx)
          have hy1 := repL_take k1.length (repL_drop f.offset hy)
          obtain ⟨q1, q2⟩ := hok L w D _ _ _ _ r1 hD e1 hx1 hy1
          have hone : ∃ X Y, (part f.type xs.toArray f.offset).run P w = .ok X w ∧ (part f.type ys.toArray f.offset).run P w = .ok Y w ∧ (Op.equalIn D f.type X Y).run P w = .ok r1 w := by
            cases hrow : rowP P f.type with
            | none =>
              exfalso
              unfold sizeP at hsz
              unfold rowP at hrow
              cases d with
              | zero => simp [eqKinds] at hk1
              | succ d =>
                simp only [eqKinds] at hk1
                cases hu : P.underlying f.type with
                | none => simp [hu] at hk1
                | some dd => simp [hu] at hrow
            | some b =>
              cases b with
              | true =>
                refine ⟨_, _, ?_, ?_, q1 hrow⟩
                · have e : xs.toArray.extract f.offset (f.offset + k1.length) = ((xs.drop f.offset).take k1.length).toArray := by
                    apply Array.ext'
                    simp [List.extract_eq_take_drop]
                  simp only [part, Sem.run_bind, run_isAggP hrow, Result.andThen_ok, if_true, run_size hsz, e, Sem.run_pure]
                · have e : ys.toArray.extract f.offset (f.offset + k1.length) = ((ys.drop f.offset).take k1.length).toArray := by
                    apply Array.ext'
                    simp [List.extract_eq_take_drop]
                  simp only [part, Sem.run_bind, run_isAggP hrow, Result.andThen_ok, if_true, run_size hsz, e, Sem.run_pure]
              | false =>
                obtain ⟨x, y, ex, ey, hq⟩ := q2 hrow
                have gx : xs.toArray[f.offset]? = some x := by
                  have : ((xs.drop f.offset).take k1.length)[0]? = some x := by rw [ex]; rfl
                  rw [List.getElem?_take] at this
                  split at this
                  · simpa using this
                  · cases this
                have gy : ys.toArray[f.offset]? = some y := by
                  have : ((ys.drop f.offset).take k1.length)[0]? = some y := by rw [ey]; rfl
                  rw [List.getElem?_take] at this
                  split at this
                  · simpa using this
                  · cases this
                refine ⟨x, y, ?_, ?_, hq⟩
                · simp only [part, Sem.run_bind, run_isAggP hrow, Result.andThen_ok, Bool.false_eq_true, if_false, gx, Sem.run_pure]
                · simp only [part, Sem.run_bind, run_isAggP hrow, Result.andThen_ok, Bool.false_eq_true, if_false, gy, Sem.run_pure]
          obtain ⟨X, Y, p1, p2, p3⟩ := hone
          rw [Op.eqFields, if_pos hn]
          simp only [Sem.run_bind, p1, p2, p3, Result.andThen_ok]
          cases r1
          · simp
          · simpa using ih
        · cases h
      · cases h
    · cases h
theorem eqKinds_sound : ∀ (d : Nat) (t : TypeId) (ks : List IntKind), eqKinds P d t = some ks → EqOk P d t ks ∧ sizeP P t = some ks.length
  | 0, _, _, h => by simp [eqKinds] at h
  | d + 1, t, ks, h => by
    simp only [eqKinds] at h
    split at h
    · rename_i k hu
      split at h
      · rename_i hsz
        cases h
        refine ⟨fun L w D as bs xs ys r hD he hx hy => ⟨fun hrow => ?_, fun _ => ?_⟩, hsz⟩
        · simp [rowP, hu] at hrow
        · obtain ⟨D, rfl⟩ : ∃ m, D = m + 1 := ⟨D - 1, by omega⟩
          cases as with
          | nil => cases bs <;> simp [eqCells] at he
          | cons x as =>
            cases bs with
            | nil => cases x <;> simp [eqCells] at he
            | cons y bs =>
              cases x with
              | v vx =>
                cases y with
                | v vy =>
                  cases vx <;> try (simp [eqCells] at he; done)
                  cases vy <;> try (simp [eqCells] at he; done)
                  rename_i ka na kb nb
                  simp only [eqCells] at he
                  split at he
                  · rename_i hk
                    obtain ⟨rfl, rfl⟩ := hk
                    cases as <;> cases bs <;> simp [eqCells] at he
                    cases xs with
                    | nil => exact hx.elim
                    | cons z zs =>
                      cases ys with
                      | nil => exact hy.elim
                      | cons z' zs' =>
                        obtain ⟨⟨rfl, _⟩, hx2⟩ := hx
                        obtain ⟨⟨rfl, _⟩, hy2⟩ := hy
                        cases zs with
                        | cons _ _ => exact hx2.elim
                        | nil =>
                          cases zs' with
                          | cons _ _ => exact hy2.elim
                          | nil =>
                            refine ⟨_, _, rfl, rfl, ?_⟩
                            simp [Op.equalIn, run_underlying hu, he]
                  · cases he
                | p n q => cases vx <;> simp [eqCells] at he
                | k z => cases vx <;> simp [eqCells] at he
                | r e l => cases vx <;> simp [eqCells] at he
                | s t n len => cases vx <;> simp [eqCells] at he
                | q m cs => cases vx <;> simp [eqCells] at he
                | kq cs => cases vx <;> simp [eqCells] at he
                | nil e => cases vx <;> simp [eqCells] at he
                | u => cases vx <;> simp [eqCells] at he
              | p n q => simp [eqCells] at he
              | k z => simp [eqCells] at he
              | r e l => simp [eqCells] at he
              | s t n len => simp [eqCells] at he
              | q m cs => simp [eqCells] at he
              | kq cs => simp [eqCells] at he
              | nil e => simp [eqCells] at he
              | u => simp [eqCells] at he
      · cases h
    · rename_i fs hu
      split at h
      · rename_i hheld
        split at h
        · rename_i k1 hk1
          split at h
          · rename_i hsz
            cases h
            refine ⟨fun L w D as bs xs ys r hD he hx hy => ⟨fun _ => ?_, fun hrow => ?_⟩, hsz⟩
            · obtain ⟨D, rfl⟩ : ∃ m, D = m + 1 := ⟨D - 1, by omega⟩
              have hf : P.fieldsOf t = fs := by simp [Program.fieldsOf, hu]
              rw [run_equalIn_struct (P := P) w D t xs.toArray ys.toArray (by rw [hf]; exact hu) hheld, hf]
              exact eqFs_sound (fun t ks hk => eqKinds_sound d t ks hk) (by omega) hx hy fs.toList 0 ks hk1 (by simpa using he)
            · simp [rowP, hu] at hrow
          · cases h
        · cases h
      · cases h
    · cases h
theorem sound_eqs {op : BinOp} {t t' : TypeId} {x y : Operand} {x' y' : SA} {ne : Bool} {ks : List IntKind} (R : Rel S0 w0 N μ s a w) (hop : o.op = .binOp op t x y t') (hs : (structP P t).isSome = true) (hk : eqKinds P 5 t = some ks) (hg : P.eqGuardType P.depth t = false) (ho : op = if ne then .neq else .eql) (hx : chkSA x x' = true) (hy : chkSA y y' = true) (he : absOp sp dst (.eqs ne ks x' y') s = some (v, s')) : Sound P S0 w0 N o s' v a w := by
  simp only [absOp] at he
  split at he
  · rename_i as bs has hbs
    split at he
    · rename_i r hr
      simp only [Option.some.injEq, Prod.mk.injEq] at he
      obtain ⟨rfl, rfl⟩ := he
      obtain ⟨xs, ex, hrx⟩ := R.agg hx has
      obtain ⟨ys, ey, hry⟩ := R.agg hy hbs
      have hrow : rowP P t = some true := by
        unfold structP at hs
        split at hs
        · rename_i fs hu; simp [rowP, hu]
        · cases hs
      have hE : (Op.equal t (.agg xs.toArray) (.agg ys.toArray)).run P w = .ok r w := ((eqKinds_sound 5 t ks hk).1 _ w 10000 as bs xs ys r (by decide) hr hrx hry).1 hrow
      have hguard : (eqGuard op t x y (.agg xs.toArray) (.agg ys.toArray)).run P w = .ok () w := by
        unfold eqGuard
        split <;> simp [hg]
      refine sound_value (y := .bool (if ne then !r else r)) (w' := w) ?_ R ⟨rfl, rfl⟩
      simp only [execOp, hop, ex, ey, Sem.run_bind, hguard, Result.andThen_ok]
      cases ne with
      | true => simp only [if_true] at ho; subst ho; simp [binOp, hE]
      | false => simp only [Bool.false_eq_true, if_false] at ho; subst ho; simp [binOp, hE]
    · cases he
  · cases he
end
end Go.VC
/- The evaluator is sound: rows that are read, calls. -/
namespace Go.VC
open Go.RowKit
section
variable {P : Program} {S0 : Nat → Prop} {w0 : World} {N : Nat} {μ : Nat → Nat} {s s' : St} {a : Act} {w : World} {sp : Spec} {o : Oper} {v : AV} {K : Act → World → Prop} {Q : Exit → Act → World → Prop} {dst : Option Nat}

/-! ### len, an element, a piece -/
theorem elemP_spec {t e : TypeId} (h : elemP P t = some e) : P.underlying t = some (.slice e) := by
  unfold elemP at h
  split at h
  · cases h; assumption
  · cases h
theorem sound_len {c : Call} {x : Operand} {y : SA} {t : TypeId} (R : Rel S0 w0 N μ s a w) (hop : o.op = .call c) (hcal : c.callee = .builtin .len) (hargs : c.args = #[x]) (ht : c.argTypes[0]? = some t) (hel : (elemP P t).isSome = true) (hx : chkSA x y = true) (he : absOp sp dst (.len y) s = some (v, s')) : Sound P S0 w0 N o s' v a w := by
  have hev := R.ev hx
  obtain ⟨e, hel⟩ := Option.isSome_iff_exists.1 hel
  have hu := elemP_spec hel
  simp only [absOp] at he
  split at he
  · rename_i n hn
    simp only [Option.some.injEq, Prod.mk.injEq] at he
    obtain ⟨rfl, rfl⟩ := he
    have hval : ∃ A c', a.eval x = .slice A n c' := by
      unfold AV.rlen at hn
      split at hn
      · rename_i e' l hl
        cases hn
        rw [hl] at hev
        rcases hev with ⟨h1, rfl⟩ | ⟨b, o', c', h1, _⟩
        · exact ⟨none, 0, h1⟩
        · exact ⟨_, _, h1⟩
      · rename_i t' n' len' hl
        cases hn
        rw [hl] at hev
        obtain ⟨_, cap, h1, _⟩ := hev
        exact ⟨_, _, h1⟩
      · rename_i m cs hl
        rw [hl] at hev
        split at hn
        · cases hn
        · rename_i hm
          cases hn
          rcases hev with ⟨h1, rfl⟩ | ⟨b, o', n', c', h1, h2, _⟩
          · exact ⟨none, 0, by simpa using h1⟩
          · have e : cs.length / m = n' := by rw [h2, Nat.mul_div_cancel _ (by omega)]
            exact ⟨some ⟨b, o', none⟩, c', by rw [e]; exact h1⟩
      · rename_i hl
        cases hn
        rw [hl] at hev
        exact ⟨none, 0, hev⟩
      · cases hn
    obtain ⟨A, c', hA⟩ := hval
    refine sound_value (y := .int .i64 n) (w' := w) ?_ R ⟨rfl, rfl⟩
    simp [execOp, hop, resolve, hcal, hargs, invoke, builtin, Builtin.len_, ht, hA, run_underlying hu, goInt]
  · cases he
theorem sound_idx {t el : TypeId} {x i : Operand} {y j : SA} {m : Nat} (R : Rel S0 w0 N μ s a w) (hop : o.op = .indexAddr t x i) (hel : elemP P t = some el) (hsz : sizeP P el = some m) (hx : chkSA x y = true) (hi : chkSA i j = true) (he : absOp sp dst (.idx m y j) s = some (v, s')) : Sound P S0 w0 N o s' v a w := by
  have hu := elemP_spec hel
  have hev := R.ev hx
  have step : ∀ (b q n c : Nat) (k : IntKind) (jj : Int), a.eval x = .slice (some ⟨b, q, none⟩) n c → a.eval i = .int k jj → 0 ≤ jj ∧ jj < n → (execOp a.eval o).run P w = .ok (.value (.pointer (some ⟨b, q + jj.toNat * m, none⟩))) w := by
    intro b q n c k jj h1 ej hc
    simp only [execOp, hop, h1, ej, Instr.indexAt, Sem.run_bind, asIntOf, Sem.run_pure, Result.andThen_ok, run_underlying hu, run_size hsz]
    rw [if_pos hc]
    simp only [Sem.run_bind, run_size hsz, Result.andThen_ok, Sem.run_pure, Addr.add_mid]
  simp only [absOp] at he
  split at he
  · rename_i k jj hj
    have ej := (R.val hi hj).1
    split at he
    · rename_i t' n len hy
      rw [hy] at hev
      split at he
      · rename_i hc
        obtain ⟨hm, h0, h1⟩ := hc
        simp only [Option.some.injEq, Prod.mk.injEq] at he
        obtain ⟨rfl, rfl⟩ := he
        obtain ⟨hD, cap, g1, _⟩ := hev
        exact sound_value (w' := w) (step _ _ _ _ _ _ g1 ej ⟨h0, h1⟩) R ⟨hD, by rw [Nat.zero_add]⟩
      · cases he
    · rename_i e l hy
      rw [hy] at hev
      split at he
      · rename_i hc
        obtain ⟨hm, h0, h1⟩ := hc
        subst hm
        simp only [Option.some.injEq, Prod.mk.injEq] at he
        obtain ⟨rfl, rfl⟩ := he
        rcases hev with ⟨g1, rfl⟩ | ⟨b, o', c', g1, g2, g3, g4, g5⟩
        · exfalso; simp at h1; omega
        · exact sound_value (w' := w) (step _ _ _ _ _ _ g1 ej ⟨h0, h1⟩) R ⟨rfl, b, _, rfl, g3, g4, by rw [Nat.mul_one]; exact g5 jj.toNat (by omega)⟩
      · cases he
    · rename_i m' cs hy
      rw [hy] at hev
      split at he
      · rename_i hc
        obtain ⟨hm, h0, h1, hpos⟩ := hc
        subst hm
        simp only [Option.some.injEq, Prod.mk.injEq] at he
        obtain ⟨rfl, rfl⟩ := he
        rcases hev with ⟨g1, rfl⟩ | ⟨b, o', n, c', g1, g2, g3, g4, g5, g6⟩
        · exfalso; simp at h1; omega
        · have hlt : jj < n := by
            rw [g2] at h1
            have : jj.toNat < n := by
              rcases Nat.lt_or_ge jj.toNat n with h | h
              · exact h
              · have := Nat.mul_le_mul_right m' h; omega
            omega
          exact sound_value (w' := w) (step _ _ _ _ _ _ g1 ej ⟨h0, hlt⟩) R ⟨b, _, rfl, g4, g5, stand_drop _ g6⟩
      · cases he
    · cases he
  · cases he
theorem opt_val (R : Rel S0 w0 N μ s a w) {x : Option Operand} {y : Option SA} (h : chkOpt x y = true) {d i : Int} (hv : optI s y d = some i) : (x = none ∧ i = d) ∨ ∃ x' k, x = some x' ∧ a.eval x' = .int k i := by
  unfold chkOpt at h
  split at h
  · simp only [optI, Option.some.injEq] at hv
    exact .inl ⟨rfl, hv.symm⟩
  · rename_i x' y'
    simp only [optI] at hv
    split at hv
    · rename_i k i' hi
      cases hv
      exact .inr ⟨x', k, rfl, (R.val h hi).1⟩
    · cases hv
  · cases h
theorem bound_ok {k : IntKind} {i : Int} {m : Nat} {c : BoundsCode} (h0 : 0 ≤ i) (h1 : i ≤ m) : (Instr.sliceBound (.int k i) m c).run P w = .ok i.toNat w := by
  simp only [Instr.sliceBound, asIntOf, Sem.run_bind, Sem.run_pure, Result.andThen_ok, Sem.run_ite]
  rw [if_pos ⟨h0, h1⟩]
theorem bounds_ok (R : Rel S0 w0 N μ s a w) {lo hi : Option Operand} {lo' hi' : Option SA} (hl : chkOpt lo lo' = true) (hh : chkOpt hi hi' = true) {len cap : Nat} {i j : Int} (hi1 : optI s lo' 0 = some i) (hj1 : optI s hi' len = some j) (h0 : 0 ≤ i) (h1 : i ≤ j) (h2 : j ≤ len) (hc : len ≤ cap) :
    (Instr.sliceBounds true len cap (lo.map a.eval) (hi.map a.eval) none).run P w = .ok (i.toNat, j.toNat, cap) w := by
  have hj' : (j.toNat : Int) = j := by omega
  rcases opt_val R hl hi1 with ⟨rfl, rfl⟩ | ⟨x1, k1, rfl, e1⟩ <;> rcases opt_val R hh hj1 with ⟨rfl, rfl⟩ | ⟨x2, k2, rfl, e2⟩
  · simp [Instr.sliceBounds]
  · simp [Instr.sliceBounds, e2, bound_ok (P := P) (w := w) (show (0 : Int) ≤ j by omega) (show j ≤ (cap : Int) by omega)]
  · simp [Instr.sliceBounds, e1, bound_ok (P := P) (w := w) h0 (show i ≤ (len : Int) by omega)]
  · simp [Instr.sliceBounds, e1, e2, bound_ok (P := P) (w := w) (show (0 : Int) ≤ j by omega) (show j ≤ (cap : Int) by omega), bound_ok (P := P) (w := w) h0 (show i ≤ ((j.toNat : Nat) : Int) by omega)]
theorem sound_sl {t el : TypeId} {x : Operand} {y : SA} {lo hi : Option Operand} {lo' hi' : Option SA} (R : Rel S0 w0 N μ s a w) (hop : o.op = .slice t x lo hi none) (hel : elemP P t = some el) (hsz : sizeP P el = some 1) (hx : chkSA x y = true) (hlo : chkOpt lo lo' = true) (hhi : chkOpt hi hi' = true) (he : absOp sp dst (.sl y lo' hi') s = some (v, s')) : Sound P S0 w0 N o s' v a w := by
  have hu := elemP_spec hel
  have hev := R.ev hx
  have nil : ∀ {i j : Int}, a.eval x = .slice none 0 0 → optI s lo' 0 = some i → optI s hi' 0 = some j → 0 ≤ i → i ≤ j → j ≤ 0 → (execOp a.eval o).run P w = .ok (.value (.slice none 0 0)) w := by
    intro i j g1 hi1 hj1 h0 h1 h2
    have hi0 : i = 0 := by omega
    have hj0 : j = 0 := by omega
    subst hi0 hj0
    have hb := bounds_ok (P := P) (cap := 0) (len := 0) R hlo hhi hi1 hj1 h0 h1 h2 (Nat.le_refl _)
    simp only [execOp, hop, Instr.sliceAt, Sem.run_bind, run_underlying hu, Result.andThen_ok, Instr.slice, g1, Option.map_none, hb, run_size hsz]
    simp
  simp only [absOp] at he
  split at he
  · rename_i e l hl
    rw [hl] at hev
    split at he
    · rename_i i j hi1 hj1
      split at he
      · rename_i hc
        obtain ⟨h0, h1, h2⟩ := hc
        simp only [Option.some.injEq, Prod.mk.injEq] at he
        obtain ⟨rfl, rfl⟩ := he
        have hlen : ((l.take j.toNat).drop i.toNat).length = j.toNat - i.toNat := by rw [List.length_drop, List.length_take]; omega
        rcases hev with ⟨g1, rfl⟩ | ⟨b, o', c', g1, g2, g3, g4, g5⟩
        · exact sound_value (y := .slice none 0 0) (w' := w) (nil g1 hi1 hj1 h0 h1 h2) R (.inl ⟨rfl, by simp⟩)
        · have hb := bounds_ok (P := P) (cap := c') R hlo hhi hi1 hj1 h0 h1 h2 g2
          refine sound_value (y := .slice (some (if c' = i.toNat then ⟨b, o', none⟩ else (⟨b, o', none⟩ : Addr).add (i.toNat * 1))) (j.toNat - i.toNat) (c' - i.toNat)) (w' := w) ?_ R ?_
          · simp only [execOp, hop, Instr.sliceAt, Sem.run_bind, run_underlying hu, Result.andThen_ok, Instr.slice, g1, Option.map_none, hb, run_size hsz]
            split <;> simp_all
          · refine .inr ?_
            by_cases hcc : c' = i.toNat
            · rw [if_pos hcc]
              exact ⟨b, o', c' - i.toNat, by rw [hlen], by rw [hlen]; omega, g3, g4, fun q hq => by rw [hlen] at hq; omega⟩
            · rw [if_neg hcc, Nat.mul_one, Addr.add_mid]
              refine ⟨b, o' + i.toNat, c' - i.toNat, by rw [hlen], by rw [hlen]; omega, g3, g4, fun q hq => ?_⟩
              rw [hlen] at hq
              rw [Nat.add_assoc, g5 (i.toNat + q) (by omega)]
              congr 2
              simp only [List.getD_eq_getElem?_getD, List.getElem?_drop, List.getElem?_take]
              rw [if_pos (by omega)]
      · cases he
    · cases he
  · rename_i hl
    rw [hl] at hev
    split at he
    · rename_i i j hi1 hj1
      split at he
      · rename_i hc
        obtain ⟨h0, h1, h2⟩ := hc
        simp only [Option.some.injEq, Prod.mk.injEq] at he
        obtain ⟨rfl, rfl⟩ := he
        exact sound_value (y := .slice none 0 0) (w' := w) (nil hev hi1 hj1 h0 h1 h2) R rfl
      · cases he
    · cases he
  · rename_i t' n' len' hl
    rw [hl] at hev
    obtain ⟨hD, c', g1, g2, g3, g4⟩ := hev
    split at he
    · rename_i i j hi1 hj1
      split at he
      · rename_i hc
        obtain ⟨rfl, h1, h2⟩ := hc
        simp only [Option.some.injEq, Prod.mk.injEq] at he
        obtain ⟨rfl, rfl⟩ := he
        have hb := bounds_ok (P := P) (cap := c') R hlo hhi hi1 hj1 (Int.le_refl _) h1 h2 g3
        refine sound_value (y := .slice (some ⟨μ n', 0, none⟩) j.toNat c') (w' := w) ?_ R ⟨hD, c', rfl, g2, by omega, g4⟩
        simp only [execOp, hop, Instr.sliceAt, Sem.run_bind, run_underlying hu, Result.andThen_ok, Instr.slice, g1, Option.map_none, hb, run_size hsz]
        have e0 : (0 : Int).toNat = 0 := rfl
        simp only [e0, Nat.zero_mul, Nat.sub_zero]
        split <;> simp_all [Addr.add_mid, own]
      · cases he
    · cases he
  · cases he
/-- The capacity of nil. -/
theorem sound_cap {c : Call} {x : Operand} {y : SA} {t : TypeId} (R : Rel S0 w0 N μ s a w) (hop : o.op = .call c) (hcal : c.callee = .builtin .cap) (hargs : c.args = #[x]) (ht : c.argTypes[0]? = some t) (hel : (elemP P t).isSome = true) (hx : chkSA x y = true) (he : absOp sp dst (.cap y) s = some (v, s')) : Sound P S0 w0 N o s' v a w := by
  have hev := R.ev hx
  obtain ⟨e, hel⟩ := Option.isSome_iff_exists.1 hel
  have hu := elemP_spec hel
  simp only [absOp] at he
  split at he
  · rename_i e' hl
    rw [hl] at hev
    simp only [Option.some.injEq, Prod.mk.injEq] at he
    obtain ⟨rfl, rfl⟩ := he
    have hev : a.eval x = .slice none 0 0 := hev
    refine sound_value (y := .int .i64 0) (w' := w) ?_ R ⟨rfl, rfl⟩
    simp [execOp, hop, resolve, hcal, hargs, invoke, builtin, Builtin.cap_, ht, hev, run_underlying hu, goInt]
  · cases he

/-! ### A call -/
theorem free_rep {L : Lie} {c : AC} {y : Value} (hf : c.free = true) (h : c.rep L w y) : c.rep ⟨L.S, fun _ => 0, fun _ => False⟩ w y := by
  cases c with
  | p n off => cases hf
  | s t n len => cases hf
  | v x => exact h
  | k x => exact h
  | r e l => exact h
  | q m cs => exact h
  | kq cs => exact h
  | nil e => exact h
  | u => exact h
theorem free_back {S : Nat → Prop} {L : Lie} {c : AC} {y : Value} (hS : L.S = S) (h : c.rep ⟨S, fun _ => 0, fun _ => False⟩ w y) : c.rep L w y := by
  subst hS
  cases c with
  | p n off => exact h.1.elim
  | s t n len => exact h.1.elim
  | v x => exact h
  | k x => exact h
  | r e l => exact h
  | q m cs => exact h
  | kq cs => exact h
  | nil e => exact h
  | u => exact h
theorem freeL_rep {L : Lie} : ∀ {cs : List AC} {ys : List Value}, cs.all (·.free) = true → repL L w cs ys → repL ⟨L.S, fun _ => 0, fun _ => False⟩ w cs ys
  | [], [], _, _ => trivial
  | [], _ :: _, _, h => h.elim
  | _ :: _, [], _, h => h.elim
  | _ :: _, _ :: _, hf, h => by
    simp only [List.all_cons, Bool.and_eq_true] at hf
    exact ⟨free_rep hf.1 h.1, freeL_rep hf.2 h.2⟩
theorem freeL_back {S : Nat → Prop} {L : Lie} (hS : L.S = S) : ∀ {cs : List AC} {ys : List Value}, repL ⟨S, fun _ => 0, fun _ => False⟩ w cs ys → repL L w cs ys
  | [], [], _ => trivial
  | [], _ :: _, h => h.elim
  | _ :: _, [], h => h.elim
  | _ :: _, _ :: _, h => ⟨free_back hS h.1, freeL_back hS h.2⟩
theorem freeP_rep {L : Lie} {c : AP} {y : Value} (hf : c.free = true) (h : c.rep L w y) : c.rep ⟨L.S, fun _ => 0, fun _ => False⟩ w y := by
  cases c with
  | c a => exact free_rep hf h
  | g cs => obtain ⟨ys, h1, h2⟩ := h; exact ⟨ys, h1, freeL_rep hf h2⟩
theorem freeP_back {S : Nat → Prop} {L : Lie} (hS : L.S = S) {c : AP} {y : Value} (h : c.rep ⟨S, fun _ => 0, fun _ => False⟩ w y) : c.rep L w y := by
  cases c with
  | c a => exact free_back hS h
  | g cs => obtain ⟨ys, h1, h2⟩ := h; exact ⟨ys, h1, freeL_back hS h2⟩
theorem freePs_rep {L : Lie} : ∀ {cs : List AP} {ys : List Value}, cs.all (·.free) = true → repP L w cs ys → repP ⟨L.S, fun _ => 0, fun _ => False⟩ w cs ys
  | [], [], _, _ => trivial
  | [], _ :: _, _, h => h.elim
  | _ :: _, [], _, h => h.elim
  | _ :: _, _ :: _, hf, h => by
    simp only [List.all_cons, Bool.and_eq_true] at hf
    exact ⟨freeP_rep hf.1 h.1, freePs_rep hf.2 h.2⟩
theorem freePs_back {S : Nat → Prop} {L : Lie} (hS : L.S = S) : ∀ {cs : List AP} {ys : List Value}, repP ⟨S, fun _ => 0, fun _ => False⟩ w cs ys → repP L w cs ys
  | [], [], _ => trivial
  | [], _ :: _, h => h.elim
  | _ :: _, [], h => h.elim
  | _ :: _, _ :: _, h => ⟨freeP_back hS h.1, freePs_back hS h.2⟩
theorem freeV_back {S : Nat → Prop} {L : Lie} (hS : L.S = S) {c : AV} {y : Value} (h : c.rep ⟨S, fun _ => 0, fun _ => False⟩ w y) : c.rep L w y := by
  cases c with
  | o a => exact freeP_back hS h
  | t l => obtain ⟨ys, h1, h2⟩ := h; exact ⟨ys, h1, freePs_back hS h2⟩
theorem AC.wk_rep {L : Lie} {c : AC} {y : Value} (h : c.rep L w y) : c.wk.rep L w y := by
  cases c with
  | nil e => exact .inl ⟨h, rfl⟩
  | _ => exact h
theorem wkL_rep {L : Lie} : ∀ {cs : List AC} {ys : List Value}, repL L w cs ys → repL L w (cs.map AC.wk) ys
  | [], [], _ => trivial
  | [], _ :: _, h => h.elim
  | _ :: _, [], h => h.elim
  | _ :: _, _ :: _, h => ⟨AC.wk_rep h.1, wkL_rep h.2⟩
theorem AP.wk_rep {L : Lie} {c : AP} {y : Value} (h : c.rep L w y) : c.wk.rep L w y := by
  cases c with
  | c a => exact AC.wk_rep (c := a) h
  | g cs => obtain ⟨ys, h1, h2⟩ := h; exact ⟨ys, h1, wkL_rep h2⟩
theorem wkP_rep {L : Lie} : ∀ {cs : List AP} {ys : List Value}, repP L w cs ys → repP L w (cs.map AP.wk) ys
  | [], [], _ => trivial
  | [], _ :: _, h => h.elim
  | _ :: _, [], h => h.elim
  | _ :: _, _ :: _, h => ⟨AP.wk_rep h.1, wkP_rep h.2⟩
theorem args_rep (R : Rel S0 w0 N μ s a w) : ∀ (xs : List Operand) (ys : List SA) {as : List AP}, chkArgs xs ys = true → evArgs s ys = some as → repP (own S0 μ s.mem) w as (xs.map a.eval)
  | [], [], as, _, h => by simp only [evArgs, Option.some.injEq] at h; subst h; trivial
  | [], _ :: _, _, h, _ => by cases h
  | _ :: _, [], _, h, _ => by cases h
  | x :: xs, y :: ys, as, h, he => by
    simp only [chkArgs, Bool.and_eq_true] at h
    simp only [evArgs] at he
    split at he
    · rename_i b bs hb hbs
      cases he
      exact ⟨R.part h.1 hb, args_rep R xs ys h.2 hbs⟩
    · cases he
theorem sound_call {c : Call} {f : Nat} {args : List SA} (hS0 : ∀ b, S0 b → b < w0.heap.size) (hsp : SpecOk P sp) (R : Rel S0 w0 N μ s a w) (hop : o.op = .call c) (hcal : c.callee = .value (.func f)) (hargs : chkArgs c.args.toList args = true) (he : absOp sp dst (.call f args) s = some (v, s')) : Sound P S0 w0 N o s' v a w := by
  simp only [absOp] at he
  split at he
  · rename_i as has
    split at he
    case isFalse => cases he
    rename_i hf
    split at he
    · rename_i r hr
      split at he
      case isFalse => cases he
      simp only [Option.some.injEq, Prod.mk.injEq] at he
      obtain ⟨rfl, rfl⟩ := he
      have hrep := args_rep R c.args.toList args hargs has
      have hres : (execOp a.eval o).run P w = (callFunc f (c.args.toList.map a.eval).toArray).run P w := by
        have e : (c.args.toList.map a.eval).toArray = c.args.map a.eval := by apply Array.ext'; rw [Array.toList_map]
        rw [e]
        simp [execOp, hop, resolve, hcal, Act.eval, Deferred.ofValue, invoke]
      rename_i hfree
      rcases hsp f _ r hr with ⟨hent, hm⟩ | hin | ⟨_, t, d, rfl, _⟩
      · intro K Q hK
        unfold Oper.wp
        rw [hres, hent]
        have hbd : ∀ b, (own S0 μ s.mem).S b → b < w.heap.size := by
          rintro b (h | ⟨n, hn, rfl⟩)
          · exact Nat.lt_of_lt_of_le (hS0 b h) R.below.size
          · cases h : s.mem n with
            | none => exact absurd h hn
            | some cs => exact R.lt n hn
        refine (hm (own S0 μ s.mem).S w _ hbd (wkP_rep (freePs_rep hf hrep))).mono ?_
        rintro e w' ⟨y, rfl, hy, hb⟩
        exact hK μ y w' (R.below' hb) (freeV_back rfl hy)
      · obtain ⟨y, hy, hL⟩ := hin w (c.args.toList.map a.eval) (by
          have := wkP_rep (freePs_rep hf hrep)
          exact repP_ext (L := ⟨(own S0 μ s.mem).S, fun _ => 0, fun _ => False⟩) (w := w) ⟨fun n h => h.elim, fun b _ _ => ⟨rfl, fun h => h⟩, Nat.le_refl _, fun n h => h.elim⟩ this)
        exact sound_value (y := y) (w' := w) (hres.trans hy) R (hL _ _)
      · cases hfree
    · cases he
  · cases he
end
end Go.VC
/- The evaluator is sound: rows that are made. -/
namespace Go.VC
open Go.RowKit
section
variable {P : Program} {S0 : Nat → Prop} {w0 : World} {N : Nat} {μ : Nat → Nat} {s s' : St} {a : Act} {w : World} {sp : Spec} {o : Oper} {v : AV} {K : Act → World → Prop} {Q : Exit → Act → World → Prop} {dst : Option Nat}

/-! ### The lesser one; strings -/
theorem sound_min {c : Call} {x' y' : SA} (R : Rel S0 w0 N μ s a w) (hop : o.op = .call c) (hcal : c.callee = .builtin .min) (hargs : chkArgs c.args.toList [x', y'] = true) (he : absOp sp dst (.min x' y') s = some (v, s')) : Sound P S0 w0 N o s' v a w := by
  obtain ⟨x, y, hxy, hx, hy⟩ : ∃ x y, c.args = #[x, y] ∧ chkSA x x' = true ∧ chkSA y y' = true := by
    match h : c.args.toList, hargs with
    | [x, y], hargs =>
      simp only [chkArgs, Bool.and_eq_true] at hargs
      exact ⟨x, y, Array.ext' (by simpa using h), hargs.1, hargs.2.1⟩
    | [], hargs => cases hargs
    | [x], hargs => simp [chkArgs] at hargs
    | x :: y :: z :: l, hargs => simp [chkArgs] at hargs
  simp only [absOp] at he
  split at he
  · rename_i k p k' q hp hq
    simp only [Option.some.injEq, Prod.mk.injEq] at he
    obtain ⟨rfl, rfl⟩ := he
    refine sound_value (y := .int k (if q < p then q else p)) (w' := w) ?_ R ⟨rfl, rfl⟩
    simp [execOp, hop, resolve, hcal, hxy, invoke, builtin, Builtin.min_, Builtin.min2, (R.val hx hp).1, (R.val hy hq).1]
  · cases he
theorem strP_spec {t : TypeId} (h : strP P t = true) : P.underlying t = some .string := by
  unfold strP at h
  split at h
  · assumption
  · cases h
theorem sound_str {p q el : TypeId} {x : Operand} {y : SA} (R : Rel S0 w0 N μ s a w) (hop : o.op = .convert p q x) (hel : elemP P p = some el) (hk : kindP P el = some .u8) (hq : strP P q = true) (hx : chkSA x y = true) (he : absOp sp dst (.str y) s = some (v, s')) : Sound P S0 w0 N o s' v a w := by
  simp only [absOp] at he
  split at he
  · rename_i l hl
    simp only [Option.some.injEq, Prod.mk.injEq] at he
    obtain ⟨rfl, rfl⟩ := he
    refine sound_value (y := .string (strOfNums l)) (w' := w) ?_ R ⟨rfl, rfl⟩
    rcases R.row hx hl with ⟨h1, rfl⟩ | ⟨b, off, c, h1, h2, h3, h4, h5⟩
    · have := run_convert_bytes_nil (P := P) (w := w) p el (elemP_spec hel) (kindP_spec hk) 0 0 q (strP_spec hq)
      simp only [execOp, hop, h1, Sem.run_bind, this, Result.andThen_ok, Sem.run_pure]
      rfl
    · have := run_convert_bytes_arg_in (P := P) (w := w) (w' := w) (World.Extends.refl w) p el (elemP_spec hel) (kindP_spec hk) b off l.length c l rfl (fun i hi => h5 i hi) q (strP_spec hq)
      simp only [execOp, hop, h1, Sem.run_bind, this, Result.andThen_ok, Sem.run_pure]
  · cases he
theorem guard_str {op : BinOp} {t : TypeId} {x y : Operand} {m n : ByteArray} : (eqGuard op t x y (.string m) (.string n)).run P w = .ok () w := by
  unfold eqGuard
  split <;> simp
theorem sound_eqt {op : BinOp} {t t' : TypeId} {x y : Operand} {x' y' : SA} {ne : Bool} (R : Rel S0 w0 N μ s a w) (hop : o.op = .binOp op t x y t') (ho : op = if ne then .neq else .eql) (hx : chkSA x x' = true) (hy : chkSA y y' = true) (he : absOp sp dst (.eqt ne x' y') s = some (v, s')) : Sound P S0 w0 N o s' v a w := by
  simp only [absOp] at he
  split at he
  · rename_i p q hp hq
    simp only [Option.some.injEq, Prod.mk.injEq] at he
    obtain ⟨rfl, rfl⟩ := he
    refine sound_value (y := .bool (if ne then !(p.toList == q.toList) else p.toList == q.toList)) (w' := w) ?_ R ⟨rfl, rfl⟩
    simp only [execOp, hop, (R.val hx hp).1, (R.val hy hq).1, Sem.run_bind, guard_str, Result.andThen_ok]
    cases ne with
    | true => simp only [if_true] at ho; subst ho; simp [binOp, Op.stringOp]
    | false => simp only [Bool.false_eq_true, if_false] at ho; subst ho; simp [binOp, Op.stringOp]
  · cases he

/-! ### A row that is made -/
theorem chkRT_spec {ty : TypeId} {t : RT} (h : chkRT P ty t = true) : P.underlying ty = some (.slice t.e) ∧ sizeP P t.e = some t.m ∧ 0 < t.m ∧ ∃ i z, P.info? t.e = some i ∧ i.zero = some z ∧ i.size = t.m ∧ i.bytes ≤ 128 ∧ z.cells.size = t.m := by
  unfold chkRT at h
  split at h
  · rename_i e he
    simp only [Bool.and_eq_true, beq_iff_eq, decide_eq_true_eq] at h
    obtain ⟨⟨⟨rfl, h2⟩, h3⟩, h4⟩ := h
    refine ⟨elemP_spec he, h2, h3, ?_⟩
    split at h4
    · rename_i i hi
      simp only [Bool.and_eq_true, decide_eq_true_eq] at h4
      obtain ⟨h5, h6⟩ := h4
      split at h6
      · rename_i z hz
        refine ⟨i, z, hi, hz, ?_, h5, by simpa using h6⟩
        simpa [sizeP, hi] using h2
      · cases h6
    · cases h4
  · cases h
theorem own_shape {b : Nat} {cur : Array Value} {T : TypeId} (h : w.heap[b]? = some (.cells cur T (0, 0))) : w.shape? b = some (T, cur.size) := by simp [World.shape?, h]

theorem sound_mkS {ty : TypeId} {l c : Operand} {t : RT} {z : Value} {n : SA} (hS0 : ∀ b, S0 b → b < w0.heap.size) (R : Rel S0 w0 N μ s a w) (hop : o.op = .makeSlice ty l c) (ht : chkRT P ty t = true) (hm : t.m = 1) (hz : chkCells (zerosP P t.e 1) [.v z] = true) (hl : chkSA l n = true) (hc : chkSA c n = true) (he : absOp sp dst (.mkS t z n) s = some (v, s')) : Sound P S0 w0 N o s' v a w := by
  obtain ⟨hu, hsz, _, i, z', hi, hz', hisz, hby, hzs⟩ := chkRT_spec ht
  simp only [absOp] at he
  split at he
  · rename_i d k j hj
    split at he
    · rename_i hd
      split at he
      · rename_i hj0
        simp only [Option.some.injEq, Prod.mk.injEq] at he
        obtain ⟨rfl, rfl⟩ := he
        have e1 := (R.val hl hj).1
        have e2 := (R.val hc hj).1
        have hjn : ((j.toNat : Nat) : Int) = j := by omega
        have hzc : z'.cells = #[z] := by
          have hzz : (P.info? t.e).bind (·.zero) = some z' := by rw [hi]; exact hz'
          unfold zerosP at hz
          rw [hzz] at hz
          simp only [List.range_succ, List.range_zero, List.nil_append, List.map_cons, List.map_nil, chkCells, Bool.and_eq_true] at hz
          have h0 : _ = z := (chkCell_eq hz.1).1
          rw [hm] at hzs
          apply Array.ext (by simp [hzs])
          intro q h1 h2
          have : q = 0 := by omega
          subst this
          rw [hzs] at h0
          simpa [h1] using h0
        have hz1 : z.oneCell' = true := by
          have hzz : (P.info? t.e).bind (·.zero) = some z' := by rw [hi]; exact hz'
          unfold zerosP at hz
          rw [hzz] at hz
          simp only [List.range_succ, List.range_zero, List.nil_append, List.map_cons, List.map_nil, chkCells, Bool.and_eq_true] at hz
          obtain ⟨h1, h2⟩ := chkCell_eq hz.1
          rw [← h1]; exact h2
        have hb1 : i.bytes * j.toNat ≤ 128 * 1000000000000 := Nat.mul_le_mul hby (by omega)
        obtain ⟨w', hrun, ⟨hlen, hown⟩, hg⟩ := run_make_full (P := P) w w.heap.size ty t.e i z' 1 hu hi hz' (by rw [hisz, hm]) k k j.toNat (by omega) (by simp only [maxLen]; omega) (Nat.le_refl _)
        rcases hown with ⟨h, _⟩ | ⟨g, cap, cur, h, hbg, hblk, hn, hcm, hcs, htk⟩
        · cases h
        · simp only [Value.slice.injEq, Option.some.injEq, Addr.mk.injEq, and_true, true_and] at h
          obtain ⟨rfl, rfl⟩ := h
          have hcur : cur = (List.replicate j.toNat z).toArray := by
            apply Array.ext'
            rw [List.take_of_length_le (by rw [Array.length_toList, hcs]; omega)] at htk
            rw [htk, hzc, Nat.mul_one, toList_madeCells_one]
          have hrep : repL (own S0 μ s.mem) w (List.replicate j.toNat (.v z)) (List.replicate j.toNat z) := by
            generalize j.toNat = q
            induction q with
            | zero => exact trivial
            | succ q ih => rw [List.replicate_succ, List.replicate_succ]; exact ⟨⟨rfl, hz1⟩, ih⟩
          have hbel : Below w.heap.size w w' := ⟨hg.os, hg.tape, hg.output, hg.size, fun q hq => hg.block q hq (by simp)⟩
          obtain ⟨R', hD, hμ⟩ := R.fresh hS0 (zs := []) (T := t.e) (b := w.heap.size) hd (Nat.le_refl _) (by rw [hblk, hcur]; simp) hbel hrep
          refine sound_value (y := .slice (some ⟨w.heap.size, 0, none⟩) j.toNat j.toNat) (w' := w') ?_ R' ⟨hD, j.toNat, ?_, ?_, Nat.le_refl _, by simp only [maxLen]; omega⟩
          · rw [hjn] at hrun
            simp only [execOp, hop, e1, e2, Sem.run_bind, hrun, Result.andThen_ok, Sem.run_pure]
          · show _ = Value.slice (some ⟨upd μ d w.heap.size d, 0, none⟩) _ _
            rw [hμ]
          · show w'.shape? (upd μ d w.heap.size d) = _
            rw [hμ, own_shape hblk, hcur, hm]
            simp
      · cases he
    · cases he
  · cases he

/-! ### A row literal -/
theorem fillS_ok {m : Nat} (R : Rel S0 w0 N μ s a w) :
    ∀ (ps : List (Nat × Operand)) (parts : List (Nat × Nat × SA)) (cs : List AC) (ys : List Value) {res : List AC}, chkPartsS m ps parts = true → repL (own S0 μ s.mem) w cs ys → fillA s cs parts = some res →
      ∃ zs : List Value, Instr.fill (fun i => some (i * m, m)) ys.toArray (ps.map fun x => (x.1, a.eval x.2)) = some zs.toArray ∧ repL (own S0 μ s.mem) w res zs
  | [], [], cs, ys, res, _, hr, hf => by
    simp only [fillA, Option.some.injEq] at hf
    subst hf
    exact ⟨ys, rfl, hr⟩
  | [], _ :: _, _, _, _, h, _, _ => by cases h
  | _ :: _, [], _, _, _, h, _, _ => by cases h
  | (i, x) :: ps, (off, size, y) :: parts, cs, ys, res, h, hr, hf => by
    simp only [chkPartsS, Bool.and_eq_true, beq_iff_eq] at h
    obtain ⟨⟨⟨hoff, hsz⟩, h2⟩, h3⟩ := h
    subst hsz
    simp only [fillA] at hf
    split at hf
    · rename_i ap hap
      split at hf
      · rename_i hcond
        obtain ⟨hok, hc1, hc2⟩ := hcond
        have hrp := AP.rep_cells (R.part h2 hap) hok
        have hl := repL_length hr
        have hl2 := repL_length hrp
        have hcsz : (a.eval x).cells.size = size := by rw [← hc1, hl2]; simp
        obtain ⟨zs, hz, hrz⟩ := fillS_ok R ps parts (splice cs off ap.cells) (ys.take off ++ (a.eval x).cells.toList ++ ys.drop (off + (a.eval x).cells.toList.length)) h3 (by
          unfold splice
          rw [hl2]
          exact repL_append (repL_append (repL_take _ hr) hrp) (repL_drop _ hr)) hf
        refine ⟨zs, ?_, hrz⟩
        simp only [List.map_cons, Instr.fill, hcsz]
        rw [← hoff, if_neg (by simp; rw [← hl]; omega)]
        have e := foldl_splice (a.eval x).cells.toList ys off 0 (by simp; rw [hcsz, ← hl]; omega)
        rw [← hz]
        congr 1
        rw [← Array.foldl_toList, Array.toList_zipIdx]
        simpa using e
      · cases hf
    · cases hf
theorem sound_bldS {ty : TypeId} {n : Nat} {ps : Array (Nat × Operand)} {t : RT} {z : List AC} {parts : List (Nat × Nat × SA)} (hS0 : ∀ b, S0 b → b < w0.heap.size) (R : Rel S0 w0 N μ s a w) (hop : o.op = .buildSlice ty n ps) (ht : chkRT P ty t = true) (hsm : n * t.m ≤ 16777216) (hz : chkCells (zerosP P t.e (n * t.m)) z = true) (hp : chkPartsS t.m ps.toList parts = true)
    (he : absOp sp dst (.bldS t z n parts) s = some (v, s')) : Sound P S0 w0 N o s' v a w := by
  obtain ⟨hu, hsz, hpos, i, z', hi, hz', hisz, hby, hzs⟩ := chkRT_spec ht
  simp only [absOp] at he
  split at he
  · rename_i d cs hcs
    split at he
    · rename_i hd
      simp only [Option.some.injEq, Prod.mk.injEq] at he
      obtain ⟨rfl, rfl⟩ := he
      have hzz : (P.info? t.e).bind (·.zero) = some z' := by rw [hi]; exact hz'
      unfold zerosP at hz
      rw [hzz] at hz
      obtain ⟨zs, hfill, hr⟩ := fillS_ok (m := t.m) R ps.toList parts z _ hp (chkCells_rep hz) hcs
      have hlen : cs.length = n * t.m := by
        have : ∀ (parts : List (Nat × Nat × SA)) (cs res : List AC), fillA s cs parts = some res → res.length = cs.length := by
          intro parts
          induction parts with
          | nil => intro cs res h; simp only [fillA, Option.some.injEq] at h; rw [h]
          | cons p parts ih =>
            intro cs res h
            obtain ⟨off, size, x⟩ := p
            simp only [fillA] at h
            split at h
            · split at h
              · rename_i hc
                rw [ih _ _ h]
                unfold splice
                simp only [List.length_append, List.length_take, List.length_drop]
                omega
              · cases h
            · cases h
        rw [this parts _ _ hcs]
        have hzl : ∀ (vs : List Value) (xs : List AC), chkCells vs xs = true → vs.length = xs.length := by
          intro vs
          induction vs with
          | nil => intro xs h; cases xs with | nil => rfl | cons _ _ => cases h
          | cons q vs ih => intro xs h; cases xs with | nil => cases h | cons y xs => simp only [chkCells, Bool.and_eq_true] at h; simp [ih _ h.2]
        have := hzl _ _ hz
        rw [List.length_map, List.length_range] at this
        exact this.symm
      have hzl2 : zs.length = n * t.m := by rw [← repL_length hr, hlen]
      have hb : Below w.heap.size w (w.alloc (.cells zs.toArray t.e)) := ⟨rfl, rfl, rfl, by simp, fun k hk => heap_alloc_old w _ k hk⟩
      obtain ⟨R', hD, hμ⟩ := R.fresh hS0 (zs := []) (T := t.e) (b := w.heap.size) hd (Nat.le_refl _) (by rw [heap_alloc_new]; simp) hb hr
      refine sound_value (y := .slice (some ⟨w.heap.size, 0, none⟩) n n) (w' := w.alloc (.cells zs.toArray t.e)) ?_ R' ⟨hD, n, ?_, ?_, Nat.le_refl _, ?_⟩
      · have e : (ps.map fun x => (x.1, a.eval x.2)).toList = ps.toList.map fun x => (x.1, a.eval x.2) := by simp
        by_cases h0 : n * i.size = 0
        · have hn0 : n = 0 := by
            rw [hisz] at h0
            rcases Nat.mul_eq_zero.1 h0 with h | h
            · exact h
            · omega
          subst hn0
          have hf2 : Instr.fill (fun j => some (j * t.m, t.m)) #[] (ps.toList.map fun x => (x.1, a.eval x.2)) = some zs.toArray := by simpa using hfill
          have hf3 : Instr.fill (fun j => some (j * i.size, i.size)) #[] (ps.map fun x => (x.1, a.eval x.2)).toList = some zs.toArray := by rw [e, hisz]; exact hf2
          simp only [execOp, hop, Sem.run_bind]
          have hrun : (Instr.buildSlice ty 0 (ps.map fun x => (x.1, a.eval x.2))).run P w = .ok (.slice (some ⟨w.heap.size, 0, none⟩) 0 0) (w.alloc (.cells zs.toArray t.e)) := by
            have hr0 : ∀ f : Nat → Value, Array.map f (Array.range 0) = #[] := fun f => by simp
            simp only [Instr.buildSlice, Sem.run_bind, run_underlying hu, run_size hsz, Result.andThen_ok, Nat.zero_mul, if_true, Sem.run_pure, hr0, newRow]
            rw [← hisz, hf3]
            simp
          have := hrun
          simp only [this, Result.andThen_ok, Sem.run_pure]
        · have hf3 : Instr.fill (fun j => some (j * i.size, i.size)) ((Array.range (n * i.size)).map (z'.cells[· % z'.cells.size]!)) (ps.map fun x => (x.1, a.eval x.2)).toList = some zs.toArray := by
            rw [e, hisz]
            have : (Array.range (n * t.m)).map (z'.cells[· % z'.cells.size]!) = ((List.range (n * t.m)).map (fun i => z'.cells[i % z'.cells.size]!)).toArray := by
              apply Array.ext'
              simp
            rw [this]
            exact hfill
          have hrun := run_buildSlice (P := P) w ty t.e n (ps.map fun x => (x.1, a.eval x.2)) zs.toArray i z' hu hi hz' (by rw [hisz]; omega) h0 hf3
          simp only [execOp, hop, Sem.run_bind, hrun, Result.andThen_ok, Sem.run_pure]
      · show _ = Value.slice (some ⟨upd μ d w.heap.size d, 0, none⟩) _ _
        rw [hμ]
      · show (w.alloc _).shape? (upd μ d w.heap.size d) = _
        rw [hμ, own_shape (heap_alloc_new w _)]
        simp [hzl2]
      · have : n ≤ n * t.m := Nat.le_mul_of_pos_right n hpos
        simp only [maxLen]; omega
    · cases he
  · cases he
end
end Go.VC
/- The evaluator is sound: append. -/
namespace Go.VC
open Go.RowKit
section
variable {P : Program} {S0 : Nat → Prop} {w0 : World} {N : Nat} {μ : Nat → Nat} {s s' : St} {a : Act} {w : World} {sp : Spec} {o : Oper} {v : AV} {K : Act → World → Prop} {Q : Exit → Act → World → Prop} {dst : Option Nat}

/-! ### append -/
theorem run_app (base : Nat) (t ty e : TypeId) (i : TypeInfo) (z : Value) (size bytes : Nat) (ht : P.underlying t = some (.slice e)) (hi : P.info? e = some i) (hz : i.zero = some z)
    (hsize : i.size = size) (hby : i.bytes = bytes) (hzs : z.cells.size = size) (hsz : 0 < size)
    (v : Value) (n : Nat) (xs : List Value) (hown : w.ownsRow base e size v n xs)
    (ad : Addr) (m c : Nat) (news : List Value) (hl : news.length = m * size) (hnews : ∀ j u, news[j]? = some u → w.cell? (ad.add j) = some u) (h1 : ∀ u ∈ news, u.oneCell' = true)
    (h63 : n + m ≤ maxLen) (hbytes : (n + m) * bytes ≤ 140737488355328) (hbase : base ≤ w.heap.size) (h0 : v = .slice none 0 0 → 0 < m) :
    ∃ g cap cur w', (Builtin.append_ #[t, t] ty #[v, .slice (some ad) m c]).run P w = .ok (.slice (some ⟨g, 0, none⟩) (n + m) cap) w' ∧ (w.heap.size ≤ g ∨ v.ownBlock = some g) ∧ base ≤ g ∧
      w'.heap[g]? = some (.cells cur e (0, 0)) ∧ n + m ≤ cap ∧ cap ≤ maxLen ∧ cur.size = cap * size ∧ cur.toList.take ((n + m) * size) = xs ++ news ∧ w.grownBy w' (some g) := by
  have weak : ∀ {w' : World} {row : Option Nat}, w.grownBy w' row → ∀ g, (∀ k, row = some k → k = g) → w.grownBy w' (some g) := fun hg g h => ⟨hg.os, hg.tape, hg.output, hg.size, fun k hk hne => hg.block k hk (fun e => hne (by rw [h k e.symm]))⟩
  rcases hown.2 with ⟨hv, hn⟩ | ⟨g, cap, cur, hv, hbg, hg, hnc, hcm, hcs, htk⟩
  · have hown' : w.ownsRow w.heap.size e size v n xs := ⟨hown.1, .inl ⟨hv, hn⟩⟩
    obtain ⟨v', w', hrun, hown2, hgr, hnil⟩ := run_append_own (P := P) w w.heap.size t ty e i z size bytes ht hi hz hsize hby hzs hsz v n xs hown' ad m c news hl hnews h1 h63 hbytes (Nat.le_refl _)
    rcases hown2.2 with ⟨hv', _⟩ | ⟨g, cap, cur, hv', hbg, hg, hnc, hcm, hcs, htk⟩
    · have := (hnil.1 hv').2; have := h0 hv; omega
    · refine ⟨g, cap, cur, w', by rw [hrun, hv'], .inl hbg, Nat.le_trans hbase hbg, hg, hnc, hcm, hcs, htk, weak hgr g (fun k hk => ?_)⟩
      rw [hv] at hk; cases hk
  · by_cases hroom : n + m ≤ cap
    · subst hv
      obtain ⟨w', hrun, hown2, hgr⟩ := run_append_fits (P := P) w base t ty e i size ht hi hsize g n cap xs hown ad m c news hl hnews h1 hroom
      rcases hown2.2 with ⟨hv', _⟩ | ⟨g', cap', cur', hv', hbg', hg', hnc', hcm', hcs', htk'⟩
      · cases hv'
      · simp only [Value.slice.injEq, Option.some.injEq, Addr.mk.injEq, and_true, true_and] at hv'
        obtain ⟨rfl, rfl⟩ := hv'
        exact ⟨g, cap, cur', w', hrun, .inr rfl, hbg, hg', hroom, hcm, hcs', htk', hgr⟩
    · subst hv
      have holds : ∀ j u, xs[j]? = some u → w.cell? ((⟨g, 0, none⟩ : Addr).add j) = some u := hown.cells (g := g) rfl
      have hsmall : n + m ≤ 9223372036854775807 := by simp only [maxLen] at h63; omega
      have hrun := run_append_grow (P := P) w t ty e i z ht hi hz ⟨g, 0, none⟩ n cap xs (by rw [hsize]; exact hown.1) holds ad m c news (by rw [hsize]; exact hl) hnews (by omega) (by omega) (by rw [hby]; exact growslice_fits (by omega) hbytes)
      have hge := grownCap_ge w (n + m) cap e
      have hlen : (xs ++ news).length = (n + m) * size := by rw [List.length_append, hown.1, hl, Nat.add_mul]
      refine ⟨w.heap.size, _, _, _, hrun, .inl (Nat.le_refl _), hbase, heap_alloc_new w.drew _, hge, grownCap_le_maxLen w (n + m) cap e h63, ?_, ?_, ⟨rfl, rfl, rfl, by simp, fun k hk _ => heap_alloc_old w.drew _ k hk⟩⟩
      · simp only [Array.size_append, List.size_toArray, size_zeroCells, hzs, hown.1, hl, ← Nat.add_mul]
        congr 1
        omega
      · simp only [Array.toList_append, List.append_assoc]
        rw [← List.append_assoc, ← hlen]
        exact List.take_left

theorem own_of (R : Rel S0 w0 N μ s a w) {x : Operand} {y : SA} (h : chkSA x y = true) {t : RT} {ns : List Nat} {n : Nat} {xs : List AC} (ho : ownOf t s (y.ev s) = some (ns, n, xs)) :
    ∃ xv : List Value, w.ownsRow w0.heap.size t.e t.m (a.eval x) n xv ∧ repL (own S0 μ s.mem) w xs xv ∧ ((ns = [] ∧ n = 0 ∧ a.eval x = .slice none 0 0) ∨ ∃ q, ns = [q] ∧ s.mem q ≠ none ∧ (a.eval x).ownBlock = some (μ q) ∧ a.eval x ≠ .slice none 0 0) := by
  have hev := R.ev h
  unfold ownOf at ho
  split at ho
  · rename_i t' q len hy
    rw [hy] at hev
    obtain ⟨hD, cap, h1, h2, h3, h4⟩ := hev
    split at ho
    · rename_i cs hcs
      split at ho
      · rename_i hc
        obtain ⟨he, hm, hlen⟩ := hc
        simp only [Option.some.injEq, Prod.mk.injEq] at ho
        obtain ⟨rfl, rfl, rfl⟩ := ho
        obtain ⟨hge, ys, zs, T, hb, hr⟩ := R.mem q cs hcs
        have hl := repL_length hr
        have hsh : w.shape? (μ q) = some (t'.e, cap * t'.m) := h2
        rw [own_shape hb] at hsh
        simp only [Option.some.injEq, Prod.mk.injEq] at hsh
        obtain ⟨rfl, hcap⟩ := hsh
        rw [hm] at hcap
        refine ⟨ys.take (len * t.m), ⟨by rw [List.length_take]; omega, .inr ⟨μ q, cap, (ys ++ zs).toArray, h1, hge, by rw [hb, he], h3, h4, hcap, ?_⟩⟩, repL_take _ hr, .inr ⟨q, rfl, hD, by rw [h1]; rfl, by rw [h1]; simp⟩⟩
        simp only [List.toList_toArray]
        rw [List.take_append_of_le_length (by omega)]
      · cases ho
    · cases ho
  · rename_i hy
    rw [hy] at hev
    simp only [Option.some.injEq, Prod.mk.injEq] at ho
    obtain ⟨rfl, rfl, rfl⟩ := ho
    exact ⟨[], ⟨by simp, .inl ⟨hev, rfl⟩⟩, trivial, .inl ⟨rfl, rfl, hev⟩⟩
  · cases ho

theorem lie_of (R : Rel S0 w0 N μ s a w) {x : Operand} {y : SA} (h : chkSA x y = true) {m : Nat} {ns : List Nat} {n : Nat} {xs : List AC} (ho : lieOf m s (y.ev s) = some (ns, n, xs)) :
    ∃ xv : List Value, repL (own S0 μ s.mem) w xs xv ∧ xv.length = n * m ∧ ((a.eval x = .slice none 0 0 ∧ n = 0) ∨ ∃ ad c, a.eval x = .slice (some ad) n c ∧ ∀ j u, xv[j]? = some u → w.cell? (ad.add j) = some u) := by
  have hev := R.ev h
  unfold lieOf at ho
  split at ho
  · rename_i t q len hy
    rw [hy] at hev
    obtain ⟨hD, cap, h1, h2, h3, h4⟩ := hev
    split at ho
    · rename_i cs hcs
      split at ho
      · rename_i hc
        obtain ⟨hm, hlen⟩ := hc
        simp only [Option.some.injEq, Prod.mk.injEq] at ho
        obtain ⟨rfl, rfl, rfl⟩ := ho
        obtain ⟨hge, ys, zs, T, hb, hr⟩ := R.mem q cs hcs
        have hl := repL_length hr
        refine ⟨ys.take (len * m), repL_take _ hr, by rw [List.length_take]; omega, .inr ⟨_, _, h1, fun j u hj => ?_⟩⟩
        rw [Addr.add_mid, Nat.zero_add]
        rw [List.getElem?_take] at hj
        split at hj
        · exact cell_own hb hj
        · cases hj
      · cases ho
    · cases ho
  · rename_i e l hy
    rw [hy] at hev
    split at ho
    · rename_i hm
      subst hm
      simp only [Option.some.injEq, Prod.mk.injEq] at ho
      obtain ⟨rfl, rfl, rfl⟩ := ho
      have hrep : ∀ l : List Int, repL (own S0 μ s.mem) w (l.map fun x => AC.v (.int e x)) (l.map (.int e)) := fun l => by
        induction l with
        | nil => trivial
        | cons z l ih => exact ⟨⟨rfl, rfl⟩, ih⟩
      refine ⟨l.map (.int e), hrep l, by simp, ?_⟩
      rcases hev with ⟨h1, rfl⟩ | ⟨b, o', c, h1, h2, h3, h4, h5⟩
      · exact .inl ⟨h1, rfl⟩
      · refine .inr ⟨_, _, h1, fun j u hj => ?_⟩
        rw [Addr.add_mid]
        have hlt : j < l.length := by
          rcases Nat.lt_or_ge j l.length with h | h
          · exact h
          · rw [List.getElem?_eq_none (by simpa using h)] at hj; cases hj
        rw [h5 j hlt]
        simp [List.getElem?_eq_getElem hlt] at hj
        rw [← hj]
        simp [List.getD_eq_getElem?_getD, List.getElem?_eq_getElem hlt]
    · cases ho
  · rename_i m' cs hy
    rw [hy] at hev
    split at ho
    · rename_i hc
      obtain ⟨rfl, hpos⟩ := hc
      simp only [Option.some.injEq, Prod.mk.injEq] at ho
      obtain ⟨rfl, rfl, rfl⟩ := ho
      rcases hev with ⟨h1, rfl⟩ | ⟨b, o', k, c, h1, h2, h3, h4, h5, h6⟩
      · exact ⟨[], trivial, by simp, .inl ⟨h1, by simp⟩⟩
      · obtain ⟨ys, g1, g2⟩ := stand_rep (L := own S0 μ s.mem) cs o' h6
        have hk : cs.length / m' = k := by rw [h2, Nat.mul_div_cancel _ hpos]
        refine ⟨ys, g1, by rw [hk, ← h2, ← repL_length g1, List.length_map], .inr ⟨_, c, by rw [hk]; exact h1, fun j u hj => ?_⟩⟩
        rw [Addr.add_mid]
        exact g2 j u hj
    · cases ho
  · rename_i hy
    rw [hy] at hev
    simp only [Option.some.injEq, Prod.mk.injEq] at ho
    obtain ⟨rfl, rfl, rfl⟩ := ho
    exact ⟨[], trivial, by simp, .inl ⟨hev, rfl⟩⟩
  · cases ho

theorem sound_app {c : Call} {t1 : TypeId} {t : RT} {x' y' : SA} (hS0 : ∀ b, S0 b → b < w0.heap.size) (R : Rel S0 w0 N μ s a w) (hop : o.op = .call c) (hcal : c.callee = .builtin .append) (htys : c.argTypes = #[t1, t1]) (ht : chkRT P t1 t = true) (hargs : chkArgs c.args.toList [x', y'] = true) (he : absOp sp dst (.app t x' y') s = some (v, s')) : Sound P S0 w0 N o s' v a w := by
  obtain ⟨x, y, hxy, hx, hy⟩ : ∃ x y, c.args = #[x, y] ∧ chkSA x x' = true ∧ chkSA y y' = true := by
    match h : c.args.toList, hargs with
    | [x, y], hargs =>
      simp only [chkArgs, Bool.and_eq_true] at hargs
      exact ⟨x, y, Array.ext' (by simpa using h), hargs.1, hargs.2.1⟩
    | [], hargs => cases hargs
    | [x], hargs => simp [chkArgs] at hargs
    | x :: y :: z :: l, hargs => simp [chkArgs] at hargs
  obtain ⟨hu, hsz, hpos, i, z, hi, hz, hisz, hby, hzs⟩ := chkRT_spec ht
  simp only [absOp] at he
  split at he
  · rename_i d ns na xs ms nb ys ho hl
    split at he
    · rename_i hc
      obtain ⟨hc1, hc2, hc3, hc4⟩ := hc
      simp only [Option.some.injEq, Prod.mk.injEq] at he
      obtain ⟨rfl, rfl⟩ := he
      obtain ⟨xv, hown, hrx, hns⟩ := own_of R hx ho
      obtain ⟨yv, hry, hylen, hyv⟩ := lie_of R hy hl
      have hexec : ∀ {r : Value} {w' : World}, (Builtin.append_ #[t1, t1] o.type #[a.eval x, a.eval y]).run P w = .ok r w' → (execOp a.eval o).run P w = .ok (.value r) w' := fun h => by
        simp only [execOp, hop, resolve, hcal, hxy, htys, invoke, builtin, Sem.run_bind, Sem.run_pure, Result.andThen_ok, List.map_toArray, List.map_cons, List.map_nil, h]
      have hones := known_all hc4 hry
      rcases hyv with ⟨hy0, hnb⟩ | ⟨ad, cp, hy0, hcell⟩
      · -- nothing is appended
        subst hnb
        have hnsne : ns ≠ [] := fun e => by have := hc1 e; omega
        rcases hns with ⟨h, _⟩ | ⟨q, rfl, hq, hblk, hnn⟩
        · exact absurd h hnsne
        have hyv0 : yv = [] := List.eq_nil_of_length_eq_zero (by omega)
        subst hyv0
        have hrun := run_append_owned_none (P := P) w w0.heap.size t1 o.type t.e i t.m hu hi (a.eval x) na xv hown
        rcases hown.2 with ⟨h, _⟩ | ⟨g, cap, cur, hv, hbg, hg, hnc, hcm, hcs, htk⟩
        · exact absurd h hnn
        have hgq : g = μ q := by rw [hv] at hblk; simpa [Value.ownBlock] using hblk
        subst hgq
        obtain ⟨R', hD, hμ⟩ := R.turn hS0 (ns := [q] ++ ms) (d := d) (b := μ q) (cs := xs ++ ys) (ys := xv ++ []) (zs := cur.toList.drop (na * t.m)) (T := t.e) (w' := w) hc3 hbg (.inr ⟨q, by simp, hq, rfl⟩)
          (by rw [hg, List.append_nil, ← htk, List.take_append_drop]) (fun _ _ _ => rfl) (Nat.le_refl _) R.below (repL_append hrx hry)
        refine sound_value (y := a.eval x) (w' := w) (hexec (by rw [hy0]; exact hrun)) R' ⟨hD, cap, ?_, ?_, hnc, hcm⟩
        · show _ = Value.slice (some ⟨upd μ d (μ q) d, 0, none⟩) _ _
          rw [hμ]; exact hv
        · show w.shape? (upd μ d (μ q) d) = _
          rw [hμ, own_shape hg, hcs]
      · have h0 : a.eval x = .slice none 0 0 → 0 < nb := fun h => by
          rcases hns with ⟨h', _⟩ | ⟨q, _, _, _, hnn⟩
          · exact hc1 h'
          · exact absurd h hnn
        have hbb : (na + nb) * i.bytes ≤ 1000000000000 * 128 := Nat.mul_le_mul hc2 hby
        obtain ⟨g, cap, cur, w', hrun, hgb, hbg, hg, hnc, hcm, hcs, htk, hgr⟩ := run_app (P := P) w0.heap.size t1 o.type t.e i z t.m i.bytes hu hi hz hisz rfl hzs hpos (a.eval x) na xv hown ad nb cp yv hylen hcell hones
          (by simp only [maxLen]; omega) (by omega) R.below.size h0
        obtain ⟨R', hD, hμ⟩ := R.turn hS0 (ns := ns ++ ms) (d := d) (b := g) (cs := xs ++ ys) (ys := xv ++ yv) (zs := cur.toList.drop ((na + nb) * t.m)) (T := t.e) (w' := w') hc3 hbg
          (by
            rcases hgb with h | h
            · exact .inl h
            · right
              rcases hns with ⟨_, _, hn0⟩ | ⟨q, rfl, hq, hblk, _⟩
              · rw [hn0] at h; cases h
              · rw [hblk] at h
                exact ⟨q, by simp, hq, by simpa using h⟩)
          (by rw [hg, ← htk, List.take_append_drop]) (fun k hk hne => hgr.block k hk (by simpa using hne)) hgr.size
          ⟨hgr.os.trans R.below.os, hgr.tape.trans R.below.tape, hgr.output.trans R.below.output, Nat.le_trans R.below.size hgr.size, fun k hk => (hgr.block k (Nat.lt_of_lt_of_le hk R.below.size) (by simp; omega)).trans (R.below.block k hk)⟩
          (repL_append hrx hry)
        refine sound_value (w' := w') (hexec (by rw [hy0]; exact hrun)) R' ⟨hD, cap, ?_, ?_, hnc, hcm⟩
        · show _ = Value.slice (some ⟨upd μ d g d, 0, none⟩) _ _
          rw [hμ]
        · show w'.shape? (upd μ d g d) = _
          rw [hμ, own_shape hg, hcs]
    · cases he
  · cases he
/-- append(nil, make(n)...). -/
theorem run_appZ (t ti ty e : TypeId) (i : TypeInfo) (z : Value) (ht : P.underlying t = some (.slice e)) (hti : P.underlying ti = some (.int .i64)) (hi : P.info? e = some i) (hz : i.zero = some z) (hzs : z.cells.size = i.size) (hsz : 0 < i.size) (hby : i.bytes ≤ 128)
    (m : Nat) (h0 : 0 < m) (hm : m ≤ 1000000000) :
    ∃ cur, (Builtin.append_ #[t, ti] ty #[.slice none 0 0, .int .i64 (m : Int)]).run P w = .ok (.slice (some ⟨w.heap.size, 0, none⟩) m (grownCap w m 0 e)) (w.drew.alloc (.cells cur e)) ∧ cur.size = grownCap w m 0 e * i.size := by
  have hge := grownCap_ge w m 0 e
  refine ⟨Builtin.zeroCells z.cells m ++ Builtin.zeroCells z.cells (grownCap w m 0 e - m), ?_, ?_⟩
  · have e1 : IntKind.i64.wrap (m : Int) = m := by rw [IntKind.wrap_i64]; omega
    have h48 : ¬ (281474976710656 < (m : Int) * (i.bytes : Int)) := by
      have : (m : Int) * (i.bytes : Int) ≤ 1000000000 * 128 := Int.mul_le_mul (by omega) (by omega) (by omega) (by decide)
      omega
    have h48' : ¬ (281474976710656 < Builtin.nextslicecap m 0 * i.bytes) := by
      rw [nextslicecap_zero h0]
      have : m * i.bytes ≤ 1000000000 * 128 := Nat.mul_le_mul hm hby
      omega
    have h2 : ¬ ((m : Int) < 0) := by omega
    have h3 : m ≠ 0 := by omega
    have h4 : ¬ (9223372036854775807 < (m : Int)) := by omega
    have h5 : ¬ m * i.size = 0 := by
      have := Nat.mul_pos h0 hsz; omega
    have h6 : i.size ≠ 0 := by omega
    simp [Builtin.append_, run_underlying ht, run_underlying hti, sizeOf, typeInfo, zeroValue, hi, hz, Builtin.lenOf, Builtin.firstCells, asInt, asIntOf, e1, h48, h48', h2, h3, h4, h5, h6, Question.forced, newRow, grownCap]
  · rw [Array.size_append, size_zeroCells, size_zeroCells, hzs, ← Nat.add_mul]
    congr 1
    omega
theorem sound_appZ {c : Call} {t1 t2 : TypeId} {t : RT} {x' y' : SA} (hS0 : ∀ b, S0 b → b < w0.heap.size) (R : Rel S0 w0 N μ s a w) (hop : o.op = .call c) (hcal : c.callee = .builtin .append) (htys : c.argTypes = #[t1, t2]) (ht : chkRT P t1 t = true) (hk : kindP P t2 = some .i64) (hargs : chkArgs c.args.toList [x', y'] = true) (he : absOp sp dst (.appZ t x' y') s = some (v, s')) : Sound P S0 w0 N o s' v a w := by
  obtain ⟨x, y, hxy, hx, hy⟩ : ∃ x y, c.args = #[x, y] ∧ chkSA x x' = true ∧ chkSA y y' = true := by
    match h : c.args.toList, hargs with
    | [x, y], hargs =>
      simp only [chkArgs, Bool.and_eq_true] at hargs
      exact ⟨x, y, Array.ext' (by simpa using h), hargs.1, hargs.2.1⟩
    | [], hargs => cases hargs
    | [x], hargs => simp [chkArgs] at hargs
    | x :: y :: z :: l, hargs => simp [chkArgs] at hargs
  obtain ⟨hu, hsz, hpos, i, z, hi, hz, hisz, hby, hzs⟩ := chkRT_spec ht
  have hti : P.underlying t2 = some (.int .i64) := by
    unfold kindP at hk
    split at hk
    · rename_i k hk'; cases hk; exact hk'
    · cases hk
  simp only [absOp] at he
  split at he
  · rename_i d e' m hxe hye
    split at he
    · rename_i hd
      split at he
      · rename_i hc
        simp only [Option.some.injEq, Prod.mk.injEq] at he
        obtain ⟨rfl, rfl⟩ := he
        have hev := R.ev hx
        rw [hxe] at hev
        have hev : a.eval x = .slice none 0 0 := hev
        have hey : a.eval y = .int .i64 m := (R.val hy hye).1
        obtain ⟨cur, hrun, hcs⟩ := run_appZ (P := P) (w := w) t1 t2 o.type t.e i z hu hti hi hz (by rw [hzs, hisz]) (by omega) hby m.toNat (by omega) (by omega)
        have hm : ((m.toNat : Nat) : Int) = m := by omega
        rw [hm] at hrun
        have hbel : Below w.heap.size w (w.drew.alloc (.cells cur t.e)) := ⟨rfl, rfl, rfl, by simp, fun k hk => heap_alloc_old w.drew _ k hk⟩
        obtain ⟨R', hD, hμ⟩ := R.fresh hS0 (cs := []) (ys := []) (zs := cur.toList) (T := t.e) (b := w.heap.size) hd (Nat.le_refl _) (by simp only [List.nil_append, Array.toArray_toList]; exact heap_alloc_new w.drew _) hbel trivial
        refine sound_value (y := .slice (some ⟨w.heap.size, 0, none⟩) m.toNat (grownCap w m.toNat 0 t.e)) ?_ R' ⟨hD, grownCap w m.toNat 0 t.e, ?_, ?_, grownCap_ge w m.toNat 0 t.e, grownCap_le_maxLen w m.toNat 0 t.e (by simp only [maxLen]; omega)⟩
        · simp only [execOp, hop, resolve, hcal, hxy, htys, invoke, builtin, Sem.run_bind, Sem.run_pure, Result.andThen_ok, List.map_toArray, List.map_cons, List.map_nil, hev, hey, hrun]
        · show _ = Value.slice (some ⟨upd μ d w.heap.size d, 0, none⟩) _ _
          rw [hμ]
        · show World.shape? _ (upd μ d w.heap.size d) = _
          have hb : (w.drew.alloc (.cells cur t.e)).heap[w.heap.size]? = some (.cells cur t.e (0, 0)) := heap_alloc_new w.drew _
          rw [hμ, own_shape hb, hcs, hisz]
      · cases he
    · cases he
  · cases he
end
end Go.VC
/- The evaluator is sound: rows that are let go. -/
namespace Go.VC
open Go.RowKit
section
variable {P : Program} {S0 : Nat → Prop} {w0 : World} {N : Nat} {μ : Nat → Nat} {s s' : St} {a : Act} {w : World} {sp : Spec} {o : Oper} {v : AV} {K : Act → World → Prop} {Q : Exit → Act → World → Prop} {dst : Option Nat}

/-! ### A row is let go -/
theorem rowInts_rep {L : Lie} {k : IntKind} : ∀ {cs : List AC} {ys : List Value} {l : List Int}, rowInts k cs = some l → repL L w cs ys → ys = l.map (.int k)
  | [], [], l, h, _ => by simp only [rowInts, Option.some.injEq] at h; subst h; rfl
  | [], _ :: _, _, _, hr => hr.elim
  | _ :: _, [], _, _, hr => hr.elim
  | c :: cs, y :: ys, l, h, hr => by
    unfold rowInts at h
    split at h
    · rename_i heq; cases heq
    · rename_i k' x cs' heq
      cases heq
      split at h
      · rename_i hk
        subst hk
        split at h
        · rename_i l' hl
          cases h
          rw [rowInts_rep hl hr.2]
          have := hr.1.1
          rw [this]; rfl
        · cases h
      · cases h
    · cases h
theorem rowQ_rep {L : Lie} : ∀ {cs : List AC} {ys : List Value} {l : List QC}, rowQ cs = some l → repL L w cs ys → l.length = cs.length ∧ ∀ (j : Nat) (c : QC), l[j]? = some c → ∃ y, ys[j]? = some y ∧ c.rep L.S w y
  | [], [], l, h, _ => by simp only [rowQ, Option.some.injEq] at h; subst h; exact ⟨rfl, fun j c hj => by simp at hj⟩
  | [], _ :: _, _, _, hr => hr.elim
  | _ :: _, [], _, _, hr => hr.elim
  | c :: cs, y :: ys, l, h, hr => by
    unfold rowQ at h
    split at h
    · rename_i heq; cases heq
    · rename_i x cs' heq
      cases heq
      split at h
      · rename_i l' hl
        cases h
        obtain ⟨h1, h2⟩ := rowQ_rep hl hr.2
        refine ⟨by simp [h1], fun j c hj => ?_⟩
        cases j with
        | zero => simp at hj; subst hj; exact ⟨y, rfl, hr.1⟩
        | succ j => simpa using h2 j c (by simpa using hj)
      · cases h
    · rename_i e l0 cs' heq
      cases heq
      split at h
      · rename_i l' hl
        cases h
        obtain ⟨h1, h2⟩ := rowQ_rep hl hr.2
        refine ⟨by simp [h1], fun j c hj => ?_⟩
        cases j with
        | zero => simp at hj; subst hj; exact ⟨y, rfl, hr.1⟩
        | succ j => simpa using h2 j c (by simpa using hj)
      · cases h
    · cases h

/-- n is let go: its block may be read from now on. -/
structure ExtR (n : Nat) (L : Lie) (L' : Lie) : Prop where
  D : ∀ m, m ≠ n → L.D m → L'.D m
  μ : L'.μ = L.μ
  S : ∀ b, L'.S b → L.S b
  not : ¬ L'.S (L.μ n)
section
variable {n : Nat} {L L' : Lie} {cs : List AC} {ys zs : List Value} {T : TypeId}
theorem ExtR.e (h : ExtR n L L') : Ext ⟨L.S, L.μ, fun _ => False⟩ w ⟨L'.S, L'.μ, fun _ => False⟩ w :=
  ⟨fun n h => h.elim, fun b hb _ => ⟨rfl, fun h' => hb (h.S b h')⟩, Nat.le_refl _, fun n h => h.elim⟩
theorem relRow_rep (h : ExtR n L L') (hb : w.heap[L.μ n]? = some (.cells (ys ++ zs).toArray T (0, 0))) (hr : repL L w cs ys) {t : RT} {len cap : Nat} (hlt : L.μ n < w.heap.size) (hcap : len ≤ cap) : (relRow t len cs).rep L' w (.slice (some ⟨L.μ n, 0, none⟩) len cap) := by
  have hl := repL_length hr
  unfold relRow
  split
  · rename_i hle
    split
    · rename_i k hk
      split
      · rename_i hm
        rw [hm, Nat.mul_one] at hle
        split
        · rename_i l hrow
          have hv := rowInts_rep hrow (repL_take len hr)
          have hll : l.length = len := by
            have := congrArg List.length hv
            rw [List.length_take, List.length_map] at this
            omega
          refine .inr ⟨L.μ n, 0, cap, by rw [hll], by omega, h.not, hlt, fun j hj => ?_⟩
          rw [Nat.zero_add]
          have hjl : j < len := by omega
          have : ys[j]? = some (.int k (l.getD j 0)) := by
            have h1 : (ys.take len)[j]? = ys[j]? := by rw [List.getElem?_take, if_pos hjl]
            rw [← h1, hv]
            simp [List.getD_eq_getElem?_getD, List.getElem?_eq_getElem hj]
          exact cell_own hb this
        · trivial
      · trivial
    · rename_i hk
      split
      · rename_i l hrow
        obtain ⟨g1, g2⟩ := rowQ_rep hrow (repL_take (len * t.m) hr)
        rw [List.length_take] at g1
        refine .inr ⟨L.μ n, 0, len, cap, rfl, by omega, hcap, h.not, hlt, fun j c hj => ?_⟩
        obtain ⟨y, hy, hrep⟩ := g2 j c hj
        rw [Nat.zero_add]
        refine ⟨y, cell_own hb ?_, QC.rep_ext (L := ⟨L.S, L.μ, fun _ => False⟩) (L' := ⟨L'.S, L'.μ, fun _ => False⟩) h.e hrep⟩
        rw [List.getElem?_take] at hy
        split at hy
        · exact hy
        · cases hy
      · trivial
  · trivial
theorem AC.rep_rel (h : ExtR n L L') (hb : w.heap[L.μ n]? = some (.cells (ys ++ zs).toArray T (0, 0))) (hr : repL L w cs ys) (hlt : L.μ n < w.heap.size) {c : AC} {y : Value} (hc : c.rep L w y) : (c.rel n cs).rep L' w y := by
  cases c with
  | p m off =>
    simp only [AC.rel]
    split
    · trivial
    · rename_i hn
      obtain ⟨h1, h2⟩ := hc
      exact ⟨h.D m hn h1, by rw [h.μ]; exact h2⟩
  | s t m len =>
    obtain ⟨h1, cap, h2, h3, h4, h5⟩ := hc
    simp only [AC.rel]
    split
    · rename_i hn
      subst hn
      rw [h2]
      exact relRow_rep h hb hr hlt h4
    · rename_i hn
      exact ⟨h.D m hn h1, cap, by rw [h.μ]; exact h2, by rw [h.μ]; exact h3, h4, h5⟩
  | v x => exact AC.rep_ext (a := .v x) (w := w) (w' := w) h.e hc
  | k x => exact AC.rep_ext (a := .k x) h.e hc
  | r e l => exact AC.rep_ext (a := .r e l) h.e hc
  | q m cs => exact AC.rep_ext (a := .q m cs) h.e hc
  | kq cs => exact AC.rep_ext (a := .kq cs) h.e hc
  | nil e => exact hc
  | u => trivial
theorem repL_rel (h : ExtR n L L') (hb : w.heap[L.μ n]? = some (.cells (ys ++ zs).toArray T (0, 0))) (hr : repL L w cs ys) (hlt : L.μ n < w.heap.size) : ∀ {as : List AC} {vs : List Value}, repL L w as vs → repL L' w (as.map (·.rel n cs)) vs
  | [], [], _ => trivial
  | [], _ :: _, hr => hr.elim
  | _ :: _, [], hr => hr.elim
  | _ :: _, _ :: _, hq => ⟨AC.rep_rel h hb hr hlt hq.1, repL_rel h hb hr hlt hq.2⟩
theorem AP.rep_rel (h : ExtR n L L') (hb : w.heap[L.μ n]? = some (.cells (ys ++ zs).toArray T (0, 0))) (hr : repL L w cs ys) (hlt : L.μ n < w.heap.size) {c : AP} {y : Value} (hc : c.rep L w y) : (c.rel n cs).rep L' w y := by
  cases c with
  | c a => exact AC.rep_rel (c := a) h hb hr hlt hc
  | g as => obtain ⟨vs, h1, h2⟩ := hc; exact ⟨vs, h1, repL_rel h hb hr hlt h2⟩
theorem repP_rel (h : ExtR n L L') (hb : w.heap[L.μ n]? = some (.cells (ys ++ zs).toArray T (0, 0))) (hr : repL L w cs ys) (hlt : L.μ n < w.heap.size) : ∀ {as : List AP} {vs : List Value}, repP L w as vs → repP L' w (as.map (·.rel n cs)) vs
  | [], [], _ => trivial
  | [], _ :: _, hr => hr.elim
  | _ :: _, [], hr => hr.elim
  | _ :: _, _ :: _, hq => ⟨AP.rep_rel h hb hr hlt hq.1, repP_rel h hb hr hlt hq.2⟩
theorem AV.rep_rel (h : ExtR n L L') (hb : w.heap[L.μ n]? = some (.cells (ys ++ zs).toArray T (0, 0))) (hr : repL L w cs ys) (hlt : L.μ n < w.heap.size) {c : AV} {y : Value} (hc : c.rep L w y) : (c.rel n cs).rep L' w y := by
  cases c with
  | o a => exact AP.rep_rel (c := a) h hb hr hlt hc
  | t l => obtain ⟨vs, h1, h2⟩ := hc; exact ⟨vs, h1, repP_rel h hb hr hlt h2⟩
end

theorem Rel.rel (hS0 : ∀ b, S0 b → b < w0.heap.size) (n : Nat) (R : Rel S0 w0 N μ s a w) : Rel S0 w0 N μ (s.rel n) a w := by
  unfold St.rel
  split
  · rename_i cs hcs
    obtain ⟨hge, ys, zs, T, hb, hr⟩ := R.mem n cs hcs
    have hlt := R.lt n (by rw [hcs]; simp)
    have hdom : ∀ m, (if m = n then none else match s.mem m with | some c => some (c.map (·.rel n cs)) | none => none) ≠ none → m ≠ n ∧ s.mem m ≠ none := fun m hm => by
      split at hm
      · exact absurd rfl hm
      · rename_i hmn
        refine ⟨hmn, fun e => ?_⟩
        rw [e] at hm
        exact hm rfl
    have hx : ExtR n (own S0 μ s.mem) (own S0 μ (fun m => if m = n then none else match s.mem m with | some c => some (c.map (·.rel n cs)) | none => none)) := by
      refine ⟨fun m hm h => ?_, rfl, ?_, ?_⟩
      · show (if m = n then none else match s.mem m with | some c => some (c.map (·.rel n cs)) | none => none) ≠ none
        rw [if_neg hm]
        cases hs : s.mem m with
        | none => exact absurd hs h
        | some c => simp
      · rintro b (h | ⟨m, hm, hmb⟩)
        · exact .inl h
        · exact .inr ⟨m, (hdom m hm).2, hmb⟩
      · rintro (h | ⟨m, hm, hmb⟩)
        · have h1 := hS0 _ h
          have h2 : w0.heap.size ≤ μ n := hge
          exact absurd h1 (Nat.not_lt.2 h2)
        · obtain ⟨h1, h2⟩ := hdom m hm
          exact h1 (R.inj m n h2 (by rw [hcs]; simp) hmb)
    refine { tmp := fun t => AV.rep_rel hx hb hr hlt (R.tmp t), mem := fun m c hm => ?_, inj := fun i j hi hj hij => R.inj i j (hdom i hi).2 (hdom j hj).2 hij, below := R.below, defers := R.defers, size := R.size }
    dsimp only at hm
    split at hm
    · cases hm
    · split at hm
      · rename_i c0 hc0
        cases hm
        obtain ⟨h1, ys', zs', T', h2, h3⟩ := R.mem m c0 hc0
        exact ⟨h1, ys', zs', T', h2, repL_rel hx hb hr hlt h3⟩
      · cases hm
  · exact R
theorem Rel.rels (hS0 : ∀ b, S0 b → b < w0.heap.size) : ∀ (ns : List Nat) {s : St}, Rel S0 w0 N μ s a w → Rel S0 w0 N μ (s.rels ns) a w
  | [], s, R => R
  | n :: ns, s, R => Rel.rels hS0 ns (R.rel hS0 n)

/-! ### Calls with rows, and calls that give a new one -/
theorem sound_callR {c : Call} {f : Nat} {args : List SA} (hS0 : ∀ b, S0 b → b < w0.heap.size) (hsp : SpecOk P sp) (R : Rel S0 w0 N μ s a w) (hop : o.op = .call c) (hcal : c.callee = .value (.func f)) (hargs : chkArgs c.args.toList args = true) (he : absOp sp dst (.callR f args) s = some (v, s')) : Sound P S0 w0 N o s' v a w := by
  simp only [absOp] at he
  split at he
  · rename_i as0 has0
    refine sound_call (dst := dst) (args := args) hS0 hsp (R.rels hS0 (rowsD s as0)) hop hcal hargs ?_
    simp only [absOp]
    exact he
  · cases he
theorem sound_callF {c : Call} {f : Nat} {args : List SA} (hS0 : ∀ b, S0 b → b < w0.heap.size) (hsp : SpecOk P sp) (R : Rel S0 w0 N μ s a w) (hop : o.op = .call c) (hcal : c.callee = .value (.func f)) (hargs : chkArgs c.args.toList args = true) (he : absOp sp dst (.callF f args) s = some (v, s')) : Sound P S0 w0 N o s' v a w := by
  simp only [absOp] at he
  split at he
  · rename_i d as has
    split at he
    case isFalse => cases he
    rename_i hf
    split at he
    · rename_i t n hd hr
      simp only [Option.some.injEq, Prod.mk.injEq] at he
      obtain ⟨rfl, rfl⟩ := he
      have hrep := args_rep R c.args.toList args hargs has
      have hres : (execOp a.eval o).run P w = (callFunc f (c.args.toList.map a.eval).toArray).run P w := by
        have e : (c.args.toList.map a.eval).toArray = c.args.map a.eval := by apply Array.ext'; rw [Array.toList_map]
        rw [e]
        simp [execOp, hop, resolve, hcal, Act.eval, Deferred.ofValue, invoke]
      have hbd : ∀ b, (own S0 μ s.mem).S b → b < w.heap.size := by
        rintro b (h | ⟨n, hn, rfl⟩)
        · exact Nat.lt_of_lt_of_le (hS0 b h) R.below.size
        · exact R.lt n hn
      rcases hsp f _ _ hr with ⟨hent, hm⟩ | hin | ⟨hent, t', d', htd, hm⟩
      · intro K Q hK
        unfold Oper.wp
        rw [hres, hent]
        refine (hm (own S0 μ s.mem).S w _ hbd (freePs_rep hf hrep)).mono ?_
        rintro e w' ⟨y, rfl, hy, hb⟩
        exact absurd hy.1 id
      · obtain ⟨y, hy, hL⟩ := hin w (c.args.toList.map a.eval) (by
          have := freePs_rep hf hrep
          exact repP_ext (L := ⟨(own S0 μ s.mem).S, fun _ => 0, fun _ => False⟩) (w := w) ⟨fun n h => h.elim, fun b _ _ => ⟨rfl, fun h => h⟩, Nat.le_refl _, fun n h => h.elim⟩ this)
        exact absurd (hL ⟨fun _ => False, fun _ => 0, fun _ => False⟩ w).1 id
      · simp only [AV.o.injEq, AP.c.injEq, AC.s.injEq, and_true] at htd
        obtain ⟨rfl, rfl⟩ := htd
        intro K Q hK
        unfold Oper.wp
        rw [hres, hent]
        refine (hm (own S0 μ s.mem).S w _ hbd (freePs_rep hf hrep)).mono ?_
        rintro e w' ⟨b, cap, cur, rfl, hb, hblk, hcs, hcm, hbel⟩
        obtain ⟨R', hD, hμ⟩ := R.fresh hS0 (cs := []) (ys := []) (zs := cur.toList) (T := t.e) (b := b) hd hb (by rw [hblk]; simp) hbel trivial
        refine hK _ _ w' R' ⟨hD, cap, ?_, ?_, Nat.zero_le _, hcm⟩
        · show _ = Value.slice (some ⟨upd μ d b d, 0, none⟩) _ _
          rw [hμ]
        · show w'.shape? (upd μ d b d) = _
          rw [hμ, own_shape hblk, hcs]
    · cases he
  · cases he
end
end Go.VC
/- What an operation looks at, and that it does the same where that is the same. -/
namespace Go.VC
open Go.RowKit

/-! ### What an operation looks at -/
def SA.rd : SA → List Nat
  | .t n => [n]
  | .k _ => []
  | .nil _ => []
  | .g _ => []
def optRd : Option SA → List Nat
  | none => []
  | some x => x.rd
def partsRd : List (Nat × Nat × SA) → List Nat
  | [] => []
  | (_, _, x) :: r => x.rd ++ partsRd r
def argsRd : List SA → List Nat
  | [] => []
  | x :: r => x.rd ++ argsRd r
def SOp.rd : SOp → List Nat
  | .mv x | .box x | .not x | .neg x | .cvt _ x | .ext x _ | .len x | .load _ _ x _ | .fld _ x | .part _ _ _ x | .str x | .mkS _ _ x | .cap x => x.rd
  | .pick c a b => c.rd ++ (a.rd ++ b.rd)
  | .alloc _ => []
  | .build _ ps => partsRd ps
  | .bldS _ _ _ ps | .bldQ _ _ _ ps => partsRd ps
  | .store _ p x _ => p.rd ++ x.rd
  | .bin _ x y | .eqb _ x y | .eqs _ _ x y | .min x y | .eqt _ x y | .app _ x y | .appZ _ x y => x.rd ++ y.rd
  | .call _ as | .callR _ as | .callF _ as => argsRd as
  | .idx _ x i => x.rd ++ i.rd
  | .sl x lo hi => x.rd ++ (optRd lo ++ optRd hi)
def SOper.rd (o : SOper) : List Nat := o.op.rd ++ (match o.guard with | some (g, _) => [g] | none => [])
/-- The variable that is read, or written. -/
def SOp.rdM : SOp → Option Nat
  | .load _ _ _ nm => nm
  | _ => none
def SOp.wrM : SOp → Option Nat
  | .store _ _ _ nm => some nm
  | _ => none
def SOp.isA : SOp → Bool
  | .alloc _ | .box _ | .mkS _ _ _ | .bldS _ _ _ _ | .callF _ _ => true
  | _ => false
/-- Does it turn more than its slot and one variable? -/
def SOp.hard : SOp → Bool
  | .app _ _ _ | .callR _ _ | .appZ _ _ _ => true
  | _ => false

/-- What an operation does to the call's own variables. -/
inductive ME where
  | no
  | nw (n : Nat) (cs : List AC)
  | st (n : Nat) (cs : List AC)
def ME.app : ME → (Nat → Option (List AC)) → Nat → Option (List AC)
  | .no, m => m
  | .nw n cs, m => upd m n (some cs)
  | .st n cs, m => upd m n (some cs)

theorem ev_agree {s s2 : St} {x : SA} (h : ∀ t ∈ x.rd, s2.tm t = s.tm t) : x.ev s2 = x.ev s := by
  cases x with
  | t n => exact h n (by simp [SA.rd])
  | k a => rfl
  | nil e => rfl
  | g a => rfl
theorem fillA_agree {s s2 : St} : ∀ (ps : List (Nat × Nat × SA)) (cs : List AC), (∀ t ∈ partsRd ps, s2.tm t = s.tm t) → fillA s2 cs ps = fillA s cs ps
  | [], cs, _ => rfl
  | (off, size, x) :: ps, cs, h => by
    simp only [fillA]
    rw [ev_agree (fun t ht => h t (by simp [partsRd, ht]))]
    split
    · split
      · exact fillA_agree ps _ (fun t ht => h t (by simp [partsRd, ht]))
      · rfl
    · rfl
theorem evArgs_agree {s s2 : St} : ∀ (xs : List SA), (∀ t ∈ argsRd xs, s2.tm t = s.tm t) → evArgs s2 xs = evArgs s xs
  | [], _ => rfl
  | x :: xs, h => by
    simp only [evArgs]
    rw [ev_agree (fun t ht => h t (by simp [argsRd, ht])), evArgs_agree xs (fun t ht => h t (by simp [argsRd, ht]))]
theorem optI_agree {s s2 : St} {x : Option SA} {d : Int} (h : ∀ t ∈ optRd x, s2.tm t = s.tm t) : optI s2 x d = optI s x d := by
  cases x with
  | none => rfl
  | some x => simp only [optI]; rw [ev_agree h]

/-- The same operation in another state that agrees in what it looks at. -/
structure Tr (sp : Spec) (d : Option Nat) (o : SOp) (s : St) (v : AV) (m : ME) : Prop where
  go : ∀ s2 : St, (∀ t ∈ o.rd, s2.tm t = s.tm t) → (∀ n, o.rdM = some n ∨ o.wrM = some n → s2.mem n = s.mem n) → (∀ n cs, m = .nw n cs → s2.mem n = none) →
    absOp sp d o s2 = some (v, { s2 with mem := m.app s2.mem })
  new : ∀ n cs, m = .nw n cs → o.isA = true ∧ d = some n ∧ s.mem n = none
  old : ∀ n cs, m = .st n cs → o.wrM = some n ∧ s.mem n ≠ none

theorem Tr.pure {sp : Spec} {d : Option Nat} {o : SOp} {s : St} {v : AV} (h : ∀ s2 : St, (∀ t ∈ o.rd, s2.tm t = s.tm t) → absOp sp d o s2 = some (v, s2)) : ∃ m, ({ s with mem := m.app s.mem } : St) = s ∧ Tr sp d o s v m :=
  ⟨.no, rfl, { go := fun s2 h1 _ _ => h s2 h1, new := fun _ _ e => (by cases e), old := fun _ _ e => (by cases e) }⟩

theorem absOp_tr {sp : Spec} {d : Option Nat} {o : SOp} {s s' : St} {v : AV} (hh : o.hard = false) (he : absOp sp d o s = some (v, s')) : ∃ m, s' = { s with mem := m.app s.mem } ∧ Tr sp d o s v m := by
  cases o with
  | mv x =>
    simp only [absOp, Option.some.injEq, Prod.mk.injEq] at he
    obtain ⟨rfl, rfl⟩ := he
    obtain ⟨m, h1, h2⟩ := Tr.pure (sp := sp) (d := d) (o := .mv x) (s := s) (v := x.ev s) (fun s2 h => by simp only [absOp, ev_agree (show ∀ t ∈ x.rd, s2.tm t = s.tm t from h)])
    exact ⟨m, h1.symm, h2⟩
  | pick c a b =>
    have he0 := he
    simp only [absOp] at he
    split at he
    · rename_i t ht
      simp only [Option.some.injEq, Prod.mk.injEq] at he
      obtain ⟨rfl, rfl⟩ := he
      obtain ⟨m, h1, h2⟩ := Tr.pure (sp := sp) (d := d) (o := .pick c a b) (s := s) (v := if t then a.ev s else b.ev s) (fun s2 h => by
        have e1 : c.ev s2 = c.ev s := ev_agree (fun t ht => h t (by simp [SOp.rd, ht]))
        have e2 : a.ev s2 = a.ev s := ev_agree (fun t ht => h t (by simp [SOp.rd, ht]))
        have e3 : b.ev s2 = b.ev s := ev_agree (fun t ht => h t (by simp [SOp.rd, ht]))
        simp only [absOp, e1, e2, e3, ht])
      exact ⟨m, h1.symm, h2⟩
    · cases he
  | alloc z =>
    simp only [absOp] at he
    split at he
    · rename_i n
      split at he
      · rename_i hn
        simp only [Option.some.injEq, Prod.mk.injEq] at he
        obtain ⟨rfl, rfl⟩ := he
        refine ⟨.nw n z, rfl, { go := fun s2 h1 h2 h3 => ?_, new := fun n' cs e => ?_, old := fun _ _ e => (by cases e) }⟩
        · simp only [absOp, h3 n _ rfl, ME.app]
        · cases e; exact ⟨rfl, rfl, hn⟩
      · cases he
    · cases he
  | box x =>
    simp only [absOp] at he
    split at he
    · rename_i n ap hap
      split at he
      · rename_i hn
        split at he
        · rename_i hok
          simp only [Option.some.injEq, Prod.mk.injEq] at he
          obtain ⟨rfl, rfl⟩ := he
          refine ⟨.nw n ap.cells, rfl, { go := fun s2 h1 h2 h3 => ?_, new := fun n' cs e => ?_, old := fun _ _ e => (by cases e) }⟩
          · have e1 : x.ev s2 = x.ev s := ev_agree h1
            simp only [absOp, e1, hap, h3 n _ rfl, hok, if_true, ME.app]
          · cases e; exact ⟨rfl, rfl, hn⟩
        · cases he
      · cases he
    · cases he
  | load agg size p nm =>
    have hs : s' = s := by
      simp only [absOp] at he
      (repeat' split at he) <;> first | (cases he; rfl) | cases he
    subst hs
    refine ⟨.no, rfl, { go := fun s2 h1 h2 _ => ?_, new := fun _ _ e => (by cases e), old := fun _ _ e => (by cases e) }⟩
    have e1 : p.ev s2 = p.ev s' := ev_agree (fun t ht => h1 t (by simp [SOp.rd, ht]))
    have e2 : ∀ n, nm = some n → s2.mem n = s'.mem n := fun n hn => h2 n (.inl hn)
    simp only [absOp] at he ⊢
    rw [e1]
    split at he
    · rename_i n off hp
      split at he
      case isFalse => cases he
      rename_i hn
      rw [if_pos hn, e2 n hn]
      (repeat' split at he) <;> first | (cases he; done) | (cases he; simp_all [ME.app]; done) | (simp_all [ME.app]; done)
    · (repeat' split at he) <;> first | (cases he; done) | (cases he; simp_all [ME.app]; done) | (simp_all [ME.app]; done)
    · (repeat' split at he) <;> first | (cases he; done) | (cases he; simp_all [ME.app]; done) | (simp_all [ME.app]; done)
    · cases he
  | store size p x nm =>
    simp only [absOp] at he
    split at he
    · rename_i n off ap hpt hap
      split at he
      case isFalse => cases he
      rename_i hn
      subst hn
      split at he
      · rename_i cs hcs
        split at he
        · rename_i hc
          simp only [Option.some.injEq, Prod.mk.injEq] at he
          obtain ⟨rfl, rfl⟩ := he
          refine ⟨.st nm (splice cs off ap.cells), rfl, { go := fun s2 h1 h2 h3 => ?_, new := fun _ _ e => (by cases e), old := fun n' cs' e => ?_ }⟩
          · have e1 : p.ev s2 = p.ev s := ev_agree (fun t ht => h1 t (by simp [SOp.rd, ht]))
            have e3 : x.ev s2 = x.ev s := ev_agree (fun t ht => h1 t (by simp [SOp.rd, ht]))
            have e2 : s2.mem nm = s.mem nm := h2 nm (.inr rfl)
            simp only [absOp, e1, e3, hpt, hap, e2, hcs, ME.app, if_true]
            rw [if_pos hc]
          · cases e; exact ⟨rfl, by rw [hcs]; simp⟩
        · cases he
      · cases he
    · cases he
  | build z ps =>
    have hs : s' = s := by
      simp only [absOp] at he
      (repeat' split at he) <;> first | (cases he; rfl) | cases he
    subst hs
    refine ⟨.no, rfl, { go := fun s2 h1 _ _ => ?_, new := fun _ _ e => (by cases e), old := fun _ _ e => (by cases e) }⟩
    have e0 : fillA s2 z ps = fillA s' z ps := fillA_agree ps _ (fun t ht => h1 t ht)
    simp only [absOp] at he ⊢
    simp only [e0]
    (repeat' split at he) <;> first | (cases he; done) | (cases he; simp_all [ME.app]; done) | (simp_all [ME.app]; done)
  | fld off p =>
    have hs : s' = s := by
      simp only [absOp] at he
      (repeat' split at he) <;> first | (cases he; rfl) | cases he
    subst hs
    refine ⟨.no, rfl, { go := fun s2 h1 _ _ => ?_, new := fun _ _ e => (by cases e), old := fun _ _ e => (by cases e) }⟩
    have e0 : p.ev s2 = p.ev s' := ev_agree (fun t ht => h1 t (by simp [SOp.rd, ht]))
    simp only [absOp] at he ⊢
    simp only [e0]
    (repeat' split at he) <;> first | (cases he; done) | (cases he; simp_all [ME.app]; done) | (simp_all [ME.app]; done)
  | part agg off size x =>
    have hs : s' = s := by
      simp only [absOp] at he
      (repeat' split at he) <;> first | (cases he; rfl) | cases he
    subst hs
    refine ⟨.no, rfl, { go := fun s2 h1 _ _ => ?_, new := fun _ _ e => (by cases e), old := fun _ _ e => (by cases e) }⟩
    have e0 : x.ev s2 = x.ev s' := ev_agree (fun t ht => h1 t (by simp [SOp.rd, ht]))
    simp only [absOp] at he ⊢
    simp only [e0]
    (repeat' split at he) <;> first | (cases he; done) | (cases he; simp_all [ME.app]; done) | (simp_all [ME.app]; done)
  | bin op x y =>
    have hs : s' = s := by
      simp only [absOp] at he
      (repeat' split at he) <;> first | (cases he; rfl) | cases he
    subst hs
    refine ⟨.no, rfl, { go := fun s2 h1 _ _ => ?_, new := fun _ _ e => (by cases e), old := fun _ _ e => (by cases e) }⟩
    have e0 : x.ev s2 = x.ev s' := ev_agree (fun t ht => h1 t (by simp [SOp.rd, ht]))
    have e1 : y.ev s2 = y.ev s' := ev_agree (fun t ht => h1 t (by simp [SOp.rd, ht]))
    simp only [absOp] at he ⊢
    simp only [e0, e1]
    (repeat' split at he) <;> first | (cases he; done) | (cases he; simp_all [ME.app]; done) | (simp_all [ME.app]; done)
  | eqb ne x y =>
    have hs : s' = s := by
      simp only [absOp] at he
      (repeat' split at he) <;> first | (cases he; rfl) | cases he
    subst hs
    refine ⟨.no, rfl, { go := fun s2 h1 _ _ => ?_, new := fun _ _ e => (by cases e), old := fun _ _ e => (by cases e) }⟩
    have e0 : x.ev s2 = x.ev s' := ev_agree (fun t ht => h1 t (by simp [SOp.rd, ht]))
    have e1 : y.ev s2 = y.ev s' := ev_agree (fun t ht => h1 t (by simp [SOp.rd, ht]))
    simp only [absOp] at he ⊢
    simp only [e0, e1]
    (repeat' split at he) <;> first | (cases he; done) | (cases he; simp_all [ME.app]; done) | (simp_all [ME.app]; done)
  | eqs ne ks x y =>
    have hs : s' = s := by
      simp only [absOp] at he
      (repeat' split at he) <;> first | (cases he; rfl) | cases he
    subst hs
    refine ⟨.no, rfl, { go := fun s2 h1 _ _ => ?_, new := fun _ _ e => (by cases e), old := fun _ _ e => (by cases e) }⟩
    have e0 : x.ev s2 = x.ev s' := ev_agree (fun t ht => h1 t (by simp [SOp.rd, ht]))
    have e1 : y.ev s2 = y.ev s' := ev_agree (fun t ht => h1 t (by simp [SOp.rd, ht]))
    simp only [absOp] at he ⊢
    simp only [e0, e1]
    (repeat' split at he) <;> first | (cases he; done) | (cases he; simp_all [ME.app]; done) | (simp_all [ME.app]; done)
  | not x =>
    have hs : s' = s := by
      simp only [absOp] at he
      (repeat' split at he) <;> first | (cases he; rfl) | cases he
    subst hs
    refine ⟨.no, rfl, { go := fun s2 h1 _ _ => ?_, new := fun _ _ e => (by cases e), old := fun _ _ e => (by cases e) }⟩
    have e0 : x.ev s2 = x.ev s' := ev_agree (fun t ht => h1 t (by simp [SOp.rd, ht]))
    simp only [absOp] at he ⊢
    simp only [e0]
    (repeat' split at he) <;> first | (cases he; done) | (cases he; simp_all [ME.app]; done) | (simp_all [ME.app]; done)
  | neg x =>
    have hs : s' = s := by
      simp only [absOp] at he
      (repeat' split at he) <;> first | (cases he; rfl) | cases he
    subst hs
    refine ⟨.no, rfl, { go := fun s2 h1 _ _ => ?_, new := fun _ _ e => (by cases e), old := fun _ _ e => (by cases e) }⟩
    have e0 : x.ev s2 = x.ev s' := ev_agree (fun t ht => h1 t (by simp [SOp.rd, ht]))
    simp only [absOp] at he ⊢
    simp only [e0]
    (repeat' split at he) <;> first | (cases he; done) | (cases he; simp_all [ME.app]; done) | (simp_all [ME.app]; done)
  | cvt k x =>
    have hs : s' = s := by
      simp only [absOp] at he
      (repeat' split at he) <;> first | (cases he; rfl) | cases he
    subst hs
    refine ⟨.no, rfl, { go := fun s2 h1 _ _ => ?_, new := fun _ _ e => (by cases e), old := fun _ _ e => (by cases e) }⟩
    have e0 : x.ev s2 = x.ev s' := ev_agree (fun t ht => h1 t (by simp [SOp.rd, ht]))
    simp only [absOp] at he ⊢
    simp only [e0]
    (repeat' split at he) <;> first | (cases he; done) | (cases he; simp_all [ME.app]; done) | (simp_all [ME.app]; done)
  | ext x i =>
    have hs : s' = s := by
      simp only [absOp] at he
      (repeat' split at he) <;> first | (cases he; rfl) | cases he
    subst hs
    refine ⟨.no, rfl, { go := fun s2 h1 _ _ => ?_, new := fun _ _ e => (by cases e), old := fun _ _ e => (by cases e) }⟩
    have e0 : x.ev s2 = x.ev s' := ev_agree (fun t ht => h1 t (by simp [SOp.rd, ht]))
    simp only [absOp] at he ⊢
    simp only [e0]
    (repeat' split at he) <;> first | (cases he; done) | (cases he; simp_all [ME.app]; done) | (simp_all [ME.app]; done)
  | call f args =>
    have hs : s' = s := by
      simp only [absOp] at he
      (repeat' split at he) <;> first | (cases he; rfl) | cases he
    subst hs
    refine ⟨.no, rfl, { go := fun s2 h1 _ _ => ?_, new := fun _ _ e => (by cases e), old := fun _ _ e => (by cases e) }⟩
    have e0 : evArgs s2 args = evArgs s' args := evArgs_agree args (fun t ht => h1 t ht)
    simp only [absOp] at he ⊢
    simp only [e0]
    (repeat' split at he) <;> first | (cases he; done) | (cases he; simp_all [ME.app]; done) | (simp_all [ME.app]; done)
  | len x =>
    have hs : s' = s := by
      simp only [absOp] at he
      (repeat' split at he) <;> first | (cases he; rfl) | cases he
    subst hs
    refine ⟨.no, rfl, { go := fun s2 h1 _ _ => ?_, new := fun _ _ e => (by cases e), old := fun _ _ e => (by cases e) }⟩
    have e0 : x.ev s2 = x.ev s' := ev_agree (fun t ht => h1 t (by simp [SOp.rd, ht]))
    simp only [absOp] at he ⊢
    simp only [e0]
    (repeat' split at he) <;> first | (cases he; done) | (cases he; simp_all [ME.app]; done) | (simp_all [ME.app]; done)
  | idx e x i =>
    have hs : s' = s := by
      simp only [absOp] at he
      (repeat' split at he) <;> first | (cases he; rfl) | cases he
    subst hs
    refine ⟨.no, rfl, { go := fun s2 h1 _ _ => ?_, new := fun _ _ e => (by cases e), old := fun _ _ e => (by cases e) }⟩
    have e0 : x.ev s2 = x.ev s' := ev_agree (fun t ht => h1 t (by simp [SOp.rd, ht]))
    have e1 : i.ev s2 = i.ev s' := ev_agree (fun t ht => h1 t (by simp [SOp.rd, ht]))
    simp only [absOp] at he ⊢
    simp only [e0, e1]
    (repeat' split at he) <;> first | (cases he; done) | (cases he; simp_all [ME.app]; done) | (simp_all [ME.app]; done)
  | sl x lo hi =>
    have hs : s' = s := by
      simp only [absOp] at he
      (repeat' split at he) <;> first | (cases he; rfl) | cases he
    subst hs
    refine ⟨.no, rfl, { go := fun s2 h1 _ _ => ?_, new := fun _ _ e => (by cases e), old := fun _ _ e => (by cases e) }⟩
    have e0 : x.ev s2 = x.ev s' := ev_agree (fun t ht => h1 t (by simp [SOp.rd, ht]))
    have e1 : ∀ d, optI s2 lo d = optI s' lo d := fun d => optI_agree (fun t ht => h1 t (by simp [SOp.rd, ht]))
    have e2 : ∀ d, optI s2 hi d = optI s' hi d := fun d => optI_agree (fun t ht => h1 t (by simp [SOp.rd, ht]))
    simp only [absOp] at he ⊢
    simp only [e0, e1, e2]
    (repeat' split at he) <;> first | (cases he; done) | (cases he; simp_all [ME.app]; done) | (simp_all [ME.app]; done)
  | min x y =>
    have hs : s' = s := by
      simp only [absOp] at he
      (repeat' split at he) <;> first | (cases he; rfl) | cases he
    subst hs
    refine ⟨.no, rfl, { go := fun s2 h1 _ _ => ?_, new := fun _ _ e => (by cases e), old := fun _ _ e => (by cases e) }⟩
    have e0 : x.ev s2 = x.ev s' := ev_agree (fun t ht => h1 t (by simp [SOp.rd, ht]))
    have e1 : y.ev s2 = y.ev s' := ev_agree (fun t ht => h1 t (by simp [SOp.rd, ht]))
    simp only [absOp] at he ⊢
    simp only [e0, e1]
    split at he
    · simp only [Option.some.injEq, Prod.mk.injEq] at he
      obtain ⟨rfl, _⟩ := he
      rfl
    · cases he
  | cap x =>
    have hs : s' = s := by
      simp only [absOp] at he
      (repeat' split at he) <;> first | (cases he; rfl) | cases he
    subst hs
    refine ⟨.no, rfl, { go := fun s2 h1 _ _ => ?_, new := fun _ _ e => (by cases e), old := fun _ _ e => (by cases e) }⟩
    have e0 : x.ev s2 = x.ev s' := ev_agree (fun t ht => h1 t (by simp [SOp.rd, ht]))
    simp only [absOp] at he ⊢
    simp only [e0]
    (repeat' split at he) <;> first | (cases he; done) | (cases he; simp_all [ME.app]; done) | (simp_all [ME.app]; done)
  | str x =>
    have hs : s' = s := by
      simp only [absOp] at he
      (repeat' split at he) <;> first | (cases he; rfl) | cases he
    subst hs
    refine ⟨.no, rfl, { go := fun s2 h1 _ _ => ?_, new := fun _ _ e => (by cases e), old := fun _ _ e => (by cases e) }⟩
    have e0 : x.ev s2 = x.ev s' := ev_agree (fun t ht => h1 t (by simp [SOp.rd, ht]))
    simp only [absOp] at he ⊢
    simp only [e0]
    (repeat' split at he) <;> first | (cases he; done) | (cases he; simp_all [ME.app]; done) | (simp_all [ME.app]; done)
  | eqt ne x y =>
    have hs : s' = s := by
      simp only [absOp] at he
      (repeat' split at he) <;> first | (cases he; rfl) | cases he
    subst hs
    refine ⟨.no, rfl, { go := fun s2 h1 _ _ => ?_, new := fun _ _ e => (by cases e), old := fun _ _ e => (by cases e) }⟩
    have e0 : x.ev s2 = x.ev s' := ev_agree (fun t ht => h1 t (by simp [SOp.rd, ht]))
    have e1 : y.ev s2 = y.ev s' := ev_agree (fun t ht => h1 t (by simp [SOp.rd, ht]))
    simp only [absOp] at he ⊢
    simp only [e0, e1]
    split at he
    · simp only [Option.some.injEq, Prod.mk.injEq] at he
      obtain ⟨rfl, _⟩ := he
      rfl
    · cases he
  | mkS t z n =>
    simp only [absOp] at he
    split at he
    · rename_i n' k m hj
      split at he
      · rename_i hn
        split at he
        · rename_i hj0
          simp only [Option.some.injEq, Prod.mk.injEq] at he
          obtain ⟨rfl, rfl⟩ := he
          refine ⟨.nw n' (List.replicate m.toNat (.v z)), rfl, { go := fun s2 h1 h2 h3 => ?_, new := fun n'' cs e => ?_, old := fun _ _ e => (by cases e) }⟩
          · have e1 : n.ev s2 = n.ev s := ev_agree h1
            simp only [absOp, e1, hj, h3 n' _ rfl, hj0, ME.app]
            simp
          · cases e; exact ⟨rfl, rfl, hn⟩
        · cases he
      · cases he
    · cases he
  | bldQ t z n ps =>
    have hs : s' = s := by
      simp only [absOp] at he
      (repeat' split at he) <;> first | (cases he; rfl) | cases he
    subst hs
    refine ⟨.no, rfl, { go := fun s2 h1 _ _ => ?_, new := fun _ _ e => (by cases e), old := fun _ _ e => (by cases e) }⟩
    have e0 : fillA s2 z ps = fillA s' z ps := fillA_agree ps _ (fun t ht => h1 t ht)
    simp only [absOp] at he ⊢
    simp only [e0]
    (repeat' split at he) <;> first | (cases he; done) | (cases he; simp_all [ME.app]; done) | (simp_all [ME.app]; done)
  | bldS t z n ps =>
    simp only [absOp] at he
    split at he
    · rename_i n' cs hj
      split at he
      · rename_i hn
        simp only [Option.some.injEq, Prod.mk.injEq] at he
        obtain ⟨rfl, rfl⟩ := he
        refine ⟨.nw n' cs, rfl, { go := fun s2 h1 h2 h3 => ?_, new := fun n'' cs e => ?_, old := fun _ _ e => (by cases e) }⟩
        · have e0 : fillA s2 z ps = fillA s z ps := fillA_agree ps _ (fun t ht => h1 t ht)
          simp only [absOp, e0, hj, h3 n' _ rfl, ME.app]
        · cases e; exact ⟨rfl, rfl, hn⟩
      · cases he
    · cases he
  | callF f args =>
    simp only [absOp] at he
    split at he
    · rename_i n' as has
      split at he
      case isFalse => cases he
      rename_i hf
      split at he
      · rename_i t n hn hr
        simp only [Option.some.injEq, Prod.mk.injEq] at he
        obtain ⟨rfl, rfl⟩ := he
        refine ⟨.nw n' [], rfl, { go := fun s2 h1 h2 h3 => ?_, new := fun n'' cs e => ?_, old := fun _ _ e => (by cases e) }⟩
        · have e0 : evArgs s2 args = evArgs s args := evArgs_agree args (fun t ht => h1 t ht)
          simp only [absOp, e0, has, h3 n' _ rfl, hf, if_true, hr, ME.app]
        · cases e; exact ⟨rfl, rfl, hn⟩
      · cases he
    · cases he
  | app t x y => cases hh
  | appZ t x y => cases hh
  | callR f args => cases hh
end Go.VC
/- Two operations that do not meddle may change places. -/
namespace Go.VC
open Go.RowKit

theorem upd_dom {m : Nat → Option (List AC)} {n : Nat} {cs : List AC} : ∀ k, m k ≠ none → upd m n (some cs) k ≠ none := by
  intro k hk
  by_cases h : k = n
  · subst h; rw [upd_same]; simp
  · rw [upd_ne _ _ h]; exact hk

/-! ### Two operations that may change places -/
/-- Does b look at (or write) the variable n? -/
def SOp.uses (o : SOp) (n : Option Nat) : Bool := match n with | some n => o.rdM == some n || o.wrM == some n | none => false
def SOper.indep (a b : SOper) : Bool :=
  (match a.dst with | some d => !(b.rd.contains d) && b.dst != some d | none => true) &&
  (match b.dst with | some d => !(a.rd.contains d) | none => true) &&
  (match a.op.wrM with | some n => !(b.op.uses (some n)) | none => true) && (match b.op.wrM with | some n => !(a.op.uses (some n)) | none => true) &&
  !(a.op.isA && b.op.uses a.dst) && !(b.op.isA && a.op.uses b.dst) && !a.op.hard && !b.op.hard

theorem uses_not {o : SOp} {n : Nat} (h : o.uses (some n) = false) : ∀ m, o.rdM = some m ∨ o.wrM = some m → m ≠ n := by
  simp only [SOp.uses, Bool.or_eq_false_iff, beq_eq_false_iff_ne] at h
  rintro m (hm | hm) rfl
  · exact h.1 hm
  · exact h.2 hm
theorem indep_spec {a b : SOper} (h : a.indep b = true) :
    (∀ d, a.dst = some d → d ∉ b.rd) ∧ (∀ d, a.dst = some d → b.dst ≠ some d) ∧ (∀ d, b.dst = some d → d ∉ a.rd) ∧
    (∀ n, a.op.wrM = some n → ∀ m, b.op.rdM = some m ∨ b.op.wrM = some m → m ≠ n) ∧ (∀ n, b.op.wrM = some n → ∀ m, a.op.rdM = some m ∨ a.op.wrM = some m → m ≠ n) ∧
    (a.op.isA = true → ∀ n, a.dst = some n → ∀ m, b.op.rdM = some m ∨ b.op.wrM = some m → m ≠ n) ∧ (b.op.isA = true → ∀ n, b.dst = some n → ∀ m, a.op.rdM = some m ∨ a.op.wrM = some m → m ≠ n) ∧ a.op.hard = false ∧ b.op.hard = false := by
  simp only [SOper.indep, Bool.and_eq_true, Bool.not_eq_true', Bool.and_eq_false_iff] at h
  obtain ⟨⟨⟨⟨⟨⟨⟨h1, h2⟩, h3⟩, h4⟩, h5⟩, h6⟩, h7⟩, h8⟩ := h
  refine ⟨fun d hd => ?_, fun d hd => ?_, fun d hd => ?_, fun n hn => ?_, fun n hn => ?_, fun ha n hn => ?_, fun hb n hn => ?_, h7, h8⟩
  · rw [hd] at h1; simp at h1; exact h1.1
  · rw [hd] at h1; simp at h1; exact h1.2
  · rw [hd] at h2; simpa using h2
  · rw [hn] at h3; exact uses_not (by simpa using h3)
  · rw [hn] at h4; exact uses_not (by simpa using h4)
  · rcases h5 with h5 | h5
    · rw [h5] at ha; cases ha
    · rw [hn] at h5; exact uses_not h5
  · rcases h6 with h6 | h6
    · rw [h6] at hb; cases hb
    · rw [hn] at h6; exact uses_not h6

def putTm (tm : Nat → AV) (d : Option Nat) (v : AV) : Nat → AV :=
  match d with
  | some n => upd tm n v
  | none => tm
theorem put_eq (s : St) (d : Option Nat) (v : AV) : s.put d v = { s with tm := putTm s.tm d v } := by cases d <;> rfl
theorem putTm_ne {tm : Nat → AV} {d : Option Nat} {v : AV} {t : Nat} (h : d ≠ some t) : putTm tm d v t = tm t := by
  cases d with
  | none => rfl
  | some n => exact upd_ne _ _ (fun e => h (by rw [e]))
theorem upd_comm {α : Type} (f : Nat → α) {n m : Nat} (x y : α) (h : n ≠ m) : upd (upd f n x) m y = upd (upd f m y) n x := by
  funext k
  simp only [upd]
  split <;> split <;> first | rfl | (rename_i h1 h2; exact absurd (h2.symm.trans h1) h) | skip
theorem putTm_comm {tm : Nat → AV} {d e : Option Nat} {v u : AV} (h : ∀ k, d = some k → e ≠ some k) : putTm (putTm tm d v) e u = putTm (putTm tm e u) d v := by
  cases d with
  | none => rfl
  | some n =>
    cases e with
    | none => rfl
    | some m => exact upd_comm _ _ _ (fun hnm => h n rfl (by rw [hnm]))

structure TrO (sp : Spec) (o : SOper) (s : St) (v : AV) (m : ME) : Prop where
  go : ∀ s2 : St, (∀ t ∈ o.rd, s2.tm t = s.tm t) → (∀ n, o.op.rdM = some n ∨ o.op.wrM = some n → s2.mem n = s.mem n) → (∀ n cs, m = .nw n cs → s2.mem n = none) →
    absOper sp o s2 = some { tm := putTm s2.tm o.dst v, mem := m.app s2.mem }
  new : ∀ n cs, m = .nw n cs → o.op.isA = true ∧ o.dst = some n ∧ s.mem n = none
  old : ∀ n cs, m = .st n cs → o.op.wrM = some n ∧ s.mem n ≠ none

theorem absOper_tr {sp : Spec} {o : SOper} {s s' : St} (hh : o.op.hard = false) (he : absOper sp o s = some s') : ∃ v m, s' = { tm := putTm s.tm o.dst v, mem := m.app s.mem } ∧ TrO sp o s v m := by
  have run : ∀ {v : AV} {s1 : St}, absOp sp o.dst o.op s = some (v, s1) → ∃ m, s1.put o.dst v = { tm := putTm s.tm o.dst v, mem := m.app s.mem } ∧
      Tr sp o.dst o.op s v m := by
    intro v s1 h1
    obtain ⟨m, rfl, T⟩ := absOp_tr hh h1
    exact ⟨m, by rw [put_eq], T⟩
  have hin : ∀ t ∈ o.op.rd, t ∈ o.rd := fun t ht => List.mem_append_left _ ht
  cases hg : o.guard with
  | none =>
    unfold absOper at he
    simp only [hg] at he
    split at he
    · rename_i v s1 h1
      cases he
      obtain ⟨m, h2, T⟩ := run h1
      refine ⟨v, m, h2, { go := fun s2 g1 g2 g3 => ?_, new := T.new, old := T.old }⟩
      have := T.go s2 (fun t ht => g1 t (hin t ht)) g2 g3
      unfold absOper
      simp only [hg, this]
      rw [put_eq]
    · cases he
  | some gw =>
    obtain ⟨g, want⟩ := gw
    have hgr : g ∈ o.rd := by simp [SOper.rd, hg]
    unfold absOper at he
    simp only [hg] at he
    split at he
    · rename_i b hb
      split at he
      · rename_i hbw
        split at he
        · rename_i v s1 h1
          cases he
          obtain ⟨m, h2, T⟩ := run h1
          refine ⟨v, m, h2, { go := fun s2 g1 g2 g3 => ?_, new := T.new, old := T.old }⟩
          have := T.go s2 (fun t ht => g1 t (hin t ht)) g2 g3
          unfold absOper
          simp only [hg, this, g1 g hgr, hb, hbw, if_true]
          rw [put_eq]
        · cases he
      · rename_i hbw
        cases he
        refine ⟨.t [], .no, by rw [put_eq]; rfl, { go := fun s2 g1 g2 g3 => ?_, new := fun _ _ e => (by cases e), old := fun _ _ e => (by cases e) }⟩
        unfold absOper
        simp only [hg, g1 g hgr, hb, hbw, if_false]
        rw [put_eq]
        rfl
    · rename_i l hb
      cases he
      refine ⟨.t [], .no, by rw [put_eq]; rfl, { go := fun s2 g1 g2 g3 => ?_, new := fun _ _ e => (by cases e), old := fun _ _ e => (by cases e) }⟩
      unfold absOper
      simp only [hg, g1 g hgr, hb]
      rw [put_eq]
      rfl
    · cases he

theorem app_dom (m : ME) {f : Nat → Option (List AC)} {k : Nat} (h : f k ≠ none) : m.app f k ≠ none := by
  cases m with
  | no => exact h
  | nw n cs => exact upd_dom k h
  | st n cs => exact upd_dom k h

theorem swap {sp : Spec} {a b : SOper} {s s1 s2 : St} (hi : a.indep b = true) (ha : absOper sp a s = some s1) (hb : absOper sp b s1 = some s2) :
    ∃ s1', absOper sp b s = some s1' ∧ absOper sp a s1' = some s2 := by
  obtain ⟨i1, i2, i3, i4, i5, i6, i7, i8, i9⟩ := indep_spec hi
  obtain ⟨va, ma, rfl, TA⟩ := absOper_tr i8 ha
  obtain ⟨vb, mb, rfl, TB⟩ := absOper_tr i9 hb
  have tmb : ∀ t ∈ b.rd, putTm s.tm a.dst va t = s.tm t := fun t ht => putTm_ne (fun e => i1 t e ht)
  have hnone : ∀ n, ma.app s.mem n = none → s.mem n = none := fun n h => by
    cases hn : s.mem n with
    | none => rfl
    | some c => exact absurd h (app_dom ma (by rw [hn]; simp))
  have hB := TB.go s (fun t ht => (tmb t ht).symm) (fun n hn => by
    show s.mem n = ma.app s.mem n
    cases hma : ma with
    | no => rfl
    | nw d cs =>
      obtain ⟨hA, hd, _⟩ := TA.new d cs hma
      exact (upd_ne _ _ (i6 hA d hd n hn)).symm
    | st d cs =>
      obtain ⟨hW, _⟩ := TA.old d cs hma
      exact (upd_ne _ _ (i4 d hW n hn)).symm) (fun n cs e => hnone n (TB.new n cs e).2.2)
  refine ⟨_, hB, ?_⟩
  have tma : ∀ t ∈ a.rd, putTm s.tm b.dst vb t = s.tm t := fun t ht => putTm_ne (fun e => i3 t e ht)
  have hA := TA.go { tm := putTm s.tm b.dst vb, mem := mb.app s.mem } tma (fun n hn => by
    show mb.app s.mem n = s.mem n
    cases hmb : mb with
    | no => rfl
    | nw d cs =>
      obtain ⟨hA', hd, _⟩ := TB.new d cs hmb
      exact upd_ne _ _ (i7 hA' d hd n hn)
    | st d cs =>
      obtain ⟨hW, _⟩ := TB.old d cs hmb
      exact upd_ne _ _ (i5 d hW n hn)) (fun n cs e => by
    obtain ⟨hA', hd, h0⟩ := TA.new n cs e
    show mb.app s.mem n = none
    cases hmb : mb with
    | no => exact h0
    | nw d cs' =>
      obtain ⟨_, h1, _⟩ := TB.new d cs' hmb
      exact (upd_ne _ _ (fun hnd : n = d => i2 n hd (by rw [hnd]; exact h1))).trans h0
    | st d cs' =>
      obtain ⟨hW, _⟩ := TB.old d cs' hmb
      exact (upd_ne _ _ (fun hnd : n = d => i6 hA' n hd d (.inr hW) hnd.symm)).trans h0)
  rw [hA]
  congr 1
  have e1 : putTm (putTm s.tm b.dst vb) a.dst va = putTm (putTm s.tm a.dst va) b.dst vb := putTm_comm (fun k hk hk2 => i2 k hk2 hk)
  have e2 : ma.app (mb.app s.mem) = mb.app (ma.app s.mem) := by
    cases hma : ma with
    | no => rfl
    | nw n cs =>
      obtain ⟨hA', hd, h0⟩ := TA.new n cs hma
      cases hmb : mb with
      | no => rfl
      | nw d cs' =>
        obtain ⟨_, h1, _⟩ := TB.new d cs' hmb
        exact upd_comm _ _ _ (fun hnd => i2 n hd (by rw [← hnd]; exact h1))
      | st d cs' =>
        obtain ⟨hW, _⟩ := TB.old d cs' hmb
        exact upd_comm _ _ _ (fun hnd => i6 hA' n hd d (.inr hW) hnd)
    | st n cs =>
      obtain ⟨hw, _⟩ := TA.old n cs hma
      cases hmb : mb with
      | no => rfl
      | nw d cs' =>
        obtain ⟨hA', hd, _⟩ := TB.new d cs' hmb
        exact upd_comm _ _ _ (fun hnd => i7 hA' d hd n (.inr hw) hnd.symm)
      | st d cs' =>
        obtain ⟨hW, _⟩ := TB.old d cs' hmb
        exact upd_comm _ _ _ (fun hnd => i4 n hw d (.inr hW) hnd)
  simp only [e1, e2]

theorem bubble {sp : Spec} {i : SOper} {sn : St} (post : List SOper) : ∀ (pre : List SOper) {s : St}, (∀ e ∈ pre, e.indep i = true) → absOps sp (pre ++ i :: post) s = some sn → absOps sp (i :: (pre ++ post)) s = some sn
  | [], s, _, h => h
  | e :: pre, s, hi, h => by
    simp only [List.cons_append, absOps] at h
    split at h
    · rename_i s1 h1
      have h2 := bubble post pre (fun x hx => hi x (by simp [hx])) h
      simp only [absOps] at h2
      split at h2
      · rename_i s2 h3
        obtain ⟨s1', g1, g2⟩ := swap (hi e (by simp)) h1 h3
        simp only [List.cons_append, absOps, g1, g2]
        exact h2
      · cases h2
    · cases h
end Go.VC
/- The evaluator is sound: operations in the order of the text. -/
namespace Go.VC
open Go.RowKit
section
variable {P : Program} {S0 : Nat → Prop} {w0 : World} {N : Nat} {μ : Nat → Nat} {s s' : St} {a : Act} {w : World} {sp : Spec} {v : AV} {Q : Exit → Act → World → Prop}

theorem AC.rel_no {L : Lie} {w : World} {d : Nat} {cs : List AC} (hd : ¬ L.D d) {c : AC} {y : Value} (h : c.rep L w y) : c.rel d cs = c := by
  cases c with
  | p m off => simp only [AC.rel]; rw [if_neg]; rintro rfl; exact hd h.1
  | s t m len => simp only [AC.rel]; rw [if_neg]; rintro rfl; exact hd h.1
  | _ => rfl
theorem repL_no {L : Lie} {w : World} {d : Nat} {cs : List AC} (hd : ¬ L.D d) : ∀ {as : List AC} {vs : List Value}, repL L w as vs → as.map (·.rel d cs) = as
  | [], [], _ => rfl
  | [], _ :: _, h => h.elim
  | _ :: _, [], h => h.elim
  | _ :: _, _ :: _, h => by rw [List.map_cons, AC.rel_no hd h.1, repL_no hd h.2]
theorem AP.rel_no {L : Lie} {w : World} {d : Nat} {cs : List AC} (hd : ¬ L.D d) {c : AP} {y : Value} (h : c.rep L w y) : c.rel d cs = c := by
  cases c with
  | c a => exact congrArg AP.c (AC.rel_no (c := a) hd h)
  | g as => obtain ⟨vs, h1, h2⟩ := h; exact congrArg AP.g (repL_no hd h2)
theorem repP_no {L : Lie} {w : World} {d : Nat} {cs : List AC} (hd : ¬ L.D d) : ∀ {as : List AP} {vs : List Value}, repP L w as vs → as.map (·.rel d cs) = as
  | [], [], _ => rfl
  | [], _ :: _, h => h.elim
  | _ :: _, [], h => h.elim
  | _ :: _, _ :: _, h => by rw [List.map_cons, AP.rel_no hd h.1, repP_no hd h.2]
theorem AV.rel_no {L : Lie} {w : World} {d : Nat} {cs : List AC} (hd : ¬ L.D d) {c : AV} {y : Value} (h : c.rep L w y) : c.rel d cs = c := by
  cases c with
  | o a => exact congrArg AV.o (AP.rel_no (c := a) hd h)
  | t l => obtain ⟨vs, h1, h2⟩ := h; exact congrArg AV.t (repP_no hd h2)
theorem St.rel_no (R : Rel S0 w0 N μ s a w) {d : Nat} {cs : List AC} (hd : s.mem d = none) : ({ s with mem := upd s.mem d (some cs) } : St).rel d = s := by
  have hD : ¬ (own S0 μ s.mem).D d := fun h => h hd
  unfold St.rel
  simp only [upd_same]
  have e1 : (fun t => (s.tm t).rel d cs) = s.tm := funext fun t => AV.rel_no hD (R.tmp t)
  have e2 : (fun m => if m = d then none else match upd s.mem d (some cs) m with | some c => some (c.map (·.rel d cs)) | none => none) = s.mem := funext fun m => by
    by_cases hm : m = d
    · subst hm; rw [if_pos rfl, hd]
    · rw [if_neg hm, upd_ne _ _ hm]
      cases hmm : s.mem m with
      | none => rfl
      | some c0 =>
        obtain ⟨_, ys, zs, T, _, hr⟩ := R.mem m c0 hmm
        dsimp only
        rw [repL_no hD hr]
  cases s with
  | mk tm mem => exact congr (congrArg St.mk e1) e2
theorem pigeon : ∀ (N : Nat) (f : Nat → Nat), (∀ i, i < N + 1 → f i < N) → ∃ i j, i < j ∧ j < N + 1 ∧ f i = f j
  | 0, f, h => absurd (h 0 (by omega)) (by omega)
  | N + 1, f, h => by
    by_cases he : ∃ i, i < N + 1 ∧ f i = f (N + 1)
    · obtain ⟨i, h1, h2⟩ := he
      exact ⟨i, N + 1, h1, by omega, h2⟩
    · have hne : ∀ i, i < N + 1 → f i ≠ f (N + 1) := fun i hi e => he ⟨i, hi, e⟩
      have hv := h (N + 1) (by omega)
      obtain ⟨i, j, h1, h2, h3⟩ := pigeon N (fun i => if f i = N then f (N + 1) else f i) (fun i hi => by
        have h1 := h i (by omega)
        have h2 := hne i hi
        show (if f i = N then f (N + 1) else f i) < N
        split <;> omega)
      refine ⟨i, j, h1, by omega, ?_⟩
      have g1 := hne i (by omega)
      have g2 := hne j (by omega)
      have h3 : (if f i = N then f (N + 1) else f i) = (if f j = N then f (N + 1) else f j) := h3
      split at h3 <;> split at h3 <;> omega
theorem Rel.free (R : Rel S0 w0 N μ s a w) : ∃ d, s.mem d = none := by
  rcases Classical.em (∃ d, s.mem d = none) with h | h
  · exact h
  · exfalso
    have hn : ∀ d, s.mem d ≠ none := fun d hd => h ⟨d, hd⟩
    obtain ⟨i, j, h1, _, h3⟩ := pigeon w.heap.size μ (fun i _ => R.lt i (hn i))
    exact absurd (R.inj i j (hn i) (hn j) h3) (by omega)
theorem sound_bldQ {o : Oper} {dst : Option Nat} {ty : TypeId} {n : Nat} {ps : Array (Nat × Operand)} {t : RT} {z : List AC} {parts : List (Nat × Nat × SA)} (hS0 : ∀ b, S0 b → b < w0.heap.size) (R : Rel S0 w0 N μ s a w) (hop : o.op = .buildSlice ty n ps) (ht : chkRT P ty t = true) (hsm : n * t.m ≤ 16777216) (hz : chkCells (zerosP P t.e (n * t.m)) z = true) (hp : chkPartsS t.m ps.toList parts = true)
    (he : absOp sp dst (.bldQ t z n parts) s = some (v, s')) : Sound P S0 w0 N o s' v a w := by
  obtain ⟨d, hd⟩ := R.free
  simp only [absOp] at he
  split at he
  · rename_i cs hcs
    · simp only [Option.some.injEq, Prod.mk.injEq] at he
      obtain ⟨rfl, rfl⟩ := he
      have hb : absOp sp (some d) (.bldS t z n parts) s = some (.o (.c (.s t d n)), { s with mem := upd s.mem d (some cs) }) := by simp only [absOp, hcs, hd]
      intro K Q hK
      refine sound_bldS (dst := some d) hS0 R hop ht hsm hz hp hb K Q (fun μ' y w' R1 hv => ?_)
      have hme : (upd s.mem d (some cs)) d = some cs := upd_same _ _ _
      obtain ⟨hge, ys, zs, T, hblk, hr⟩ := R1.mem d cs hme
      have hlt := R1.lt d (by show upd s.mem d (some cs) d ≠ none; rw [hme]; simp)
      have R2 := R1.rel hS0 d
      rw [St.rel_no R hd] at R2
      have hx : ExtR d (own S0 μ' (upd s.mem d (some cs))) (own S0 μ' s.mem) := by
        refine ⟨fun m hm h => ?_, rfl, ?_, ?_⟩
        · have h : upd s.mem d (some cs) m ≠ none := h
          rw [upd_ne _ _ hm] at h
          exact h
        · rintro b (h | ⟨m, hm, hmb⟩)
          · exact .inl h
          · refine .inr ⟨m, ?_, hmb⟩
            have hmd : m ≠ d := fun e => hm (by rw [e]; exact hd)
            show upd s.mem d (some cs) m ≠ none
            rw [upd_ne _ _ hmd]
            exact hm
        · rintro (h | ⟨m, hm, hmb⟩)
          · have h1 := hS0 _ h
            have h2 : w0.heap.size ≤ μ' d := hge
            exact absurd h1 (Nat.not_lt.2 h2)
          · have hmd : m ≠ d := fun e => hm (by rw [e]; exact hd)
            exact hmd (R1.inj m d (by show upd s.mem d (some cs) m ≠ none; rw [upd_ne _ _ hmd]; exact hm) (by show upd s.mem d (some cs) d ≠ none; rw [hme]; simp) hmb)
      have hq := AV.rep_rel hx hblk hr hlt hv
      exact hK μ' y w' R2 (by simpa [AV.rel, AP.rel, AC.rel] using hq)
  · cases he
theorem arrP_spec {t : TypeId} {n : Nat} {e : TypeId} (h : arrP P t = some (n, e)) : P.underlying t = some (.array n e) := by
  unfold arrP at h
  split at h
  · cases h; assumption
  · cases h
theorem sound_buildA {o : Oper} {dst : Option Nat} {t : TypeId} {ps : Array (Nat × Operand)} {z : List AC} {parts : List (Nat × Nat × SA)} (R : Rel S0 w0 N μ s a w) (hop : o.op = .build t ps)
    (hz : (match (P.info? t).bind (·.zero) with | some v => chkCells v.cells.toList z | none => false) = true) (hp : chkArr P t ps.toList parts = true)
    (he : absOp sp dst (.build z parts) s = some (v, s')) : Sound P S0 w0 N o s' v a w := by
  simp only [absOp] at he
  split at he
  · rename_i cs hcs
    simp only [Option.some.injEq, Prod.mk.injEq] at he
    obtain ⟨rfl, rfl⟩ := he
    split at hz
    · rename_i zv hzv
      unfold chkArr at hp
      split at hp
      · rename_i n el hel
        split at hp
        · rename_i m hm
          have hu := arrP_spec hel
          obtain ⟨zs, hfill, hr⟩ := fillS_ok (m := m) R ps.toList parts z zv.cells.toList hp (chkCells_rep hz) hcs
          refine sound_value (y := .agg zs.toArray) (w' := w) ?_ R ⟨zs, rfl, hr⟩
          have e : (ps.map fun x => (x.1, a.eval x.2)).toList = ps.toList.map fun x => (x.1, a.eval x.2) := by simp
          have e2 : zv.cells.toList.toArray = zv.cells := by simp
          rw [e2] at hfill
          simp only [execOp, hop, Instr.build, Sem.run_bind, run_zero hzv, Result.andThen_ok, run_underlying hu, run_size hm]
          rw [e, hfill]
          simp
        · cases hp
      · cases hp
    · cases hz
  · cases he
theorem sound_ix {o : Oper} {dst : Option Nat} {t : TypeId} {x i : Operand} {y : SA} {off : Nat} (R : Rel S0 w0 N μ s a w) (hop : o.op = .indexAddr t x i) (hf : chkIx P t i off = true) (hx : chkSA x y = true) (he : absOp sp dst (.fld off y) s = some (v, s')) : Sound P S0 w0 N o s' v a w := by
  have hev := R.ev hx
  have step : ∀ (b q : Nat), a.eval x = .pointer (some ⟨b, q, none⟩) → (execOp a.eval o).run P w = .ok (.value (.pointer (some ⟨b, q + off, none⟩))) w := by
    intro b q hp
    unfold chkIx at hf
    split at hf
    · rename_i k j n el harr
      split at hf
      · rename_i m hm
        simp only [Bool.and_eq_true, decide_eq_true_eq, beq_iff_eq] at hf
        obtain ⟨⟨h0, h1⟩, hoff⟩ := hf
        have hu := arrP_spec harr
        have ej : a.eval (Operand.const (Value.int k j)) = .int k j := rfl
        simp only [execOp, hop, hp, ej, Instr.indexAt, Sem.run_bind, asIntOf, Sem.run_pure, Result.andThen_ok, run_underlying hu, Instr.sureAddr]
        rw [if_pos ⟨h0, h1⟩]
        simp only [Sem.run_bind, run_size hm, Result.andThen_ok, Sem.run_pure, Addr.add_mid, hoff]
      · cases hf
    · cases hf
  simp only [absOp] at he
  split at he
  · rename_i n q hq
    simp only [Option.some.injEq, Prod.mk.injEq] at he
    obtain ⟨rfl, rfl⟩ := he
    rw [hq] at hev
    exact sound_value (w' := w) (step _ _ hev.2) R ⟨hev.1, rfl⟩
  · rename_i cs hq
    simp only [Option.some.injEq, Prod.mk.injEq] at he
    obtain ⟨rfl, rfl⟩ := he
    rw [hq] at hev
    obtain ⟨b, q, h1, h2, h3, h4⟩ := hev
    exact sound_value (w' := w) (step _ _ h1) R ⟨b, q + off, rfl, h2, h3, stand_drop off h4⟩
  · cases he
theorem op_sound {o : Oper} {so : SOp} (hS0 : ∀ b, S0 b → b < w0.heap.size) (hsp : SpecOk P sp) (R : Rel S0 w0 N μ s a w) (hc : chkOp P o.op so = true) {d : Option Nat} (he : absOp sp d so s = some (v, s')) : Sound P S0 w0 N o s' v a w := by
  cases hop : o.op <;> cases so <;> rw [hop] at hc <;> simp only [chkOp, Bool.and_eq_true, beq_iff_eq, decide_eq_true_eq, Bool.false_eq_true] at hc
  case move.mv x y => exact sound_mv R (.inl hop) hc he
  case assign.mv x y => exact sound_mv R (.inr hop) hc he
  case pick.pick => exact sound_pick R hop hc.1.1 hc.1.2 hc.2 he
  case alloc.alloc => exact sound_alloc hS0 R hop hc he
  case box.box => exact sound_box hS0 R hop hc he
  case build.build =>
    obtain ⟨h1, h2⟩ := hc
    rcases (Bool.or_eq_true _ _).mp h2 with h | h
    · simp only [Bool.and_eq_true] at h
      exact sound_build R hop h1 h.2 h.1 he
    · exact sound_buildA R hop h1 h he
  case indexAddr.fld => exact sound_ix R hop hc.1 hc.2 he
  case load.load => exact sound_load R hop hc.1.1.1 hc.1.1.2 (by simpa using hc.1.2) hc.2 he
  case store.store => exact sound_store R hop hc.1.1 hc.1.2 hc.2 he
  case fieldAddr.fld => exact sound_fld R hop hc.1 hc.2 he
  case field.part => exact sound_part R hop hc.1 hc.2 he
  case binOp.bin => obtain ⟨⟨rfl, h1⟩, h2⟩ := hc; exact sound_bin R hop h1 h2 he
  case binOp.eqb => exact sound_eqb R hop hc.1.1.1 hc.1.1.2 hc.1.2 hc.2 he
  case binOp.eqs => exact sound_eqs R hop hc.1.1.1.1.1 hc.1.1.1.1.2 (by simpa using hc.1.1.1.2) hc.1.1.2 hc.1.2 hc.2 he
  case unOp.not op _ _ _ =>
    cases op <;> simp only [chkOp, Bool.false_eq_true] at hc
    exact sound_not R hop hc he
  case unOp.neg op _ _ _ =>
    cases op <;> simp only [chkOp, Bool.false_eq_true] at hc
    exact sound_neg R hop hc he
  case convert.cvt => exact sound_cvt R hop hc.1.1 hc.1.2 hc.2 he
  case extract.ext => obtain ⟨rfl, h1⟩ := hc; exact sound_ext R hop h1 he
  case call.call c f args =>
    obtain ⟨h1, h2⟩ := hc
    split at h1
    · rename_i g hcal
      have : g = f := by simpa using h1
      subst this
      exact sound_call hS0 hsp R hop hcal h2 he
    · cases h1
  case call.len c y =>
    obtain ⟨h1, h2⟩ := hc
    split at h1
    · rename_i hcal
      split at h2
      · rename_i x t hx ht
        simp only [Bool.and_eq_true] at h2
        exact sound_len R hop hcal (by apply Array.ext'; simpa using hx) ht h2.1 h2.2 he
      · cases h2
    · cases h1
  case indexAddr.idx =>
    obtain ⟨⟨h1, h2⟩, h3⟩ := hc
    split at h1
    · rename_i el hel
      simp only [beq_iff_eq] at h1
      exact sound_idx R hop hel h1 h2 h3 he
    · cases h1
  case slice.sl t x lo hi mx y lo' hi' =>
    cases mx with
    | some _ => simp [chkOp] at hc
    | none =>
      simp only [chkOp, Bool.and_eq_true] at hc
      obtain ⟨⟨⟨h1, h2⟩, h3⟩, h4⟩ := hc
      split at h1
      · rename_i el hel
        simp only [beq_iff_eq] at h1
        exact sound_sl R hop hel h1 h2 h3 h4 he
      · cases h1
  case call.min c x y =>
    obtain ⟨h1, h2⟩ := hc
    split at h1
    · rename_i hcal
      exact sound_min R hop hcal h2 he
    · cases h1
  case convert.str =>
    obtain ⟨⟨h1, h2⟩, h3⟩ := hc
    split at h1
    · rename_i el hel
      simp only [beq_iff_eq] at h1
      exact sound_str R hop hel h1 h2 h3 he
    · cases h1
  case binOp.eqt => exact sound_eqt R hop hc.1.1.2 hc.1.2 hc.2 he
  case makeSlice.mkS => exact sound_mkS hS0 R hop hc.1.1.1.1 hc.1.1.1.2 hc.1.1.2 hc.1.2 hc.2 he
  case buildSlice.bldS =>
    obtain ⟨⟨⟨⟨h1, h2⟩, h3⟩, h4⟩, h5⟩ := hc
    subst h2
    exact sound_bldS hS0 R hop h1 h3 h4 h5 he
  case buildSlice.bldQ =>
    obtain ⟨⟨⟨⟨h1, h2⟩, h3⟩, h4⟩, h5⟩ := hc
    subst h2
    exact sound_bldQ hS0 R hop h1 h3 h4 h5 he
  case call.app c t x y =>
    obtain ⟨⟨h1, h2⟩, h3⟩ := hc
    split at h1
    · rename_i hcal
      split at h2
      · rename_i t1 t2 hty
        simp only [Bool.and_eq_true, beq_iff_eq] at h2
        obtain ⟨rfl, h2⟩ := h2
        exact sound_app hS0 R hop hcal (by apply Array.ext'; simpa using hty) h2 h3 he
      · cases h2
    · cases h1
  case call.callR c f args =>
    obtain ⟨h1, h2⟩ := hc
    split at h1
    · rename_i g hcal
      have : g = f := by simpa using h1
      subst this
      exact sound_callR hS0 hsp R hop hcal h2 he
    · cases h1
  case call.appZ c t x y =>
    obtain ⟨⟨h1, h2⟩, h3⟩ := hc
    split at h1
    · rename_i hcal
      split at h2
      · rename_i t1 t2 hty
        simp only [Bool.and_eq_true, beq_iff_eq] at h2
        exact sound_appZ hS0 R hop hcal (by apply Array.ext'; simpa using hty) h2.1 h2.2 h3 he
      · cases h2
    · cases h1
  case call.cap c y =>
    obtain ⟨h1, h2⟩ := hc
    split at h1
    · rename_i hcal
      split at h2
      · rename_i x t hx ht
        simp only [Bool.and_eq_true] at h2
        exact sound_cap R hop hcal (by apply Array.ext'; simpa using hx) ht h2.1 h2.2 he
      · cases h2
    · cases h1
  case call.callF c f args =>
    obtain ⟨h1, h2⟩ := hc
    split at h1
    · rename_i g hcal
      have : g = f := by simpa using h1
      subst this
      exact sound_callF hS0 hsp R hop hcal h2 he
    · cases h1

/-! ### An operation with its slot and its guard -/
def chkOper (P : Program) (N : Nat) (ops : Array Oper) (o : Oper) (so : SOper) : Bool :=
  chkOp P o.op so.op && decide (o.dst = so.dst) && (match o.dst with | some d => decide (d < N) | none => true) &&
  (match o.guard, so.guard with
   | none, none => true
   | some (j, w), some (g, w') => w == w' && decide ((ops[j]?).bind (·.dst) = some g)
   | _, _ => false)

theorem oper_sound {ops : Array Oper} {o : Oper} {so : SOper} (hS0 : ∀ b, S0 b → b < w0.heap.size) (hsp : SpecOk P sp) (R : Rel S0 w0 N μ s a w) (hc : chkOper P N ops o so = true) (he : absOper sp so s = some s')
    {K : Act → World → Prop} (hK : ∀ μ' a' w', Rel S0 w0 N μ' s' a' w' → K a' w') :
    if Region.wanted o (yielded ops a.tmps) then o.wp P a w K Q ∨ (o.asks P a w ∧ LetsOut Q) else K (a.put o.dst undef) w := by
  simp only [chkOper, Bool.and_eq_true, decide_eq_true_eq] at hc
  obtain ⟨⟨⟨h1, h2⟩, h3⟩, h4⟩ := hc
  have hd : ∀ n, o.dst = some n → n < N := fun n hn => by rw [hn] at h3; simpa using h3
  have run : ∀ {v : AV} {s1 : St}, absOp sp so.dst so.op s = some (v, s1) → (∀ μ' a' w', Rel S0 w0 N μ' (s1.put so.dst v) a' w' → K a' w') → o.wp P a w K Q := fun h1' hK' => by
    refine op_sound hS0 hsp R h1 h1' K Q (fun μ' y w' R' hv => ?_)
    have := R'.put (d := o.dst) hv hd
    rw [h2] at this ⊢
    exact hK' _ _ _ this
  unfold absOper at he
  split at h4
  · rename_i hg1 hg2
    rw [hg2] at he
    simp only at he
    have hw : Region.wanted o (yielded ops a.tmps) = true := by simp [Region.wanted, hg1]
    rw [if_pos hw]
    split at he
    · rename_i v s1 h5
      cases he
      exact .inl (run h5 hK)
    · cases he
  · rename_i j wt g wt' hg1 hg2
    simp only [Bool.and_eq_true, beq_iff_eq, decide_eq_true_eq] at h4
    obtain ⟨rfl, hj⟩ := h4
    rw [hg2] at he
    simp only at he
    have skip : Region.wanted o (yielded ops a.tmps) = false → s.put so.dst (.t []) = s' → (if Region.wanted o (yielded ops a.tmps) then o.wp P a w K Q ∨ (o.asks P a w ∧ LetsOut Q) else K (a.put o.dst undef) w) := by
      intro hw hs
      rw [hw]
      refine hK μ _ _ ?_
      have := R.put (d := o.dst) (v := .t []) (y := undef) ⟨[], rfl, trivial⟩ hd
      rw [← hs, ← h2]
      exact this
    split at he
    · rename_i b hb
      have hval : a.tmps.getD g undef = .bool b := by
        have := R.tmp g
        rw [hb] at this
        exact this.1
      have hy : yielded ops a.tmps j = some b := by
        unfold yielded
        rw [hj]
        simp only [Option.bind_some]
        cases hq : a.tmps[g]? with
        | none => rw [Array.getD_eq_getD_getElem?, hq] at hval; cases hval
        | some z => rw [Array.getD_eq_getD_getElem?, hq] at hval; simp only [Option.getD_some] at hval; subst hval; rfl
      by_cases hbw : b = wt
      · subst hbw
        rw [if_pos rfl] at he
        have hw : Region.wanted o (yielded ops a.tmps) = true := by simp [Region.wanted, hg1, hy]
        rw [if_pos hw]
        split at he
        · rename_i v s1 h5
          cases he
          exact .inl (run h5 hK)
        · cases he
      · rw [if_neg hbw] at he
        have hw : Region.wanted o (yielded ops a.tmps) = false := by simp [Region.wanted, hg1, hy, hbw]
        exact skip hw (by simpa using he)
    · rename_i l hb
      have hval : ∃ ys : List Value, a.tmps.getD g undef = .tuple ys.toArray := by
        have := R.tmp g
        rw [hb] at this
        obtain ⟨ys, h, _⟩ := this
        exact ⟨ys, h⟩
      obtain ⟨ys, hval⟩ := hval
      have hy : yielded ops a.tmps j = none := by
        unfold yielded
        rw [hj]
        simp only [Option.bind_some]
        cases hq : a.tmps[g]? with
        | none => rfl
        | some z => rw [Array.getD_eq_getD_getElem?, hq] at hval; simp only [Option.getD_some] at hval; subst hval; rfl
      have hw : Region.wanted o (yielded ops a.tmps) = false := by simp [Region.wanted, hg1, hy]
      exact skip hw (by simpa using he)
    · cases he
  · cases h4

/-! ### A region in the text's order -/
def chkOps (P : Program) (N : Nat) (ops : Array Oper) : List Nat → List SOper → Bool
  | [], [] => true
  | i :: is, so :: sos => (match ops[i]? with | some o => chkOper P N ops o so | none => false) && chkOps P N ops is sos
  | _, _ => false
theorem ops_sound {ops : Array Oper} (hS0 : ∀ b, S0 b → b < w0.heap.size) (hsp : SpecOk P sp) {sn : St} (hQ : ∀ μ' a' w', Rel S0 w0 N μ' sn a' w' → Q .normal a' w') :
    ∀ (is : List Nat) (sos : List SOper) {μ : Nat → Nat} {s : St} {a : Act} {w : World}, chkOps P N ops is sos = true → Rel S0 w0 N μ s a w → absOps sp sos s = some sn → wpOps P ops Q is a w
  | [], [], μ, s, a, w, _, R, he => by
    simp only [absOps, Option.some.injEq] at he
    subst he
    exact hQ _ _ _ R
  | [], _ :: _, _, _, _, _, h, _, _ => by cases h
  | _ :: _, [], _, _, _, _, h, _, _ => by cases h
  | i :: is, so :: sos, μ, s, a, w, h, R, he => by
    simp only [chkOps, Bool.and_eq_true] at h
    obtain ⟨h1, h2⟩ := h
    simp only [absOps] at he
    split at he
    · rename_i s1 h3
      split at h1
      · rename_i o ho
        have := oper_sound (Q := Q) hS0 hsp R h1 h3 (K := wpOps P ops Q is) (fun μ' a' w' R' => ops_sound hS0 hsp hQ is sos h2 R' he)
        simp only [wpOps, ho]
        exact this
      · cases h1
    · cases he
end
end Go.VC
/- The evaluator is sound: operations in whatever order is drawn. -/
namespace Go.VC
open Go.RowKit

/-! ### A region that draws its order -/
def befores (o : Oper) : List Nat := (o.after.toList.filter (Region.binds .any)).map (·.on)
/-- Of each operation: all that come before it in every order, as bits. -/
def cloStep (acc : List Nat) (as : List Nat) : Nat := as.foldl (fun m k => m ||| 2 ^ k ||| acc.getD k 0) 0
def cloGo : List Nat → List (List Nat) → List Nat
  | acc, [] => acc
  | acc, a :: as => cloGo (acc ++ [cloStep acc a]) as

theorem foldl_bits (acc : List Nat) : ∀ (as : List Nat) (m e : Nat), Nat.testBit (as.foldl (fun m k => m ||| 2 ^ k ||| acc.getD k 0) m) e = true →
    Nat.testBit m e = true ∨ ∃ k ∈ as, e = k ∨ Nat.testBit (acc.getD k 0) e = true
  | [], m, e, h => .inl h
  | k :: as, m, e, h => by
    simp only [List.foldl_cons] at h
    rcases foldl_bits acc as _ e h with h1 | ⟨k', hk', h1⟩
    · simp only [Nat.testBit_or, Bool.or_eq_true] at h1
      rcases h1 with (h1 | h1) | h1
      · exact .inl h1
      · right
        rw [Nat.testBit_two_pow] at h1
        exact ⟨k, by simp, .inl (by simpa using (of_decide_eq_true h1).symm)⟩
      · exact .inr ⟨k, by simp, .inr h1⟩
    · exact .inr ⟨k', by simp [hk'], h1⟩

/-- D: what has come up. -/
theorem cloGo_spec (A : List (List Nat)) (D : Nat → Prop) (hD : ∀ j as, A[j]? = some as → D j → ∀ k ∈ as, D k) :
    ∀ (rest : List (List Nat)) (acc : List Nat), (∀ i, rest[i]? = A[acc.length + i]?) →
      (∀ j as, A[j]? = some as → j < acc.length → (∀ k ∈ as, D k) → ∀ e, Nat.testBit (acc.getD j 0) e = true → D e) →
      ∀ j as, A[j]? = some as → (∀ k ∈ as, D k) → ∀ e, Nat.testBit ((cloGo acc rest).getD j 0) e = true → D e
  | [], acc, hr, hacc, j, as, hj, hk, e, he => by
    have hlt : j < acc.length := by
      rcases Nat.lt_or_ge j acc.length with h | h
      · exact h
      · simp only [cloGo] at he
        rw [List.getD_eq_getElem?_getD, List.getElem?_eq_none h] at he
        simp at he
    exact hacc j as hj hlt hk e he
  | a :: rest, acc, hr, hacc, j, as, hj, hk, e, he => by
    have ha : A[acc.length]? = some a := by have := hr 0; simpa using this.symm
    refine cloGo_spec A D hD rest (acc ++ [cloStep acc a]) (fun i => ?_) (fun j' as' hj' hlt' hk' e' he' => ?_) j as hj hk e he
    · have := hr (i + 1)
      simp only [List.getElem?_cons_succ] at this
      rw [this, List.length_append]
      congr 1
      simp; omega
    · rw [List.length_append] at hlt'
      by_cases hjl : j' < acc.length
      · refine hacc j' as' hj' hjl hk' e' ?_
        rw [List.getD_eq_getElem?_getD, List.getElem?_append_left hjl] at he'
        rw [List.getD_eq_getElem?_getD]
        exact he'
      · have hje : j' = acc.length := by simp at hlt'; omega
        subst hje
        rw [ha] at hj'
        cases hj'
        rw [List.getD_eq_getElem?_getD, List.getElem?_append_right (Nat.le_refl _)] at he'
        simp at he'
        rcases foldl_bits acc a 0 e' he' with h1 | ⟨k, hkm, h1 | h1⟩
        · simp at h1
        · subst h1; exact hk' e' hkm
        · have hkl : k < acc.length := by
            rcases Nat.lt_or_ge k acc.length with h | h
            · exact h
            · rw [List.getD_eq_getElem?_getD, List.getElem?_eq_none h] at h1; simp at h1
          have hDk := hk' k hkm
          cases hAk : A[k]? with
          | none =>
            exfalso
            have h0 : A[acc.length]?.isSome = true := by rw [ha]; rfl
            have : acc.length < A.length := by
              rcases Nat.lt_or_ge acc.length A.length with h | h
              · exact h
              · rw [List.getElem?_eq_none h] at h0; cases h0
            rw [List.getElem?_eq_none_iff] at hAk
            omega
          | some as2 => exact hacc k as2 hAk hkl (hD k as2 hAk hDk) e' h1

def pairsOk (C : List Nat) : List (Nat × SOper) → Bool
  | [] => true
  | (i, a) :: rest => rest.all (fun jb => Nat.testBit (C.getD jb.1 0) i || a.indep jb.2) && pairsOk C rest
def number : Nat → List SOper → List (Nat × SOper)
  | _, [] => []
  | i, a :: as => (i, a) :: number (i + 1) as
def chkOrder (ops : Array Oper) (sos : List SOper) : Bool :=
  pairsOk (cloGo [] (ops.toList.map befores)) (number 0 sos) && (ops.toList.zipIdx.all fun oi => (befores oi.1).all (· < oi.2))

theorem pairsOk_spec {C : List Nat} : ∀ {l : List (Nat × SOper)}, pairsOk C l = true → ∀ pre x post, l = pre ++ x :: post → ∀ e ∈ pre, Nat.testBit (C.getD x.1 0) e.1 = true ∨ e.2.indep x.2 = true
  | [], _, pre, x, post, h, _, _ => by simp at h
  | (i, a) :: rest, hp, pre, x, post, h, e, he => by
    simp only [pairsOk, Bool.and_eq_true, List.all_eq_true] at hp
    cases pre with
    | nil => cases he
    | cons p pre =>
      simp only [List.cons_append, List.cons.injEq] at h
      obtain ⟨rfl, rfl⟩ := h
      rcases List.mem_cons.1 he with rfl | he
      · have := hp.1 x (by simp)
        simpa using this
      · exact pairsOk_spec hp.2 pre x post rfl e he
theorem pairsOk_sub {C : List Nat} : ∀ {l l' : List (Nat × SOper)}, pairsOk C l = true → l'.Sublist l → pairsOk C l' = true
  | [], l', _, h => by rw [List.sublist_nil.1 h]; rfl
  | (i, a) :: rest, l', hp, h => by
    simp only [pairsOk, Bool.and_eq_true, List.all_eq_true] at hp
    cases h with
    | cons _ h => exact pairsOk_sub hp.2 h
    | cons_cons _ h =>
      simp only [pairsOk, Bool.and_eq_true, List.all_eq_true]
      exact ⟨fun x hx => hp.1 x (h.subset hx), pairsOk_sub hp.2 h⟩

section
variable {P : Program} {S0 : Nat → Prop} {w0 : World} {N : Nat} {sp : Spec} {Q : Exit → Act → World → Prop}

theorem any_sound {ops : Array Oper} (hS0 : ∀ b, S0 b → b < w0.heap.size) (hsp : SpecOk P sp) {sn : St} (hQ : ∀ μ' a' w', Rel S0 w0 N μ' sn a' w' → Q .normal a' w')
    (C : List Nat) (hC : C = cloGo [] (ops.toList.map befores)) (hlt : ∀ j o, ops[j]? = some o → ∀ k ∈ befores o, k < j) :
    ∀ (fuel : Nat) (rem : List (Nat × SOper)) (listed : Array Bool) {μ : Nat → Nat} {s : St} {a : Act} {w : World},
      rem.length = fuel → (∀ x ∈ rem, ∃ o, ops[x.1]? = some o ∧ chkOper P N ops o x.2 = true) → (∀ i o, ops[i]? = some o → listed.getD i true = false → ∃ so, (i, so) ∈ rem) →
      (∀ x ∈ rem, listed.getD x.1 true = false) → listed.size = ops.size → (rem.map (·.1)).Pairwise (· < ·) → pairsOk C rem = true → (∀ j o, ops[j]? = some o → listed.getD j false = true → ∀ k ∈ befores o, listed.getD k false = true) →
      Rel S0 w0 N μ s a w → absOps sp (rem.map (·.2)) s = some sn → wpAny P .any ops Q fuel listed a w
  | 0, rem, listed, μ, s, a, w, hf, _, hall, _, _, _, _, _, R, he => by
    have : rem = [] := List.length_eq_zero_iff.1 hf
    subst this
    simp only [List.map_nil, absOps, Option.some.injEq] at he
    subst he
    refine ⟨?_, hQ _ _ _ R⟩
    cases hr : Region.ready .any ops listed with
    | nil => rfl
    | cons j js =>
      obtain ⟨h0, o, ho, _⟩ := mem_ready.1 (show j ∈ Region.ready .any ops listed by rw [hr]; simp)
      obtain ⟨so, hso⟩ := hall j o ho h0
      cases hso
  | fuel + 1, rem, listed, μ, s, a, w, hf, hchk, hall, hun, hsize, hsorted, hpairs, hdown, R, he => by
    have hgetD : ∀ i, i < listed.size → (listed.getD i true = listed.getD i false) := fun i hi => by simp [hi]
    refine ⟨fun hnil => ?_, fun i hi => ?_⟩
    · exfalso
      cases rem with
      | nil => simp at hf
      | cons x rest =>
        obtain ⟨o, ho, _⟩ := hchk x (by simp)
        have : x.1 ∈ Region.ready .any ops listed := by
          refine mem_ready.2 ⟨hun x (by simp), o, ho, fun e he' hb => ?_⟩
          have hk : e.on ∈ befores o := by
            unfold befores
            exact List.mem_map.2 ⟨e, List.mem_filter.2 ⟨by simpa using he', hb⟩, rfl⟩
          have hlt' := hlt x.1 o ho e.on hk
          have hxs : x.1 < ops.size := (Array.getElem?_eq_some_iff.1 ho).1
          cases hl : listed.getD e.on false with
          | true => rfl
          | false =>
            exfalso
            have hes : e.on < ops.size := by omega
            have h1 : listed.getD e.on true = false := by rw [hgetD _ (by omega)]; exact hl
            obtain ⟨so, hso⟩ := hall e.on _ (Array.getElem?_eq_getElem hes) h1
            rw [List.map_cons, List.pairwise_cons] at hsorted
            rcases List.mem_cons.1 hso with h2 | h2
            · rw [← h2] at hlt'; exact Nat.lt_irrefl _ hlt'
            · have := hsorted.1 e.on (List.mem_map.2 ⟨_, h2, rfl⟩)
              omega
        rw [hnil] at this
        cases this
    · obtain ⟨h0, o, ho, hready⟩ := mem_ready.1 hi
      obtain ⟨so, hso⟩ := hall i o ho h0
      obtain ⟨pre, post, hrem⟩ := List.append_of_mem hso
      have hchk_i := hchk (i, so) hso
      obtain ⟨o', ho', hco⟩ := hchk_i
      have : o' = o := by rw [ho] at ho'; cases ho'; rfl
      subst this
      -- what stands ahead of i and has not come up is apart from it
      have hbefore : ∀ k ∈ befores o', listed.getD k false = true := fun k hk => by
        unfold befores at hk
        obtain ⟨e, he', rfl⟩ := List.mem_map.1 hk
        obtain ⟨h1, h2⟩ := List.mem_filter.1 he'
        exact hready e (by simpa using h1) h2
      have hind : ∀ e ∈ pre, e.2.indep so = true := fun e hep => by
        rcases pairsOk_spec hpairs pre (i, so) post hrem e hep with h1 | h1
        · exfalso
          have hA : (ops.toList.map befores)[i]? = some (befores o') := by simp [ho]
          have := cloGo_spec (ops.toList.map befores) (fun k => listed.getD k false = true) (fun j as hj hDj k hk => by
            have hj' : ∃ o, ops[j]? = some o ∧ befores o = as := by
              rw [List.getElem?_map] at hj
              cases hq : ops.toList[j]? with
              | none => rw [hq] at hj; cases hj
              | some o2 => rw [hq] at hj; cases hj; exact ⟨o2, by simpa using hq, rfl⟩
            obtain ⟨o2, h2, rfl⟩ := hj'
            exact hdown j o2 h2 hDj k hk) (ops.toList.map befores) [] (fun i => by simp) (fun j as _ hlt _ => by simp at hlt) i (befores o') hA hbefore e.1 (by rw [← hC]; exact h1)
          have hun' := hun e (by rw [hrem]; simp [hep])
          have hsz : e.1 < listed.size := by
            rcases Nat.lt_or_ge e.1 listed.size with h | h
            · exact h
            · simp [Array.getElem?_eq_none h] at hun'
          rw [hgetD _ hsz] at hun'
          rw [hun'] at this
          cases this
        · exact h1
      have he2 : absOps sp (so :: ((pre ++ post).map (·.2))) s = some sn := by
        rw [hrem] at he
        simp only [List.map_append, List.map_cons] at he
        rw [List.map_append]
        exact bubble (post.map (·.2)) (pre.map (·.2)) (fun x hx => by
          obtain ⟨e, hep, rfl⟩ := List.mem_map.1 hx
          exact hind e hep) he
      simp only [absOps] at he2
      split at he2
      · rename_i s1 h1
        have hiz : i < listed.size := by rw [hsize]; exact (Array.getElem?_eq_some_iff.1 ho).1
        have hnotin : ∀ x ∈ pre ++ post, x.1 ≠ i := fun x hx hxi => by
          rw [hrem] at hsorted
          simp only [List.map_append, List.map_cons, List.pairwise_append, List.pairwise_cons] at hsorted
          obtain ⟨_, ⟨h3, _⟩, h4⟩ := hsorted
          rcases List.mem_append.1 hx with hx | hx
          · have := h4 x.1 (List.mem_map.2 ⟨x, hx, rfl⟩) i (by simp)
            omega
          · have := h3 x.1 (List.mem_map.2 ⟨x, hx, rfl⟩)
            omega
        have hsub : (pre ++ post).Sublist rem := by
          rw [hrem]
          exact List.Sublist.append_left (List.sublist_cons_self _ _) _
        have hK : ∀ μ' a' w', Rel S0 w0 N μ' s1 a' w' → wpAny P .any ops Q fuel (listed.setIfInBounds i true) a' w' := fun μ' a' w' R' => by
          refine any_sound hS0 hsp hQ C hC hlt fuel (pre ++ post) (listed.setIfInBounds i true) ?_ (fun x hx => hchk x (hsub.subset hx)) (fun k ok hk hku => ?_) (fun x hx => ?_) (by simpa using hsize) (List.Pairwise.sublist (hsub.map _) hsorted) (pairsOk_sub hpairs hsub) (fun j oj hj hjl k hk => ?_) R' he2
          · rw [hrem] at hf; simp at hf ⊢; omega
          · have hki : k ≠ i := fun e => by subst e; simp [hiz] at hku
            rw [getD_set_ne true (Ne.symm hki)] at hku
            obtain ⟨so', hs'⟩ := hall k ok hk hku
            rw [hrem] at hs'
            refine ⟨so', ?_⟩
            rcases List.mem_append.1 hs' with h | h
            · exact List.mem_append_left _ h
            · rcases List.mem_cons.1 h with h | h
              · cases h; exact absurd rfl hki
              · exact List.mem_append_right _ h
          · rw [getD_set_ne true (Ne.symm (hnotin x hx))]
            exact hun x (hsub.subset hx)
          · by_cases hji : j = i
            · subst hji
              rw [ho] at hj
              cases hj
              exact getD_set_true (hbefore k hk)
            · have hjl' : listed.getD j false = true := by
                simpa [Array.getElem?_setIfInBounds_ne (Ne.symm hji)] using hjl
              exact getD_set_true (hdown j oj hj hjl' k hk)
        have := oper_sound (Q := Q) hS0 hsp R hco h1 hK
        unfold wpOp
        simp only [ho]
        exact this
      · cases he2
end
end Go.VC
/- The evaluator is sound: code and functions. -/
namespace Go.VC
open Go.RowKit

def chkCode (P : Program) (N : Nat) : Code → SC → Bool
  | .skip, .skip => true
  | .label _, .skip => true
  | .region _ ops draw, .region sos => chkOps P N ops (List.range ops.size) sos && (!draw || (P.follows .mixedOrders && chkOrder ops sos))
  | .seq a b, .seq a' b' => chkCode P N a a' && chkCode P N b b'
  | .cond c a b, .cond c' a' b' => chkSA c c' && chkCode P N a a' && chkCode P N b b'
  | .block i a, .block j a' => i == j && chkCode P N a a'
  | .loop a, .loop a' => chkCode P N a a'
  | c, .forget _ a' => chkCode P N c a'
  | .exit i, .exit j => i == j
  | .ret, .ret => true
  | _, .bad => true
  | _, _ => false
def AX.out : AX → Exit
  | .n => .normal
  | .e id => .exit id
  | .r => .ret

section
variable {P : Program} {S0 : Nat → Prop} {w0 : World} {N : Nat} {sp : Spec}

theorem number_spec : ∀ (i : Nat) (l : List SOper) (x : Nat × SOper), x ∈ number i l ↔ ∃ j, l[j]? = some x.2 ∧ x.1 = i + j
  | i, [], x => by simp [number]
  | i, a :: l, x => by
    simp only [number, List.mem_cons, number_spec (i + 1) l x]
    constructor
    · rintro (rfl | ⟨j, h1, h2⟩)
      · exact ⟨0, rfl, rfl⟩
      · exact ⟨j + 1, by simpa using h1, by omega⟩
    · rintro ⟨j, h1, h2⟩
      cases j with
      | zero => simp at h1; left; cases x; simp at h1 h2 ⊢; exact ⟨h2, h1.symm⟩
      | succ j => right; exact ⟨j, by simpa using h1, by omega⟩
theorem number_map : ∀ (i : Nat) (l : List SOper), (number i l).map (·.2) = l
  | i, [] => rfl
  | i, a :: l => by simp [number, number_map (i + 1) l]
theorem number_length : ∀ (i : Nat) (l : List SOper), (number i l).length = l.length
  | i, [] => rfl
  | i, a :: l => by simp [number, number_length (i + 1) l]
theorem number_sorted : ∀ (i : Nat) (l : List SOper), ((number i l).map (·.1)).Pairwise (· < ·)
  | i, [] => List.Pairwise.nil
  | i, a :: l => by
    simp only [number, List.map_cons, List.pairwise_cons]
    refine ⟨fun x hx => ?_, number_sorted (i + 1) l⟩
    obtain ⟨y, hy, rfl⟩ := List.mem_map.1 hx
    obtain ⟨j, _, h⟩ := (number_spec (i + 1) l y).1 hy
    omega
theorem chkOps_range {ops : Array Oper} : ∀ (is : List Nat) (sos : List SOper), chkOps P N ops is sos = true → is.length = sos.length ∧ ∀ (j i : Nat) (so : SOper), is[j]? = some i → sos[j]? = some so → ∃ o, ops[i]? = some o ∧ chkOper P N ops o so = true
  | [], [], _ => ⟨rfl, fun j i so h _ => by simp at h⟩
  | [], _ :: _, h => by cases h
  | _ :: _, [], h => by cases h
  | i :: is, so :: sos, h => by
    simp only [chkOps, Bool.and_eq_true] at h
    obtain ⟨h1, h2⟩ := h
    obtain ⟨h3, h4⟩ := chkOps_range is sos h2
    refine ⟨by simp [h3], fun j i' so' hj hs => ?_⟩
    cases j with
    | zero =>
      simp at hj hs
      subst hj hs
      split at h1
      · rename_i o ho; exact ⟨o, ho, h1⟩
      · cases h1
    | succ j => exact h4 j i' so' (by simpa using hj) (by simpa using hs)

theorem region_sound {id : Nat} {ops : Array Oper} {draw : Bool} {sos : List SOper} {Q : Exit → Act → World → Prop} {μ : Nat → Nat} {s sn : St} {a : Act} {w : World} (hS0 : ∀ b, S0 b → b < w0.heap.size) (hsp : SpecOk P sp)
    (hc : chkCode P N (.region id ops draw) (.region sos) = true) (R : Rel S0 w0 N μ s a w) (he : absOps sp sos s = some sn) (hQ : ∀ μ' a' w', Rel S0 w0 N μ' sn a' w' → Q .normal a' w') : (Code.region id ops draw).wp P Q a w := by
  simp only [chkCode, Bool.and_eq_true] at hc
  obtain ⟨h1, h2⟩ := hc
  cases draw with
  | false => exact wp_region (ops_sound hS0 hsp hQ _ _ h1 R he)
  | true =>
    simp only [Bool.not_true, Bool.false_or, Bool.and_eq_true, chkOrder] at h2
    obtain ⟨hm, hp, hl⟩ := h2
    obtain ⟨hlen, hrange⟩ := chkOps_range _ _ h1
    rw [List.length_range] at hlen
    refine wp_region_any hm ?_
    refine any_sound hS0 hsp hQ _ rfl (fun j o ho k hk => ?_) ops.size (number 0 sos) (Array.replicate ops.size false) ?_ (fun x hx => ?_) (fun i o ho _ => ?_) (fun x hx => ?_) (by simp) (number_sorted 0 sos) hp (fun j o ho hj => ?_) R.drew (by rw [number_map]; exact he)
    · have := List.all_eq_true.1 hl (o, j) (by
        have : ops.toList[j]? = some o := by simpa using ho
        exact List.mk_mem_zipIdx_iff_getElem?.2 this)
      have := List.all_eq_true.1 this k hk
      simpa using this
    · rw [number_length]; exact hlen.symm
    · obtain ⟨j, h3, h4⟩ := (number_spec 0 sos x).1 hx
      have hj : j < sos.length := by
        rcases Nat.lt_or_ge j sos.length with h | h
        · exact h
        · rw [List.getElem?_eq_none h] at h3; cases h3
      have := hrange j j x.2 (by rw [List.getElem?_range (by omega)]) h3
      rw [h4, Nat.zero_add]
      exact this
    · have hi : i < sos.length := by rw [← hlen]; exact (Array.getElem?_eq_some_iff.1 ho).1
      exact ⟨sos[i], (number_spec 0 sos _).2 ⟨i, List.getElem?_eq_getElem hi, by simp⟩⟩
    · obtain ⟨j, h3, h4⟩ := (number_spec 0 sos x).1 hx
      have hj : j < sos.length := by
        rcases Nat.lt_or_ge j sos.length with h | h
        · exact h
        · rw [List.getElem?_eq_none h] at h3; cases h3
      have hx1 : x.1 < ops.size := by omega
      simp [hx1]
    · exfalso
      have hjs : j < ops.size := (Array.getElem?_eq_some_iff.1 ho).1
      simp [hjs] at hj

theorem code_sound (hS0 : ∀ b, S0 b → b < w0.heap.size) (hsp : SpecOk P sp) (k : Nat) : ∀ (sc : SC) (c : Code), chkCode P N c sc = true → ∀ {Q : Exit → Act → World → Prop} {μ : Nat → Nat} {s s' : St} {ax : AX} {a : Act} {w : World},
    Rel S0 w0 N μ s a w → absCode sp k sc s = some (ax, s') → (∀ μ' a' w', Rel S0 w0 N μ' s' a' w' → Q ax.out a' w') → c.wp P Q a w := by
  intro sc
  induction sc with
  | skip =>
    intro c hc Q μ s s' ax a w R he hQ
    simp only [absCode, Option.some.injEq, Prod.mk.injEq] at he
    obtain ⟨rfl, rfl⟩ := he
    cases c <;> simp only [chkCode, Bool.false_eq_true] at hc
    · exact wp_skip (hQ _ _ _ R)
    · exact wp_label (hQ _ _ _ R)
  | region sos =>
    intro c hc Q μ s s' ax a w R he hQ
    simp only [absCode] at he
    split at he
    · rename_i s1 h1
      simp only [Option.some.injEq, Prod.mk.injEq] at he
      obtain ⟨rfl, rfl⟩ := he
      cases c
      case region id ops draw => exact region_sound hS0 hsp hc R h1 hQ
      all_goals (simp only [chkCode, Bool.false_eq_true] at hc)
    · cases he
  | seq x y ihx ihy =>
    intro c hc Q μ s s' ax a w R he hQ
    cases c
    case seq cx cy =>
      simp only [chkCode, Bool.and_eq_true] at hc
      simp only [absCode] at he
      split at he
      · rename_i s1 h1
        refine wp_seq (ihx cx hc.1 R h1 (fun μ' a' w' R' => ?_))
        exact ihy cy hc.2 R' he hQ
      · rename_i z hz
        refine wp_seq (ihx cx hc.1 R he (fun μ' a' w' R' => ?_))
        have := hQ μ' a' w' R'
        cases ax with
        | n => exact absurd he (hz s')
        | e id => exact this
        | r => exact this
    all_goals (simp only [chkCode, Bool.false_eq_true] at hc)
  | cond c' x y ihx ihy =>
    intro c hc Q μ s s' ax a w R he hQ
    cases c
    case cond c0 cx cy =>
      simp only [chkCode, Bool.and_eq_true] at hc
      simp only [absCode] at he
      split at he
      · rename_i t ht
        refine wp_cond (t := t) (R.val hc.1.1 ht).1 ?_
        cases t with
        | true => exact ihx cx hc.1.2 R (by simpa using he) hQ
        | false => exact ihy cy hc.2 R (by simpa using he) hQ
      · cases he
    all_goals (simp only [chkCode, Bool.false_eq_true] at hc)
  | block id x ih =>
    intro c hc Q μ s s' ax a w R he hQ
    cases c
    case block i cx =>
      simp only [chkCode, Bool.and_eq_true, beq_iff_eq] at hc
      obtain ⟨rfl, hc⟩ := hc
      simp only [absCode] at he
      split at he
      · rename_i j s1 h1
        refine wp_block (ih cx hc R h1 (fun μ' a' w' R' => ?_))
        show Exit.inBlock i Q (.exit j) a' w'
        simp only [Exit.inBlock]
        split at he
        · rename_i hji
          cases he
          rw [if_pos hji]
          exact hQ _ _ _ R'
        · rename_i hji
          cases he
          rw [if_neg hji]
          exact hQ _ _ _ R'
      · rename_i z hz
        refine wp_block (ih cx hc R he (fun μ' a' w' R' => ?_))
        have := hQ μ' a' w' R'
        cases ax with
        | n => exact this
        | e j => exact absurd he (hz j s')
        | r => exact this
    all_goals (simp only [chkCode, Bool.false_eq_true] at hc)
  | loop x ih =>
    intro c hc Q μ s s' ax a w R he hQ
    cases c
    case loop cx =>
      simp only [chkCode] at hc
      simp only [absCode] at he
      have key : ∀ (m : Nat) {μ : Nat → Nat} {s : St} {a : Act} {w : World}, Rel S0 w0 N μ s a w → iter (absCode sp k x) m s = some (ax, s') → Code.rounds P cx Q m a w := by
        intro m
        induction m with
        | zero => intro μ s a w R he; cases he
        | succ m ihm =>
          intro μ s a w R he
          rw [rounds_succ]
          simp only [iter] at he
          split at he
          · rename_i s1 h1
            exact ih cx hc R h1 (fun μ' a' w' R' => ihm R' he)
          · rename_i z hz
            refine ih cx hc R he (fun μ' a' w' R' => ?_)
            have := hQ μ' a' w' R'
            cases ax with
            | n => exact absurd he (hz s')
            | e j => exact this
            | r => exact this
      exact wp_loop_rounds k (key k R he)
    all_goals (simp only [chkCode, Bool.false_eq_true] at hc)
  | forget ns x ih =>
    intro c hc Q μ s s' ax a w R he hQ
    simp only [absCode] at he
    exact ih c (by cases c <;> simpa only [chkCode] using hc) (R.drop ns) he hQ
  | exit id =>
    intro c hc Q μ s s' ax a w R he hQ
    simp only [absCode, Option.some.injEq, Prod.mk.injEq] at he
    obtain ⟨rfl, rfl⟩ := he
    cases c
    case exit i =>
      simp only [chkCode, beq_iff_eq] at hc
      subst hc
      exact wp_exit (hQ _ _ _ R)
    all_goals (simp only [chkCode, Bool.false_eq_true] at hc)
  | ret =>
    intro c hc Q μ s s' ax a w R he hQ
    simp only [absCode, Option.some.injEq, Prod.mk.injEq] at he
    obtain ⟨rfl, rfl⟩ := he
    cases c
    case ret => exact wp_ret (hQ _ _ _ R)
    all_goals (simp only [chkCode, Bool.false_eq_true] at hc)
  | bad => intro c hc Q μ s s' ax a w R he hQ; cases he

/-! ### A function -/
def chkRes (P : Program) : List ResultVar → List SR → Bool
  | [], [] => true
  | .tmp t :: rs, .t n :: ss => t == n && chkRes P rs ss
  | .cell x t :: rs, .c n agg size :: ss => x == n && rowP P t == some agg && sizeP P t == some size && chkRes P rs ss
  | _, _ => false
def chkFn (P : Program) (fn : Func) (f : SF) : Bool :=
  fn.ntmps == f.ntmps && chkRes P fn.results.toList f.res && (match fn.body with | some c => chkCode P f.ntmps c f.code | none => false)

def resOne (a : Act) : ResultVar → Sem Value
  | .tmp t => pure (a.tmps.getD t undef)
  | .cell x t => do loadVar t (← asAddr (a.tmps.getD x undef))
theorem results_eq (fn : Func) (a : Act) : results fn a.tmps = (do let vs ← fn.results.mapM (resOne a); pure (if h : vs.size = 1 then vs[0] else .tuple vs)) := by
  unfold results
  congr 1
theorem res_sound {μ : Nat → Nat} {s : St} {a : Act} {w : World} (R : Rel S0 w0 N μ s a w) : ∀ (rs : List ResultVar) (ss : List SR) {l : List AP}, chkRes P rs ss = true → absRes s ss = some l →
    ∃ vs : List Value, (rs.mapM (resOne a)).run P w = .ok vs w ∧ repP (own S0 μ s.mem) w l vs
  | [], [], l, _, he => by
    simp only [absRes, Option.some.injEq] at he
    subst he
    exact ⟨[], by simp, trivial⟩
  | [], _ :: _, _, h, _ => by cases h
  | .tmp _ :: _, [], _, h, _ => by cases h
  | .cell _ _ :: _, [], _, h, _ => by cases h
  | .tmp t :: rs, .t n :: ss, l, h, he => by
    simp only [chkRes, Bool.and_eq_true, beq_iff_eq] at h
    obtain ⟨rfl, h⟩ := h
    simp only [absRes] at he
    split at he
    · rename_i ap as hap has
      cases he
      obtain ⟨vs, h1, h2⟩ := res_sound R rs ss h has
      refine ⟨a.tmps.getD t undef :: vs, ?_, ⟨?_, h2⟩⟩
      · rw [List.mapM_cons]
        simp only [resOne, Sem.run_bind, Sem.run_pure, Result.andThen_ok, h1]
      · have := R.tmp t
        unfold AV.part at hap
        split at hap
        · rename_i z hz; cases hap; rw [hz] at this; exact this
        · cases hap
    · cases he
  | .cell x t :: rs, .c n agg size :: ss, l, h, he => by
    simp only [chkRes, Bool.and_eq_true, beq_iff_eq] at h
    obtain ⟨⟨⟨rfl, hrow⟩, hsize⟩, h⟩ := h
    simp only [absRes] at he
    split at he
    · rename_i m as hm has
      obtain ⟨vs, h1, h2⟩ := res_sound R rs ss h has
      have hp : a.tmps.getD x undef = .pointer (some ⟨μ m, 0, none⟩) := by
        have := R.tmp x
        unfold AV.ptr at hm
        split at hm
        · rename_i z1 z2 hz; cases hm; rw [hz] at this; exact this.2
        · cases hm
      split at he
      · rename_i cs hcs
        obtain ⟨_, ys, zs, T, hb, hr⟩ := R.mem m cs hcs
        have hl := repL_length hr
        split at he
        · rename_i hsz
          cases agg with
          | true =>
            simp only [if_true, Option.some.injEq] at he
            subst he
            have hu : ∃ d, P.underlying t = some d ∧ d.isRow = true := by
              unfold rowP at hrow
              cases hu : P.underlying t with
              | none => simp [hu] at hrow
              | some d => exact ⟨d, rfl, by simpa [hu] using hrow⟩
            obtain ⟨d, hu, hd⟩ := hu
            refine ⟨.agg ys.toArray :: vs, ?_, ⟨⟨ys, rfl, hr⟩, h2⟩⟩
            have hrange : w.rangeAt (μ m) 0 ys := by
              have := range_of hb 0 ys.length
              simpa using this
            rw [List.mapM_cons]
            simp only [resOne, Sem.run_bind, Sem.run_pure, Result.andThen_ok, hp, asAddr, run_loadVar_mid w (μ m) 0 t ys d hrange hu hd (by rw [← hl, hsz]; exact hsize), h1]
          | false =>
            simp only [Bool.false_eq_true, if_false] at he
            split at he
            · rename_i c1
              simp only [Option.some.injEq] at he
              subst he
              cases ys with
              | nil => exact hr.elim
              | cons y ys =>
                cases ys with
                | cons _ _ => exact hr.2.elim
                | nil =>
                  refine ⟨y :: vs, ?_, ⟨hr.1, h2⟩⟩
                  have hcell : w.cell? ⟨μ m, 0, none⟩ = some y := cell_own hb rfl
                  rw [List.mapM_cons]
                  simp only [resOne, Sem.run_bind, Sem.run_pure, Result.andThen_ok, hp, asAddr, loadVar, run_isAggP hrow, Bool.false_eq_true, if_false, run_load, hcell, h1]
            · cases he
        · cases he
      · cases he
    · cases he
  | .tmp _ :: _, .c _ _ _ :: _, _, h, _ => by cases h
  | .cell _ _ :: _, .t _ :: _, _, h, _ => by cases h

theorem meets_of {f : Nat} {fn : Func} {sf : SF} {as : List AP} {r : AV} (k : Nat) (hf : P.funcs[f]? = some fn) (hchk : chkFn P fn sf = true) (hsp : SpecOk P sp) (hlen : as.length ≤ sf.ntmps) (he : absFn sp k sf as = some r) : Meets P f as r := by
  intro S w vs hS hrep
  simp only [chkFn, Bool.and_eq_true, beq_iff_eq] at hchk
  obtain ⟨⟨hn, hres⟩, hbody⟩ := hchk
  split at hbody
  · rename_i c hc
    have hvl : vs.length = as.length := by
      have : ∀ {as : List AP} {vs : List Value}, repP ⟨S, fun _ => 0, fun _ => False⟩ w as vs → as.length = vs.length := by
        intro as
        induction as with
        | nil => intro vs h; cases vs with | nil => rfl | cons _ _ => exact h.elim
        | cons x xs ih => intro vs h; cases vs with | nil => exact h.elim | cons y ys => simp [ih h.2]
      exact (this hrep).symm
    have hext : Ext ⟨S, fun _ => 0, fun _ => False⟩ w (own S (fun _ => 0) (st0 as).mem) w := ⟨fun n h => h.elim, fun b h _ => ⟨rfl, fun h' => by
      rcases h' with h' | ⟨n, hn', _⟩
      · exact h h'
      · exact hn' rfl⟩, Nat.le_refl _, fun n h => h.elim⟩
    have R : Rel S w sf.ntmps (fun _ => 0) (st0 as) { tmps := vs.toArray ++ Array.replicate (fn.ntmps - vs.toArray.size) undef, defers := [] } w := by
      refine { tmp := fun t => ?_, mem := fun n cs h => (by cases h), inj := fun n m h => absurd rfl h, below := Below.refl _ _, defers := rfl, size := by simp; omega }
      show (match as[t]? with | some a => AV.o a | none => .o (.c .u)).rep _ _ _
      cases ht : as[t]? with
      | none => trivial
      | some a =>
        obtain ⟨y, hy, hr⟩ := repP_get t hrep ht
        have hlt : t < vs.length := by
          rcases Nat.lt_or_ge t vs.length with h | h
          · exact h
          · rw [List.getElem?_eq_none h] at hy; cases hy
        have e : (vs.toArray ++ Array.replicate (fn.ntmps - vs.toArray.size) undef).getD t undef = y := by
          rw [Array.getD_eq_getD_getElem?, Array.getElem?_append_left (by simpa using hlt)]
          simp [hy]
        rw [e]
        exact AP.rep_ext hext hr
    unfold absFn at he
    have fin : ∀ {s : St} {l : List AP}, absRes s sf.res = some l → l.all (·.free) = true → r = wrapRes (l.map AP.wk) → ∀ {μ' : Nat → Nat} {a' : Act} {w' : World}, Rel S w sf.ntmps μ' s a' w' →
        a'.defers = [] ∧ ∃ v, (results fn a'.tmps).run P w' = .ok v w' ∧ (∃ v', Ending.returned v = .returned v' ∧ r.rep ⟨S, fun _ => 0, fun _ => False⟩ w' v' ∧ Below w.heap.size w w') := by
      intro s l hl hfree hr μ' a' w' R'
      obtain ⟨us, h1, h2⟩ := res_sound (P := P) R' fn.results.toList sf.res hres hl
      have h3 := freePs_rep hfree h2
      have h4' : repP ⟨S, fun _ => 0, fun _ => False⟩ w' l us := repP_ext (L := ⟨(own S μ' s.mem).S, fun _ => 0, fun _ => False⟩) ⟨fun n h => h.elim, fun b h _ => ⟨rfl, fun h' => h (.inl h')⟩, Nat.le_refl _, fun n h => h.elim⟩ h3
      have h4 := wkP_rep h4'
      refine ⟨R'.defers, (if h : us.toArray.size = 1 then us.toArray[0] else .tuple us.toArray), ?_, _, rfl, ?_, R'.below⟩
      · rw [results_eq fn a', Array.mapM_eq_mapM_toList]
        simp only [Sem.run_bind, Sem.run_map]
        rw [h1]
        simp
      · rw [hr]
        generalize l.map AP.wk = l at h4
        match l, us, h4 with
        | [], [], _ => exact ⟨[], by simp, trivial⟩
        | [x], [y], h => exact h.1
        | [x], [], h => exact h.elim
        | [x], _ :: _ :: _, h => exact h.2.elim
        | x :: x' :: l, [], h => exact h.elim
        | x :: x' :: l, [y], h => exact h.2.elim
        | x :: x' :: l, y :: y' :: us, h => exact ⟨y :: y' :: us, by simp, h⟩
        | [], _ :: _, h => exact h.elim
    split at he
    · cases he
    · rename_i ax s hax hcode
      split at he
      · rename_i l0 hl0
        split at he
        · rename_i l hl
          split at he
          · rename_i hfree
            have hr : r = wrapRes (l.map AP.wk) := by cases he; rfl
            refine calls_of_wp hf hc ?_
            refine code_sound hS hsp k sf.code c hbody R hcode (fun μ' a' w' R' => ?_)
            have := fin hl hfree hr (R'.rels hS (rowsP l0))
            cases ax with
            | n => exact this
            | e id => exact absurd rfl (hax id)
            | r => exact this
          · cases he
        · cases he
      · cases he
    · cases he
  · cases hbody
/-- The code's end, with a row of the call's own and of no elements. -/
def absFnF (sp : Spec) (k : Nat) (f : SF) (args : List AP) : Option (RT × Nat) :=
  match absCode sp k f.code (st0 args) with
  | some (.e _, _) => none
  | some (_, s) => match absRes s f.res with
    | some [.c (.s t n 0)] => some (t, n)
    | _ => none
  | none => none
theorem fresh_of {f : Nat} {fn : Func} {sf : SF} {as : List AP} {t : RT} {n : Nat} (k : Nat) (hf : P.funcs[f]? = some fn) (hchk : chkFn P fn sf = true) (hsp : SpecOk P sp) (hlen : as.length ≤ sf.ntmps) (he : absFnF sp k sf as = some (t, n)) : Fresh P f as (.o (.c (.s t n 0))) := by
  refine ⟨t, n, rfl, ?_⟩
  intro S w vs hS hrep
  simp only [chkFn, Bool.and_eq_true, beq_iff_eq] at hchk
  obtain ⟨⟨hn, hres⟩, hbody⟩ := hchk
  split at hbody
  · rename_i c hc
    have hvl : vs.length = as.length := by
      have : ∀ {as : List AP} {vs : List Value}, repP ⟨S, fun _ => 0, fun _ => False⟩ w as vs → as.length = vs.length := by
        intro as
        induction as with
        | nil => intro vs h; cases vs with | nil => rfl | cons _ _ => exact h.elim
        | cons x xs ih => intro vs h; cases vs with | nil => exact h.elim | cons y ys => simp [ih h.2]
      exact (this hrep).symm
    have hext : Ext ⟨S, fun _ => 0, fun _ => False⟩ w (own S (fun _ => 0) (st0 as).mem) w := ⟨fun n h => h.elim, fun b h _ => ⟨rfl, fun h' => by
      rcases h' with h' | ⟨n, hn', _⟩
      · exact h h'
      · exact hn' rfl⟩, Nat.le_refl _, fun n h => h.elim⟩
    have R : Rel S w sf.ntmps (fun _ => 0) (st0 as) { tmps := vs.toArray ++ Array.replicate (fn.ntmps - vs.toArray.size) undef, defers := [] } w := by
      refine { tmp := fun t => ?_, mem := fun n cs h => (by cases h), inj := fun n m h => absurd rfl h, below := Below.refl _ _, defers := rfl, size := by simp; omega }
      show (match as[t]? with | some a => AV.o a | none => .o (.c .u)).rep _ _ _
      cases ht : as[t]? with
      | none => trivial
      | some a =>
        obtain ⟨y, hy, hr⟩ := repP_get t hrep ht
        have hlt : t < vs.length := by
          rcases Nat.lt_or_ge t vs.length with h | h
          · exact h
          · rw [List.getElem?_eq_none h] at hy; cases hy
        have e : (vs.toArray ++ Array.replicate (fn.ntmps - vs.toArray.size) undef).getD t undef = y := by
          rw [Array.getD_eq_getD_getElem?, Array.getElem?_append_left (by simpa using hlt)]
          simp [hy]
        rw [e]
        exact AP.rep_ext hext hr
    unfold absFnF at he
    have fin : ∀ {s : St}, absRes s sf.res = some [.c (.s t n 0)] → ∀ {μ' : Nat → Nat} {a' : Act} {w' : World}, Rel S w sf.ntmps μ' s a' w' →
        a'.defers = [] ∧ ∃ v, (results fn a'.tmps).run P w' = .ok v w' ∧ ∃ b cap cur, Ending.returned v = .returned (.slice (some ⟨b, 0, none⟩) 0 cap) ∧ w.heap.size ≤ b ∧ w'.heap[b]? = some (.cells cur t.e (0, 0)) ∧ cur.size = cap * t.m ∧ cap ≤ maxLen ∧ Below w.heap.size w w' := by
      intro s hl μ' a' w' R'
      obtain ⟨us, h1, h2⟩ := res_sound (P := P) R' fn.results.toList sf.res hres hl
      match us, h2 with
      | [u], h2 =>
        obtain ⟨hD, cap, hu, hsh, -, hcap⟩ := h2.1
        cases hm : s.mem n with
        | none => exact absurd hm hD
        | some cs =>
          obtain ⟨hge, ys, zs, T, hb, -⟩ := R'.mem n cs hm
          have hsz := own_shape hb
          have hsh' : w'.shape? (μ' n) = some (t.e, cap * t.m) := hsh
          rw [hsh'] at hsz
          simp only [Option.some.injEq, Prod.mk.injEq] at hsz
          refine ⟨R'.defers, u, ?_, μ' n, cap, (ys ++ zs).toArray, by rw [hu]; rfl, hge, by rw [hb, hsz.1], hsz.2.symm, hcap, R'.below⟩
          rw [results_eq fn a', Array.mapM_eq_mapM_toList]
          simp only [Sem.run_bind, Sem.run_map]
          rw [h1]
          simp
      | [], h2 => exact h2.elim
      | _ :: _ :: _, h2 => exact h2.2.elim
    split at he
    · cases he
    · rename_i ax s hax hcode
      split at he
      · rename_i t' n' hl0
        simp only [Option.some.injEq, Prod.mk.injEq] at he
        obtain ⟨rfl, rfl⟩ := he
        refine calls_of_wp hf hc ?_
        refine code_sound hS hsp k sf.code c hbody R hcode (fun μ' a' w' R' => ?_)
        have := fin hl0 R'
        cases ax with
        | n => exact this
        | e id => exact absurd rfl (hax id)
        | r => exact this
      · cases he
    · cases he
  · cases hbody
end
end Go.VC
/- Specifications of functions, in a list. -/
namespace Go.VC
open Go.RowKit

theorem enters {P : Program} {f : Nat} {fn : Func} (hf : P.funcs[f]? = some fn) (hn : (fn.name == "runtime.NumGoroutine") = false) (hb : fn.body.isNone = false) : Enters P f := by
  intro args w
  have h1 : fn.name ≠ "runtime.NumGoroutine" := by simpa using hn
  have h2 : ¬ (fn.body.isNone = true) := by simp [hb]
  have h3 : fn.body ≠ none := by simpa using h2
  simp [callFunc, hf, h1, h3]

/-! ### A list of specifications -/
def spOf : List (Nat × (List AP → Option AV)) → Spec
  | [], _, _ => none
  | (g, s) :: l, f, as => if f = g then s as else spOf l f as
/-- Function f does what s tells. -/
def Ok (P : Program) (f : Nat) (s : List AP → Option AV) : Prop :=
  ∀ as r, s as = some r → (Enters P f ∧ Meets P f as r) ∨ Inline P f as r ∨ (Enters P f ∧ Fresh P f as r)
theorem specOk_nil {P : Program} : SpecOk P (spOf []) := fun f as r h => by cases h
theorem specOk_cons {P : Program} {g : Nat} {s : List AP → Option AV} {l : List (Nat × (List AP → Option AV))} (h : Ok P g s) (hl : SpecOk P (spOf l)) : SpecOk P (spOf ((g, s) :: l)) := fun f as r hr => by
  simp only [spOf] at hr
  split at hr
  · rename_i hfg
    subst hfg
    exact h as r hr
  · exact hl f as r hr
theorem ok_of {P : Program} {sp : Spec} {f : Nat} {fn : Func} {sf : SF} {s : List AP → Option AV} (hf : P.funcs[f]? = some fn) (hent : Enters P f) (hchk : chkFn P fn sf = true) (hsp : SpecOk P sp)
    (h : ∀ as r, s as = some r → as.length ≤ sf.ntmps ∧ ∃ k, absFn sp k sf as = some r) : Ok P f s := fun as r hr => by
  obtain ⟨h1, k, h2⟩ := h as r hr
  exact .inl ⟨hent, meets_of k hf hchk hsp h1 h2⟩
end Go.VC

/- What the evaluator knows of a value, and what that means in a world. -/
import Derived.Deep.MidRow
import Derived.Below
import Derived.Orders
import Derived.Laws.StructEq
set_option linter.unusedVariables false
set_option linter.unusedSimpArgs false
namespace Go.VC
open Go.RowKit

/-! ### What the evaluator knows of a value -/
/-- A cell of a row that is only read. -/
inductive QC where
  | v (x : Value)
  | r (e : IntKind) (l : List Int)
/-- Of a row of the call's own: the element's type, how many cells it has, and what kind of number it is, if it is one. -/
structure RT where
  e : TypeId
  m : Nat
  k : Option IntKind
/-- One cell: a value; a place in a variable; a place where a value stands; a row of numbers; a row of the call's own; a row of such cells; a place where such cells begin; whatever. -/
inductive AC where
  | v (x : Value)
  | p (n off : Nat)
  | k (x : Value)
  | r (e : IntKind) (l : List Int)
  | s (t : RT) (n len : Nat)
  | q (m : Nat) (cs : List QC)
  | kq (cs : List QC)
  | nil (e : IntKind)
  | u
/-- A value that is no tuple. -/
inductive AP where
  | c (a : AC)
  | g (cs : List AC)
inductive AV where
  | o (a : AP)
  | t (l : List AP)

def AP.cells : AP → List AC
  | .c a => [a]
  | .g cs => cs

/-! ### What it means -/
def Reads (S : Nat → Prop) (w : World) (e : IntKind) (y : Value) (l : List Int) : Prop :=
  (y = .slice none 0 0 ∧ l = []) ∨
  ∃ b o c, y = .slice (some ⟨b, o, none⟩) l.length c ∧ l.length ≤ c ∧ ¬ S b ∧ b < w.heap.size ∧ ∀ j, j < l.length → w.cell? ⟨b, o + j, none⟩ = some (.int e (l.getD j 0))

def QC.rep (S : Nat → Prop) (w : World) : QC → Value → Prop
  | .v x, y => y = x ∧ x.oneCell' = true
  | .r e l, y => Reads S w e y l
/-- From a place on such cells stand. -/
def Stand (S : Nat → Prop) (w : World) (b o : Nat) (cs : List QC) : Prop := ∀ j c, cs[j]? = some c → ∃ v, w.cell? ⟨b, o + j, none⟩ = some v ∧ c.rep S w v
def ReadsQ (S : Nat → Prop) (w : World) (m : Nat) (y : Value) (cs : List QC) : Prop :=
  (y = .slice none 0 0 ∧ cs = []) ∨
  ∃ b o n c, y = .slice (some ⟨b, o, none⟩) n c ∧ cs.length = n * m ∧ n ≤ c ∧ ¬ S b ∧ b < w.heap.size ∧ Stand S w b o cs

/-- How the call's own variables lie in memory: S: blocks that nothing that is read lies in; μ: the block of variable n; D: which variables there are. -/
structure Lie where
  S : Nat → Prop
  μ : Nat → Nat
  D : Nat → Prop

def AC.rep (L : Lie) (w : World) : AC → Value → Prop
  | .v x, y => y = x ∧ x.oneCell' = true
  | .p n off, y => L.D n ∧ y = .pointer (some ⟨L.μ n, off, none⟩)
  | .k x, y => x.oneCell' = true ∧ ∃ b o, y = .pointer (some ⟨b, o, none⟩) ∧ ¬ L.S b ∧ b < w.heap.size ∧ w.cell? ⟨b, o, none⟩ = some x
  | .r e l, y => Reads L.S w e y l
  | .s t n len, y => L.D n ∧ ∃ cap, y = .slice (some ⟨L.μ n, 0, none⟩) len cap ∧ w.shape? (L.μ n) = some (t.e, cap * t.m) ∧ len ≤ cap ∧ cap ≤ maxLen
  | .q m cs, y => ReadsQ L.S w m y cs
  | .kq cs, y => ∃ b o, y = .pointer (some ⟨b, o, none⟩) ∧ ¬ L.S b ∧ b < w.heap.size ∧ Stand L.S w b o cs
  | .nil _, y => y = .slice none 0 0
  | .u, _ => True

def repL (L : Lie) (w : World) : List AC → List Value → Prop
  | [], [] => True
  | a :: as, y :: ys => a.rep L w y ∧ repL L w as ys
  | _, _ => False

def AP.rep (L : Lie) (w : World) : AP → Value → Prop
  | .c a, y => a.rep L w y
  | .g cs, y => ∃ ys : List Value, y = .agg ys.toArray ∧ repL L w cs ys

def repP (L : Lie) (w : World) : List AP → List Value → Prop
  | [], [] => True
  | a :: as, y :: ys => a.rep L w y ∧ repP L w as ys
  | _, _ => False

def AV.rep (L : Lie) (w : World) : AV → Value → Prop
  | .o a, y => a.rep L w y
  | .t l, y => ∃ ys : List Value, y = .tuple ys.toArray ∧ repP L w l ys

/-! ### It stays -/
/-- From one world and lie to another: what is read stays. -/
structure Ext (L : Lie) (w : World) (L' : Lie) (w' : World) : Prop where
  D : ∀ n, L.D n → L'.D n ∧ L'.μ n = L.μ n
  blk : ∀ b, ¬ L.S b → b < w.heap.size → w'.heap[b]? = w.heap[b]? ∧ ¬ L'.S b
  size : w.heap.size ≤ w'.heap.size
  shp : ∀ n, L.D n → w'.shape? (L.μ n) = w.shape? (L.μ n)

theorem Ext.cell {L L' : Lie} {w w' : World} (h : Ext L w L' w') {b o : Nat} {x : Value} (hb : ¬ L.S b) (hlt : b < w.heap.size) (hc : w.cell? ⟨b, o, none⟩ = some x) : w'.cell? ⟨b, o, none⟩ = some x := by
  have := (h.blk b hb hlt).1
  unfold World.cell? at hc ⊢
  simp only [this]
  exact hc

theorem Reads.ext {L L' : Lie} {w w' : World} (h : Ext L w L' w') {e : IntKind} {y : Value} {l : List Int} (hr : Reads L.S w e y l) : Reads L'.S w' e y l := by
  rcases hr with hr | ⟨b, o, c, h1, h2, h3, h4, h5⟩
  · exact .inl hr
  · exact .inr ⟨b, o, c, h1, h2, (h.blk b h3 h4).2, Nat.lt_of_lt_of_le h4 h.size, fun j hj => h.cell h3 h4 (h5 j hj)⟩

theorem QC.rep_ext {L L' : Lie} {w w' : World} (h : Ext L w L' w') {c : QC} {y : Value} (hr : c.rep L.S w y) : c.rep L'.S w' y := by
  cases c with
  | v x => exact hr
  | r e l => exact Reads.ext (e := e) (l := l) h hr
theorem Stand.ext {L L' : Lie} {w w' : World} (h : Ext L w L' w') {b o : Nat} {cs : List QC} (hb : ¬ L.S b) (hlt : b < w.heap.size) (hs : Stand L.S w b o cs) : Stand L'.S w' b o cs := fun j c hj => by
  obtain ⟨v, h1, h2⟩ := hs j c hj
  exact ⟨v, h.cell hb hlt h1, QC.rep_ext h h2⟩
theorem AC.rep_ext {L L' : Lie} {w w' : World} (h : Ext L w L' w') {a : AC} {y : Value} (hr : a.rep L w y) : a.rep L' w' y := by
  cases a with
  | v x => exact hr
  | p n off => obtain ⟨h1, h2⟩ := hr; exact ⟨(h.D n h1).1, by rw [(h.D n h1).2]; exact h2⟩
  | k x => obtain ⟨h0, b, o, h1, h2, h3, h4⟩ := hr; exact ⟨h0, b, o, h1, (h.blk b h2 h3).2, Nat.lt_of_lt_of_le h3 h.size, h.cell h2 h3 h4⟩
  | r e l => exact Reads.ext (e := e) (l := l) h hr
  | s t n len =>
    obtain ⟨h1, cap, h2, h3, h4, h5⟩ := hr
    obtain ⟨h6, h7⟩ := h.D n h1
    exact ⟨h6, cap, by rw [h7]; exact h2, by rw [h7, h.shp n h1]; exact h3, h4, h5⟩
  | q m cs =>
    rcases hr with hr | ⟨b, o, n, c, h1, h2, h3, h4, h5, h6⟩
    · exact .inl hr
    · exact .inr ⟨b, o, n, c, h1, h2, h3, (h.blk b h4 h5).2, Nat.lt_of_lt_of_le h5 h.size, h6.ext h h4 h5⟩
  | kq cs =>
    obtain ⟨b, o, h1, h2, h3, h4⟩ := hr
    exact ⟨b, o, h1, (h.blk b h2 h3).2, Nat.lt_of_lt_of_le h3 h.size, h4.ext h h2 h3⟩
  | nil e => exact hr
  | u => trivial

theorem repL_ext {L L' : Lie} {w w' : World} (h : Ext L w L' w') : ∀ {as : List AC} {ys : List Value}, repL L w as ys → repL L' w' as ys
  | [], [], _ => trivial
  | [], _ :: _, hr => hr.elim
  | _ :: _, [], hr => hr.elim
  | _ :: _, _ :: _, hr => ⟨AC.rep_ext h hr.1, repL_ext h hr.2⟩

theorem AP.rep_ext {L L' : Lie} {w w' : World} (h : Ext L w L' w') {a : AP} {y : Value} (hr : a.rep L w y) : a.rep L' w' y := by
  cases a with
  | c a => exact AC.rep_ext (a := a) h hr
  | g cs => obtain ⟨ys, h1, h2⟩ := hr; exact ⟨ys, h1, repL_ext h h2⟩

theorem repP_ext {L L' : Lie} {w w' : World} (h : Ext L w L' w') : ∀ {as : List AP} {ys : List Value}, repP L w as ys → repP L' w' as ys
  | [], [], _ => trivial
  | [], _ :: _, hr => hr.elim
  | _ :: _, [], hr => hr.elim
  | _ :: _, _ :: _, hr => ⟨AP.rep_ext h hr.1, repP_ext h hr.2⟩

theorem AV.rep_ext {L L' : Lie} {w w' : World} (h : Ext L w L' w') {a : AV} {y : Value} (hr : a.rep L w y) : a.rep L' w' y := by
  cases a with
  | o a => exact AP.rep_ext (a := a) h hr
  | t l => obtain ⟨ys, h1, h2⟩ := hr; exact ⟨ys, h1, repP_ext h h2⟩

theorem repL_length {L : Lie} {w : World} : ∀ {as : List AC} {ys : List Value}, repL L w as ys → as.length = ys.length
  | [], [], _ => rfl
  | [], _ :: _, hr => hr.elim
  | _ :: _, [], hr => hr.elim
  | _ :: _, _ :: _, hr => by simp [repL_length hr.2]

theorem repL_get {L : Lie} {w : World} : ∀ {as : List AC} {ys : List Value} (i : Nat) {a : AC}, repL L w as ys → as[i]? = some a → ∃ y, ys[i]? = some y ∧ a.rep L w y
  | [], [], _, _, _, h => by simp at h
  | [], _ :: _, _, _, hr, _ => hr.elim
  | _ :: _, [], _, _, hr, _ => hr.elim
  | _ :: _, y :: _, 0, _, hr, h => by simp at h; subst h; exact ⟨y, rfl, hr.1⟩
  | _ :: _, _ :: _, i + 1, _, hr, h => by simpa using repL_get i hr.2 (by simpa using h)

theorem repL_drop {L : Lie} {w : World} : ∀ {as : List AC} {ys : List Value} (n : Nat), repL L w as ys → repL L w (as.drop n) (ys.drop n)
  | [], [], _, _ => by simp [repL]
  | [], _ :: _, _, hr => hr.elim
  | _ :: _, [], _, hr => hr.elim
  | _ :: _, _ :: _, 0, hr => hr
  | _ :: _, _ :: _, n + 1, hr => repL_drop n hr.2

theorem repL_take {L : Lie} {w : World} : ∀ {as : List AC} {ys : List Value} (n : Nat), repL L w as ys → repL L w (as.take n) (ys.take n)
  | [], [], _, _ => by simp [repL]
  | [], _ :: _, _, hr => hr.elim
  | _ :: _, [], _, hr => hr.elim
  | _ :: _, _ :: _, 0, _ => by simp [repL]
  | _ :: _, _ :: _, n + 1, hr => ⟨hr.1, repL_take n hr.2⟩

theorem repL_append {L : Lie} {w : World} : ∀ {as bs : List AC} {ys zs : List Value}, repL L w as ys → repL L w bs zs → repL L w (as ++ bs) (ys ++ zs)
  | [], _, [], _, _, h => h
  | [], _, _ :: _, _, hr, _ => hr.elim
  | _ :: _, _, [], _, hr, _ => hr.elim
  | _ :: _, _, _ :: _, _, hr, h => ⟨hr.1, repL_append hr.2 h⟩

/-- Is it known, so that it may be stored? -/
def AC.known : AC → Bool
  | .u => false
  | _ => true
theorem AC.known_one {L : Lie} {w : World} {a : AC} {y : Value} (hk : a.known = true) (hr : a.rep L w y) : y.oneCell' = true := by
  cases a with
  | v x => obtain ⟨rfl, h⟩ := hr; exact h
  | p n off => obtain ⟨_, rfl⟩ := hr; rfl
  | k x => obtain ⟨_, b, o, rfl, _⟩ := hr; rfl
  | r e l => rcases hr with ⟨rfl, _⟩ | ⟨b, o, c, rfl, _⟩ <;> rfl
  | s t n len => obtain ⟨_, cap, rfl, _⟩ := hr; rfl
  | q m cs => rcases hr with ⟨rfl, _⟩ | ⟨b, o, n, c, rfl, _⟩ <;> rfl
  | kq cs => obtain ⟨b, o, rfl, _⟩ := hr; rfl
  | nil e => cases hr; rfl
  | u => cases hk
theorem known_all {L : Lie} {w : World} : ∀ {as : List AC} {ys : List Value}, as.all (·.known) = true → repL L w as ys → ∀ y ∈ ys, y.oneCell' = true
  | [], [], _, _ => by simp
  | [], _ :: _, _, hr => hr.elim
  | _ :: _, [], _, hr => hr.elim
  | _ :: _, _ :: _, hk, hr => by
    simp only [List.all_cons, Bool.and_eq_true] at hk
    intro y hy
    rcases List.mem_cons.1 hy with rfl | hy
    · exact AC.known_one hk.1 hr.1
    · exact known_all hk.2 hr.2 y hy
end Go.VC

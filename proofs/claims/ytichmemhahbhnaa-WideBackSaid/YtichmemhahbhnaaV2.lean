/- Compact code, and the evaluator that runs it. -/
import Derived.Test.YtichmemhahbhnaaV1
import Derived.Laws.BytesArg
set_option linter.unusedVariables false
set_option linter.unusedSimpArgs false
namespace Go.VC
open Go.RowKit

/-! ### Compact code -/
inductive SA where
  | t (n : Nat)
  | k (x : Value)
  | nil (e : IntKind)
  | g (xs : List AC)
inductive SOp where
  | mv (x : SA)
  | pick (c a b : SA)
  | alloc (z : List AC)
  | box (x : SA)
  | build (z : List AC) (parts : List (Nat × Nat × SA))
  | load (agg : Bool) (size : Nat) (p : SA) (nm : Option Nat)
  | store (size : Nat) (p x : SA) (nm : Nat)
  | fld (off : Nat) (p : SA)
  | part (agg : Bool) (off size : Nat) (x : SA)
  | bin (op : BinOp) (x y : SA)
  | eqb (ne : Bool) (x y : SA)
  | eqs (ne : Bool) (ks : List IntKind) (x y : SA)
  | not (x : SA)
  | neg (x : SA)
  | cvt (k : IntKind) (x : SA)
  | ext (x : SA) (i : Nat)
  | call (f : Nat) (args : List SA)
  | len (x : SA)
  | idx (m : Nat) (x i : SA)
  | sl (x : SA) (lo hi : Option SA)
  | min (x y : SA)
  | str (x : SA)
  | eqt (ne : Bool) (x y : SA)
  | mkS (t : RT) (z : Value) (n : SA)
  | bldS (t : RT) (z : List AC) (n : Nat) (parts : List (Nat × Nat × SA))
  | app (t : RT) (x y : SA)
  | callR (f : Nat) (args : List SA)
  | callF (f : Nat) (args : List SA)
structure SOper where
  dst : Option Nat
  op : SOp
  guard : Option (Nat × Bool)
inductive SC where
  | skip
  | region (ops : List SOper)
  | seq (a b : SC)
  | cond (c : SA) (a b : SC)
  | block (id : Nat) (a : SC)
  | loop (a : SC)
  | forget (ns : List Nat) (a : SC)
  | exit (id : Nat)
  | ret
  | bad

/-! ### The evaluator -/
structure St where
  tm : Nat → AV
  mem : Nat → Option (List AC)

def upd {α : Type} (f : Nat → α) (n : Nat) (x : α) : Nat → α := fun m => if m = n then x else f m

abbrev Spec := Nat → List AP → Option AV

def SA.ev (s : St) : SA → AV
  | .t n => s.tm n
  | .k x => .o (.c (.v x))
  | .nil e => .o (.c (.nil e))
  | .g xs => .o (.g xs)

def AV.val : AV → Option Value
  | .o (.c (.v x)) => some x
  | _ => none
def AV.ptr : AV → Option (Nat × Nat)
  | .o (.c (.p n off)) => some (n, off)
  | _ => none
def AV.part : AV → Option AP
  | .o a => some a
  | _ => none
def AV.agg : AV → Option (List AC)
  | .o (.g cs) => some cs
  | _ => none
def AV.row (e : IntKind) : AV → Option (List Int)
  | .o (.c (.r e' l)) => if e = e' then some l else none
  | .o (.c (.nil _)) => some []
  | _ => none
/-- A row of whatever kind: its length. -/
def AV.rlen : AV → Option Nat
  | .o (.c (.r _ l)) => some l.length
  | .o (.c (.s _ _ n)) => some n
  | .o (.c (.q m cs)) => if m = 0 then none else some (cs.length / m)
  | .o (.c (.nil _)) => some 0
  | _ => none
def Value.b? : Value → Option Bool
  | .bool b => some b
  | _ => none
def Value.i? : Value → Option (IntKind × Int)
  | .int k n => some (k, n)
  | _ => none

def bitsV (op : BinOp) (k : IntKind) (a b : Int) : Int :=
  match op with
  | .and => k.wrap (BitVec.ofInt k.bits a &&& BitVec.ofInt k.bits b).toNat
  | .or => k.wrap (BitVec.ofInt k.bits a ||| BitVec.ofInt k.bits b).toNat
  | .xor => k.wrap (BitVec.ofInt k.bits a ^^^ BitVec.ofInt k.bits b).toNat
  | _ => k.wrap (BitVec.ofInt k.bits a &&& ~~~ BitVec.ofInt k.bits b).toNat

/-- No address of the call's own variables. -/
def AC.free : AC → Bool
  | .p _ _ => false
  | .s _ _ _ => false
  | _ => true
def AP.free : AP → Bool
  | .c a => a.free
  | .g cs => cs.all (·.free)
def AV.free : AV → Bool
  | .o a => a.free
  | .t l => l.all (·.free)
/-- Two numbers of one kind. -/
def evInt (op : BinOp) (k : IntKind) (a b : Int) : Option Value :=
  match op with
  | .add => some (.int k (k.wrap (a + b)))
  | .sub => some (.int k (k.wrap (a - b)))
  | .mul => some (.int k (k.wrap (a * b)))
  | .quo => if b = 0 then none else some (.int k (k.wrap (a.tdiv b)))
  | .rem => if b = 0 then none else some (.int k (a.tmod b))
  | .and => some (.int k (bitsV .and k a b))
  | .or => some (.int k (bitsV .or k a b))
  | .xor => some (.int k (bitsV .xor k a b))
  | .andNot => some (.int k (bitsV .andNot k a b))
  | .eql => some (.bool (a == b))
  | .neq => some (.bool (a != b))
  | .lss => some (.bool (decide (a < b)))
  | .leq => some (.bool (decide (a ≤ b)))
  | .gtr => some (.bool (decide (a > b)))
  | .geq => some (.bool (decide (a ≥ b)))
  | _ => none
def evBin (op : BinOp) (x y : Value) : Option Value :=
  match x, y with
  | .int k a, .int k' b =>
    match op with
    | .shl => if b < 0 then none else some (.int k (k.wrap (a * 2 ^ min b.toNat k.bits)))
    | .shr => if b < 0 then none else some (.int k (a.fdiv (2 ^ min b.toNat k.bits)))
    | op => if k = k' then evInt op k a b else none
  | _, _ => none

def eqCells : List IntKind → List AC → List AC → Option Bool
  | [], [], [] => some true
  | k :: ks, .v (.int k1 a) :: as, .v (.int k2 b) :: bs => if k1 = k ∧ k2 = k then (eqCells ks as bs).map fun r => (a == b) && r else none
  | _, _, _ => none

def AP.ok : AP → Bool
  | .c .u => false
  | _ => true
/-- cs with ys from place off on. -/
def splice (cs : List AC) (off : Nat) (ys : List AC) : List AC := cs.take off ++ ys ++ cs.drop (off + ys.length)

def fillA (s : St) : List AC → List (Nat × Nat × SA) → Option (List AC)
  | cs, [] => some cs
  | cs, (off, size, x) :: rest =>
    match (x.ev s).part with
    | some a => if a.ok = true ∧ a.cells.length = size ∧ off + size ≤ cs.length then fillA s (splice cs off a.cells) rest else none
    | none => none

def evArgs (s : St) : List SA → Option (List AP)
  | [] => some []
  | x :: xs => match (x.ev s).part, evArgs s xs with
    | some a, some as => some (a :: as)
    | _, _ => none

def optI (s : St) : Option SA → Int → Option Int
  | none, d => some d
  | some x, _ => match (x.ev s).val with
    | some (.int _ i) => some i
    | _ => none

/-- nil, as a row that is read. -/
def AC.wk : AC → AC
  | .nil e => .r e []
  | a => a
def AP.wk : AP → AP
  | .c a => .c a.wk
  | .g cs => .g (cs.map AC.wk)
/-! ### Rows of the call's own -/
def QC.ac : QC → AC
  | .v x => .v x
  | .r e l => .r e l
/-- What is told of the variables ns falls away. -/
def AC.kill (ns : List Nat) : AC → AC
  | .p n off => if n ∈ ns then .u else .p n off
  | .s t n len => if n ∈ ns then .u else .s t n len
  | a => a
def AP.kill (ns : List Nat) : AP → AP
  | .c a => .c (a.kill ns)
  | .g cs => .g (cs.map (·.kill ns))
def AV.kill (ns : List Nat) : AV → AV
  | .o a => .o (a.kill ns)
  | .t l => .t (l.map (·.kill ns))
def St.drop (s : St) (ns : List Nat) : St :=
  { tm := fun t => (s.tm t).kill ns, mem := fun n => if n ∈ ns then none else match s.mem n with | some cs => some (cs.map (·.kill ns)) | none => none }
/-- A row of the call's own (or nil): its variable, how many elements, its cells. -/
def ownOf (t : RT) (s : St) : AV → Option (List Nat × Nat × List AC)
  | .o (.c (.s t' n len)) => match s.mem n with
    | some cs => if t'.e = t.e ∧ t'.m = t.m ∧ len * t.m ≤ cs.length then some ([n], len, cs.take (len * t.m)) else none
    | none => none
  | .o (.c (.nil _)) => some ([], 0, [])
  | _ => none
/-- A row that is read. -/
def lieOf (m : Nat) (s : St) : AV → Option (List Nat × Nat × List AC)
  | .o (.c (.s t n len)) => match s.mem n with
    | some cs => if t.m = m ∧ len * m ≤ cs.length then some ([n], len, cs.take (len * m)) else none
    | none => none
  | .o (.c (.r e l)) => if m = 1 then some ([], l.length, l.map fun x => .v (.int e x)) else none
  | .o (.c (.q m' cs)) => if m' = m ∧ 0 < m then some ([], cs.length / m, cs.map (·.ac)) else none
  | .o (.c (.nil _)) => some ([], 0, [])
  | _ => none
def rowInts (k : IntKind) : List AC → Option (List Int)
  | [] => some []
  | .v (.int k' x) :: cs => if k' = k then
      match rowInts k cs with
      | some l => some (x :: l)
      | none => none
    else none
  | _ => none
def rowQ : List AC → Option (List QC)
  | [] => some []
  | .v x :: cs => match rowQ cs with
    | some l => some (.v x :: l)
    | none => none
  | .r e l' :: cs => match rowQ cs with
    | some l => some (.r e l' :: l)
    | none => none
  | _ => none
/-- A row of the call's own that is no longer written to. -/
def relRow (t : RT) (len : Nat) (cs : List AC) : AC :=
  if len * t.m ≤ cs.length then
    match t.k with
    | some k => if t.m = 1 then
        match rowInts k (cs.take len) with
        | some l => .r k l
        | none => .u
      else .u
    | none => match rowQ (cs.take (len * t.m)) with
      | some l => .q t.m l
      | none => .u
  else .u
def AC.rel (n : Nat) (cs : List AC) : AC → AC
  | .p n' off => if n' = n then .u else .p n' off
  | .s t n' len => if n' = n then relRow t len cs else .s t n' len
  | a => a
def AP.rel (n : Nat) (cs : List AC) : AP → AP
  | .c a => .c (a.rel n cs)
  | .g as => .g (as.map (·.rel n cs))
def AV.rel (n : Nat) (cs : List AC) : AV → AV
  | .o a => .o (a.rel n cs)
  | .t l => .t (l.map (·.rel n cs))
def St.rel (s : St) (n : Nat) : St :=
  match s.mem n with
  | some cs => { tm := fun t => (s.tm t).rel n cs, mem := fun m => if m = n then none else match s.mem m with | some c => some (c.map (·.rel n cs)) | none => none }
  | none => s
def St.rels (s : St) : List Nat → St
  | [] => s
  | n :: ns => (s.rel n).rels ns
/-- The rows of the call's own among cells. -/
def AC.rows : AC → List Nat
  | .s _ n _ => [n]
  | _ => []
def rowsL : List AC → List Nat
  | [] => []
  | c :: cs => c.rows ++ rowsL cs
def rowsP : List AP → List Nat
  | [] => []
  | a :: as => rowsL a.cells ++ rowsP as

def absOp (sp : Spec) (d : Option Nat) (o : SOp) (s : St) : Option (AV × St) :=
  match o with
  | .mv x => some (x.ev s, s)
  | .pick c a b => match (c.ev s).val with
    | some (.bool t) => some (if t then a.ev s else b.ev s, s)
    | _ => none
  | .alloc z => match d with
    | some n => match s.mem n with
      | none => some (.o (.c (.p n 0)), { s with mem := upd s.mem n (some z) })
      | some _ => none
    | none => none
  | .box x => match d, (x.ev s).part with
    | some n, some a => match s.mem n with
      | none => if a.ok = true then some (.o (.c (.p n 0)), { s with mem := upd s.mem n (some a.cells) }) else none
      | some _ => none
    | _, _ => none
  | .build z parts => match fillA s z parts with
    | some cs => some (.o (.g cs), s)
    | none => none
  | .load agg size p nm => match p.ev s with
    | .o (.c (.p n off)) => if nm = some n then
        match s.mem n with
        | some cs => if off + size ≤ cs.length then
            if agg then some (.o (.g ((cs.drop off).take size)), s)
            else match cs[off]? with
              | some a => if size = 1 then some (.o (.c a), s) else none
              | none => none
          else none
        | none => none
      else none
    | .o (.c (.k x)) => if agg then none else if size = 1 then some (.o (.c (.v x)), s) else none
    | .o (.c (.kq cs)) => if size ≤ cs.length then
        if agg then some (.o (.g ((cs.take size).map (·.ac))), s)
        else match cs[0]? with
          | some c => if size = 1 then some (.o (.c c.ac), s) else none
          | none => none
      else none
    | _ => none
  | .store size p x nm => match (p.ev s).ptr, (x.ev s).part with
    | some (n, off), some a => if nm = n then
        match s.mem n with
        | some cs => if a.cells.length = size ∧ off + size ≤ cs.length ∧ a.cells.all (·.known) = true then some (.o (.c .u), { s with mem := upd s.mem n (some (splice cs off a.cells)) }) else none
        | none => none
      else none
    | _, _ => none
  | .fld off p => match p.ev s with
    | .o (.c (.p n o)) => some (.o (.c (.p n (o + off))), s)
    | .o (.c (.kq cs)) => some (.o (.c (.kq (cs.drop off))), s)
    | _ => none
  | .part agg off size x => match (x.ev s).agg with
    | some cs => if off + size ≤ cs.length then
        if agg then some (.o (.g ((cs.drop off).take size)), s)
        else match cs[off]? with
          | some a => some (.o (.c a), s)
          | none => none
      else none
    | none => none
  | .bin op x y => match (x.ev s).val, (y.ev s).val with
    | some a, some b => match evBin op a b with
      | some v => some (.o (.c (.v v)), s)
      | none => none
    | _, _ => none
  | .eqb ne x y => match (x.ev s).val, (y.ev s).val with
    | some (.bool a), some (.bool b) => some (.o (.c (.v (.bool (if ne then !(a == b) else a == b)))), s)
    | _, _ => none
  | .eqs ne ks x y => match (x.ev s).agg, (y.ev s).agg with
    | some as, some bs => match eqCells ks as bs with
      | some r => some (.o (.c (.v (.bool (if ne then !r else r)))), s)
      | none => none
    | _, _ => none
  | .not x => match (x.ev s).val with
    | some (.bool a) => some (.o (.c (.v (.bool !a))), s)
    | _ => none
  | .neg x => match (x.ev s).val with
    | some (.int k a) => some (.o (.c (.v (.int k (k.wrap (0 - a))))), s)
    | _ => none
  | .cvt k x => match (x.ev s).val with
    | some (.int _ a) => some (.o (.c (.v (.int k (k.wrap a)))), s)
    | _ => none
  | .ext x i => match x.ev s with
    | .t l => match l[i]? with
      | some a => some (.o a, s)
      | none => none
    | _ => none
  | .call f args => match evArgs s args with
    | some as => if as.all (·.free) = true then
        match sp f (as.map AP.wk) with
        | some r => if r.free = true then some (r, s) else none
        | none => none
      else none
    | none => none
  | .len x => match (x.ev s).rlen with
    | some n => some (.o (.c (.v (.int .i64 n))), s)
    | none => none
  | .idx m x i => match (i.ev s).val with
    | some (.int _ j) => match x.ev s with
      | .o (.c (.s t n len)) => if t.m = m ∧ 0 ≤ j ∧ j < len then some (.o (.c (.p n (j.toNat * m))), s) else none
      | .o (.c (.r e l)) => if m = 1 ∧ 0 ≤ j ∧ j < l.length then some (.o (.c (.k (.int e (l.getD j.toNat 0)))), s) else none
      | .o (.c (.q m' cs)) => if m' = m ∧ 0 ≤ j ∧ j.toNat * m + m ≤ cs.length ∧ 0 < m then some (.o (.c (.kq (cs.drop (j.toNat * m)))), s) else none
      | _ => none
    | _ => none
  | .sl x lo hi => match x.ev s with
    | .o (.c (.r e l)) => match optI s lo 0, optI s hi l.length with
      | some i, some j => if 0 ≤ i ∧ i ≤ j ∧ j ≤ l.length then some (.o (.c (.r e ((l.take j.toNat).drop i.toNat))), s) else none
      | _, _ => none
    | .o (.c (.nil e)) => match optI s lo 0, optI s hi 0 with
      | some i, some j => if 0 ≤ i ∧ i ≤ j ∧ j ≤ 0 then some (.o (.c (.nil e)), s) else none
      | _, _ => none
    | _ => none
  | .min x y => match (x.ev s).val, (y.ev s).val with
    | some (.int k a), some (.int _ b) => some (.o (.c (.v (.int k (if b < a then b else a)))), s)
    | _, _ => none
  | .str x => match (x.ev s).row .u8 with
    | some l => some (.o (.c (.v (.string (strOfNums l)))), s)
    | none => none
  | .eqt ne x y => match (x.ev s).val, (y.ev s).val with
    | some (.string a), some (.string b) => some (.o (.c (.v (.bool (if ne then !(a.toList == b.toList) else a.toList == b.toList)))), s)
    | _, _ => none
  | .mkS t z n => match d, (n.ev s).val with
    | some d, some (.int _ m) => match s.mem d with
      | none => if 0 ≤ m ∧ m ≤ 1000000000000 then some (.o (.c (.s t d m.toNat)), { s with mem := upd s.mem d (some (List.replicate m.toNat (.v z))) }) else none
      | some _ => none
    | _, _ => none
  | .bldS t z n parts => match d, fillA s z parts with
    | some d, some cs => match s.mem d with
      | none => some (.o (.c (.s t d n)), { s with mem := upd s.mem d (some cs) })
      | some _ => none
    | _, _ => none
  | .app t x y => match d, ownOf t s (x.ev s), lieOf t.m s (y.ev s) with
    | some d, some (ns, a, xs), some (ms, b, ys) =>
      if (ns = [] → 0 < b) ∧ a + b ≤ 1000000000000 ∧ (s.mem d = none ∨ d ∈ ns ++ ms) ∧ ys.all (·.known) = true then
        some (.o (.c (.s t d (a + b))), ⟨(s.drop (ns ++ ms)).tm, upd (s.drop (ns ++ ms)).mem d (some ((xs ++ ys).map (·.kill (ns ++ ms))))⟩)
      else none
    | _, _, _ => none
  | .callR f args => match evArgs s args with
    | some as0 => match evArgs (s.rels (rowsP as0)) args with
      | some as => if as.all (·.free) = true then
          match sp f (as.map AP.wk) with
          | some r => if r.free = true then some (r, s.rels (rowsP as0)) else none
          | none => none
        else none
      | none => none
    | none => none
  | .callF f args => match d, evArgs s args with
    | some d, some as => if as.all (·.free) = true then
        match s.mem d, sp f (as.map AP.wk) with
        | none, some (.o (.c (.s t _ 0))) => some (.o (.c (.s t d 0)), { s with mem := upd s.mem d (some []) })
        | _, _ => none
      else none
    | _, _ => none

def St.put (s : St) (d : Option Nat) (v : AV) : St :=
  match d with
  | some n => { s with tm := upd s.tm n v }
  | none => s

def absOper (sp : Spec) (o : SOper) (s : St) : Option St :=
  match o.guard with
  | none => match absOp sp o.dst o.op s with
    | some (v, s') => some (s'.put o.dst v)
    | none => none
  | some (g, want) => match s.tm g with
    | .o (.c (.v (.bool b))) => if b = want then
        match absOp sp o.dst o.op s with
        | some (v, s') => some (s'.put o.dst v)
        | none => none
      else some (s.put o.dst (.t []))
    | .t _ => some (s.put o.dst (.t []))
    | _ => none

def absOps (sp : Spec) : List SOper → St → Option St
  | [], s => some s
  | o :: os, s => match absOper sp o s with
    | some s' => absOps sp os s'
    | none => none

inductive AX where
  | n
  | e (id : Nat)
  | r

def iter (f : St → Option (AX × St)) : Nat → St → Option (AX × St)
  | 0, _ => none
  | k + 1, s => match f s with
    | some (.n, s') => iter f k s'
    | x => x

def absCode (sp : Spec) (k : Nat) : SC → St → Option (AX × St)
  | .skip, s => some (.n, s)
  | .region ops, s => match absOps sp ops s with
    | some s' => some (.n, s')
    | none => none
  | .seq a b, s => match absCode sp k a s with
    | some (.n, s') => absCode sp k b s'
    | x => x
  | .cond c a b, s => match (c.ev s).val with
    | some (.bool t) => if t then absCode sp k a s else absCode sp k b s
    | _ => none
  | .block id a, s => match absCode sp k a s with
    | some (.e i, s') => if i = id then some (.n, s') else some (.e i, s')
    | x => x
  | .loop a, s => iter (absCode sp k a) k s
  | .forget ns a, s => absCode sp k a (s.drop ns)
  | .exit id, s => some (.e id, s)
  | .ret, s => some (.r, s)
  | .bad, _ => none

inductive SR where
  | t (n : Nat)
  | c (n : Nat) (agg : Bool) (size : Nat)
structure SF where
  ntmps : Nat
  res : List SR
  code : SC

def absRes (s : St) : List SR → Option (List AP)
  | [] => some []
  | .t n :: rs => match (s.tm n).part, absRes s rs with
    | some a, some as => some (a :: as)
    | _, _ => none
  | .c n agg size :: rs => match (s.tm n).ptr, absRes s rs with
    | some (m, 0), some as => match s.mem m with
      | some cs => if cs.length = size then
          if agg then some (.g cs :: as)
          else match cs with
            | [a] => some (.c a :: as)
            | _ => none
        else none
      | none => none
    | _, _ => none
def wrapRes : List AP → AV
  | [a] => .o a
  | l => .t l

def st0 (args : List AP) : St := { tm := fun t => match args[t]? with | some a => .o a | none => .o (.c .u), mem := fun _ => none }

def absFn (sp : Spec) (k : Nat) (f : SF) (args : List AP) : Option AV :=
  match absCode sp k f.code (st0 args) with
  | some (.e _, _) => none
  | some (_, s) => match absRes s f.res with
    | some l0 => match absRes (s.rels (rowsP l0)) f.res with
      | some l => if l.all (·.free) = true then some (wrapRes (l.map AP.wk)) else none
      | none => none
    | none => none
  | none => none
end Go.VC

/- What must hold so that the evaluator's run ends well: conditions on numbers; decoders. -/
import Derived.Test.YtanolecbepjkcaaVA
set_option linter.unusedVariables false
set_option linter.unusedSimpArgs false
set_option maxHeartbeats 2000000
set_option maxRecDepth 100000
/- Numbers of one word and of two, as the evaluator knows them. -/
namespace Go.VC

attribute [simp] absOps absOper absOp SA.ev St.put upd AV.val AV.ptr AV.part AV.agg AV.row AV.rlen AP.cells AP.ok AC.known AC.free AP.free AV.free splice fillA evArgs optI evBin evInt eqCells st0 absRes wrapRes AC.wk AP.wk rowsP rowsL AC.rows rowsIn rowsC rowsD St.rels

/-! ### Numbers wrap -/
@[simp] theorem bits_u64 : IntKind.u64.bits = 64 := rfl
@[simp] theorem bits_i64 : IntKind.i64.bits = 64 := rfl
@[simp] theorem bits_u8 : IntKind.u8.bits = 8 := rfl
theorem wrap_i64_in {n : Int} (h1 : -9223372036854775808 ≤ n) (h2 : n < 9223372036854775808) : IntKind.i64.wrap n = n := by rw [IntKind.wrap_i64]; omega
theorem wrap_u64_eq (n : Int) : IntKind.u64.wrap n = n % 18446744073709551616 := by simp [IntKind.wrap, IntKind.bits, IntKind.signed]
theorem wrap_u8_eq (n : Int) : IntKind.u8.wrap n = n % 256 := by simp [IntKind.wrap, IntKind.bits, IntKind.signed]

/-! ### Bits -/
theorem u64_bits {a : Int} (h0 : 0 ≤ a) (h1 : a < 18446744073709551616) : (BitVec.ofInt 64 a).toNat = a.toNat := by
  rw [BitVec.toNat_ofInt]
  have : a % ((2 ^ 64 : Nat) : Int) = a := by
    have : ((2 ^ 64 : Nat) : Int) = 18446744073709551616 := by decide
    rw [this]; omega
  rw [this]
theorem or_u64 {a b : Int} (ha0 : 0 ≤ a) (ha1 : a < 18446744073709551616) (hb0 : 0 ≤ b) (hb1 : b < 18446744073709551616) : bitsV .or .u64 a b = ((a.toNat ||| b.toNat : Nat) : Int) := by
  show IntKind.u64.wrap ((BitVec.ofInt 64 a ||| BitVec.ofInt 64 b).toNat : Nat) = _
  rw [BitVec.toNat_or, u64_bits ha0 ha1, u64_bits hb0 hb1, wrap_u64_eq]
  have : a.toNat ||| b.toNat < 2 ^ 64 := Nat.or_lt_two_pow (by omega) (by omega)
  omega
theorem and_u64 {a b : Int} (ha0 : 0 ≤ a) (ha1 : a < 18446744073709551616) (hb0 : 0 ≤ b) (hb1 : b < 18446744073709551616) : bitsV .and .u64 a b = ((a.toNat &&& b.toNat : Nat) : Int) := by
  show IntKind.u64.wrap ((BitVec.ofInt 64 a &&& BitVec.ofInt 64 b).toNat : Nat) = _
  rw [BitVec.toNat_and, u64_bits ha0 ha1, u64_bits hb0 hb1, wrap_u64_eq]
  have : a.toNat &&& b.toNat ≤ a.toNat := Nat.and_le_left
  omega
/-- High bits and low bits. -/
theorem or_u64_add {a b : Int} (k : Nat) (hk : k ≤ 64) (ha0 : 0 ≤ a) (ha1 : a < 18446744073709551616) (ha : a % (2 ^ k : Int) = 0) (hb0 : 0 ≤ b) (hb : b < (2 ^ k : Int)) (hb1 : b < 18446744073709551616) : bitsV .or .u64 a b = a + b := by
  rw [or_u64 ha0 ha1 hb0 hb1]
  obtain ⟨a, rfl⟩ := Int.eq_ofNat_of_zero_le ha0
  obtain ⟨b, rfl⟩ := Int.eq_ofNat_of_zero_le hb0
  have e : ((2 ^ k : Nat) : Int) = (2 ^ k : Int) := by push_cast; rfl
  rw [← e] at ha hb
  have ha' : a % 2 ^ k = 0 := by exact_mod_cast ha
  have hb' : b < 2 ^ k := by exact_mod_cast hb
  have h := Nat.two_pow_add_eq_or_of_lt hb' (a / 2 ^ k)
  have h2 : 2 ^ k * (a / 2 ^ k) = a := by have := Nat.div_add_mod a (2 ^ k); omega
  rw [h2] at h
  simp only [Int.toNat_natCast]
  rw [← h]
  push_cast
  rfl
theorem and_u64_mask {a b : Int} (k : Nat) (ha0 : 0 ≤ a) (ha1 : a < 18446744073709551616) (hb : b = (2 ^ k : Int) - 1) (hb1 : b < 18446744073709551616) : bitsV .and .u64 a b = a % (2 ^ k : Int) := by
  have e : ((2 ^ k : Nat) : Int) = (2 ^ k : Int) := by push_cast; rfl
  have hpos : 0 < 2 ^ k := Nat.two_pow_pos k
  have hb0 : 0 ≤ b := by rw [hb, ← e]; omega
  rw [and_u64 ha0 ha1 hb0 hb1]
  obtain ⟨a, rfl⟩ := Int.eq_ofNat_of_zero_le ha0
  have hbn : b.toNat = 2 ^ k - 1 := by rw [hb, ← e]; omega
  rw [hbn]
  simp only [Int.toNat_natCast]
  rw [Nat.and_two_pow_sub_one_eq_mod, ← e]
  push_cast
  rfl
theorem fdiv_pos {a b : Int} (hb : 0 ≤ b) : a.fdiv b = a / b := Int.fdiv_eq_ediv_of_nonneg a hb

/-! ### Numbers of two words -/
def lb (x : Int) : AP := .g [.v (.int .u64 (x / 18446744073709551616)), .v (.int .u64 (x % 18446744073709551616))]
def dL : AP → Option Int
  | .g [.v (.int .u64 h), .v (.int .u64 l)] => if 0 ≤ h ∧ h < 18446744073709551616 ∧ 0 ≤ l ∧ l < 18446744073709551616 then some (h * 18446744073709551616 + l) else none
  | _ => none
theorem dL_lb {x : Int} (h0 : 0 ≤ x) (h1 : x < 340282366920938463463374607431768211456) : dL (.g [.v (.int .u64 (x / 18446744073709551616)), .v (.int .u64 (x % 18446744073709551616))]) = some x := by
  simp only [dL]
  rw [if_pos (by omega)]
  congr 1
  omega
theorem dL_some {a : AP} {x : Int} (h : dL a = some x) : a = lb x ∧ 0 ≤ x ∧ x < 340282366920938463463374607431768211456 := by
  unfold dL at h
  split at h
  · split at h
    · rename_i hh
      cases h
      refine ⟨?_, by omega, by omega⟩
      unfold lb
      congr 3 <;> first | (congr 2; omega) | (congr 3; omega) | skip
    · cases h
  · cases h
/-! ### Numbers of two words with a sign -/
def wd (x : Int) : AP := .g [.v (.int .i64 (x / 18446744073709551616)), .v (.int .u64 (x % 18446744073709551616))]
def dW : AP → Option Int
  | .g [.v (.int .i64 h), .v (.int .u64 l)] => if -9223372036854775808 ≤ h ∧ h < 9223372036854775808 ∧ 0 ≤ l ∧ l < 18446744073709551616 then some (h * 18446744073709551616 + l) else none
  | _ => none
theorem dW_wd {x : Int} (h0 : -170141183460469231731687303715884105728 ≤ x) (h1 : x < 170141183460469231731687303715884105728) : dW (.g [.v (.int .i64 (x / 18446744073709551616)), .v (.int .u64 (x % 18446744073709551616))]) = some x := by
  simp only [dW]
  rw [if_pos (by omega)]
  congr 1
  omega
theorem dW_some {a : AP} {x : Int} (h : dW a = some x) : a = wd x ∧ -170141183460469231731687303715884105728 ≤ x ∧ x < 170141183460469231731687303715884105728 := by
  unfold dW at h
  split at h
  · split at h
    · rename_i hh
      cases h
      refine ⟨?_, by omega, by omega⟩
      unfold wd
      congr 3 <;> first | (congr 2; omega) | (congr 3; omega) | skip
    · cases h
  · cases h
end Go.VC
/- How the evaluator's run of a code ends, step by step. -/
namespace Go.VC

def EndsIn (o : Option (AX × St)) (Q : AX → St → Prop) : Prop :=
  match o with
  | some (a, s) => Q a s
  | none => False
theorem EndsIn.mono {o : Option (AX × St)} {Q Q' : AX → St → Prop} (h : EndsIn o Q) (hQ : ∀ a s, Q a s → Q' a s) : EndsIn o Q' := by
  unfold EndsIn at *
  split at h
  · exact hQ _ _ h
  · exact h
theorem ends_some {a : AX} {s : St} {Q : AX → St → Prop} : EndsIn (some (a, s)) Q = Q a s := _root_.id rfl
theorem ends_ite {c : Prop} [Decidable c] {x y : Option (AX × St)} {Q : AX → St → Prop} : EndsIn (if c then x else y) Q = if c then EndsIn x Q else EndsIn y Q := by split <;> rfl

theorem spOf_cons {g : Nat} {s : List AP → Option AV} {l : List (Nat × (List AP → Option AV))} {f : Nat} {as : List AP} : spOf ((g, s) :: l) f as = if f = g then s as else spOf l f as := _root_.id rfl
theorem spOf_nil {f : Nat} {as : List AP} : spOf [] f as = none := _root_.id rfl
attribute [simp] spOf_cons spOf_nil
section
variable {sp : Spec} {k : Nat} {s : St} {Q : AX → St → Prop}
theorem ends_skip : EndsIn (absCode sp k .skip s) Q = Q .n s := _root_.id rfl
theorem ends_exit {i : Nat} : EndsIn (absCode sp k (.exit i) s) Q = Q (.e i) s := _root_.id rfl
theorem ends_ret : EndsIn (absCode sp k .ret s) Q = Q .r s := _root_.id rfl
/-- What comes behind. -/
def after (sp : Spec) (k : Nat) (b : SC) (Q : AX → St → Prop) : AX → St → Prop
  | .n, s => EndsIn (absCode sp k b s) Q
  | .e i, s => Q (.e i) s
  | .r, s => Q .r s
theorem after_n {b : SC} : after sp k b Q .n s = EndsIn (absCode sp k b s) Q := _root_.id rfl
theorem after_e {b : SC} {i : Nat} : after sp k b Q (.e i) s = Q (.e i) s := _root_.id rfl
theorem after_r {b : SC} : after sp k b Q .r s = Q .r s := _root_.id rfl
theorem ends_seq {a b : SC} : EndsIn (absCode sp k (.seq a b) s) Q = EndsIn (absCode sp k a s) (after sp k b Q) := by
  simp only [absCode]
  cases h : absCode sp k a s with
  | none => rfl
  | some x =>
    obtain ⟨ax, s'⟩ := x
    cases ax <;> rfl
def inBlock (id : Nat) (Q : AX → St → Prop) : AX → St → Prop
  | .n, s => Q .n s
  | .e i, s => if i = id then Q .n s else Q (.e i) s
  | .r, s => Q .r s
theorem inBlock_n {id : Nat} : inBlock id Q .n s = Q .n s := _root_.id rfl
theorem inBlock_e {id i : Nat} : inBlock id Q (.e i) s = if i = id then Q .n s else Q (.e i) s := _root_.id rfl
theorem inBlock_r {id : Nat} : inBlock id Q .r s = Q .r s := _root_.id rfl
theorem ends_block {id : Nat} {a : SC} : EndsIn (absCode sp k (.block id a) s) Q = EndsIn (absCode sp k a s) (inBlock id Q) := by
  simp only [absCode]
  cases h : absCode sp k a s with
  | none => rfl
  | some x =>
    obtain ⟨ax, s'⟩ := x
    cases ax with
    | n => rfl
    | r => rfl
    | e i =>
      simp only [EndsIn, inBlock]
      by_cases hi : i = id
      · simp [hi]
      · simp [hi]
theorem ends_cond {c : SA} {a b : SC} : EndsIn (absCode sp k (.cond c a b) s) Q = match (c.ev s).val with
    | some (.bool t) => if t then EndsIn (absCode sp k a s) Q else EndsIn (absCode sp k b s) Q
    | _ => False := by
  simp only [absCode]
  generalize (c.ev s).val = v
  cases v with
  | none => rfl
  | some v => cases v <;> first | rfl | (rename_i t; cases t <;> rfl)
theorem ends_forget {ns : List Nat} {a : SC} : EndsIn (absCode sp k (.forget ns a) s) Q = EndsIn (absCode sp k a (s.drop ns)) Q := _root_.id rfl
def endO (o : Option St) (Q : St → Prop) : Prop :=
  match o with
  | some s => Q s
  | none => False
theorem endO_some {Q : St → Prop} : endO (some s) Q = Q s := _root_.id rfl
theorem ends_region {ops : List SOper} : EndsIn (absCode sp k (.region ops) s) Q = endO (absOps sp ops s) (Q .n) := by
  simp only [absCode]
  cases absOps sp ops s <;> rfl
theorem endO_nil {Q : St → Prop} : endO (absOps sp [] s) Q = Q s := _root_.id rfl
theorem endO_cons {o : SOper} {os : List SOper} {Q : St → Prop} : endO (absOps sp (o :: os) s) Q = endO (absOper sp o s) (fun s' => endO (absOps sp os s') Q) := by
  simp only [absOps]
  cases absOper sp o s <;> rfl
theorem endO_ite {c : Prop} [Decidable c] {x y : Option St} {Q : St → Prop} : endO (if c then x else y) Q = if c then endO x Q else endO y Q := by split <;> rfl
theorem ends_loop {a : SC} : EndsIn (absCode sp k (.loop a) s) Q = EndsIn (iter (absCode sp k a) k s) Q := _root_.id rfl
end

/-- A loop: I i holds ahead of round i; there are n rounds that go on. -/
theorem ends_iter {f : St → Option (AX × St)} {Q : AX → St → Prop} (I : Nat → St → Prop) (n : Nat) (step : ∀ i s, i < n → I i s → EndsIn (f s) (fun ax s' => match ax with | .n => I (i + 1) s' | ax => Q ax s'))
    (last : ∀ s, I n s → EndsIn (f s) (fun ax s' => match ax with | .n => False | ax => Q ax s')) : ∀ (k i : Nat) (s : St), i ≤ n → n - i < k → I i s → EndsIn (iter f k s) Q
  | 0, i, s, hi, hk, hI => by omega
  | k + 1, i, s, hi, hk, hI => by
    simp only [iter]
    by_cases hin : i < n
    · have h := step i s hin hI
      cases hf : f s with
      | none => rw [hf] at h; exact h.elim
      | some x =>
        obtain ⟨ax, s'⟩ := x
        rw [hf] at h
        cases ax with
        | n => exact ends_iter I n step last k (i + 1) s' (by omega) (by omega) h
        | e id => exact h
        | r => exact h
    · have : i = n := by omega
      subst this
      have h := last s hI
      cases hf : f s with
      | none => rw [hf] at h; exact h.elim
      | some x =>
        obtain ⟨ax, s'⟩ := x
        rw [hf] at h
        cases ax with
        | n => exact h.elim
        | e id => exact h
        | r => exact h
/-- A loop that does not say ahead how many rounds there are: m counts down. -/
theorem ends_while {f : St → Option (AX × St)} {Q : AX → St → Prop} (I : Nat → St → Prop) (step : ∀ m s, I m s → EndsIn (f s) (fun ax s' => match ax with | .n => ∃ m', m' < m ∧ I m' s' | ax => Q ax s')) :
    ∀ (k m : Nat) (s : St), m < k → I m s → EndsIn (iter f k s) Q
  | 0, m, s, hk, hI => by omega
  | k + 1, m, s, hk, hI => by
    simp only [iter]
    have h := step m s hI
    cases hf : f s with
    | none => rw [hf] at h; exact h.elim
    | some x =>
      obtain ⟨ax, s'⟩ := x
      rw [hf] at h
      cases ax with
      | n =>
        obtain ⟨m', h1, h2⟩ := h
        exact ends_while I step k m' s' (by omega) h2
      | e id => exact h
      | r => exact h

def absOut (f : SF) (s : St) : Option AV :=
  match absRes s f.res with
  | some l0 => match absRes (s.rels (rowsP l0)) f.res with
    | some l => if l.all (·.free) = true then some (wrapRes (l.map AP.wk)) else none
    | none => none
  | none => none
/-- The function's end. -/
def done (f : SF) (r : AV) : AX → St → Prop
  | .n, s => absOut f s = some r
  | .e _, _ => False
  | .r, s => absOut f s = some r
theorem done_n {f : SF} {r : AV} {s : St} : done f r .n s = (absOut f s = some r) := _root_.id rfl
theorem done_r {f : SF} {r : AV} {s : St} : done f r .r s = (absOut f s = some r) := _root_.id rfl
theorem absFn_of {sp : Spec} {k : Nat} {f : SF} {as : List AP} {r : AV} (h : EndsIn (absCode sp k f.code (st0 as)) (done f r)) : absFn sp k f as = some r := by
  unfold absFn
  cases hc : absCode sp k f.code (st0 as) with
  | none => rw [hc] at h; exact h.elim
  | some x =>
    obtain ⟨ax, s⟩ := x
    rw [hc] at h
    cases ax with
    | n => exact h
    | e i => exact h.elim
    | r => exact h
theorem ok_of' {P : Program} {sp : Spec} {f : Nat} {fn : Func} {sf : SF} {s : List AP → Option AV} (hf : P.funcs[f]? = some fn) (hent : Enters P f) (hchk : chkFn P fn sf = true) (hsp : SpecOk P sp)
    (h : ∀ as r, s as = some r → as.length ≤ sf.ntmps ∧ ∃ k, EndsIn (absCode sp k sf.code (st0 as)) (done sf r)) : Ok P f s :=
  ok_of hf hent hchk hsp fun as r hr => by
    obtain ⟨h1, k, h2⟩ := h as r hr
    exact ⟨h1, k, absFn_of h2⟩
attribute [simp] ends_skip ends_exit ends_ret after_n after_e after_r ends_seq inBlock_n inBlock_e inBlock_r ends_block ends_cond ends_forget endO_some ends_region  ends_loop absOut done_n done_r
end Go.VC
namespace Go.VC
/-- Calling f with what s speaks of, it returns what s tells. -/
def MeetsAll (P : Program) (f : Nat) (s : List AP → Option AV) : Prop := ∀ as r, s as = some r → Meets P f as r
theorem meets_all {P : Program} {sp : Spec} {f : Nat} {fn : Func} {sf : SF} {s : List AP → Option AV} (hf : P.funcs[f]? = some fn) (hchk : chkFn P fn sf = true) (hsp : SpecOk P sp)
    (h : ∀ as r, s as = some r → as.length ≤ sf.ntmps ∧ ∃ k, EndsIn (absCode sp k sf.code (st0 as)) (done sf r)) : MeetsAll P f s := fun as r hr => by
  obtain ⟨h1, k, h2⟩ := h as r hr
  exact meets_of k hf hchk hsp h1 (absFn_of h2)
theorem MeetsAll.ok {P : Program} {f : Nat} {s : List AP → Option AV} (h : MeetsAll P f s) (hent : Enters P f) : Ok P f s := fun as r hr => .inl ⟨hent, h as r hr⟩
end Go.VC
/- What must hold, so that the evaluator's run of a code ends well: each step as a condition on numbers. -/
namespace Go.VC

/-! ### One operation -/
def optK (o : Option (AV × St)) (K : AV → St → Prop) : Prop :=
  match o with
  | some (v, s') => K v s'
  | none => False
theorem optK_ite {c : Prop} [Decidable c] {v : AV} {s : St} {K : AV → St → Prop} : optK (if c then some (v, s) else none) K = (c ∧ K v s) := by
  by_cases h : c <;> simp [h, optK]
theorem optK_ite' {c : Prop} [Decidable c] {o : Option (AV × St)} {K : AV → St → Prop} : optK (if c then o else none) K = (c ∧ optK o K) := by
  by_cases h : c <;> simp [h, optK]
theorem optK_some {v : AV} {s : St} {K : AV → St → Prop} : optK (some (v, s)) K = K v s := _root_.id rfl
theorem optK_none {K : AV → St → Prop} : optK none K = False := _root_.id rfl
/-- An operation's value and state are as K wants. -/
def opW (sp : Spec) (d : Option Nat) (o : SOp) (s : St) (K : AV → St → Prop) : Prop := optK (absOp sp d o s) K
def St.setB (s : St) (g : Nat) (b : Bool) : St := { s with tm := upd s.tm g (.o (.c (.v (.bool b)))) }
def opsW (sp : Spec) (ops : List SOper) (s : St) (Q : St → Prop) : Prop := endO (absOps sp ops s) Q
/-- What comes behind an operation. -/
def nextW (sp : Spec) (d : Option Nat) (os : List SOper) (Q : St → Prop) (v : AV) (s : St) : Prop := opsW sp os (s.put d v) Q
theorem setB_eq {s : St} {g : Nat} {b : Bool} (h : s.tm g = .o (.c (.v (.bool b)))) : s.setB g b = s := by
  unfold St.setB
  have : upd s.tm g (.o (.c (.v (.bool b)))) = s.tm := by
    funext m
    unfold upd
    split
    · rename_i hm; subst hm; exact h.symm
    · rfl
  rw [this]
section
variable {sp : Spec} {d : Option Nat} {s : St} {K : AV → St → Prop} {Q : St → Prop} {os : List SOper}
theorem opsW_nil : opsW sp [] s Q = Q s := _root_.id rfl
theorem opsW_cons {o : SOp} : opsW sp (⟨d, o, none⟩ :: os) s Q = opW sp d o s (nextW sp d os Q) := by
  unfold opsW opW optK
  rw [endO_cons]
  unfold absOper
  dsimp only
  cases absOp sp d o s with
  | none => rfl
  | some x => rfl
theorem nextW_eq {v : AV} : nextW sp d os Q v s = opsW sp os (s.put d v) Q := _root_.id rfl
/-- An operation that is done if slot g is w. -/
def guardW (t : AV) (sp : Spec) (d : Option Nat) (o : SOp) (g : Nat) (w : Bool) (os : List SOper) (s : St) (Q : St → Prop) : Prop :=
  match t with
  | .o (.c (.v (.bool b))) => if b = w then opW sp d o (s.setB g w) (nextW sp d os Q) else opsW sp os ((s.setB g (!w)).put d (.t [])) Q
  | .t _ => opsW sp os (s.put d (.t [])) Q
  | _ => False
theorem guardW_b {o : SOp} {g : Nat} {w b : Bool} : guardW (.o (.c (.v (.bool b)))) sp d o g w os s Q = (if b = w then opW sp d o (s.setB g w) (nextW sp d os Q) else opsW sp os ((s.setB g (!w)).put d (.t [])) Q) := _root_.id rfl
theorem guardW_t {o : SOp} {g : Nat} {w : Bool} {l : List AP} : guardW (.t l) sp d o g w os s Q = opsW sp os (s.put d (.t [])) Q := _root_.id rfl
theorem opsW_guard {o : SOp} {g : Nat} {w : Bool} : opsW sp (⟨d, o, some (g, w)⟩ :: os) s Q = guardW (s.tm g) sp d o g w os s Q := by
  unfold opsW
  rw [endO_cons]
  unfold absOper
  dsimp only
  cases ht : s.tm g with
  | t l => rfl
  | o a =>
    cases a with
    | g cs => rfl
    | c a =>
      cases a with
      | v x =>
        cases x with
        | bool b =>
          rw [guardW_b]
          dsimp only
          by_cases hb : b = w
          · subst hb
            rw [if_pos rfl, if_pos rfl, setB_eq ht]
            unfold opW optK
            cases absOp sp d o s with
            | none => rfl
            | some x => rfl
          · have hb' : b = !w := by cases b <;> cases w <;> simp_all
            rw [if_neg hb, if_neg hb, ← hb', setB_eq ht]
            rfl
        | _ => rfl
      | _ => rfl
theorem op_mv {x : SA} : opW sp d (.mv x) s K = K (x.ev s) s := _root_.id rfl
/-! pick -/
def pickW (c a b : AV) (s : St) (K : AV → St → Prop) : Prop :=
  match c with
  | .o (.c (.v (.bool t))) => if t = true then K a s else K b s
  | _ => False
theorem pickW_b {t : Bool} {a b : AV} : pickW (.o (.c (.v (.bool t)))) a b s K = (if t = true then K a s else K b s) := _root_.id rfl
theorem op_pick {c a b : SA} : opW sp d (.pick c a b) s K = pickW (c.ev s) (a.ev s) (b.ev s) s K := by
  unfold opW
  simp only [absOp]
  cases c.ev s with
  | t l => rfl
  | o x =>
    cases x with
    | g cs => rfl
    | c x =>
      cases x with
      | v x =>
        cases x with
        | bool t => rw [pickW_b]; cases t <;> rfl
        | _ => rfl
      | _ => rfl
/-! alloc, box -/
def allocW (m : Option (List AC)) (n : Nat) (z : List AC) (s : St) (K : AV → St → Prop) : Prop :=
  match m with
  | none => K (.o (.c (.p n 0))) { s with mem := upd s.mem n (some z) }
  | some _ => False
theorem allocW_n {n : Nat} {z : List AC} : allocW none n z s K = K (.o (.c (.p n 0))) { s with mem := upd s.mem n (some z) } := _root_.id rfl
theorem op_alloc {n : Nat} {z : List AC} : opW sp (some n) (.alloc z) s K = allocW (s.mem n) n z s K := by
  unfold opW
  simp only [absOp]
  cases s.mem n <;> rfl
def boxW (a : AV) (m : Option (List AC)) (n : Nat) (s : St) (K : AV → St → Prop) : Prop :=
  match a, m with
  | .o a, none => a.ok = true ∧ K (.o (.c (.p n 0))) { s with mem := upd s.mem n (some a.cells) }
  | _, _ => False
theorem boxW_n {n : Nat} {a : AP} : boxW (.o a) none n s K = (a.ok = true ∧ K (.o (.c (.p n 0))) { s with mem := upd s.mem n (some a.cells) }) := _root_.id rfl
theorem op_box {n : Nat} {x : SA} : opW sp (some n) (.box x) s K = boxW (x.ev s) (s.mem n) n s K := by
  unfold opW
  simp only [absOp]
  cases x.ev s with
  | t l => rfl
  | o a =>
    dsimp only [AV.part]
    cases hm : s.mem n with
    | some _ => rfl
    | none => exact optK_ite
/-! build -/
def fillW (s : St) : List AC → List (Nat × Nat × SA) → (List AC → Prop) → Prop
  | cs, [], K => K cs
  | cs, (off, size, x) :: rest, K =>
    match x.ev s with
    | .o a => (a.ok = true ∧ a.cells.length = size ∧ off + size ≤ cs.length) ∧ fillW s (splice cs off a.cells) rest K
    | _ => False
def fill1 (a : AV) (s : St) (cs : List AC) (off size : Nat) (rest : List (Nat × Nat × SA)) (K : List AC → Prop) : Prop :=
  match a with
  | .o a => (a.ok = true ∧ a.cells.length = size ∧ off + size ≤ cs.length) ∧ fillW s (splice cs off a.cells) rest K
  | _ => False
theorem fill1_o {a : AP} {cs : List AC} {off size : Nat} {rest : List (Nat × Nat × SA)} {K : List AC → Prop} : fill1 (.o a) s cs off size rest K = ((a.ok = true ∧ a.cells.length = size ∧ off + size ≤ cs.length) ∧ fillW s (splice cs off a.cells) rest K) := _root_.id rfl
theorem fillW_nil {cs : List AC} {K : List AC → Prop} : fillW s cs [] K = K cs := _root_.id rfl
theorem fillW_cons {cs : List AC} {off size : Nat} {x : SA} {rest : List (Nat × Nat × SA)} {K : List AC → Prop} : fillW s cs ((off, size, x) :: rest) K = fill1 (x.ev s) s cs off size rest K := _root_.id rfl
theorem fillW_eq {K : List AC → Prop} : ∀ {ps : List (Nat × Nat × SA)} {cs : List AC}, (match fillA s cs ps with | some l => K l | none => False) = fillW s cs ps K
  | [], cs => rfl
  | (off, size, x) :: ps, cs => by
    simp only [fillA, fillW]
    cases x.ev s with
    | t l => rfl
    | o a =>
      dsimp only [AV.part]
      by_cases h : a.ok = true ∧ a.cells.length = size ∧ off + size ≤ cs.length
      · rw [if_pos h, fillW_eq (ps := ps)]
        exact propext ⟨fun h' => ⟨h, h'⟩, fun h' => h'.2⟩
      · rw [if_neg h]
        exact propext ⟨fun h' => h'.elim, fun h' => h h'.1⟩
def builtW (s : St) (K : AV → St → Prop) (cs : List AC) : Prop := K (.o (.g cs)) s
theorem builtW_eq {cs : List AC} : builtW s K cs = K (.o (.g cs)) s := _root_.id rfl
theorem op_build {z : List AC} {ps : List (Nat × Nat × SA)} : opW sp d (.build z ps) s K = fillW s z ps (builtW s K) := by
  rw [← fillW_eq]
  unfold opW
  simp only [absOp]
  cases fillA s z ps <;> rfl
/-! load, store -/
def getW (a : Option AC) (size : Nat) (s : St) (K : AV → St → Prop) : Prop :=
  match a with
  | some a => size = 1 ∧ K (.o (.c a)) s
  | none => False
theorem getW_some {a : AC} {size : Nat} : getW (some a) size s K = (size = 1 ∧ K (.o (.c a)) s) := _root_.id rfl
def ldW (agg : Bool) (size off : Nat) (m : Option (List AC)) (s : St) (K : AV → St → Prop) : Prop :=
  match m, agg with
  | some cs, true => off + size ≤ cs.length ∧ K (.o (.g ((cs.drop off).take size))) s
  | some cs, false => off + size ≤ cs.length ∧ getW cs[off]? size s K
  | none, _ => False
theorem ldW_t {size off : Nat} {cs : List AC} : ldW true size off (some cs) s K = (off + size ≤ cs.length ∧ K (.o (.g ((cs.drop off).take size))) s) := _root_.id rfl
theorem ldW_f {size off : Nat} {cs : List AC} : ldW false size off (some cs) s K = (off + size ≤ cs.length ∧ getW cs[off]? size s K) := _root_.id rfl
theorem ldW_eq {s : St} {K : AV → St → Prop} {agg : Bool} {size off : Nat} {cs : List AC} : optK (if off + size ≤ cs.length then
            if agg then some (.o (.g ((cs.drop off).take size)), s)
            else match cs[off]? with
              | some a => if size = 1 then some (.o (.c a), s) else none
              | none => none
          else none) K = ldW agg size off (some cs) s K := by
  rw [optK_ite']
  cases agg with
  | true => rfl
  | false =>
    rw [ldW_f]
    simp only [Bool.false_eq_true, if_false]
    cases cs[off]? with
    | none => rfl
    | some a => dsimp only; rw [optK_ite]; rfl
def loadW (p : AV) (agg : Bool) (size : Nat) (nm : Option Nat) (s : St) (K : AV → St → Prop) : Prop :=
  match p with
  | .o (.c (.p n off)) => nm = some n ∧ ldW agg size off (s.mem n) s K
  | .o (.c (.k x)) => agg = false ∧ size = 1 ∧ K (.o (.c (.v x))) s
  | .o (.c (.kq cs)) => ldW agg size 0 (some (cs.map (·.ac))) s K
  | _ => False
theorem loadW_p {n off size : Nat} {agg : Bool} {nm : Option Nat} : loadW (.o (.c (.p n off))) agg size nm s K = (nm = some n ∧ ldW agg size off (s.mem n) s K) := _root_.id rfl
theorem loadW_k {x : Value} {size : Nat} {agg : Bool} {nm : Option Nat} : loadW (.o (.c (.k x))) agg size nm s K = (agg = false ∧ size = 1 ∧ K (.o (.c (.v x))) s) := _root_.id rfl
theorem loadW_q {cs : List QC} {size : Nat} {agg : Bool} {nm : Option Nat} : loadW (.o (.c (.kq cs))) agg size nm s K = ldW agg size 0 (some (cs.map (·.ac))) s K := _root_.id rfl
theorem op_load {agg : Bool} {size : Nat} {p : SA} {nm : Option Nat} : opW sp d (.load agg size p nm) s K = loadW (p.ev s) agg size nm s K := by
  unfold opW
  simp only [absOp]
  cases p.ev s with
  | t l => rfl
  | o a =>
    cases a with
    | g cs => rfl
    | c a =>
      cases a with
      | p n off =>
        dsimp only
        rw [optK_ite', loadW_p]
        cases s.mem n with
        | none => cases agg <;> rfl
        | some cs => dsimp only; congr 1; exact ldW_eq
      | k x =>
        dsimp only
        rw [loadW_k]
        cases agg with
        | true => simp [optK_none]
        | false => simp only [Bool.false_eq_true, if_false]; rw [optK_ite]; simp
      | kq cs =>
        dsimp only
        rw [loadW_q, ← ldW_eq]
        simp only [Nat.zero_add, List.length_map, List.drop_zero, List.map_take, List.getElem?_map]
        congr 2
        cases agg with
        | true => simp
        | false => simp only [Bool.false_eq_true, if_false]; cases cs[0]? <;> rfl
      | _ => rfl
def stW (m : Option (List AC)) (a : AP) (n off size : Nat) (s : St) (K : AV → St → Prop) : Prop :=
  match m with
  | some cs => (a.cells.length = size ∧ off + size ≤ cs.length ∧ a.cells.all (·.known) = true) ∧ K (.o (.c .u)) { s with mem := upd s.mem n (some (splice cs off a.cells)) }
  | none => False
theorem stW_some {cs : List AC} {a : AP} {n off size : Nat} : stW (some cs) a n off size s K = ((a.cells.length = size ∧ off + size ≤ cs.length ∧ a.cells.all (·.known) = true) ∧ K (.o (.c .u)) { s with mem := upd s.mem n (some (splice cs off a.cells)) }) := _root_.id rfl
def storeW (p x : AV) (n size : Nat) (s : St) (K : AV → St → Prop) : Prop :=
  match p, x with
  | .o (.c (.p m off)), .o a => n = m ∧ stW (s.mem m) a m off size s K
  | _, _ => False
theorem storeW_p {a : AP} {m n off size : Nat} : storeW (.o (.c (.p m off))) (.o a) n size s K = (n = m ∧ stW (s.mem m) a m off size s K) := _root_.id rfl
theorem op_store {size n : Nat} {p x : SA} : opW sp d (.store size p x n) s K = storeW (p.ev s) (x.ev s) n size s K := by
  unfold opW
  simp only [absOp]
  cases p.ev s with
  | t l => rfl
  | o q =>
    cases q with
    | g cs => rfl
    | c q =>
      cases q with
      | p m off =>
        cases x.ev s with
        | t l => rfl
        | o a =>
          dsimp only [AV.ptr, AV.part]
          rw [optK_ite', storeW_p]
          cases s.mem m with
          | none => rfl
          | some cs => dsimp only; rw [optK_ite]; rfl
      | _ => rfl
def fldW (p : AV) (off : Nat) (s : St) (K : AV → St → Prop) : Prop :=
  match p with
  | .o (.c (.p n o)) => K (.o (.c (.p n (o + off)))) s
  | .o (.c (.kq cs)) => K (.o (.c (.kq (cs.drop off)))) s
  | _ => False
theorem fldW_p {n o off : Nat} : fldW (.o (.c (.p n o))) off s K = K (.o (.c (.p n (o + off)))) s := _root_.id rfl
theorem fldW_q {cs : List QC} {off : Nat} : fldW (.o (.c (.kq cs))) off s K = K (.o (.c (.kq (cs.drop off)))) s := _root_.id rfl
theorem op_fld {off : Nat} {p : SA} : opW sp d (.fld off p) s K = fldW (p.ev s) off s K := by
  unfold opW
  simp only [absOp]
  cases p.ev s with
  | t l => rfl
  | o a =>
    cases a with
    | g cs => rfl
    | c a => cases a <;> rfl
def get2W (a : Option AC) (s : St) (K : AV → St → Prop) : Prop :=
  match a with
  | some a => K (.o (.c a)) s
  | none => False
theorem get2W_some {a : AC} : get2W (some a) s K = K (.o (.c a)) s := _root_.id rfl
def partW (x : AV) (agg : Bool) (off size : Nat) (s : St) (K : AV → St → Prop) : Prop :=
  match x, agg with
  | .o (.g cs), true => off + size ≤ cs.length ∧ K (.o (.g ((cs.drop off).take size))) s
  | .o (.g cs), false => off + size ≤ cs.length ∧ get2W cs[off]? s K
  | _, _ => False
theorem partW_t {cs : List AC} {off size : Nat} : partW (.o (.g cs)) true off size s K = (off + size ≤ cs.length ∧ K (.o (.g ((cs.drop off).take size))) s) := _root_.id rfl
theorem partW_f {cs : List AC} {off size : Nat} : partW (.o (.g cs)) false off size s K = (off + size ≤ cs.length ∧ get2W cs[off]? s K) := _root_.id rfl
theorem op_part {agg : Bool} {off size : Nat} {x : SA} : opW sp d (.part agg off size x) s K = partW (x.ev s) agg off size s K := by
  unfold opW
  simp only [absOp]
  cases x.ev s with
  | t l => cases agg <;> rfl
  | o a =>
    cases a with
    | c a => cases agg <;> rfl
    | g cs =>
      dsimp only [AV.agg]
      rw [optK_ite']
      cases agg with
      | true => rfl
      | false =>
        rw [partW_f]
        simp only [Bool.false_eq_true, if_false]
        cases cs[off]? <;> rfl
/-! numbers -/
def vK (s : St) (K : AV → St → Prop) (v : Value) : Prop := K (.o (.c (.v v))) s
theorem vK_eq {v : Value} : vK s K v = K (.o (.c (.v v))) s := _root_.id rfl
def binW (op : BinOp) (x y : AV) (K : Value → Prop) : Prop :=
  match x, y with
  | .o (.c (.v (.int k a))), .o (.c (.v (.int k' b))) =>
    match op with
    | .shl => 0 ≤ b ∧ K (.int k (k.wrap (a * 2 ^ min b.toNat k.bits)))
    | .shr => 0 ≤ b ∧ K (.int k (a.fdiv (2 ^ min b.toNat k.bits)))
    | .add => k = k' ∧ K (.int k (k.wrap (a + b)))
    | .sub => k = k' ∧ K (.int k (k.wrap (a - b)))
    | .mul => k = k' ∧ K (.int k (k.wrap (a * b)))
    | .quo => k = k' ∧ b ≠ 0 ∧ K (.int k (k.wrap (a.tdiv b)))
    | .rem => k = k' ∧ b ≠ 0 ∧ K (.int k (a.tmod b))
    | .and => k = k' ∧ K (.int k (bitsV .and k a b))
    | .or => k = k' ∧ K (.int k (bitsV .or k a b))
    | .xor => k = k' ∧ K (.int k (bitsV .xor k a b))
    | .andNot => k = k' ∧ K (.int k (bitsV .andNot k a b))
    | .eql => k = k' ∧ K (.bool (decide (a = b)))
    | .neq => k = k' ∧ K (.bool (decide (a ≠ b)))
    | .lss => k = k' ∧ K (.bool (decide (a < b)))
    | .leq => k = k' ∧ K (.bool (decide (a ≤ b)))
    | .gtr => k = k' ∧ K (.bool (decide (b < a)))
    | .geq => k = k' ∧ K (.bool (decide (b ≤ a)))
  | _, _ => False
section
variable {k k' : IntKind} {a b : Int} {K : Value → Prop}
theorem binW_shl : binW .shl (.o (.c (.v (.int k a)))) (.o (.c (.v (.int k' b)))) K = (0 ≤ b ∧ K (.int k (k.wrap (a * 2 ^ min b.toNat k.bits)))) := _root_.id rfl
theorem binW_shr : binW .shr (.o (.c (.v (.int k a)))) (.o (.c (.v (.int k' b)))) K = (0 ≤ b ∧ K (.int k (a.fdiv (2 ^ min b.toNat k.bits)))) := _root_.id rfl
theorem binW_add : binW .add (.o (.c (.v (.int k a)))) (.o (.c (.v (.int k' b)))) K = (k = k' ∧ K (.int k (k.wrap (a + b)))) := _root_.id rfl
theorem binW_sub : binW .sub (.o (.c (.v (.int k a)))) (.o (.c (.v (.int k' b)))) K = (k = k' ∧ K (.int k (k.wrap (a - b)))) := _root_.id rfl
theorem binW_mul : binW .mul (.o (.c (.v (.int k a)))) (.o (.c (.v (.int k' b)))) K = (k = k' ∧ K (.int k (k.wrap (a * b)))) := _root_.id rfl
theorem binW_quo : binW .quo (.o (.c (.v (.int k a)))) (.o (.c (.v (.int k' b)))) K = (k = k' ∧ b ≠ 0 ∧ K (.int k (k.wrap (a.tdiv b)))) := _root_.id rfl
theorem binW_rem : binW .rem (.o (.c (.v (.int k a)))) (.o (.c (.v (.int k' b)))) K = (k = k' ∧ b ≠ 0 ∧ K (.int k (a.tmod b))) := _root_.id rfl
theorem binW_and : binW .and (.o (.c (.v (.int k a)))) (.o (.c (.v (.int k' b)))) K = (k = k' ∧ K (.int k (bitsV .and k a b))) := _root_.id rfl
theorem binW_or : binW .or (.o (.c (.v (.int k a)))) (.o (.c (.v (.int k' b)))) K = (k = k' ∧ K (.int k (bitsV .or k a b))) := _root_.id rfl
theorem binW_xor : binW .xor (.o (.c (.v (.int k a)))) (.o (.c (.v (.int k' b)))) K = (k = k' ∧ K (.int k (bitsV .xor k a b))) := _root_.id rfl
theorem binW_andNot : binW .andNot (.o (.c (.v (.int k a)))) (.o (.c (.v (.int k' b)))) K = (k = k' ∧ K (.int k (bitsV .andNot k a b))) := _root_.id rfl
theorem binW_eql : binW .eql (.o (.c (.v (.int k a)))) (.o (.c (.v (.int k' b)))) K = (k = k' ∧ K (.bool (decide (a = b)))) := _root_.id rfl
theorem binW_neq : binW .neq (.o (.c (.v (.int k a)))) (.o (.c (.v (.int k' b)))) K = (k = k' ∧ K (.bool (decide (a ≠ b)))) := _root_.id rfl
theorem binW_lss : binW .lss (.o (.c (.v (.int k a)))) (.o (.c (.v (.int k' b)))) K = (k = k' ∧ K (.bool (decide (a < b)))) := _root_.id rfl
theorem binW_leq : binW .leq (.o (.c (.v (.int k a)))) (.o (.c (.v (.int k' b)))) K = (k = k' ∧ K (.bool (decide (a ≤ b)))) := _root_.id rfl
theorem binW_gtr : binW .gtr (.o (.c (.v (.int k a)))) (.o (.c (.v (.int k' b)))) K = (k = k' ∧ K (.bool (decide (b < a)))) := _root_.id rfl
theorem binW_geq : binW .geq (.o (.c (.v (.int k a)))) (.o (.c (.v (.int k' b)))) K = (k = k' ∧ K (.bool (decide (b ≤ a)))) := _root_.id rfl
end
theorem evBin_eq {op : BinOp} {x y : Value} {K : Value → Prop} : (match evBin op x y with | some v => K v | none => False) = binW op (.o (.c (.v x))) (.o (.c (.v y))) K := by
  cases x with
  | int k a =>
    cases y with
    | int k' b =>
      simp only [evBin, binW]
      by_cases hk : k = k'
      · subst hk
        cases op <;> simp only [evInt, if_true, true_and, bne, gt_iff_lt, ge_iff_le] <;> first
          | (rfl; done)
          | (by_cases h : b < 0
             · rw [if_pos h]; simp [show ¬ (0 ≤ b) by omega]
             · rw [if_neg h]; simp [show 0 ≤ b by omega])
          | (by_cases h : b = 0
             · rw [if_pos h]; simp [h]
               done
             · rw [if_neg h]; simp [h]
               done)
          | (by_cases h : a = b
             · subst h; simp
             · have h2 : (a == b) = false := by simpa using h
               simp [h, h2])
      · cases op <;> simp only [hk, if_false, false_and] <;> 
          (by_cases h : b < 0
           · rw [if_pos h]; simp [show ¬ (0 ≤ b) by omega]
           · rw [if_neg h]; simp [show 0 ≤ b by omega])
    | _ => simp only [evBin, binW]
  | _ => simp only [evBin, binW]
theorem op_bin {op : BinOp} {x y : SA} : opW sp d (.bin op x y) s K = binW op (x.ev s) (y.ev s) (vK s K) := by
  unfold opW
  simp only [absOp]
  cases x.ev s with
  | t l => rfl
  | o a =>
    cases a with
    | g cs => rfl
    | c a =>
      cases a with
      | v a =>
        cases y.ev s with
        | t l => cases a <;> rfl
        | o b =>
          cases b with
          | g cs => cases a <;> rfl
          | c b =>
            cases b with
            | v b =>
              rw [← evBin_eq]
              dsimp only [AV.val]
              cases evBin op a b <;> rfl
            | _ => cases a <;> rfl
      | _ => rfl
def eqbW (ne : Bool) (x y : AV) (s : St) (K : AV → St → Prop) : Prop :=
  match x, y with
  | .o (.c (.v (.bool a))), .o (.c (.v (.bool b))) => K (.o (.c (.v (.bool (if ne then !(a == b) else a == b))))) s
  | _, _ => False
theorem eqbW_b {ne a b : Bool} : eqbW ne (.o (.c (.v (.bool a)))) (.o (.c (.v (.bool b)))) s K = K (.o (.c (.v (.bool (if ne then !(a == b) else a == b))))) s := _root_.id rfl
theorem op_eqb {ne : Bool} {x y : SA} : opW sp d (.eqb ne x y) s K = eqbW ne (x.ev s) (y.ev s) s K := by
  unfold opW
  simp only [absOp]
  cases x.ev s with
  | t l => rfl
  | o a =>
    cases a with
    | g cs => rfl
    | c a =>
      cases a with
      | v a =>
        cases y.ev s with
        | t l => cases a <;> rfl
        | o b =>
          cases b with
          | g cs => cases a <;> rfl
          | c b =>
            cases b with
            | v b => cases a <;> first | rfl | (cases b <;> rfl)
            | _ => cases a <;> rfl
      | _ => rfl
/-- Are cells the same? -/
def eqW : List IntKind → List AC → List AC → Prop → (Prop → Prop) → Prop
  | [], [], [], p, K => K p
  | k :: ks, .v (.int k1 a) :: as, .v (.int k2 b) :: bs, p, K => (k1 = k ∧ k2 = k) ∧ eqW ks as bs (p ∧ a = b) K
  | _, _, _, _, _ => False
def eqbK (ne : Bool) (s : St) (K : AV → St → Prop) (r : Option Bool) : Prop :=
  match r with
  | some r => K (.o (.c (.v (.bool (if ne then !r else r))))) s
  | none => False
theorem eqbK_some {ne r : Bool} : eqbK ne s K (some r) = K (.o (.c (.v (.bool (if ne then !r else r))))) s := _root_.id rfl
def eqsW (ne : Bool) (ks : List IntKind) (x y : AV) (s : St) (K : AV → St → Prop) : Prop :=
  match x, y with
  | .o (.g as), .o (.g bs) => eqbK ne s K (eqCells ks as bs)
  | _, _ => False
theorem eqsW_g {ne : Bool} {ks : List IntKind} {x y : List AC} : eqsW ne ks (.o (.g x)) (.o (.g y)) s K = eqbK ne s K (eqCells ks x y) := _root_.id rfl
theorem op_eqs {ne : Bool} {ks : List IntKind} {x y : SA} : opW sp d (.eqs ne ks x y) s K = eqsW ne ks (x.ev s) (y.ev s) s K := by
  unfold opW
  simp only [absOp]
  cases x.ev s with
  | t l => rfl
  | o a =>
    cases a with
    | c a => rfl
    | g xs =>
      cases y.ev s with
      | t l => rfl
      | o b =>
        cases b with
        | c b => rfl
        | g ys =>
          rw [eqsW_g]
          dsimp only [AV.agg]
          cases eqCells ks xs ys <;> rfl
def notW (x : AV) (s : St) (K : AV → St → Prop) : Prop :=
  match x with
  | .o (.c (.v (.bool a))) => K (.o (.c (.v (.bool !a)))) s
  | _ => False
theorem notW_b {a : Bool} : notW (.o (.c (.v (.bool a)))) s K = K (.o (.c (.v (.bool !a)))) s := _root_.id rfl
theorem op_not {x : SA} : opW sp d (.not x) s K = notW (x.ev s) s K := by
  unfold opW
  simp only [absOp]
  cases x.ev s with
  | t l => rfl
  | o a =>
    cases a with
    | g cs => rfl
    | c a =>
      cases a with
      | v a => cases a <;> rfl
      | _ => rfl
def negW (x : AV) (s : St) (K : AV → St → Prop) : Prop :=
  match x with
  | .o (.c (.v (.int k a))) => K (.o (.c (.v (.int k (k.wrap (0 - a)))))) s
  | _ => False
theorem negW_i {k : IntKind} {a : Int} : negW (.o (.c (.v (.int k a)))) s K = K (.o (.c (.v (.int k (k.wrap (0 - a)))))) s := _root_.id rfl
theorem op_neg {x : SA} : opW sp d (.neg x) s K = negW (x.ev s) s K := by
  unfold opW
  simp only [absOp]
  cases x.ev s with
  | t l => rfl
  | o a =>
    cases a with
    | g cs => rfl
    | c a =>
      cases a with
      | v a => cases a <;> rfl
      | _ => rfl
def cvtW (k : IntKind) (x : AV) (s : St) (K : AV → St → Prop) : Prop :=
  match x with
  | .o (.c (.v (.int _ a))) => K (.o (.c (.v (.int k (k.wrap a))))) s
  | _ => False
theorem cvtW_i {k k' : IntKind} {a : Int} : cvtW k (.o (.c (.v (.int k' a)))) s K = K (.o (.c (.v (.int k (k.wrap a))))) s := _root_.id rfl
theorem op_cvt {k : IntKind} {x : SA} : opW sp d (.cvt k x) s K = cvtW k (x.ev s) s K := by
  unfold opW
  simp only [absOp]
  cases x.ev s with
  | t l => rfl
  | o a =>
    cases a with
    | g cs => rfl
    | c a =>
      cases a with
      | v a => cases a <;> rfl
      | _ => rfl
def apW (a : Option AP) (s : St) (K : AV → St → Prop) : Prop :=
  match a with
  | some a => K (.o a) s
  | none => False
theorem apW_some {a : AP} : apW (some a) s K = K (.o a) s := _root_.id rfl
def extW (x : AV) (i : Nat) (s : St) (K : AV → St → Prop) : Prop :=
  match x with
  | .t l => apW l[i]? s K
  | _ => False
theorem extW_t {l : List AP} {i : Nat} : extW (.t l) i s K = apW l[i]? s K := _root_.id rfl
theorem op_ext {x : SA} {i : Nat} : opW sp d (.ext x i) s K = extW (x.ev s) i s K := by
  unfold opW
  simp only [absOp]
  cases x.ev s with
  | o a => rfl
  | t l => rw [extW_t]; dsimp only; cases l[i]? <;> rfl
/-! calls -/
/-- What a call gives. -/
def callW (o : Option AV) (s : St) (K : AV → St → Prop) : Prop :=
  match o with
  | some r => r.free = true ∧ K r s
  | none => False
theorem callW_some {r : AV} : callW (some r) s K = (r.free = true ∧ K r s) := _root_.id rfl
theorem callW_none : callW none s K = False := _root_.id rfl
theorem callW_ite0 {c : Prop} [Decidable c] {o : Option AV} : callW (if c then o else none) s K = (c ∧ callW o s K) := by
  by_cases h : c <;> simp [h, callW_none]
theorem callW_ite {c : Prop} [Decidable c] {o o' : Option AV} : callW (if c then o else o') s K = (if c then callW o s K else callW o' s K) := by
  by_cases h : c <;> simp [h]
def argsW (as : Option (List AP)) (sp : Spec) (f : Nat) (s : St) (K : AV → St → Prop) : Prop :=
  match as with
  | some as => as.all (·.free) = true ∧ callW (sp f (as.map AP.wk)) s K
  | none => False
theorem argsW_some {f : Nat} {x : List AP} : argsW (some x) sp f s K = (x.all (·.free) = true ∧ callW (sp f (x.map AP.wk)) s K) := _root_.id rfl
theorem callW_eq {o : Option AV} : optK (match o with | some r => if r.free = true then some (r, s) else none | none => none) K = callW o s K := by
  cases o with
  | none => rfl
  | some r => exact optK_ite
theorem op_call {f : Nat} {args : List SA} : opW sp d (.call f args) s K = argsW (evArgs s args) sp f s K := by
  unfold opW
  simp only [absOp]
  cases evArgs s args with
  | none => rfl
  | some x =>
    rw [argsW_some]
    dsimp only
    rw [optK_ite']; congr 1; exact callW_eq
def argsR (as : Option (List AP)) (sp : Spec) (f : Nat) (args : List SA) (s : St) (K : AV → St → Prop) : Prop :=
  match as with
  | some as0 => argsW (evArgs (s.rels (rowsD s as0)) args) sp f (s.rels (rowsD s as0)) K
  | none => False
theorem argsR_some {f : Nat} {args : List SA} {x : List AP} : argsR (some x) sp f args s K = argsW (evArgs (s.rels (rowsD s x)) args) sp f (s.rels (rowsD s x)) K := _root_.id rfl
theorem op_callR {f : Nat} {args : List SA} : opW sp d (.callR f args) s K = argsR (evArgs s args) sp f args s K := by
  unfold opW
  simp only [absOp]
  cases evArgs s args with
  | none => rfl
  | some as0 =>
    rw [argsR_some]
    dsimp only
    cases evArgs (s.rels (rowsD s as0)) args with
    | none => rfl
    | some x =>
      rw [argsW_some]
      dsimp only
      rw [optK_ite']; congr 1; exact callW_eq
/-! rows -/
def lenW (n : Option Nat) (s : St) (K : AV → St → Prop) : Prop :=
  match n with
  | some n => K (.o (.c (.v (.int .i64 n)))) s
  | none => False
theorem lenW_some {n : Nat} : lenW (some n) s K = K (.o (.c (.v (.int .i64 n)))) s := _root_.id rfl
theorem op_len {x : SA} : opW sp d (.len x) s K = lenW (x.ev s).rlen s K := by
  unfold opW
  simp only [absOp]
  cases (x.ev s).rlen <;> rfl
def idxW (i x : AV) (m : Nat) (s : St) (K : AV → St → Prop) : Prop :=
  match i with
  | .o (.c (.v (.int _ j))) => (match x with
    | .o (.c (.s t n len)) => (t.m = m ∧ 0 ≤ j ∧ j < len) ∧ K (.o (.c (.p n (j.toNat * m)))) s
    | .o (.c (.r e l)) => (m = 1 ∧ 0 ≤ j ∧ j < l.length) ∧ K (.o (.c (.k (.int e (l.getD j.toNat 0))))) s
    | .o (.c (.q m' cs)) => (m' = m ∧ 0 ≤ j ∧ j.toNat * m + m ≤ cs.length ∧ 0 < m) ∧ K (.o (.c (.kq (cs.drop (j.toNat * m))))) s
    | _ => False)
  | _ => False
section
variable {k : IntKind} {j : Int} {m : Nat}
theorem idxW_s {t : RT} {n len : Nat} : idxW (.o (.c (.v (.int k j)))) (.o (.c (.s t n len))) m s K = ((t.m = m ∧ 0 ≤ j ∧ j < len) ∧ K (.o (.c (.p n (j.toNat * m)))) s) := _root_.id rfl
theorem idxW_r {e : IntKind} {l : List Int} : idxW (.o (.c (.v (.int k j)))) (.o (.c (.r e l))) m s K = ((m = 1 ∧ 0 ≤ j ∧ j < l.length) ∧ K (.o (.c (.k (.int e (l.getD j.toNat 0))))) s) := _root_.id rfl
theorem idxW_q {m' : Nat} {cs : List QC} : idxW (.o (.c (.v (.int k j)))) (.o (.c (.q m' cs))) m s K = ((m' = m ∧ 0 ≤ j ∧ j.toNat * m + m ≤ cs.length ∧ 0 < m) ∧ K (.o (.c (.kq (cs.drop (j.toNat * m))))) s) := _root_.id rfl
end
theorem op_idx {m : Nat} {x i : SA} : opW sp d (.idx m x i) s K = idxW (i.ev s) (x.ev s) m s K := by
  unfold opW
  simp only [absOp]
  cases i.ev s with
  | t l => rfl
  | o a =>
    cases a with
    | g cs => rfl
    | c a =>
      cases a with
      | v v =>
        cases v with
        | int k j =>
          dsimp only [AV.val]
          cases x.ev s with
          | t l => rfl
          | o a =>
            cases a with
            | g cs => rfl
            | c a => cases a <;> first | rfl | exact optK_ite
        | _ => rfl
      | _ => rfl
/-- From lo to hi. -/
def sl2W (i j : Option Int) (e : IntKind) (l : List Int) (s : St) (K : AV → St → Prop) : Prop :=
  match i, j with
  | some i, some j => (0 ≤ i ∧ i ≤ j ∧ j ≤ l.length) ∧ K (.o (.c (.r e ((l.take j.toNat).drop i.toNat)))) s
  | _, _ => False
theorem sl2W_s {i j : Int} {e : IntKind} {l : List Int} : sl2W (some i) (some j) e l s K = ((0 ≤ i ∧ i ≤ j ∧ j ≤ l.length) ∧ K (.o (.c (.r e ((l.take j.toNat).drop i.toNat)))) s) := _root_.id rfl
def sl3W (i j : Option Int) (e : IntKind) (s : St) (K : AV → St → Prop) : Prop :=
  match i, j with
  | some i, some j => (0 ≤ i ∧ i ≤ j ∧ j ≤ 0) ∧ K (.o (.c (.nil e))) s
  | _, _ => False
theorem sl3W_s {i j : Int} {e : IntKind} : sl3W (some i) (some j) e s K = ((0 ≤ i ∧ i ≤ j ∧ j ≤ 0) ∧ K (.o (.c (.nil e))) s) := _root_.id rfl
def sl4W (i j : Option Int) (t : RT) (n len : Nat) (s : St) (K : AV → St → Prop) : Prop :=
  match i, j with
  | some i, some j => (i = 0 ∧ 0 ≤ j ∧ j ≤ len) ∧ K (.o (.c (.s t n j.toNat))) s
  | _, _ => False
theorem sl4W_s {i j : Int} {t : RT} {n len : Nat} : sl4W (some i) (some j) t n len s K = ((i = 0 ∧ 0 ≤ j ∧ j ≤ len) ∧ K (.o (.c (.s t n j.toNat))) s) := _root_.id rfl
def slW (x : AV) (lo hi : Option SA) (s : St) (K : AV → St → Prop) : Prop :=
  match x with
  | .o (.c (.r e l)) => sl2W (optI s lo 0) (optI s hi l.length) e l s K
  | .o (.c (.nil e)) => sl3W (optI s lo 0) (optI s hi 0) e s K
  | .o (.c (.s t n len)) => sl4W (optI s lo 0) (optI s hi len) t n len s K
  | _ => False
theorem slW_r {lo hi : Option SA} {e : IntKind} {l : List Int} : slW (.o (.c (.r e l))) lo hi s K = sl2W (optI s lo 0) (optI s hi l.length) e l s K := _root_.id rfl
theorem slW_n {lo hi : Option SA} {e : IntKind} : slW (.o (.c (.nil e))) lo hi s K = sl3W (optI s lo 0) (optI s hi 0) e s K := _root_.id rfl
theorem slW_s {lo hi : Option SA} {t : RT} {n len : Nat} : slW (.o (.c (.s t n len))) lo hi s K = sl4W (optI s lo 0) (optI s hi len) t n len s K := _root_.id rfl
theorem op_sl {x : SA} {lo hi : Option SA} : opW sp d (.sl x lo hi) s K = slW (x.ev s) lo hi s K := by
  unfold opW
  simp only [absOp]
  cases x.ev s with
  | t l => rfl
  | o a =>
    cases a with
    | g cs => rfl
    | c a =>
      cases a with
      | r e l =>
        rw [slW_r]
        dsimp only
        cases optI s lo 0 with
        | none => rfl
        | some i =>
          cases optI s hi l.length with
          | none => rfl
          | some j => exact optK_ite
      | nil e =>
        rw [slW_n]
        dsimp only
        cases optI s lo 0 with
        | none => rfl
        | some i =>
          cases optI s hi 0 with
          | none => rfl
          | some j => exact optK_ite
      | s t n len =>
        rw [slW_s]
        dsimp only
        cases optI s lo 0 with
        | none => rfl
        | some i =>
          cases optI s hi len with
          | none => rfl
          | some j => exact optK_ite
      | _ => rfl
def appZW (x : AV) (n : Option Value) (m : Option (List AC)) (d : Nat) (t : RT) (s : St) (K : AV → St → Prop) : Prop :=
  match x, n, m with
  | .o (.c (.nil _)), some (.int .i64 j), none => (0 < j ∧ j ≤ 1000000000) ∧ K (.o (.c (.s t d j.toNat))) { s with mem := upd s.mem d (some []) }
  | _, _, _ => False
theorem appZW_n {e : IntKind} {j : Int} {d : Nat} {t : RT} : appZW (.o (.c (.nil e))) (some (.int .i64 j)) none d t s K = ((0 < j ∧ j ≤ 1000000000) ∧ K (.o (.c (.s t d j.toNat))) { s with mem := upd s.mem d (some []) }) := _root_.id rfl
theorem op_appZ {d : Nat} {t : RT} {x n : SA} : opW sp (some d) (.appZ t x n) s K = appZW (x.ev s) (n.ev s).val (s.mem d) d t s K := by
  unfold opW
  simp only [absOp]
  cases x.ev s with
  | t l => rfl
  | o a =>
    cases a with
    | g cs => rfl
    | c a =>
      cases a with
      | nil e =>
        cases (n.ev s).val with
        | none => rfl
        | some v =>
          cases v with
          | int k j =>
            cases k with
            | i64 =>
              dsimp only
              cases s.mem d with
              | some _ => rfl
              | none => exact optK_ite
            | _ => rfl
          | _ => rfl
      | _ => rfl
/-! the capacity of nil; a call that gives a new row -/
def capW (x : AV) (s : St) (K : AV → St → Prop) : Prop :=
  match x with
  | .o (.c (.nil _)) => K (.o (.c (.v (.int .i64 0)))) s
  | _ => False
theorem capW_n {e : IntKind} : capW (.o (.c (.nil e))) s K = K (.o (.c (.v (.int .i64 0)))) s := _root_.id rfl
theorem op_cap {x : SA} : opW sp d (.cap x) s K = capW (x.ev s) s K := by
  unfold opW
  simp only [absOp]
  cases x.ev s with
  | t l => rfl
  | o a =>
    cases a with
    | g cs => rfl
    | c a => cases a <;> rfl
def freshW (r : Option AV) (m : Option (List AC)) (d : Nat) (s : St) (K : AV → St → Prop) : Prop :=
  match m, r with
  | none, some (.o (.c (.s t _ 0))) => K (.o (.c (.s t d 0))) { s with mem := upd s.mem d (some []) }
  | _, _ => False
theorem freshW_s {t : RT} {n d : Nat} : freshW (some (.o (.c (.s t n 0)))) none d s K = K (.o (.c (.s t d 0))) { s with mem := upd s.mem d (some []) } := _root_.id rfl
def argsF (as : Option (List AP)) (sp : Spec) (f : Nat) (m : Option (List AC)) (d : Nat) (s : St) (K : AV → St → Prop) : Prop :=
  match as with
  | some as => as.all (·.free) = true ∧ freshW (sp f as) m d s K
  | none => False
theorem argsF_some {f d : Nat} {m : Option (List AC)} {x : List AP} : argsF (some x) sp f m d s K = (x.all (·.free) = true ∧ freshW (sp f x) m d s K) := _root_.id rfl
theorem op_callF {n f : Nat} {args : List SA} : opW sp (some n) (.callF f args) s K = argsF (evArgs s args) sp f (s.mem n) n s K := by
  unfold opW
  simp only [absOp]
  cases evArgs s args with
  | none => rfl
  | some x =>
    rw [argsF_some]
    dsimp only
    rw [optK_ite']
    congr 1
    cases s.mem n with
    | some _ => rfl
    | none =>
      cases sp f x with
      | none => rfl
      | some r =>
        cases r with
        | t l => rfl
        | o a =>
          cases a with
          | g cs => rfl
          | c a =>
            cases a with
            | s t m len => cases len <;> rfl
            | _ => rfl
def minW (x y : AV) (s : St) (K : AV → St → Prop) : Prop :=
  match x, y with
  | .o (.c (.v (.int k a))), .o (.c (.v (.int _ b))) => K (.o (.c (.v (.int k (if b < a then b else a))))) s
  | _, _ => False
theorem minW_i {k k' : IntKind} {a b : Int} : minW (.o (.c (.v (.int k a)))) (.o (.c (.v (.int k' b)))) s K = K (.o (.c (.v (.int k (if b < a then b else a))))) s := _root_.id rfl
theorem op_min {x y : SA} : opW sp d (.min x y) s K = minW (x.ev s) (y.ev s) s K := by
  unfold opW
  simp only [absOp]
  cases x.ev s with
  | t l => rfl
  | o a =>
    cases a with
    | g cs => rfl
    | c a =>
      cases a with
      | v a =>
        cases y.ev s with
        | t l => cases a <;> rfl
        | o b =>
          cases b with
          | g cs => cases a <;> rfl
          | c b =>
            cases b with
            | v b => cases a <;> first | rfl | (cases b <;> rfl)
            | _ => cases a <;> rfl
      | _ => rfl
def strW (l : Option (List Int)) (s : St) (K : AV → St → Prop) : Prop :=
  match l with
  | some l => K (.o (.c (.v (.string (strOfNums l))))) s
  | none => False
theorem strW_some {l : List Int} : strW (some l) s K = K (.o (.c (.v (.string (strOfNums l))))) s := _root_.id rfl
theorem op_str {x : SA} : opW sp d (.str x) s K = strW ((x.ev s).row .u8) s K := by
  unfold opW
  simp only [absOp]
  cases (x.ev s).row .u8 <;> rfl
def eqtW (ne : Bool) (x y : AV) (s : St) (K : AV → St → Prop) : Prop :=
  match x, y with
  | .o (.c (.v (.string a))), .o (.c (.v (.string b))) => K (.o (.c (.v (.bool (if ne then !(a.toList == b.toList) else a.toList == b.toList))))) s
  | _, _ => False
theorem eqtW_s {ne : Bool} {a b : ByteArray} : eqtW ne (.o (.c (.v (.string a)))) (.o (.c (.v (.string b)))) s K = K (.o (.c (.v (.bool (if ne then !(a.toList == b.toList) else a.toList == b.toList))))) s := _root_.id rfl
theorem op_eqt {ne : Bool} {x y : SA} : opW sp d (.eqt ne x y) s K = eqtW ne (x.ev s) (y.ev s) s K := by
  unfold opW
  simp only [absOp]
  cases x.ev s with
  | t l => rfl
  | o a =>
    cases a with
    | g cs => rfl
    | c a =>
      cases a with
      | v a =>
        cases y.ev s with
        | t l => cases a <;> rfl
        | o b =>
          cases b with
          | g cs => cases a <;> rfl
          | c b =>
            cases b with
            | v b => cases a <;> first | rfl | (cases b <;> rfl)
            | _ => cases a <;> rfl
      | _ => rfl
def mkSW (x : AV) (m : Option (List AC)) (n : Nat) (t : RT) (z : Value) (s : St) (K : AV → St → Prop) : Prop :=
  match x, m with
  | .o (.c (.v (.int _ j))), none => (0 ≤ j ∧ j ≤ 1000000000000) ∧ K (.o (.c (.s t n j.toNat))) { s with mem := upd s.mem n (some (List.replicate j.toNat (.v z))) }
  | _, _ => False
theorem mkSW_n {k : IntKind} {j : Int} {n : Nat} {t : RT} {z : Value} : mkSW (.o (.c (.v (.int k j)))) none n t z s K = ((0 ≤ j ∧ j ≤ 1000000000000) ∧ K (.o (.c (.s t n j.toNat))) { s with mem := upd s.mem n (some (List.replicate j.toNat (.v z))) }) := _root_.id rfl
theorem op_mkS {n : Nat} {t : RT} {z : Value} {x : SA} : opW sp (some n) (.mkS t z x) s K = mkSW (x.ev s) (s.mem n) n t z s K := by
  unfold opW
  simp only [absOp]
  cases x.ev s with
  | t l => rfl
  | o a =>
    cases a with
    | g cs => rfl
    | c a =>
      cases a with
      | v v =>
        cases v with
        | int k m =>
          dsimp only [AV.val]
          cases s.mem n with
          | some _ => rfl
          | none => exact optK_ite
        | _ => rfl
      | _ => rfl
def bldW (s : St) (n m : Nat) (t : RT) (K : AV → St → Prop) (cs : List AC) : Prop :=
  match s.mem n with
  | none => K (.o (.c (.s t n m))) { s with mem := upd s.mem n (some cs) }
  | some _ => False
theorem bldW_eq {n m : Nat} {t : RT} {cs : List AC} : bldW s n m t K cs = (s.mem n = none ∧ K (.o (.c (.s t n m))) { s with mem := upd s.mem n (some cs) }) := by
  unfold bldW
  cases s.mem n <;> simp
theorem op_bldS {n : Nat} {t : RT} {z : List AC} {m : Nat} {ps : List (Nat × Nat × SA)} : opW sp (some n) (.bldS t z m ps) s K = fillW s z ps (bldW s n m t K) := by
  rw [← fillW_eq]
  unfold opW
  simp only [absOp]
  cases fillA s z ps with
  | none => rfl
  | some cs => unfold bldW; dsimp only; cases s.mem n <;> rfl
def bldQW (m : Nat) (t : RT) (s : St) (K : AV → St → Prop) (cs : List AC) : Prop := K (.o (.c (relRow t m cs))) s
theorem bldQW_eq {m : Nat} {t : RT} {cs : List AC} : bldQW m t s K cs = K (.o (.c (relRow t m cs))) s := _root_.id rfl
theorem op_bldQ {t : RT} {z : List AC} {m : Nat} {ps : List (Nat × Nat × SA)} : opW sp d (.bldQ t z m ps) s K = fillW s z ps (bldQW m t s K) := by
  rw [← fillW_eq]
  unfold opW
  simp only [absOp]
  cases fillA s z ps with
  | none => rfl
  | some cs => rfl
def appW (x y : Option (List Nat × Nat × List AC)) (n : Nat) (t : RT) (s : St) (K : AV → St → Prop) : Prop :=
  match x, y with
  | some (ns, a, xs), some (ms, b, ys) => ((ns = [] → 0 < b) ∧ a + b ≤ 1000000000000 ∧ (s.mem n = none ∨ n ∈ ns ++ ms) ∧ ys.all (·.known) = true) ∧
      K (.o (.c (.s t n (a + b)))) ⟨(s.drop (ns ++ ms)).tm, upd (s.drop (ns ++ ms)).mem n (some ((xs ++ ys).map (·.kill (ns ++ ms))))⟩
  | _, _ => False
theorem appW_s {ns ms : List Nat} {a b n : Nat} {xs ys : List AC} {t : RT} : appW (some (ns, a, xs)) (some (ms, b, ys)) n t s K = (((ns = [] → 0 < b) ∧ a + b ≤ 1000000000000 ∧ (s.mem n = none ∨ n ∈ ns ++ ms) ∧ ys.all (·.known) = true) ∧
      K (.o (.c (.s t n (a + b)))) ⟨(s.drop (ns ++ ms)).tm, upd (s.drop (ns ++ ms)).mem n (some ((xs ++ ys).map (·.kill (ns ++ ms))))⟩) := _root_.id rfl
theorem op_app {n : Nat} {t : RT} {x y : SA} : opW sp (some n) (.app t x y) s K = appW (ownOf t s (x.ev s)) (lieOf t.m s (y.ev s)) n t s K := by
  unfold opW
  simp only [absOp]
  cases ownOf t s (x.ev s) with
  | none => rfl
  | some x =>
    obtain ⟨ns, a, xs⟩ := x
    cases lieOf t.m s (y.ev s) with
    | none => rfl
    | some y =>
      obtain ⟨ms, b, ys⟩ := y
      exact optK_ite
end
/-! ### Code -/
def codeW (sp : Spec) (k : Nat) (c : SC) (s : St) (Q : AX → St → Prop) : Prop := EndsIn (absCode sp k c s) Q
def loopW (sp : Spec) (k : Nat) (c : SC) (n : Nat) (s : St) (Q : AX → St → Prop) : Prop := EndsIn (iter (absCode sp k c) n s) Q
section
variable {sp : Spec} {k : Nat} {s : St}
variable {Q : AX → St → Prop}
def afterW (sp : Spec) (k : Nat) (b : SC) (Q : AX → St → Prop) : AX → St → Prop
  | .n, s => codeW sp k b s Q
  | .e i, s => Q (.e i) s
  | .r, s => Q .r s
theorem afterW_n {b : SC} : afterW sp k b Q .n s = codeW sp k b s Q := _root_.id rfl
theorem afterW_e {b : SC} {i : Nat} : afterW sp k b Q (.e i) s = Q (.e i) s := _root_.id rfl
theorem afterW_r {b : SC} : afterW sp k b Q .r s = Q .r s := _root_.id rfl
theorem codeW_skip : codeW sp k .skip s Q = Q .n s := _root_.id rfl
theorem codeW_exit {i : Nat} : codeW sp k (.exit i) s Q = Q (.e i) s := _root_.id rfl
theorem codeW_ret : codeW sp k .ret s Q = Q .r s := _root_.id rfl
theorem codeW_seq {a b : SC} : codeW sp k (.seq a b) s Q = codeW sp k a s (afterW sp k b Q) := by
  unfold codeW
  rw [ends_seq]
  congr 1
theorem codeW_block {id : Nat} {a : SC} : codeW sp k (.block id a) s Q = codeW sp k a s (inBlock id Q) := ends_block
def condW (c : AV) (sp : Spec) (k : Nat) (a b : SC) (s : St) (Q : AX → St → Prop) : Prop :=
  match c with
  | .o (.c (.v (.bool t))) => if t = true then codeW sp k a s Q else codeW sp k b s Q
  | _ => False
theorem condW_b {t : Bool} {a b : SC} : condW (.o (.c (.v (.bool t)))) sp k a b s Q = (if t = true then codeW sp k a s Q else codeW sp k b s Q) := _root_.id rfl
theorem codeW_cond {c : SA} {a b : SC} : codeW sp k (.cond c a b) s Q = condW (c.ev s) sp k a b s Q := by
  unfold codeW
  rw [ends_cond]
  cases c.ev s with
  | t l => rfl
  | o x =>
    cases x with
    | g cs => rfl
    | c x =>
      cases x with
      | v x =>
        cases x with
        | bool t => rw [condW_b]; cases t <;> rfl
        | _ => rfl
      | _ => rfl
theorem codeW_forget {ns : List Nat} {a : SC} : codeW sp k (.forget ns a) s Q = codeW sp k a (s.drop ns) Q := _root_.id rfl
theorem codeW_region {ops : List SOper} : codeW sp k (.region ops) s Q = opsW sp ops s (Q .n) := ends_region
theorem codeW_loop {a : SC} : codeW sp k (.loop a) s Q = loopW sp k a k s Q := _root_.id rfl
theorem codeW_mono {c : SC} {Q' : AX → St → Prop} (h : codeW sp k c s Q) (hQ : ∀ a s, Q a s → Q' a s) : codeW sp k c s Q' := EndsIn.mono h hQ
/-- What a round leaves: on, or out. -/
def roundW (I : St → Prop) (Q : AX → St → Prop) : AX → St → Prop
  | .n, s => I s
  | .e i, s => Q (.e i) s
  | .r, s => Q .r s
theorem roundW_n {I : St → Prop} : roundW I Q .n s = I s := _root_.id rfl
theorem roundW_e {I : St → Prop} {i : Nat} : roundW I Q (.e i) s = Q (.e i) s := _root_.id rfl
theorem roundW_r {I : St → Prop} : roundW I Q .r s = Q .r s := _root_.id rfl
/-- A loop: m counts down. -/
theorem loopW_while {c : SC} (I : Nat → St → Prop) (step : ∀ m s, I m s → codeW sp k c s (roundW (fun s' => ∃ m', m' < m ∧ I m' s') Q)) : ∀ (n m : Nat) (s : St), m < n → I m s → loopW sp k c n s Q := by
  refine ends_while I (fun m s h => ?_)
  refine (step m s h).mono ?_
  intro a s' h'
  cases a <;> exact h'
/-- A loop of n rounds: i counts up. -/
theorem loopW_iter {c : SC} (I : Nat → St → Prop) (N : Nat) (step : ∀ i s, i < N → I i s → codeW sp k c s (roundW (I (i + 1)) Q)) (last : ∀ s, I N s → codeW sp k c s (roundW (fun _ => False) Q)) (n : Nat) (s : St) (hn : N < n) (h : I 0 s) : loopW sp k c n s Q := by
  refine ends_iter I N (fun i s hi h => ?_) (fun s h => ?_) n 0 s (by omega) (by omega) h
  · refine (step i s hi h).mono ?_
    intro a s' h'
    cases a <;> exact h'
  · refine (last s h).mono ?_
    intro a s' h'
    cases a <;> exact h'
end
attribute [simp] St.setB opsW_nil opsW_cons opsW_guard nextW_eq guardW_b guardW_t op_mv op_pick pickW_b op_alloc allocW_n op_box boxW_n op_build fillW_nil fillW_cons fill1_o builtW_eq op_load getW_some ldW_t ldW_f loadW_p loadW_k loadW_q op_store stW_some storeW_p op_fld fldW_p fldW_q op_part get2W_some partW_t partW_f vK_eq op_bin binW_shl binW_shr binW_add binW_sub binW_mul binW_quo binW_rem binW_and binW_or binW_xor binW_andNot binW_eql binW_neq binW_lss binW_leq binW_gtr binW_geq op_eqb eqbW_b op_eqs eqsW_g eqbK_some op_not notW_b op_neg negW_i op_cvt cvtW_i op_ext extW_t apW_some op_call argsW_some callW_some callW_none callW_ite0 callW_ite op_callR argsR_some op_len lenW_some op_idx idxW_s idxW_r idxW_q op_sl slW_r slW_n sl2W_s sl3W_s sl4W_s slW_s op_cap capW_n op_appZ appZW_n op_callF freshW_s argsF_some op_min minW_i op_str strW_some op_eqt eqtW_s op_mkS mkSW_n op_bldS bldW_eq op_bldQ bldQW_eq op_app appW_s afterW_n afterW_e afterW_r codeW_skip codeW_exit codeW_ret codeW_seq codeW_block codeW_cond condW_b codeW_forget codeW_region codeW_loop roundW_n roundW_e roundW_r

/-! ### Specifications by decoders, a guard and a result -/
def resW (r : AV) (s : St) (K : AV → St → Prop) : Prop := r.free = true ∧ K r s
section
variable {s : St} {K : AV → St → Prop}
theorem resW_ite {c : Prop} [Decidable c] {r r' : AV} : resW (if c then r else r') s K = (if c then resW r s K else resW r' s K) := by
  by_cases h : c <;> simp [h]
theorem resW_o {a : AP} : resW (.o a) s K = (a.free = true ∧ K (.o a) s) := _root_.id rfl
theorem resW_t {l : List AP} : resW (.t l) s K = (l.all (·.free) = true ∧ K (.t l) s) := _root_.id rfl
end
attribute [simp] resW_ite resW_o resW_t
/-- What is told of a value by a thing of α: t a, if v a. -/
structure Co (α : Type) where
  e : α → AP
  p : α → Prop
  v : AP → Prop
  dv : ∀ a, Decidable (v a)
  t : AP → α
  some : ∀ {a}, v a → a = e (t a) ∧ p (t a)
  enc : ∀ {x}, p x → v (e x) ∧ t (e x) = x
instance {α : Type} (c : Co α) (a : AP) : Decidable (c.v a) := c.dv a
section
variable {α β γ δ : Type}
def s0 (R : AV) : List AP → Option AV
  | [] => some R
  | _ => none
def s1 (c1 : Co α) (G : α → Prop) [∀ x, Decidable (G x)] (R : α → AV) : List AP → Option AV
  | [a] => if (c1.v a) ∧ G (c1.t a) then some (R (c1.t a)) else none
  | _ => none
def s2 (c1 : Co α) (c2 : Co β) (G : α → β → Prop) [∀ x y, Decidable (G x y)] (R : α → β → AV) : List AP → Option AV
  | [a, b] => if (c1.v a ∧ c2.v b) ∧ G (c1.t a) (c2.t b) then some (R (c1.t a) (c2.t b)) else none
  | _ => none
def s3 (c1 : Co α) (c2 : Co β) (c3 : Co γ) (G : α → β → γ → Prop) [∀ x y z, Decidable (G x y z)] (R : α → β → γ → AV) : List AP → Option AV
  | [a, b, c] => if (c1.v a ∧ c2.v b ∧ c3.v c) ∧ G (c1.t a) (c2.t b) (c3.t c) then some (R (c1.t a) (c2.t b) (c3.t c)) else none
  | _ => none
def s4 (c1 : Co α) (c2 : Co β) (c3 : Co γ) (c4 : Co δ) (G : α → β → γ → δ → Prop) [∀ x y z u, Decidable (G x y z u)] (R : α → β → γ → δ → AV) : List AP → Option AV
  | [a, b, c, d] => if (c1.v a ∧ c2.v b ∧ c3.v c ∧ c4.v d) ∧ G (c1.t a) (c2.t b) (c3.t c) (c4.t d) then some (R (c1.t a) (c2.t b) (c3.t c) (c4.t d)) else none
  | _ => none
section
variable {s : St} {K : AV → St → Prop}
theorem callW_s0 {R : AV} : callW (s0 R []) s K = resW R s K := _root_.id rfl
theorem callW_s1 {c1 : Co α} {G : α → Prop} [∀ x, Decidable (G x)] {R : α → AV} {a : AP} : callW (s1 c1 G R [a]) s K = (((c1.v a) ∧ G (c1.t a)) ∧ resW (R (c1.t a)) s K) := callW_ite0
theorem callW_s2 {c1 : Co α} {c2 : Co β} {G : α → β → Prop} [∀ x y, Decidable (G x y)] {R : α → β → AV} {a b : AP} : callW (s2 c1 c2 G R [a, b]) s K = (((c1.v a ∧ c2.v b) ∧ G (c1.t a) (c2.t b)) ∧ resW (R (c1.t a) (c2.t b)) s K) := callW_ite0
theorem callW_s3 {c1 : Co α} {c2 : Co β} {c3 : Co γ} {G : α → β → γ → Prop} [∀ x y z, Decidable (G x y z)] {R : α → β → γ → AV} {a b c : AP} : callW (s3 c1 c2 c3 G R [a, b, c]) s K = (((c1.v a ∧ c2.v b ∧ c3.v c) ∧ G (c1.t a) (c2.t b) (c3.t c)) ∧ resW (R (c1.t a) (c2.t b) (c3.t c)) s K) := callW_ite0
theorem callW_s4 {c1 : Co α} {c2 : Co β} {c3 : Co γ} {c4 : Co δ} {G : α → β → γ → δ → Prop} [∀ x y z u, Decidable (G x y z u)] {R : α → β → γ → δ → AV} {a b c d : AP} : callW (s4 c1 c2 c3 c4 G R [a, b, c, d]) s K = (((c1.v a ∧ c2.v b ∧ c3.v c ∧ c4.v d) ∧ G (c1.t a) (c2.t b) (c3.t c) (c4.t d)) ∧ resW (R (c1.t a) (c2.t b) (c3.t c) (c4.t d)) s K) := callW_ite0
end
attribute [simp] callW_s0 callW_s1 callW_s2 callW_s3 callW_s4
variable {c1 : Co α} {c2 : Co β} {c3 : Co γ} {c4 : Co δ} {r : AV}
theorem s1_some {G : α → Prop} [∀ x, Decidable (G x)] {R : α → AV} {as : List AP} (h : s1 c1 G R as = some r) : ∃ x, as = [c1.e x] ∧ c1.p x ∧ G x ∧ r = R x := by
  unfold s1 at h
  split at h
  · rename_i a
    split at h
    · rename_i hg
      cases h
      obtain ⟨v0, hg⟩ := hg
      obtain ⟨e0, p0⟩ := c1.some v0
      exact ⟨_, by rw [← e0], p0, hg, rfl⟩
    · cases h
  · cases h
theorem s2_some {G : α → β → Prop} [∀ x y, Decidable (G x y)] {R : α → β → AV} {as : List AP} (h : s2 c1 c2 G R as = some r) : ∃ x y, as = [c1.e x, c2.e y] ∧ c1.p x ∧ c2.p y ∧ G x y ∧ r = R x y := by
  unfold s2 at h
  split at h
  · rename_i a b
    split at h
    · rename_i hg
      cases h
      obtain ⟨⟨v0, v1⟩, hg⟩ := hg
      obtain ⟨e0, p0⟩ := c1.some v0
      obtain ⟨e1, p1⟩ := c2.some v1
      exact ⟨_, _, by rw [← e0, ← e1], p0, p1, hg, rfl⟩
    · cases h
  · cases h
theorem s3_some {G : α → β → γ → Prop} [∀ x y z, Decidable (G x y z)] {R : α → β → γ → AV} {as : List AP} (h : s3 c1 c2 c3 G R as = some r) : ∃ x y z, as = [c1.e x, c2.e y, c3.e z] ∧ c1.p x ∧ c2.p y ∧ c3.p z ∧ G x y z ∧ r = R x y z := by
  unfold s3 at h
  split at h
  · rename_i a b c
    split at h
    · rename_i hg
      cases h
      obtain ⟨⟨v0, v1, v2⟩, hg⟩ := hg
      obtain ⟨e0, p0⟩ := c1.some v0
      obtain ⟨e1, p1⟩ := c2.some v1
      obtain ⟨e2, p2⟩ := c3.some v2
      exact ⟨_, _, _, by rw [← e0, ← e1, ← e2], p0, p1, p2, hg, rfl⟩
    · cases h
  · cases h
theorem s4_some {G : α → β → γ → δ → Prop} [∀ x y z u, Decidable (G x y z u)] {R : α → β → γ → δ → AV} {as : List AP} (h : s4 c1 c2 c3 c4 G R as = some r) : ∃ x y z u, as = [c1.e x, c2.e y, c3.e z, c4.e u] ∧ c1.p x ∧ c2.p y ∧ c3.p z ∧ c4.p u ∧ G x y z u ∧ r = R x y z u := by
  unfold s4 at h
  split at h
  · rename_i a b c d
    split at h
    · rename_i hg
      cases h
      obtain ⟨⟨v0, v1, v2, v3⟩, hg⟩ := hg
      obtain ⟨e0, p0⟩ := c1.some v0
      obtain ⟨e1, p1⟩ := c2.some v1
      obtain ⟨e2, p2⟩ := c3.some v2
      obtain ⟨e3, p3⟩ := c4.some v3
      exact ⟨_, _, _, _, by rw [← e0, ← e1, ← e2, ← e3], p0, p1, p2, p3, hg, rfl⟩
    · cases h
  · cases h
/-- Function f, whose compact code is sf, and whose callees sp tells. -/
structure Code (P : Program) (sp : Spec) (f : Nat) (sf : SF) : Prop where
  at_ : ∃ fn, P.funcs[f]? = some fn ∧ chkFn P fn sf = true
  ent : Enters P f
  sp : SpecOk P sp
theorem code_mk {P : Program} {sp : Spec} {f : Nat} {fn : Func} {sf : SF} (hf : P.funcs[f]? = some fn) (hent : Enters P f) (hchk : chkFn P fn sf = true) (hsp : SpecOk P sp) : Code P sp f sf := ⟨⟨fn, hf, hchk⟩, hent, hsp⟩
section
variable {P : Program} {sp : Spec} {f : Nat} {sf : SF}
theorem Code.all {s : List AP → Option AV} (C : Code P sp f sf) (h : ∀ as r, s as = some r → as.length ≤ sf.ntmps ∧ ∃ k, codeW sp k sf.code (st0 as) (done sf r)) : MeetsAll P f s := by
  obtain ⟨fn, hf, hc⟩ := C.at_
  exact meets_all hf hc C.sp h
theorem all0 {R : AV} (C : Code P sp f sf) (h : ∃ k, codeW sp k sf.code (st0 []) (done sf R)) : MeetsAll P f (s0 R) := C.all fun as r hr => by
  unfold s0 at hr
  split at hr
  · cases hr; exact ⟨Nat.zero_le _, h⟩
  · cases hr
theorem all1 {G : α → Prop} [∀ x, Decidable (G x)] {R : α → AV} (C : Code P sp f sf) (hn : 1 ≤ sf.ntmps) (h : ∀ x, c1.p x → G x → ∃ k, codeW sp k sf.code (st0 [c1.e x]) (done sf (R x))) : MeetsAll P f (s1 c1 G R) := C.all fun as r hr => by
  obtain ⟨x, rfl, h1, hg, rfl⟩ := s1_some hr
  exact ⟨hn, h x h1 hg⟩
theorem all2 {G : α → β → Prop} [∀ x y, Decidable (G x y)] {R : α → β → AV} (C : Code P sp f sf) (hn : 2 ≤ sf.ntmps) (h : ∀ x y, c1.p x → c2.p y → G x y → ∃ k, codeW sp k sf.code (st0 [c1.e x, c2.e y]) (done sf (R x y))) : MeetsAll P f (s2 c1 c2 G R) := C.all fun as r hr => by
  obtain ⟨x, y, rfl, h1, h2, hg, rfl⟩ := s2_some hr
  exact ⟨hn, h x y h1 h2 hg⟩
theorem all3 {G : α → β → γ → Prop} [∀ x y z, Decidable (G x y z)] {R : α → β → γ → AV} (C : Code P sp f sf) (hn : 3 ≤ sf.ntmps) (h : ∀ x y z, c1.p x → c2.p y → c3.p z → G x y z → ∃ k, codeW sp k sf.code (st0 [c1.e x, c2.e y, c3.e z]) (done sf (R x y z))) : MeetsAll P f (s3 c1 c2 c3 G R) := C.all fun as r hr => by
  obtain ⟨x, y, z, rfl, h1, h2, h3, hg, rfl⟩ := s3_some hr
  exact ⟨hn, h x y z h1 h2 h3 hg⟩
theorem all4 {G : α → β → γ → δ → Prop} [∀ x y z u, Decidable (G x y z u)] {R : α → β → γ → δ → AV} (C : Code P sp f sf) (hn : 4 ≤ sf.ntmps) (h : ∀ x y z u, c1.p x → c2.p y → c3.p z → c4.p u → G x y z u → ∃ k, codeW sp k sf.code (st0 [c1.e x, c2.e y, c3.e z, c4.e u]) (done sf (R x y z u))) : MeetsAll P f (s4 c1 c2 c3 c4 G R) := C.all fun as r hr => by
  obtain ⟨x, y, z, u, rfl, h1, h2, h3, h4, hg, rfl⟩ := s4_some hr
  exact ⟨hn, h x y z u h1 h2 h3 h4 hg⟩
theorem ok0 {R : AV} (C : Code P sp f sf) (h : ∃ k, codeW sp k sf.code (st0 []) (done sf R)) : Ok P f (s0 R) := (all0 C h).ok C.ent
theorem ok1 {G : α → Prop} [∀ x, Decidable (G x)] {R : α → AV} (C : Code P sp f sf) (hn : 1 ≤ sf.ntmps) (h : ∀ x, c1.p x → G x → ∃ k, codeW sp k sf.code (st0 [c1.e x]) (done sf (R x))) : Ok P f (s1 c1 G R) := (all1 C hn h).ok C.ent
theorem ok2 {G : α → β → Prop} [∀ x y, Decidable (G x y)] {R : α → β → AV} (C : Code P sp f sf) (hn : 2 ≤ sf.ntmps) (h : ∀ x y, c1.p x → c2.p y → G x y → ∃ k, codeW sp k sf.code (st0 [c1.e x, c2.e y]) (done sf (R x y))) : Ok P f (s2 c1 c2 G R) := (all2 C hn h).ok C.ent
theorem ok3 {G : α → β → γ → Prop} [∀ x y z, Decidable (G x y z)] {R : α → β → γ → AV} (C : Code P sp f sf) (hn : 3 ≤ sf.ntmps) (h : ∀ x y z, c1.p x → c2.p y → c3.p z → G x y z → ∃ k, codeW sp k sf.code (st0 [c1.e x, c2.e y, c3.e z]) (done sf (R x y z))) : Ok P f (s3 c1 c2 c3 G R) := (all3 C hn h).ok C.ent
theorem ok4 {G : α → β → γ → δ → Prop} [∀ x y z u, Decidable (G x y z u)] {R : α → β → γ → δ → AV} (C : Code P sp f sf) (hn : 4 ≤ sf.ntmps) (h : ∀ x y z u, c1.p x → c2.p y → c3.p z → c4.p u → G x y z u → ∃ k, codeW sp k sf.code (st0 [c1.e x, c2.e y, c3.e z, c4.e u]) (done sf (R x y z u))) : Ok P f (s4 c1 c2 c3 c4 G R) := (all4 C hn h).ok C.ent
end
end
end Go.VC
/- Decoders: what a value tells, as numbers. -/
namespace Go.VC

/-! ### The upper and the lower word -/
def whi (z : Int) : Int := z / 18446744073709551616
def wlo (z : Int) : Int := z % 18446744073709551616
theorem whi_wlo (z : Int) : whi z * 18446744073709551616 + wlo z = z := by unfold whi wlo; omega
theorem wd_eq {z : Int} : wd z = .g [.v (.int .i64 (whi z)), .v (.int .u64 (wlo z))] := _root_.id rfl
theorem lb_eq {z : Int} : lb z = .g [.v (.int .u64 (whi z)), .v (.int .u64 (wlo z))] := _root_.id rfl
theorem whi_neg {x : Int} : whi x < 0 ↔ x < 0 := by unfold whi; omega
theorem whi_nn {x : Int} : 0 ≤ whi x ↔ 0 ≤ x := by unfold whi; omega
theorem w_eq {x y : Int} : (whi x = whi y ∧ wlo x = wlo y) ↔ x = y := by
  constructor
  · rintro ⟨h1, h2⟩
    have e1 := whi_wlo x
    have e2 := whi_wlo y
    rw [h1, h2] at e1
    omega
  · rintro rfl; exact ⟨rfl, rfl⟩
theorem w_eq0 {x : Int} : (whi x = 0 ∧ wlo x = 0) ↔ x = 0 := by unfold whi wlo; omega
theorem w_eq0' {x : Int} : (0 = whi x ∧ 0 = wlo x) ↔ x = 0 := by unfold whi wlo; omega
theorem w_0 : whi 0 = 0 ∧ wlo 0 = 0 := ⟨rfl, rfl⟩
theorem w_eqx {p : Prop} {x y : Int} : ((p ∧ whi x = whi y) ∧ wlo x = wlo y) ↔ p ∧ x = y := by rw [and_assoc, w_eq]

theorem w_beq {x y : Int} : (whi x == whi y && wlo x == wlo y) = decide (x = y) := by
  rw [Bool.eq_iff_iff]; simp [w_eq]
theorem w_beq0 {x : Int} : (whi x == 0 && wlo x == 0) = decide (x = 0) := by
  rw [Bool.eq_iff_iff]; simp [w_eq0]
theorem w_beq0' {x : Int} : (0 == whi x && 0 == wlo x) = decide (x = 0) := by
  rw [Bool.eq_iff_iff]; simp [w_eq0']

/-! ### Decoders -/
def vW : AP → Bool
  | .g [.v (.int .i64 h), .v (.int .u64 l)] => decide (-9223372036854775808 ≤ h ∧ h < 9223372036854775808 ∧ 0 ≤ l ∧ l < 18446744073709551616)
  | _ => false
def tW : AP → Int
  | .g [.v (.int _ h), .v (.int _ l)] => h * 18446744073709551616 + l
  | _ => 0
def vL : AP → Bool
  | .g [.v (.int .u64 h), .v (.int .u64 l)] => decide (0 ≤ h ∧ h < 18446744073709551616 ∧ 0 ≤ l ∧ l < 18446744073709551616)
  | _ => false
def vI : AP → Bool
  | .c (.v (.int .i64 n)) => decide (-9223372036854775808 ≤ n ∧ n < 9223372036854775808)
  | _ => false
def vU : AP → Bool
  | .c (.v (.int .u64 n)) => decide (0 ≤ n ∧ n < 18446744073709551616)
  | _ => false
def tI : AP → Int
  | .c (.v (.int _ n)) => n
  | _ => 0
def vT : AP → Bool
  | .c (.v (.bool _)) => true
  | _ => false
def tT : AP → Bool
  | .c (.v (.bool b)) => b
  | _ => false
/-- All are octets. -/
def allB (l : List Int) : Prop := ∀ x ∈ l, 0 ≤ x ∧ x < 256
instance (l : List Int) : Decidable (allB l) := inferInstanceAs (Decidable (∀ x ∈ l, 0 ≤ x ∧ x < 256))
def vY : AP → Bool
  | .c (.r .u8 l) => decide (allB l)
  | _ => false
def tY : AP → List Int
  | .c (.r _ l) => l
  | _ => []
section
variable {K : Int → Prop} {h l z : Int}
theorem vW_g : (vW (.g [.v (.int .i64 h), .v (.int .u64 l)]) = true) = (-9223372036854775808 ≤ h ∧ h < 9223372036854775808 ∧ 0 ≤ l ∧ l < 18446744073709551616) := by simp only [vW, decide_eq_true_eq]
theorem vW_z : (vW (.g [.v (.int .i64 (whi z)), .v (.int .u64 (wlo z))]) = true) = (-170141183460469231731687303715884105728 ≤ z ∧ z < 170141183460469231731687303715884105728) := by
  rw [vW_g]; unfold whi wlo; apply propext; omega
theorem tW_g {k k' : IntKind} : tW (.g [.v (.int k h), .v (.int k' l)]) = h * 18446744073709551616 + l := _root_.id rfl
theorem tW_z {k k' : IntKind} : tW (.g [.v (.int k (whi z)), .v (.int k' (wlo z))]) = z := whi_wlo z
theorem vL_g : (vL (.g [.v (.int .u64 h), .v (.int .u64 l)]) = true) = (0 ≤ h ∧ h < 18446744073709551616 ∧ 0 ≤ l ∧ l < 18446744073709551616) := by simp only [vL, decide_eq_true_eq]
theorem vL_z : (vL (.g [.v (.int .u64 (whi z)), .v (.int .u64 (wlo z))]) = true) = (0 ≤ z ∧ z < 340282366920938463463374607431768211456) := by
  rw [vL_g]; unfold whi wlo; apply propext; omega
theorem vI_v : (vI (.c (.v (.int .i64 z))) = true) = (-9223372036854775808 ≤ z ∧ z < 9223372036854775808) := by simp only [vI, decide_eq_true_eq]
theorem vU_v : (vU (.c (.v (.int .u64 z))) = true) = (0 ≤ z ∧ z < 18446744073709551616) := by simp only [vU, decide_eq_true_eq]
theorem tI_v {k : IntKind} : tI (.c (.v (.int k z))) = z := _root_.id rfl
theorem vT_v {b : Bool} : (vT (.c (.v (.bool b))) = true) = True := by simp [vT]
theorem tT_v {b : Bool} : tT (.c (.v (.bool b))) = b := _root_.id rfl
theorem vY_v {l : List Int} : (vY (.c (.r .u8 l)) = true) = allB l := by simp only [vY, decide_eq_true_eq]
theorem tY_v {k : IntKind} {l : List Int} : tY (.c (.r k l)) = l := _root_.id rfl
end
def coW : Co Int where
  e := wd
  p := fun x => -170141183460469231731687303715884105728 ≤ x ∧ x < 170141183460469231731687303715884105728
  v a := vW a = true
  dv a := inferInstance
  t := tW
  some {a} h := by
    unfold vW at h
    split at h
    · rename_i h0 l0
      have h := of_decide_eq_true h
      refine ⟨?_, by rw [tW_g]; omega, by rw [tW_g]; omega⟩
      rw [tW_g, wd_eq]
      unfold whi wlo
      congr 3 <;> first | (congr 2; omega) | (congr 3; omega) | skip
    · cases h
  enc {x} h := ⟨by rw [wd_eq, vW_z]; exact h, tW_z⟩
def coL : Co Int where
  e := lb
  p := fun x => 0 ≤ x ∧ x < 340282366920938463463374607431768211456
  v a := vL a = true
  dv a := inferInstance
  t := tW
  some {a} h := by
    unfold vL at h
    split at h
    · rename_i h0 l0
      have h := of_decide_eq_true h
      refine ⟨?_, by rw [tW_g]; omega, by rw [tW_g]; omega⟩
      rw [tW_g, lb_eq]
      unfold whi wlo
      congr 3 <;> first | (congr 2; omega) | (congr 3; omega) | skip
    · cases h
  enc {x} h := ⟨by rw [lb_eq, vL_z]; exact h, tW_z⟩
def coI : Co Int where
  e := fun x => .c (.v (.int .i64 x))
  p := fun x => -9223372036854775808 ≤ x ∧ x < 9223372036854775808
  v a := vI a = true
  dv a := inferInstance
  t := tI
  some {a} h := by
    unfold vI at h
    split at h
    · exact ⟨rfl, of_decide_eq_true h⟩
    · cases h
  enc {x} h := ⟨by rw [vI_v]; exact h, rfl⟩
def coU : Co Int where
  e := fun x => .c (.v (.int .u64 x))
  p := fun x => 0 ≤ x ∧ x < 18446744073709551616
  v a := vU a = true
  dv a := inferInstance
  t := tI
  some {a} h := by
    unfold vU at h
    split at h
    · exact ⟨rfl, of_decide_eq_true h⟩
    · cases h
  enc {x} h := ⟨by rw [vU_v]; exact h, rfl⟩
def coT : Co Bool where
  e := fun x => .c (.v (.bool x))
  p := fun x => True
  v a := vT a = true
  dv a := inferInstance
  t := tT
  some {a} h := by
    unfold vT at h
    split at h
    · exact ⟨rfl, trivial⟩
    · cases h
  enc {x} h := ⟨rfl, rfl⟩
def coY : Co (List Int) where
  e := fun x => .c (.r .u8 x)
  p := allB
  v a := vY a = true
  dv a := inferInstance
  t := tY
  some {a} h := by
    unfold vY at h
    split at h
    · exact ⟨rfl, of_decide_eq_true h⟩
    · cases h
  enc {x} h := ⟨by rw [vY_v]; exact h, rfl⟩
theorem coW_e {x : Int} : coW.e x = .g [.v (.int .i64 (whi x)), .v (.int .u64 (wlo x))] := _root_.id rfl
theorem coW_v {a : AP} : coW.v a = (vW a = true) := _root_.id rfl
theorem coW_t {a : AP} : coW.t a = tW a := _root_.id rfl
theorem coW_p {x : Int} : coW.p x = (-170141183460469231731687303715884105728 ≤ x ∧ x < 170141183460469231731687303715884105728) := _root_.id rfl
theorem coL_e {x : Int} : coL.e x = .g [.v (.int .u64 (whi x)), .v (.int .u64 (wlo x))] := _root_.id rfl
theorem coL_v {a : AP} : coL.v a = (vL a = true) := _root_.id rfl
theorem coL_t {a : AP} : coL.t a = tW a := _root_.id rfl
theorem coL_p {x : Int} : coL.p x = (0 ≤ x ∧ x < 340282366920938463463374607431768211456) := _root_.id rfl
theorem coI_e {x : Int} : coI.e x = .c (.v (.int .i64 x)) := _root_.id rfl
theorem coI_v {a : AP} : coI.v a = (vI a = true) := _root_.id rfl
theorem coI_t {a : AP} : coI.t a = tI a := _root_.id rfl
theorem coI_p {x : Int} : coI.p x = (-9223372036854775808 ≤ x ∧ x < 9223372036854775808) := _root_.id rfl
theorem coU_e {x : Int} : coU.e x = .c (.v (.int .u64 x)) := _root_.id rfl
theorem coU_v {a : AP} : coU.v a = (vU a = true) := _root_.id rfl
theorem coU_t {a : AP} : coU.t a = tI a := _root_.id rfl
theorem coU_p {x : Int} : coU.p x = (0 ≤ x ∧ x < 18446744073709551616) := _root_.id rfl
theorem coT_e {x : Bool} : coT.e x = .c (.v (.bool x)) := _root_.id rfl
theorem coT_v {a : AP} : coT.v a = (vT a = true) := _root_.id rfl
theorem coT_t {a : AP} : coT.t a = tT a := _root_.id rfl
theorem coT_p {x : Bool} : coT.p x = (True) := _root_.id rfl
theorem coY_e {x : List Int} : coY.e x = .c (.r .u8 x) := _root_.id rfl
theorem coY_v {a : AP} : coY.v a = (vY a = true) := _root_.id rfl
theorem coY_t {a : AP} : coY.t a = tY a := _root_.id rfl
theorem coY_p {x : List Int} : coY.p x = allB x := _root_.id rfl
attribute [simp] whi_neg whi_nn w_eq w_eq0 w_eq0' w_0 w_eqx w_beq w_beq0 w_beq0' vW_g tW_g vL_g vI_v vU_v tI_v vT_v tT_v vY_v tY_v coW_e coW_v coW_t coW_p coL_e coL_v coL_t coL_p coI_e coI_v coI_t coI_p coU_e coU_v coU_t coU_p coT_e coT_v coT_t coT_p coY_e coY_v coY_t coY_p
attribute [simp high] vW_z tW_z vL_z
/-- Another way to say what a function does. -/
theorem Ok.via {P : Program} {f : Nat} {s s' : List AP → Option AV} (h : Ok P f s) (h' : ∀ as r, s' as = some r → s as = some r) : Ok P f s' := fun as r hr => h as r (h' as r hr)
end Go.VC

/- What the reference's whole numbers do. -/
import Derived.Test.YtanolecbepjkcaaNA
import Derived.Test.YtanolecbepjkcaaKA
set_option linter.unusedVariables false
set_option linter.unusedSimpArgs false
set_option maxHeartbeats 2000000
set_option maxRecDepth 100000
/- Whole numbers as digits to the base 65536. -/
namespace Go.VC

def val : List Int → Int
  | [] => 0
  | d :: l => d + 65536 * val l
def Dg (l : List Int) : Prop := ∀ d ∈ l, 0 ≤ d ∧ d < 65536
instance (l : List Int) : Decidable (Dg l) := inferInstanceAs (Decidable (∀ d ∈ l, 0 ≤ d ∧ d < 65536))
def Trm (l : List Int) : Prop := l.getLast? ≠ some 0
instance (l : List Int) : Decidable (Trm l) := inferInstanceAs (Decidable (l.getLast? ≠ some 0))
def digs (n : Nat) : List Int := if h : n = 0 then [] else ((n % 65536 : Nat) : Int) :: digs (n / 65536)
termination_by n
decreasing_by omega
theorem digs_zero : digs 0 = [] := by rw [digs]; simp
theorem digs_pos {n : Nat} (h : n ≠ 0) : digs n = ((n % 65536 : Nat) : Int) :: digs (n / 65536) := by rw [digs]; simp [h]
theorem val_digs : ∀ n : Nat, val (digs n) = n := fun n => by
  induction n using Nat.strongRecOn with
  | _ n ih =>
    by_cases h : n = 0
    · subst h; rw [digs_zero]; rfl
    · rw [digs_pos h, val, ih (n / 65536) (by omega)]; omega
theorem dg_digs : ∀ n : Nat, Dg (digs n) := fun n => by
  induction n using Nat.strongRecOn with
  | _ n ih =>
    by_cases h : n = 0
    · subst h; rw [digs_zero]; intro d hd; cases hd
    · rw [digs_pos h]
      intro d hd
      rcases List.mem_cons.1 hd with rfl | hd
      · omega
      · exact ih (n / 65536) (by omega) d hd
theorem tr_digs : ∀ n : Nat, Trm (digs n) := fun n => by
  induction n using Nat.strongRecOn with
  | _ n ih =>
    by_cases h : n = 0
    · subst h; rw [digs_zero]; simp [Trm]
    · rw [digs_pos h]
      unfold Trm
      by_cases h2 : n / 65536 = 0
      · rw [h2, digs_zero]
        simp
        omega
      · have := ih (n / 65536) (by omega)
        unfold Trm at this
        rw [digs_pos h2] at this ⊢
        rw [List.getLast?_cons_cons]
        exact this
theorem val_nonneg : ∀ {l : List Int}, Dg l → 0 ≤ val l
  | [], _ => by simp [val]
  | d :: l, h => by
    have h1 := h d (by simp)
    have h2 := val_nonneg (l := l) (fun x hx => h x (by simp [hx]))
    simp only [val]; omega
theorem digs_val : ∀ {l : List Int}, Dg l → Trm l → l = digs (val l).toNat
  | [], _, _ => by simp [val, digs_zero]
  | d :: l, h, ht => by
    have h1 := h d (by simp)
    have hl : Dg l := fun x hx => h x (by simp [hx])
    have h2 := val_nonneg hl
    have htl : Trm l := by
      cases l with
      | nil => simp [Trm]
      | cons e l => unfold Trm at ht ⊢; rwa [List.getLast?_cons_cons] at ht
    have ih := digs_val hl htl
    have hne : (val (d :: l)).toNat ≠ 0 := by
      simp only [val]
      by_cases h0 : val l = 0
      · rw [h0] at ih
        simp [digs_zero] at ih
        subst ih
        simp [Trm] at ht
        omega
      · omega
    rw [digs_pos hne]
    simp only [val]
    have e1 : (((d + 65536 * val l).toNat % 65536 : Nat) : Int) = d := by omega
    have e2 : (d + 65536 * val l).toNat / 65536 = (val l).toNat := by omega
    rw [e1, e2, ← ih]
theorem val_append : ∀ (a b : List Int), val (a ++ b) = val a + 65536 ^ a.length * val b
  | [], b => by simp [val]
  | d :: a, b => by
    simp only [List.cons_append, val, val_append a b, List.length_cons, Int.pow_succ]
    grind
theorem val_lt : ∀ {l : List Int}, Dg l → val l < 65536 ^ l.length
  | [], _ => by simp [val]
  | d :: l, h => by
    have h1 := h d (by simp)
    have h2 := val_lt (l := l) (fun x hx => h x (by simp [hx]))
    simp only [val, List.length_cons, Int.pow_succ]; omega
theorem dg_take {l : List Int} (n : Nat) (h : Dg l) : Dg (l.take n) := fun d hd => h d (List.mem_of_mem_take hd)
theorem dg_drop {l : List Int} (n : Nat) (h : Dg l) : Dg (l.drop n) := fun d hd => h d (List.mem_of_mem_drop hd)
theorem dg_append {a b : List Int} (ha : Dg a) (hb : Dg b) : Dg (a ++ b) := fun d hd => by
  rcases List.mem_append.1 hd with h | h
  · exact ha d h
  · exact hb d h
theorem val_zero : ∀ {l : List Int}, (∀ d ∈ l, d = 0) → val l = 0
  | [], _ => rfl
  | d :: l, h => by
    have h1 := h d (by simp)
    have h2 := val_zero (l := l) (fun x hx => h x (by simp [hx]))
    simp only [val]; omega
theorem val_take_drop (l : List Int) (n : Nat) (hn : n ≤ l.length) : val l = val (l.take n) + 65536 ^ n * val (l.drop n) := by
  have := val_append (l.take n) (l.drop n)
  rw [List.take_append_drop, List.length_take, Nat.min_eq_left hn] at this
  exact this
theorem val_drop (l : List Int) (i : Nat) (hi : i < l.length) : val (l.drop i) = l.getD i 0 + 65536 * val (l.drop (i + 1)) := by
  rw [List.drop_eq_getElem_cons hi]
  simp [val, List.getD_eq_getElem?_getD, List.getElem?_eq_getElem hi]
theorem dg_get {l : List Int} (h : Dg l) (i : Nat) : 0 ≤ l.getD i 0 ∧ l.getD i 0 < 65536 := by
  rw [List.getD_eq_getElem?_getD]
  cases hq : l[i]? with
  | none => simp
  | some d => exact h d (List.mem_of_getElem? hq)

/-! ### What trim does -/
theorem trim_take {l : List Int} (hd : Dg l) (n : Nat) (hn : n ≤ l.length) (hz : ∀ j, n ≤ j → j < l.length → l.getD j 0 = 0) (hs : n = 0 ∨ l.getD (n - 1) 0 ≠ 0) : l.take n = digs (val l).toNat := by
  have h0 : val (l.drop n) = 0 := val_zero (fun d hd' => by
    obtain ⟨j, hj, rfl⟩ := List.getElem_of_mem hd'
    have hj' : n + j < l.length := by rw [List.length_drop] at hj; omega
    have := hz (n + j) (by omega) hj'
    rw [List.getElem_drop]
    simpa [List.getD_eq_getElem?_getD, List.getElem?_eq_getElem hj'] using this)
  have h1 := val_take_drop l n hn
  rw [h0, Int.mul_zero, Int.add_zero] at h1
  rw [h1]
  refine digs_val (dg_take n hd) ?_
  unfold Trm
  rw [List.getLast?_eq_getElem?, List.length_take, Nat.min_eq_left hn]
  rcases hs with rfl | hs
  · simp
  · by_cases h2 : n = 0
    · subst h2; simp
    · rw [List.getElem?_take, if_pos (by omega)]
      intro hc
      rw [List.getD_eq_getElem?_getD, hc] at hs
      exact hs rfl

/-! ### Whole numbers as the evaluator knows them -/
def ngB (z : Int) : Bool := decide (z < 0)
def dg (z : Int) : List Int := digs z.natAbs
def mkB (z : Int) : AP := .g [.v (.bool (ngB z)), .r .i64 (dg z)]
def dB : AP → Option Int
  | .g [.v (.bool b), .r .i64 l] => if Dg l ∧ Trm l ∧ (b = true → l ≠ []) then some (if b = true then -val l else val l) else none
  | _ => none
theorem val_dg (z : Int) : val (dg z) = z.natAbs := val_digs _
theorem dg_dg (z : Int) : Dg (dg z) := dg_digs _
theorem tr_dg (z : Int) : Trm (dg z) := tr_digs _
theorem dg_nil {z : Int} : dg z = [] ↔ z = 0 := by
  constructor
  · intro h
    have := val_dg z
    rw [h] at this
    simp [val] at this
    omega
  · rintro rfl
    exact digs_zero
theorem dB_mk (z : Int) : dB (.g [.v (.bool (ngB z)), .r .i64 (dg z)]) = some z := by
  have hc : ngB z = true → dg z ≠ [] := fun h h2 => by
    unfold ngB at h
    simp at h
    rw [dg_nil] at h2
    omega
  simp only [dB]
  rw [if_pos ⟨dg_dg z, tr_dg z, hc⟩, val_dg]
  unfold ngB
  congr 1
  split <;> rename_i h <;> simp at h <;> omega
theorem dB_some {a : AP} {z : Int} (h : dB a = some z) : a = mkB z := by
  unfold dB at h
  split at h
  · rename_i b l
    split at h
    · rename_i hh
      obtain ⟨h1, h2, h3⟩ := hh
      have hv := val_nonneg h1
      have hl := digs_val h1 h2
      simp only [Option.some.injEq] at h
      unfold mkB ngB dg
      cases b with
      | true =>
        simp only [if_true] at h
        have hne := h3 rfl
        have hpos : val l ≠ 0 := fun h0 => by
          rw [h0] at hl
          simp [digs_zero] at hl
          exact hne hl
        have e1 : z.natAbs = (val l).toNat := by omega
        have e2 : decide (z < 0) = true := by simp; omega
        rw [e1, ← hl, e2]
      | false =>
        simp only [Bool.false_eq_true, if_false] at h
        have e1 : z.natAbs = (val l).toNat := by omega
        have e2 : decide (z < 0) = false := by simp; omega
        rw [e1, ← hl, e2]
    · cases h
  · cases h
def dR : AP → Option (List Int)
  | .c (.r .i64 l) => if Dg l then some l else none
  | _ => none
theorem dR_dg (z : Int) : dR (.c (.r .i64 (dg z))) = some (dg z) := by simp only [dR]; rw [if_pos (dg_dg z)]
theorem dR_some {a : AP} {l : List Int} (h : dR a = some l) : a = .c (.r .i64 l) ∧ Dg l := by
  unfold dR at h
  split at h
  · split at h
    · rename_i hh; cases h; exact ⟨rfl, hh⟩
    · cases h
  · cases h
/-- How many digits there are. -/
theorem len_digs : ∀ (k n : Nat), n < 65536 ^ k → (digs n).length ≤ k
  | 0, n, h => by
    have : n = 0 := by simpa using h
    subst this; rw [digs_zero]; simp
  | k + 1, n, h => by
    by_cases h0 : n = 0
    · subst h0; rw [digs_zero]; simp
    · rw [digs_pos h0]
      have := len_digs k (n / 65536) (by rw [Nat.pow_succ] at h; omega)
      simp; omega
end Go.VC
/- Decoders of the reference's whole numbers and digits. -/
namespace Go.VC

def vN : AP → Bool
  | .c (.r .i64 l) => decide (Dg l ∧ Trm l)
  | _ => false
def tN : AP → Int
  | .c (.r _ l) => val l
  | _ => 0
def vD : AP → Bool
  | .c (.r .i64 l) => decide (Dg l)
  | _ => false
def vB : AP → Bool
  | .g [.v (.bool b), .r .i64 l] => decide (Dg l ∧ Trm l ∧ (b = true → l ≠ []))
  | _ => false
def tB : AP → Int
  | .g [.v (.bool b), .r _ l] => if b = true then -val l else val l
  | _ => 0
/-- How great a number is. -/
def nabs (z : Int) : Int := z.natAbs
theorem nabs_nn {z : Int} (h : 0 ≤ z) : nabs z = z := by unfold nabs; omega
theorem nabs_eq (z : Int) : nabs z = if z < 0 then -z else z := by unfold nabs; split <;> omega
section
variable {z : Int} {k : IntKind} {l : List Int} {b : Bool}
theorem vN_z : (vN (.c (.r .i64 (dg z))) = true) = True := by simp [vN, dg_dg, tr_dg]
theorem vN_0 : (vN (.c (.r .i64 [])) = true) = True := by simp [vN, Dg, Trm]
theorem tN_z : tN (.c (.r k (dg z))) = nabs z := val_dg z
theorem tN_0 : tN (.c (.r k [])) = 0 := _root_.id rfl
theorem vD_g : (vD (.c (.r .i64 l)) = true) = Dg l := by simp only [vD, decide_eq_true_eq]
theorem vD_z : (vD (.c (.r .i64 (dg z))) = true) = True := by simp [vD, dg_dg]
theorem vB_b : (vB (.g [.v (.bool b), .r .i64 (dg z)]) = true) = (b = true → z ≠ 0) := by
  simp only [vB, decide_eq_true_eq]
  apply propext
  constructor
  · intro h hb hz; exact h.2.2 hb (dg_nil.2 hz)
  · intro h; exact ⟨dg_dg z, tr_dg z, fun hb hz => h hb (dg_nil.1 hz)⟩
theorem vB_z : (vB (.g [.v (.bool (ngB z)), .r .i64 (dg z)]) = true) = True := by
  rw [vB_b]
  apply propext
  simp only [iff_true]
  unfold ngB
  intro h
  have := of_decide_eq_true h
  omega
theorem vB_0 : (vB (.g [.v (.bool false), .r .i64 []]) = true) = True := by simp [vB, Dg, Trm]
theorem tB_b : tB (.g [.v (.bool b), .r k (dg z)]) = if b = true then -nabs z else nabs z := by
  simp only [tB, val_dg, nabs]
theorem tB_z : tB (.g [.v (.bool (ngB z)), .r k (dg z)]) = z := by
  rw [tB_b]
  unfold ngB nabs
  by_cases h : z < 0
  · simp only [h, decide_true, if_true]; omega
  · simp only [h, decide_false, Bool.false_eq_true, if_false]; omega
theorem tB_0 : tB (.g [.v (.bool false), .r k []]) = 0 := _root_.id rfl
end
/-- Digits without noughts at the end. -/
def coN : Co Int where
  e := fun z => .c (.r .i64 (dg z))
  p := fun z => 0 ≤ z
  v a := vN a = true
  dv a := inferInstance
  t := tN
  some {a} h := by
    unfold vN at h
    split at h
    · rename_i l
      have h := of_decide_eq_true h
      have h0 := val_nonneg h.1
      refine ⟨?_, h0⟩
      show AP.c (.r .i64 l) = .c (.r .i64 (dg (val l)))
      have h1 := digs_val h.1 h.2
      unfold dg
      rw [show (val l).natAbs = (val l).toNat by omega, ← h1]
    · cases h
  enc {x} h := ⟨by rw [vN_z]; trivial, by rw [tN_z]; exact nabs_nn h⟩
/-- Digits. -/
def coD : Co (List Int) where
  e := fun l => .c (.r .i64 l)
  p := Dg
  v a := vD a = true
  dv a := inferInstance
  t := tY
  some {a} h := by
    unfold vD at h
    split at h
    · exact ⟨rfl, of_decide_eq_true h⟩
    · cases h
  enc {x} h := ⟨by rw [vD_g]; exact h, rfl⟩
def coB : Co Int where
  e := mkB
  p := fun _ => True
  v a := vB a = true
  dv a := inferInstance
  t := tB
  some {a} h := by
    refine ⟨dB_some ?_, trivial⟩
    unfold vB at h
    split at h
    · have h := of_decide_eq_true h
      simp only [dB]
      rw [if_pos h]
      rfl
    · cases h
  enc {x} h := ⟨by show vB (.g [.v (.bool (ngB x)), .r .i64 (dg x)]) = true; rw [vB_z]; trivial, tB_z⟩
theorem coN_e {z : Int} : coN.e z = .c (.r .i64 (dg z)) := _root_.id rfl
theorem coD_e {l : List Int} : coD.e l = .c (.r .i64 l) := _root_.id rfl
theorem coB_e {z : Int} : coB.e z = .g [.v (.bool (ngB z)), .r .i64 (dg z)] := _root_.id rfl
theorem coN_p {z : Int} : coN.p z = (0 ≤ z) := _root_.id rfl
theorem coD_p {l : List Int} : coD.p l = Dg l := _root_.id rfl
theorem coB_p {z : Int} : coB.p z = True := _root_.id rfl
theorem coN_v {a : AP} : coN.v a = (vN a = true) := _root_.id rfl
theorem coD_v {a : AP} : coD.v a = (vD a = true) := _root_.id rfl
theorem coB_v {a : AP} : coB.v a = (vB a = true) := _root_.id rfl
theorem coN_t {a : AP} : coN.t a = tN a := _root_.id rfl
theorem coD_t {a : AP} : coD.t a = tY a := _root_.id rfl
theorem coB_t {a : AP} : coB.t a = tB a := _root_.id rfl
attribute [simp] nabs_nn vN_z vN_0 tN_z tN_0 vD_g vB_0 tB_0 coN_e coD_e coB_e coN_p coD_p coB_p coN_v coD_v coB_v coN_t coD_t coB_t
attribute [simp high] vD_z vB_z tB_z
attribute [simp low] vB_b tB_b

/-! ### Rows of digits as cells -/
theorem val_set : ∀ (l : List Int) (k : Nat) (x : Int), k < l.length → val (l.set k x) = val l + (x - l.getD k 0) * 65536 ^ k
  | [], k, x, h => by simp at h
  | d :: l, 0, x, h => by simp [val]; omega
  | d :: l, k + 1, x, h => by
    simp only [List.set_cons_succ, val, List.getD_cons_succ]
    rw [val_set l k x (by simpa using h), Int.pow_succ]
    grind
theorem dg_set {l : List Int} (h : Dg l) (k : Nat) {x : Int} (hx : 0 ≤ x ∧ x < 65536) : Dg (l.set k x) := fun d hd => by
  rcases List.mem_or_eq_of_mem_set hd with h' | rfl
  · exact h d h'
  · exact hx
end Go.VC
/- The reference's digits: trim and cmp. -/
namespace Go.Proofs.Ytanolecbepjkcaa.E
open Go.VC Go.RowKit

theorem trim_dg {l : List Int} (hd : Dg l) (n : Nat) (hn : n ≤ l.length) (hz : ∀ j, n ≤ j → j < l.length → l.getD j 0 = 0) (hs : n = 0 ∨ l.getD (n - 1) 0 ≠ 0) : l.take n = dg (val l) := by
  rw [trim_take hd n hn hz hs]
  unfold dg
  congr 1
  have := val_nonneg hd
  omega
def sTrim : List AP → Option AV
  | [a] => match dR a with
    | some l => if l.length ≤ 1000000 then some (.o (.c (.r .i64 (dg (val l))))) else none
    | _ => none
  | _ => none
theorem okTrim : Ok Try.prog 79 sTrim := ok_of' Try.func79 epactref01_trim.ent epactref01_trim.chk specOk_nil fun av r h => by
  unfold sTrim at h
  split at h
  · split at h
    · rename_i a x1 l hl
      split at h
      · rename_i hlen
        cases h
        obtain ⟨rfl, hd⟩ := dR_some hl
        refine ⟨by simp [epactref01_trim.c], l.length + 1, ?_⟩
        simp [epactref01_trim.c]
        refine ends_while (fun n s => s.tm 0 = .o (.c (.r .i64 l)) ∧ s.tm 3 = .o (iv .i64 (n : Int)) ∧ n ≤ l.length ∧ ∀ j, n ≤ j → j < l.length → l.getD j 0 = 0) (fun n s hI => ?_) (l.length + 1) l.length _ (by omega) ⟨by simp, by simp, Nat.le_refl _, fun j h1 h2 => by omega⟩
        obtain ⟨t0, t3, hn, hz⟩ := hI
        by_cases h0 : n = 0
        · subst h0
          have ht := trim_dg hd 0 hn hz (.inl rfl)
          simp [epactref01_trim.l1, t0, t3]
          simpa using ht
        · obtain ⟨m, rfl⟩ : ∃ m, n = m + 1 := ⟨n - 1, by omega⟩
          have w1 : IntKind.i64.wrap (m : Int) = m := wrap_i64_in (by omega) (by omega)
          have c1 : (0 : Int) < (m : Int) + 1 := by omega
          have c2 : m < l.length := by omega
          simp at t3
          by_cases hz0 : l.getD m 0 = 0
          · have hz0' := hz0
            rw [List.getD_eq_getElem?_getD] at hz0'
            have hz1 : l[m] = 0 := by simpa [c2] using hz0'
            simp [epactref01_trim.l1, t0, t3, w1, c1, c2, hz1]
            refine ⟨m, by omega, rfl, by omega, fun j h1 h2 => ?_⟩
            by_cases hj : j = m
            · subst hj; exact hz0'
            · have := hz j (by omega) h2
              simpa using this
          · have hz0' := hz0
            rw [List.getD_eq_getElem?_getD] at hz0'
            have ht := trim_dg hd (m + 1) hn hz (.inr (by simpa using hz0))
            have c3 : (m : Int) + 1 ≤ l.length := by omega
            have c4 : (0 : Int) ≤ (m : Int) + 1 := by omega
            have hz1 : ¬ l[m] = 0 := by simpa [c2] using hz0'
            have e2 : ((m : Int) + 1).toNat = m + 1 := by omega
            simp [epactref01_trim.l1, t0, t3, w1, c1, c2, c3, c4, e2, hz1, ht]
      · cases h
    · cases h
  · cases h
end Go.Proofs.Ytanolecbepjkcaa.E
/- The reference's digits: cmp. -/
namespace Go.Proofs.Ytanolecbepjkcaa.E
open Go.VC Go.RowKit

theorem val_ge : ∀ {l : List Int}, Dg l → Trm l → l ≠ [] → (65536 : Int) ^ (l.length - 1) ≤ val l
  | [], _, _, h => absurd rfl h
  | [d], hd, ht, _ => by
    have h1 := hd d (by simp)
    have h2 : d ≠ 0 := fun h => by subst h; simp [Trm] at ht
    simp [val]; omega
  | d :: e :: l, hd, ht, _ => by
    have ht' : Trm (e :: l) := by unfold Trm at ht ⊢; rwa [List.getLast?_cons_cons] at ht
    have ih := val_ge (l := e :: l) (fun x hx => hd x (by simp [hx])) ht' (by simp)
    have h1 := hd d (by simp)
    have e1 : (d :: e :: l).length - 1 = (e :: l).length - 1 + 1 := by simp
    rw [e1, Int.pow_succ]
    rw [val]; omega
theorem val_shorter {a b : List Int} (ha : Dg a) (hb : Dg b) (ht : Trm b) (hl : a.length < b.length) : val a < val b := by
  have h1 := val_lt ha
  have h2 := val_ge hb ht (fun h => by rw [h] at hl; simp at hl)
  have h3 : (65536 : Int) ^ a.length ≤ 65536 ^ (b.length - 1) := by
    have h : (65536 : Nat) ^ a.length ≤ 65536 ^ (b.length - 1) := Nat.pow_le_pow_right (by decide) (by omega)
    have e : ∀ k : Nat, (((65536 : Nat) ^ k : Nat) : Int) = (65536 : Int) ^ k := fun k => by
      induction k with
      | zero => rfl
      | succ k ih => rw [Nat.pow_succ, Int.pow_succ, ← ih, Int.natCast_mul]; rfl
    rw [← e, ← e]
    exact Int.ofNat_le.2 h
  omega
theorem val_at {a b : List Int} (ha : Dg a) (hb : Dg b) (i : Nat) (hia : i < a.length) (hib : i < b.length) (hd : a.drop (i + 1) = b.drop (i + 1)) (hlt : a.getD i 0 < b.getD i 0) : val a < val b := by
  rw [val_take_drop a i (by omega), val_take_drop b i (by omega), val_drop a i hia, val_drop b i hib, hd]
  have h1 := val_lt (dg_take i ha)
  rw [List.length_take, Nat.min_eq_left (by omega)] at h1
  have h2 := val_nonneg (dg_take i hb)
  generalize val (b.drop (i + 1)) = D
  have h0 : (0 : Int) ≤ 65536 ^ i := Int.le_of_lt (Int.pow_pos (by decide))
  have h3 : (65536 : Int) ^ i * (a.getD i 0 + 65536 * D) + 65536 ^ i ≤ 65536 ^ i * (b.getD i 0 + 65536 * D) := by
    have : (65536 : Int) ^ i * (a.getD i 0 + 65536 * D + 1) ≤ 65536 ^ i * (b.getD i 0 + 65536 * D) := Int.mul_le_mul_of_nonneg_left (by omega) h0
    rw [Int.mul_add, Int.mul_one] at this
    exact this
  omega
def sCmpD : List AP → Option AV
  | [a, b] => match dR a, dR b with
    | some x, some y => if Trm x ∧ Trm y ∧ x.length ≤ 1000000 ∧ y.length ≤ 1000000 then some (.o (iv .i64 (cmpI (val x) (val y)))) else none
    | _, _ => none
  | _ => none
theorem okCmpD : Ok Try.prog 74 sCmpD := ok_of' Try.func74 epactref01_cmp.ent epactref01_cmp.chk specOk_nil fun av r h => by
  unfold sCmpD at h
  split at h
  · split at h
    · rename_i a b x1 x2 x y hx hy
      split at h
      · rename_i hlen
        cases h
        obtain ⟨rfl, hdx⟩ := dR_some hx
        obtain ⟨rfl, hdy⟩ := dR_some hy
        obtain ⟨htx, hty, hlx, hly⟩ := hlen
        refine ⟨by simp [epactref01_cmp.c], x.length + 1, ?_⟩
        by_cases hne : x.length = y.length
        · have w1 : IntKind.i64.wrap ((x.length : Int) - 1) = (x.length : Int) - 1 := wrap_i64_in (by omega) (by omega)
          simp [epactref01_cmp.c, hne]
          rw [hne] at w1
          simp [w1]
          refine ends_while (fun n s => s.tm 0 = .o (.c (.r .i64 x)) ∧ s.tm 1 = .o (.c (.r .i64 y)) ∧ s.tm 5 = .o (iv .i64 ((n : Int) - 1)) ∧ n ≤ y.length ∧ x.drop n = y.drop n) (fun n s hI => ?_) (y.length + 1) y.length _ (by omega) ⟨by simp, by simp, by simp, Nat.le_refl _, by rw [List.drop_eq_nil_of_le (by omega), List.drop_eq_nil_of_le (by omega)]⟩
          obtain ⟨t0, t1, t5, hn, hdr⟩ := hI
          cases n with
          | zero =>
            have e : x = y := by simpa using hdr
            subst e
            simp at t5
            simp [epactref01_cmp.l1, t0, t1, t5, cmpI]
          | succ m =>
            simp at t5
            have c2 : m < y.length := by omega
            have c3 : m < x.length := by omega
            have w2 : IntKind.i64.wrap ((m : Int) - 1) = (m : Int) - 1 := wrap_i64_in (by omega) (by omega)
            have g1 : x.getD m 0 = x[m] := by simp [List.getD_eq_getElem?_getD, c3]
            have g2 : y.getD m 0 = y[m] := by simp [List.getD_eq_getElem?_getD, c2]
            rcases Int.lt_trichotomy x[m] y[m] with h1 | h1 | h1
            · have hv := val_at hdx hdy m c3 c2 hdr (by rw [g1, g2]; exact h1)
              have e : cmpI (val x) (val y) = -1 := by unfold cmpI; rw [if_neg (by omega), if_pos hv]
              simp [epactref01_cmp.l1, t0, t1, t5, c2, c3, h1, e]
            · have h2 : ¬ x[m] < y[m] := by omega
              have h3 : ¬ y[m] < x[m] := by omega
              simp [epactref01_cmp.l1, t0, t1, t5, c2, c3, h2, h3, w2]
              refine ⟨m, by omega, rfl, by omega, ?_⟩
              rw [List.drop_eq_getElem_cons c3, List.drop_eq_getElem_cons c2, h1, hdr]
            · have h2 : ¬ x[m] < y[m] := by omega
              have hv := val_at hdy hdx m c2 c3 hdr.symm (by rw [g1, g2]; exact h1)
              have e : cmpI (val x) (val y) = 1 := by unfold cmpI; rw [if_neg (by omega), if_neg (by omega)]
              simp [epactref01_cmp.l1, t0, t1, t5, c2, c3, h2, h1, e]
        · by_cases hlt : x.length < y.length
          · have hv := val_shorter hdx hdy hty hlt
            have e : cmpI (val x) (val y) = -1 := by unfold cmpI; rw [if_neg (by omega), if_pos hv]
            have hne' : ¬ (x.length : Int) = y.length := by omega
            simp [epactref01_cmp.c, hne, hne', hlt, e]
          · have hv := val_shorter hdy hdx htx (by omega)
            have e : cmpI (val x) (val y) = 1 := by unfold cmpI; rw [if_neg (by omega), if_neg (by omega)]
            have hne' : ¬ (x.length : Int) = y.length := by omega
            simp [epactref01_cmp.c, hne, hne', hlt, e]
      · cases h
    · cases h
  · cases h
end Go.Proofs.Ytanolecbepjkcaa.E
/- The reference's digits: add. -/
namespace Go.Proofs.Ytanolecbepjkcaa.E
open Go.VC Go.RowKit

/-- Numbers as cells. -/
def ci (l : List Int) : List AC := l.map fun x => .v (.int .i64 x)
theorem ci_len (l : List Int) : (ci l).length = l.length := by simp [ci]
theorem ci_take (l : List Int) : (ci l).take l.length = ci l := by rw [← ci_len]; exact List.take_length
theorem ci_kill (l : List Int) (ns : List Nat) : (ci l).map (AC.kill ns) = ci l := by simp [ci, AC.kill]
theorem ci_app (l : List Int) (x : Int) : ci (l ++ [x]) = ci l ++ [.v (.int .i64 x)] := by simp [ci]
theorem ci_nil : ci [] = [] := rfl
theorem ci_rows : ∀ l : List Int, rowInts .i64 (ci l) = some l
  | [] => rfl
  | x :: l => by
    have := ci_rows l
    simp only [ci, List.map_cons, rowInts] at this ⊢
    simp [this]
theorem val_snoc (l : List Int) (x : Int) : val (l ++ [x]) = val l + 65536 ^ l.length * x := by rw [val_append]; simp [val]

def sAddD : List AP → Option AV
  | [a, b] => match dR a, dR b with
    | some x, some y => if x.length ≤ 100000 ∧ y.length ≤ 100000 then some (.o (.c (.r .i64 (dg (val x + val y))))) else none
    | _, _ => none
  | _ => none
/-- Ahead of round i. -/
def AddI (x y : List Int) (i : Nat) (s : St) : Prop :=
  s.tm 0 = .o (.c (.r .i64 x)) ∧ s.tm 1 = .o (.c (.r .i64 y)) ∧ s.tm 7 = .o (iv .i64 (i : Int)) ∧ s.mem 47 = none ∧ ∃ (c : Int) (out : List Int), s.tm 6 = .o (iv .i64 c) ∧ 0 ≤ c ∧ c ≤ 1 ∧ out.length = i ∧ Dg out ∧
    val out + 65536 ^ i * (c + val (x.drop i) + val (y.drop i)) = val x + val y ∧
    ((i = 0 ∧ s.tm 5 = .o (.c (.nil .i64)) ∧ s.mem 48 = none) ∨ (i ≠ 0 ∧ s.tm 5 = .o (.c (.s ⟨3, 1, some .i64⟩ 48 i)) ∧ s.mem 48 = some (ci out)))
theorem headD_drop (l : List Int) (i : Nat) : (l.drop i).headD 0 = l.getD i 0 := by
  rw [List.headD_eq_head?_getD, List.head?_drop, List.getD_eq_getElem?_getD]
theorem val_dropD (l : List Int) (i : Nat) : val (l.drop i) = l.getD i 0 + 65536 * val (l.drop (i + 1)) := by
  by_cases h : i < l.length
  · exact val_drop l i h
  · rw [List.drop_eq_nil_of_le (by omega), List.drop_eq_nil_of_le (by omega), List.getD_eq_getElem?_getD, List.getElem?_eq_none (by omega)]
    rfl
theorem addI_mk {x y out : List Int} {i : Nat} {s' : St} {c c' : Int} (hx : Dg x) (hy : Dg y) (h0 : s'.tm 0 = .o (.c (.r .i64 x))) (h1 : s'.tm 1 = .o (.c (.r .i64 y))) (h7 : s'.tm 7 = .o (iv .i64 ((i : Int) + 1))) (m47 : s'.mem 47 = none)
    (t6 : s'.tm 6 = .o (iv .i64 (c' / 65536))) (t5 : s'.tm 5 = .o (.c (.s ⟨3, 1, some .i64⟩ 48 (i + 1)))) (m48 : s'.mem 48 = some (ci out ++ [.v (.int .i64 (c' % 65536))]))
    (hc : c' = c + x.getD i 0 + y.getD i 0) (c0 : 0 ≤ c) (c1 : c ≤ 1) (ho : out.length = i) (hdo : Dg out) (hv : val out + 65536 ^ i * (c + val (x.drop i) + val (y.drop i)) = val x + val y) : AddI x y (i + 1) s' := by
  have g1 := dg_get hx i
  have g2 := dg_get hy i
  refine ⟨h0, h1, by rw [h7]; simp, m47, c' / 65536, out ++ [c' % 65536], t6, by omega, by omega, by simp [ho], ?_, ?_, .inr ⟨by omega, t5, by rw [m48, ci_app]⟩⟩
  · exact dg_append hdo (fun d hd => by simp at hd; omega)
  · rw [val_snoc, ho, ← hv, val_dropD x i, val_dropD y i, Int.pow_succ]
    have e : c' = c' / 65536 * 65536 + c' % 65536 := by omega
    generalize hA : val (x.drop (i + 1)) = A
    generalize hB : val (y.drop (i + 1)) = B
    generalize c' / 65536 = q at *
    generalize c' % 65536 = t at *
    generalize x.getD i 0 = xi at *
    generalize y.getD i 0 = yi at *
    have e2 : c + (xi + 65536 * A) + (yi + 65536 * B) = q * 65536 + t + 65536 * A + 65536 * B := by omega
    rw [e2]
    grind
theorem tdiv_nn {a : Int} (h : 0 ≤ a) : a.tdiv 65536 = a / 65536 := Int.tdiv_eq_ediv_of_nonneg h
theorem tmod_nn {a : Int} (h : 0 ≤ a) : a.tmod 65536 = a % 65536 := Int.tmod_eq_emod_of_nonneg h
theorem add_step (K : Nat) (x y : List Int) (hx : Dg x) (hy : Dg y) (hlx : x.length ≤ 100000) (hly : y.length ≤ 100000) (i : Nat) (s : St) (hI : AddI x y i s) (hgo : i < x.length ∨ i < y.length ∨ ∃ c, s.tm 6 = .o (iv .i64 c) ∧ 0 < c) (hi : i ≤ 200000) :
    EndsIn (absCode (spOf [(79, sTrim)]) K epactref01_add.l1 s) (fun ax s' => match ax with | .n => AddI x y (i + 1) s' | ax => False) := by
  obtain ⟨t0, t1, t7, m47, c, out, t6, c0, c1, ho, hdo, hv, hrow⟩ := hI
  have wi : IntKind.i64.wrap ((i : Int) + 1) = (i : Int) + 1 := wrap_i64_in (by omega) (by omega)
  have g1 := dg_get hx i
  have g2 := dg_get hy i
  by_cases hix : i < x.length
  · by_cases hiy : i < y.length
    · skip
      have gx : x.getD i 0 = x[i] := by simp [List.getD_eq_getElem?_getD, hix]
      have gy : y.getD i 0 = y[i] := by simp [List.getD_eq_getElem?_getD, hiy]
      rw [gx] at g1
      rw [gy] at g2
      have wa : IntKind.i64.wrap (c + x[i]) = c + x[i] := wrap_i64_in (by omega) (by omega)
      have wb : IntKind.i64.wrap (c + x[i] + y[i]) = c + x[i] + y[i] := wrap_i64_in (by omega) (by omega)
      have wd1 : (c + x[i] + y[i]).tdiv 65536 = (c + x[i] + y[i]) / 65536 := tdiv_nn (by omega)
      have wm : (c + x[i] + y[i]).tmod 65536 = (c + x[i] + y[i]) % 65536 := tmod_nn (by omega)
      have wq : IntKind.i64.wrap ((c + x[i] + y[i]) / 65536) = (c + x[i] + y[i]) / 65536 := wrap_i64_in (by omega) (by omega)
      rcases hrow with ⟨hi0, t5, m48⟩ | ⟨hi0, t5, m48⟩
      · have hout : out = [] := List.eq_nil_of_length_eq_zero (by omega)
        subst hout
        simp [epactref01_add.l1, t0, t1, t5, t6, t7, m47, m48, hix, hiy, wi, wa, wb, wd1, wm, wq, ownOf, lieOf, St.drop, AC.kill, AP.kill, AV.kill]
        refine addI_mk (c := c) (c' := c + x[i] + y[i]) (out := []) hx hy (by simp [t0]) (by simp [t1]) (by simp) (by simp) (by simp) (by simp [hi0]) (by simp [ci_nil]) (by rw [gx, gy]) c0 c1 ho hdo hv
      · have hb : i + 1 ≤ 1000000000000 := by omega
        have hlo : i ≤ (ci out).length := by rw [ci_len]; omega
        have htk : (ci out).take i = ci out := by rw [← ho]; exact ci_take out
        simp [epactref01_add.l1, t0, t1, t5, t6, t7, m47, m48, hix, hiy, wi, wa, wb, wd1, wm, wq, ownOf, lieOf, St.drop, AC.kill, AP.kill, AV.kill, hb, hlo, htk, ci_kill]
        refine addI_mk (c := c) (c' := c + x[i] + y[i]) (out := out) hx hy (by simp [t0]) (by simp [t1]) (by simp) (by simp) (by simp) (by simp) (by simp [ci]) (by rw [gx, gy]) c0 c1 ho hdo hv
    · skip
      have gx : x.getD i 0 = x[i] := by simp [List.getD_eq_getElem?_getD, hix]
      have gy : y.getD i 0 = 0 := by rw [List.getD_eq_getElem?_getD, List.getElem?_eq_none (by omega)]; rfl
      rw [gx] at g1
      rw [gy] at g2
      have wa : IntKind.i64.wrap (c + x[i]) = c + x[i] := wrap_i64_in (by omega) (by omega)
      have wd1 : (c + x[i]).tdiv 65536 = (c + x[i]) / 65536 := tdiv_nn (by omega)
      have wm : (c + x[i]).tmod 65536 = (c + x[i]) % 65536 := tmod_nn (by omega)
      have wq : IntKind.i64.wrap ((c + x[i]) / 65536) = (c + x[i]) / 65536 := wrap_i64_in (by omega) (by omega)
      rcases hrow with ⟨hi0, t5, m48⟩ | ⟨hi0, t5, m48⟩
      · have hout : out = [] := List.eq_nil_of_length_eq_zero (by omega)
        subst hout
        simp [epactref01_add.l1, t0, t1, t5, t6, t7, m47, m48, hix, hiy, wi, wa, wd1, wm, wq, ownOf, lieOf, St.drop, AC.kill, AP.kill, AV.kill]
        refine addI_mk (c := c) (c' := c + x[i]) (out := []) hx hy (by simp [t0]) (by simp [t1]) (by simp) (by simp) (by simp) (by simp [hi0]) (by simp [ci_nil]) (by rw [gx, gy]; omega) c0 c1 ho hdo hv
      · have hb : i + 1 ≤ 1000000000000 := by omega
        have hlo : i ≤ (ci out).length := by rw [ci_len]; omega
        have htk : (ci out).take i = ci out := by rw [← ho]; exact ci_take out
        simp [epactref01_add.l1, t0, t1, t5, t6, t7, m47, m48, hix, hiy, wi, wa, wd1, wm, wq, ownOf, lieOf, St.drop, AC.kill, AP.kill, AV.kill, hb, hlo, htk, ci_kill]
        refine addI_mk (c := c) (c' := c + x[i]) (out := out) hx hy (by simp [t0]) (by simp [t1]) (by simp) (by simp) (by simp) (by simp) (by simp [ci]) (by rw [gx, gy]; omega) c0 c1 ho hdo hv
  · by_cases hiy : i < y.length
    · skip
      have gx : x.getD i 0 = 0 := by rw [List.getD_eq_getElem?_getD, List.getElem?_eq_none (by omega)]; rfl
      have gy : y.getD i 0 = y[i] := by simp [List.getD_eq_getElem?_getD, hiy]
      rw [gx] at g1
      rw [gy] at g2
      have wb : IntKind.i64.wrap (c + y[i]) = c + y[i] := wrap_i64_in (by omega) (by omega)
      have wd1 : (c + y[i]).tdiv 65536 = (c + y[i]) / 65536 := tdiv_nn (by omega)
      have wm : (c + y[i]).tmod 65536 = (c + y[i]) % 65536 := tmod_nn (by omega)
      have wq : IntKind.i64.wrap ((c + y[i]) / 65536) = (c + y[i]) / 65536 := wrap_i64_in (by omega) (by omega)
      rcases hrow with ⟨hi0, t5, m48⟩ | ⟨hi0, t5, m48⟩
      · have hout : out = [] := List.eq_nil_of_length_eq_zero (by omega)
        subst hout
        simp [epactref01_add.l1, t0, t1, t5, t6, t7, m47, m48, hix, hiy, wi, wb, wd1, wm, wq, ownOf, lieOf, St.drop, AC.kill, AP.kill, AV.kill]
        refine addI_mk (c := c) (c' := c + y[i]) (out := []) hx hy (by simp [t0]) (by simp [t1]) (by simp) (by simp) (by simp) (by simp [hi0]) (by simp [ci_nil]) (by rw [gx, gy]; omega) c0 c1 ho hdo hv
      · have hb : i + 1 ≤ 1000000000000 := by omega
        have hlo : i ≤ (ci out).length := by rw [ci_len]; omega
        have htk : (ci out).take i = ci out := by rw [← ho]; exact ci_take out
        simp [epactref01_add.l1, t0, t1, t5, t6, t7, m47, m48, hix, hiy, wi, wb, wd1, wm, wq, ownOf, lieOf, St.drop, AC.kill, AP.kill, AV.kill, hb, hlo, htk, ci_kill]
        refine addI_mk (c := c) (c' := c + y[i]) (out := out) hx hy (by simp [t0]) (by simp [t1]) (by simp) (by simp) (by simp) (by simp) (by simp [ci]) (by rw [gx, gy]; omega) c0 c1 ho hdo hv
    · skip
      have gx : x.getD i 0 = 0 := by rw [List.getD_eq_getElem?_getD, List.getElem?_eq_none (by omega)]; rfl
      have gy : y.getD i 0 = 0 := by rw [List.getD_eq_getElem?_getD, List.getElem?_eq_none (by omega)]; rfl
      rw [gx] at g1
      rw [gy] at g2
      have wd1 : (c).tdiv 65536 = (c) / 65536 := tdiv_nn (by omega)
      have wm : (c).tmod 65536 = (c) % 65536 := tmod_nn (by omega)
      have wq : IntKind.i64.wrap ((c) / 65536) = (c) / 65536 := wrap_i64_in (by omega) (by omega)
      have hc : 0 < c := by
        rcases hgo with h | h | ⟨c2, h, hp⟩
        · omega
        · omega
        · rw [t6] at h; simp at h; omega
      rcases hrow with ⟨hi0, t5, m48⟩ | ⟨hi0, t5, m48⟩
      · have hout : out = [] := List.eq_nil_of_length_eq_zero (by omega)
        subst hout
        simp [epactref01_add.l1, t0, t1, t5, t6, t7, m47, m48, hix, hiy, wi, wd1, wm, wq, hc, ownOf, lieOf, St.drop, AC.kill, AP.kill, AV.kill]
        refine addI_mk (c := c) (c' := c) (out := []) hx hy (by simp [t0]) (by simp [t1]) (by simp) (by simp) (by simp) (by simp [hi0]) (by simp [ci_nil]) (by rw [gx, gy]; omega) c0 c1 ho hdo hv
      · have hb : i + 1 ≤ 1000000000000 := by omega
        have hlo : i ≤ (ci out).length := by rw [ci_len]; omega
        have htk : (ci out).take i = ci out := by rw [← ho]; exact ci_take out
        simp [epactref01_add.l1, t0, t1, t5, t6, t7, m47, m48, hix, hiy, wi, wd1, wm, wq, hc, ownOf, lieOf, St.drop, AC.kill, AP.kill, AV.kill, hb, hlo, htk, ci_kill]
        refine addI_mk (c := c) (c' := c) (out := out) hx hy (by simp [t0]) (by simp [t1]) (by simp) (by simp) (by simp) (by simp) (by simp [ci]) (by rw [gx, gy]; omega) c0 c1 ho hdo hv
end Go.Proofs.Ytanolecbepjkcaa.E
/- The reference's digits: add, whole. -/
namespace Go.Proofs.Ytanolecbepjkcaa.E
open Go.VC Go.RowKit

theorem pow_mono {i j : Nat} (h : i ≤ j) : (65536 : Int) ^ i ≤ 65536 ^ j := by
  have h1 : (65536 : Nat) ^ i ≤ 65536 ^ j := Nat.pow_le_pow_right (by decide) h
  have e : ∀ k : Nat, (((65536 : Nat) ^ k : Nat) : Int) = (65536 : Int) ^ k := fun k => by
    induction k with
    | zero => rfl
    | succ k ih => rw [Nat.pow_succ, Int.pow_succ, ← ih, Int.natCast_mul]; rfl
  rw [← e, ← e]
  exact Int.ofNat_le.2 h1
theorem pow_pos' (i : Nat) : (0 : Int) < 65536 ^ i := Int.pow_pos (by decide)
theorem okAddD : Ok Try.prog 82 sAddD := ok_of' Try.func82 epactref01_add.ent epactref01_add.chk (specOk_cons okTrim specOk_nil) fun av r h => by
  unfold sAddD at h
  split at h
  · split at h
    · rename_i a b x1 x2 x y hx hy
      split at h
      · rename_i hlen
        cases h
        obtain ⟨rfl, hdx⟩ := dR_some hx
        obtain ⟨rfl, hdy⟩ := dR_some hy
        obtain ⟨hlx, hly⟩ := hlen
        obtain ⟨N, hN1, hN2, hN3⟩ : ∃ N, x.length ≤ N ∧ y.length ≤ N ∧ N ≤ 100000 := ⟨max x.length y.length, Nat.le_max_left _ _, Nat.le_max_right _ _, Nat.max_le.2 ⟨hlx, hly⟩⟩
        refine ⟨by simp [epactref01_add.c], N + 2, ?_⟩
        simp [epactref01_add.c]
        refine ends_while (fun m s => ∃ i, i + m = N + 1 ∧ AddI x y i s) (fun m s hI => ?_) (N + 2) (N + 1) _ (by omega) ⟨0, by omega, by simp, by simp, by simp, by simp, 0, [], by simp, by decide, by decide, rfl, (fun d hd => by cases hd), by simp [val], .inl ⟨rfl, by simp, by simp⟩⟩
        obtain ⟨i, him, hA⟩ := hI
        have hA' := hA
        obtain ⟨t0, t1, t7, m47, c, out, t6, c0, c1, ho, hdo, hv, hrow⟩ := hA'
        by_cases hgo : i < x.length ∨ i < y.length ∨ 0 < c
        · have hiN : i ≤ N := by
            rcases hgo with h | h | h
            · omega
            · omega
            · rcases Nat.lt_or_ge N i with h2 | h2
              · exfalso
                rw [List.drop_eq_nil_of_le (by omega), List.drop_eq_nil_of_le (by omega)] at hv
                have hc : c = 1 := by omega
                subst hc
                have e1 := val_lt hdx
                have e2 := val_lt hdy
                have e3 := pow_mono hN1
                have e4 := pow_mono hN2
                have e5 := pow_mono (show N + 1 ≤ i by omega)
                rw [Int.pow_succ] at e5
                have e6 := val_nonneg hdo
                have e7 := pow_pos' N
                simp [val] at hv
                omega
              · exact h2
          refine (add_step (N + 2) x y hdx hdy hlx hly i s hA (by rcases hgo with h | h | h; exact .inl h; exact .inr (.inl h); exact .inr (.inr ⟨c, t6, h⟩)) (by omega)).mono (fun ax s' hh => ?_)
          cases ax with
          | n => exact ⟨m - 1, by omega, i + 1, by omega, hh⟩
          | e _ => exact hh.elim
          | r => exact hh.elim
        · have q1 : ¬ i < x.length := fun h => hgo (.inl h)
          have q2 : ¬ i < y.length := fun h => hgo (.inr (.inl h))
          have q3 : ¬ 0 < c := fun h => hgo (.inr (.inr h))
          rw [List.drop_eq_nil_of_le (by omega), List.drop_eq_nil_of_le (by omega)] at hv
          have hc : c = 0 := by omega
          subst hc
          simp [val] at hv
          rcases hrow with ⟨hi0, t5, m48⟩ | ⟨hi0, t5, m48⟩
          · have hout : out = [] := List.eq_nil_of_length_eq_zero (by omega)
            subst hout
            simp [val] at hv
            have hd0 : dR (.c (.r .i64 [])) = some [] := by decide
            simp [epactref01_add.l1, t0, t1, t5, t6, t7, q1, q2, sTrim, hd0, val, ← hv]
          · have hlo : i ≤ (ci out).length := by rw [ci_len]; omega
            have htk : (ci out).take i = ci out := by rw [← ho]; exact ci_take out
            have hd0 : dR (.c (.r .i64 out)) = some out := by simp [dR, hdo]
            have hl2 : out.length ≤ 1000000 := by omega
            simp [epactref01_add.l1, t0, t1, t5, t6, t7, m48, q1, q2, sTrim, hd0, hlo, htk, hl2, ← hv, St.rel, AC.rel, AP.rel, AV.rel, relRow, ci_rows]
      · cases h
    · cases h
  · cases h
end Go.Proofs.Ytanolecbepjkcaa.E
/- The reference's digits: sub. -/
namespace Go.Proofs.Ytanolecbepjkcaa.E
open Go.VC Go.RowKit

def sSubD : List AP → Option AV
  | [a, b] => match dR a, dR b with
    | some x, some y => if Trm y ∧ val y ≤ val x ∧ x.length ≤ 100000 ∧ y.length ≤ 100000 then some (.o (.c (.r .i64 (dg (val x - val y))))) else none
    | _, _ => none
  | _ => none
/-- Ahead of round i. -/
def SubI (x y : List Int) (i : Nat) (s : St) : Prop :=
  s.tm 0 = .o (.c (.r .i64 x)) ∧ s.tm 1 = .o (.c (.r .i64 y)) ∧ s.tm 7 = .o (iv .i64 (i : Int)) ∧ s.mem 37 = none ∧ ∃ (c : Int) (out : List Int), s.tm 6 = .o (iv .i64 c) ∧ 0 ≤ c ∧ c ≤ 1 ∧ out.length = i ∧ Dg out ∧
    val out + 65536 ^ i * (val (x.drop i) - c - val (y.drop i)) = val x - val y ∧
    ((i = 0 ∧ s.tm 5 = .o (.c (.nil .i64)) ∧ s.mem 38 = none) ∨ (i ≠ 0 ∧ s.tm 5 = .o (.c (.s ⟨3, 1, some .i64⟩ 38 i)) ∧ s.mem 38 = some (ci out)))
theorem subI_mk {x y out : List Int} {i : Nat} {s' : St} {c c' t : Int} (hx : Dg x) (hy : Dg y) (h0 : s'.tm 0 = .o (.c (.r .i64 x))) (h1 : s'.tm 1 = .o (.c (.r .i64 y))) (h7 : s'.tm 7 = .o (iv .i64 ((i : Int) + 1))) (m47 : s'.mem 37 = none)
    (t6 : s'.tm 6 = .o (iv .i64 c')) (t5 : s'.tm 5 = .o (.c (.s ⟨3, 1, some .i64⟩ 38 (i + 1)))) (m48 : s'.mem 38 = some (ci out ++ [.v (.int .i64 t)]))
    (hc : x.getD i 0 - c - y.getD i 0 = t - 65536 * c') (d0 : 0 ≤ c') (d1 : c' ≤ 1) (b0 : 0 ≤ t) (b1 : t < 65536) (ho : out.length = i) (hdo : Dg out) (hv : val out + 65536 ^ i * (val (x.drop i) - c - val (y.drop i)) = val x - val y) : SubI x y (i + 1) s' := by
  refine ⟨h0, h1, by rw [h7]; simp, m47, c', out ++ [t], t6, d0, d1, by simp [ho], ?_, ?_, .inr ⟨by omega, t5, by rw [m48, ci_app]⟩⟩
  · exact dg_append hdo (fun d hd => by simp at hd; omega)
  · rw [val_snoc, ho, ← hv, val_dropD x i, val_dropD y i, Int.pow_succ]
    generalize hA : val (x.drop (i + 1)) = A
    generalize hB : val (y.drop (i + 1)) = B
    generalize x.getD i 0 = xi at *
    generalize y.getD i 0 = yi at *
    have e2 : xi + 65536 * A - c - (yi + 65536 * B) = t - 65536 * c' + 65536 * A - 65536 * B := by omega
    rw [e2]
    grind
theorem sub_step (K : Nat) (x y : List Int) (hx : Dg x) (hy : Dg y) (hlx : x.length ≤ 100000) (hly : y.length ≤ 100000) (i : Nat) (s : St) (hI : SubI x y i s) (hix : i < x.length) :
    EndsIn (absCode (spOf [(79, sTrim)]) K epactref01_sub.l1 s) (fun ax s' => match ax with | .n => SubI x y (i + 1) s' | ax => False) := by
  obtain ⟨t0, t1, t7, m47, c, out, t6, c0, c1, ho, hdo, hv, hrow⟩ := hI
  have wi : IntKind.i64.wrap ((i : Int) + 1) = (i : Int) + 1 := wrap_i64_in (by omega) (by omega)
  have g1 := dg_get hx i
  have g2 := dg_get hy i
  have gx : x.getD i 0 = x[i] := by simp [List.getD_eq_getElem?_getD, hix]
  rw [gx] at g1
  have wa : IntKind.i64.wrap (x[i] - c) = x[i] - c := wrap_i64_in (by omega) (by omega)
  by_cases hiy : i < y.length
  · skip
    have gy : y.getD i 0 = y[i] := by simp [List.getD_eq_getElem?_getD, hiy]
    rw [gy] at g2
    by_cases hn : x[i] - c - y[i] < 0
    · skip
      have wb : IntKind.i64.wrap (x[i] - c - y[i]) = x[i] - c - y[i] := wrap_i64_in (by omega) (by omega)
      have wn : IntKind.i64.wrap (x[i] - c - y[i] + 65536) = x[i] - c - y[i] + 65536 := wrap_i64_in (by omega) (by omega)
      rcases hrow with ⟨hi0, t5, m48⟩ | ⟨hi0, t5, m48⟩
      · have hout : out = [] := List.eq_nil_of_length_eq_zero (by omega)
        subst hout
        simp [epactref01_sub.l1, t0, t1, t5, t6, t7, m47, m48, hix, hiy, wi, wa, wb, wn, hn, ownOf, lieOf, St.drop, AC.kill, AP.kill, AV.kill]
        refine subI_mk (c := c) (c' := 1) (t := x[i] - c - y[i] + 65536) (out := []) hx hy (by simp [t0]) (by simp [t1]) (by simp) (by simp) (by simp) (by simp [hi0]) (by simp [ci_nil]) (by rw [gx, gy]; omega) (by decide) (by decide) (by omega) (by omega) ho hdo hv
      · have hb : i + 1 ≤ 1000000000000 := by omega
        have hlo : i ≤ (ci out).length := by rw [ci_len]; omega
        have htk : (ci out).take i = ci out := by rw [← ho]; exact ci_take out
        simp [epactref01_sub.l1, t0, t1, t5, t6, t7, m47, m48, hix, hiy, wi, wa, wb, wn, hn, ownOf, lieOf, St.drop, AC.kill, AP.kill, AV.kill, hb, hlo, htk, ci_kill]
        refine subI_mk (c := c) (c' := 1) (t := x[i] - c - y[i] + 65536) (out := out) hx hy (by simp [t0]) (by simp [t1]) (by simp) (by simp) (by simp) (by simp) (by simp [ci]) (by rw [gx, gy]; omega) (by decide) (by decide) (by omega) (by omega) ho hdo hv
    · skip
      have wb : IntKind.i64.wrap (x[i] - c - y[i]) = x[i] - c - y[i] := wrap_i64_in (by omega) (by omega)
      rcases hrow with ⟨hi0, t5, m48⟩ | ⟨hi0, t5, m48⟩
      · have hout : out = [] := List.eq_nil_of_length_eq_zero (by omega)
        subst hout
        simp [epactref01_sub.l1, t0, t1, t5, t6, t7, m47, m48, hix, hiy, wi, wa, wb, hn, ownOf, lieOf, St.drop, AC.kill, AP.kill, AV.kill]
        refine subI_mk (c := c) (c' := 0) (t := x[i] - c - y[i]) (out := []) hx hy (by simp [t0]) (by simp [t1]) (by simp) (by simp) (by simp) (by simp [hi0]) (by simp [ci_nil]) (by rw [gx, gy]; omega) (by decide) (by decide) (by omega) (by omega) ho hdo hv
      · have hb : i + 1 ≤ 1000000000000 := by omega
        have hlo : i ≤ (ci out).length := by rw [ci_len]; omega
        have htk : (ci out).take i = ci out := by rw [← ho]; exact ci_take out
        simp [epactref01_sub.l1, t0, t1, t5, t6, t7, m47, m48, hix, hiy, wi, wa, wb, hn, ownOf, lieOf, St.drop, AC.kill, AP.kill, AV.kill, hb, hlo, htk, ci_kill]
        refine subI_mk (c := c) (c' := 0) (t := x[i] - c - y[i]) (out := out) hx hy (by simp [t0]) (by simp [t1]) (by simp) (by simp) (by simp) (by simp) (by simp [ci]) (by rw [gx, gy]; omega) (by decide) (by decide) (by omega) (by omega) ho hdo hv
  · skip
    have gy : y.getD i 0 = 0 := by rw [List.getD_eq_getElem?_getD, List.getElem?_eq_none (by omega)]; rfl
    rw [gy] at g2
    by_cases hn : x[i] - c < 0
    · skip
      have wn : IntKind.i64.wrap (x[i] - c + 65536) = x[i] - c + 65536 := wrap_i64_in (by omega) (by omega)
      rcases hrow with ⟨hi0, t5, m48⟩ | ⟨hi0, t5, m48⟩
      · have hout : out = [] := List.eq_nil_of_length_eq_zero (by omega)
        subst hout
        simp [epactref01_sub.l1, t0, t1, t5, t6, t7, m47, m48, hix, hiy, wi, wa, wn, hn, ownOf, lieOf, St.drop, AC.kill, AP.kill, AV.kill]
        refine subI_mk (c := c) (c' := 1) (t := x[i] - c + 65536) (out := []) hx hy (by simp [t0]) (by simp [t1]) (by simp) (by simp) (by simp) (by simp [hi0]) (by simp [ci_nil]) (by rw [gx, gy]; omega) (by decide) (by decide) (by omega) (by omega) ho hdo hv
      · have hb : i + 1 ≤ 1000000000000 := by omega
        have hlo : i ≤ (ci out).length := by rw [ci_len]; omega
        have htk : (ci out).take i = ci out := by rw [← ho]; exact ci_take out
        simp [epactref01_sub.l1, t0, t1, t5, t6, t7, m47, m48, hix, hiy, wi, wa, wn, hn, ownOf, lieOf, St.drop, AC.kill, AP.kill, AV.kill, hb, hlo, htk, ci_kill]
        refine subI_mk (c := c) (c' := 1) (t := x[i] - c + 65536) (out := out) hx hy (by simp [t0]) (by simp [t1]) (by simp) (by simp) (by simp) (by simp) (by simp [ci]) (by rw [gx, gy]; omega) (by decide) (by decide) (by omega) (by omega) ho hdo hv
    · skip
      rcases hrow with ⟨hi0, t5, m48⟩ | ⟨hi0, t5, m48⟩
      · have hout : out = [] := List.eq_nil_of_length_eq_zero (by omega)
        subst hout
        simp [epactref01_sub.l1, t0, t1, t5, t6, t7, m47, m48, hix, hiy, wi, wa, hn, ownOf, lieOf, St.drop, AC.kill, AP.kill, AV.kill]
        refine subI_mk (c := c) (c' := 0) (t := x[i] - c) (out := []) hx hy (by simp [t0]) (by simp [t1]) (by simp) (by simp) (by simp) (by simp [hi0]) (by simp [ci_nil]) (by rw [gx, gy]; omega) (by decide) (by decide) (by omega) (by omega) ho hdo hv
      · have hb : i + 1 ≤ 1000000000000 := by omega
        have hlo : i ≤ (ci out).length := by rw [ci_len]; omega
        have htk : (ci out).take i = ci out := by rw [← ho]; exact ci_take out
        simp [epactref01_sub.l1, t0, t1, t5, t6, t7, m47, m48, hix, hiy, wi, wa, hn, ownOf, lieOf, St.drop, AC.kill, AP.kill, AV.kill, hb, hlo, htk, ci_kill]
        refine subI_mk (c := c) (c' := 0) (t := x[i] - c) (out := out) hx hy (by simp [t0]) (by simp [t1]) (by simp) (by simp) (by simp) (by simp) (by simp [ci]) (by rw [gx, gy]; omega) (by decide) (by decide) (by omega) (by omega) ho hdo hv
theorem okSubD : Ok Try.prog 81 sSubD := ok_of' Try.func81 epactref01_sub.ent epactref01_sub.chk (specOk_cons okTrim specOk_nil) fun av r h => by
  unfold sSubD at h
  split at h
  · split at h
    · rename_i a b x1 x2 x y hx hy
      split at h
      · rename_i hlen
        cases h
        obtain ⟨rfl, hdx⟩ := dR_some hx
        obtain ⟨rfl, hdy⟩ := dR_some hy
        obtain ⟨hty, hle, hlx, hly⟩ := hlen
        have hyx : y.length ≤ x.length := by
          rcases Nat.lt_or_ge x.length y.length with h | h
          · have := val_shorter hdx hdy hty h; omega
          · exact h
        refine ⟨by simp [epactref01_sub.c], x.length + 1, ?_⟩
        simp [epactref01_sub.c]
        refine ends_iter (SubI x y) x.length (fun i s hi hI => (sub_step _ x y hdx hdy hlx hly i s hI hi).mono (fun ax s' hh => ?_)) (fun s hI => ?_) (x.length + 1) 0 _ (by omega) (by omega) ⟨by simp, by simp, by simp, by simp, 0, [], by simp, by decide, by decide, rfl, (fun d hd => by cases hd), by simp [val], .inl ⟨rfl, by simp, by simp⟩⟩
        · cases ax with
          | n => exact hh
          | e _ => exact hh.elim
          | r => exact hh.elim
        · obtain ⟨t0, t1, t7, m47, c, out, t6, c0, c1, ho, hdo, hv, hrow⟩ := hI
          rw [List.drop_eq_nil_of_le (by omega), List.drop_eq_nil_of_le (by omega)] at hv
          have e1 := val_lt hdo
          rw [ho] at e1
          have hc : c = 0 := by
            have : c = 0 ∨ c = 1 := by omega
            rcases this with h | h
            · exact h
            · subst h; simp [val] at hv; omega
          subst hc
          simp [val] at hv
          rcases hrow with ⟨hi0, t5, m48⟩ | ⟨hi0, t5, m48⟩
          · have hout : out = [] := List.eq_nil_of_length_eq_zero (by omega)
            subst hout
            simp [val] at hv
            have hd0 : dR (.c (.r .i64 [])) = some [] := by decide
            simp [epactref01_sub.l1, t0, t1, t5, t6, t7, sTrim, hd0, val, ← hv]
          · have hlo : x.length ≤ (ci out).length := by rw [ci_len]; omega
            have htk : (ci out).take x.length = ci out := by rw [← ho]; exact ci_take out
            have hd0 : dR (.c (.r .i64 out)) = some out := by simp [dR, hdo]
            have hl2 : out.length ≤ 1000000 := by omega
            simp [epactref01_sub.l1, t0, t1, t5, t6, t7, m48, sTrim, hd0, hlo, htk, hl2, ← hv, St.rel, AC.rel, AP.rel, AV.rel, relRow, ci_rows]
      · cases h
    · cases h
  · cases h
end Go.Proofs.Ytanolecbepjkcaa.E
/- The reference's whole numbers: of a word, with the other sign, compared, a sum, a difference. -/
namespace Go.Proofs.Ytanolecbepjkcaa.E
open Go.VC Go.RowKit

theorem ngB_pos {z : Int} (h : 0 ≤ z) : ngB z = false := by unfold ngB; simp; omega
theorem ngB_neg {z : Int} (h : z < 0) : ngB z = true := by unfold ngB; simp; omega
def sWord : List AP → Option AV
  | [.c (.v (.int .u64 n))] => if 0 ≤ n ∧ n < 18446744073709551616 then some (.o (mkB n)) else none
  | _ => none
theorem okWord : Ok Try.prog 76 sWord := ok_of' Try.func76 epactref01_Word.ent epactref01_Word.chk (specOk_cons okTrim specOk_nil) fun av r h => by
  unfold sWord at h
  split at h
  · rename_i n
    split at h
    · rename_i hn
      cases h
      refine ⟨by simp [epactref01_Word.c], 0, ?_⟩
      have a1 : bitsV .and .u64 n 65535 = n % 65536 := and_u64_mask 16 (by omega) (by omega) (by decide) (by decide)
      have a2 : bitsV .and .u64 (n.fdiv 65536) 65535 = n / 65536 % 65536 := by rw [fdiv_pos (by decide)]; exact and_u64_mask 16 (by omega) (by omega) (by decide) (by decide)
      have a3 : bitsV .and .u64 (n.fdiv 4294967296) 65535 = n / 4294967296 % 65536 := by rw [fdiv_pos (by decide)]; exact and_u64_mask 16 (by omega) (by omega) (by decide) (by decide)
      have a4 : n.fdiv 281474976710656 = n / 281474976710656 := fdiv_pos (by decide)
      have w1 : IntKind.i64.wrap (n % 65536) = n % 65536 := wrap_i64_in (by omega) (by omega)
      have w2 : IntKind.i64.wrap (n / 65536 % 65536) = n / 65536 % 65536 := wrap_i64_in (by omega) (by omega)
      have w3 : IntKind.i64.wrap (n / 4294967296 % 65536) = n / 4294967296 % 65536 := wrap_i64_in (by omega) (by omega)
      have w4 : IntKind.i64.wrap (n / 281474976710656) = n / 281474976710656 := wrap_i64_in (by omega) (by omega)
      have hd : dR (.c (.r .i64 [n % 65536, n / 65536 % 65536, n / 4294967296 % 65536, n / 281474976710656])) = some [n % 65536, n / 65536 % 65536, n / 4294967296 % 65536, n / 281474976710656] := by
        simp only [dR]
        have hdg : Dg [n % 65536, n / 65536 % 65536, n / 4294967296 % 65536, n / 281474976710656] := fun d hd => by simp at hd; omega
        rw [if_pos hdg]
      have hv : val [n % 65536, n / 65536 % 65536, n / 4294967296 % 65536, n / 281474976710656] = n := by simp only [val]; omega
      simp [epactref01_Word.c, a1, a2, a3, a4, w1, w2, w3, w4, St.rel, AC.rel, AP.rel, AV.rel, relRow, rowInts, sTrim, hd, hv, mkB, ngB_pos hn.1]
    · cases h
  · cases h
end Go.Proofs.Ytanolecbepjkcaa.E
/- The reference's whole numbers: with the other sign, compared, a sum, a difference. -/
namespace Go.Proofs.Ytanolecbepjkcaa.E
open Go.VC Go.RowKit

/-- Of 40 digits at most. -/
def smB (z : Int) : Prop := -4562440617622195218641171605700291324893228507248559930579192517899275167208677386505912811317371399778642309573594407310688704721375437998252661319722214188251994674360264950082874192246603776 < z ∧ z < 4562440617622195218641171605700291324893228507248559930579192517899275167208677386505912811317371399778642309573594407310688704721375437998252661319722214188251994674360264950082874192246603776
instance (z : Int) : Decidable (smB z) := inferInstanceAs (Decidable (_ ∧ _))
theorem len_dg {z : Int} (h : smB z) : (dg z).length ≤ 40 := by
  unfold smB at h
  refine len_digs 40 _ ?_
  have e : (65536 : Nat) ^ 40 = 4562440617622195218641171605700291324893228507248559930579192517899275167208677386505912811317371399778642309573594407310688704721375437998252661319722214188251994674360264950082874192246603776 := by decide
  rw [e]
  omega
theorem dg_neg (z : Int) : dg (-z) = dg z := by unfold dg; rw [Int.natAbs_neg]
theorem dg_abs (z : Int) : dg (z.natAbs : Int) = dg z := by unfold dg; rfl
theorem len_pos {z : Int} (h : z ≠ 0) : 0 < (dg z).length := by
  cases hd : dg z with
  | nil => exact absurd (dg_nil.1 hd) h
  | cons _ _ => simp
theorem dg_zero : dg 0 = [] := digs_zero
def sNegB : List AP → Option AV
  | [a] => match dB a with
    | some x => some (.o (mkB (-x)))
    | _ => none
  | _ => none
theorem okNegB : Ok Try.prog 77 sNegB := ok_of' Try.func77 epactref01_Neg.ent epactref01_Neg.chk specOk_nil fun av r h => by
  unfold sNegB at h
  split at h
  · split at h
    · rename_i a x1 x hx
      cases h
      obtain rfl := dB_some hx
      refine ⟨by simp [epactref01_Neg.c], 0, ?_⟩
      by_cases h1 : x < 0
      · have h2 : ngB (-x) = false := ngB_pos (by omega)
        simp [epactref01_Neg.c, mkB, ngB_neg h1, h2, dg_neg]
      · by_cases h0 : x = 0
        · subst h0
          have h2 : ngB 0 = false := ngB_pos (by omega)
          simp [epactref01_Neg.c, mkB, h2, dg_zero]
        · have h2 : ngB (-x) = true := ngB_neg (by omega)
          have h3 : ngB x = false := ngB_pos (by omega)
          have h4 := len_pos h0
          simp [epactref01_Neg.c, mkB, h2, h3, h4, dg_neg]
    · cases h
  · cases h
def sCmpB : List AP → Option AV
  | [a, b] => match dB a, dB b with
    | some x, some y => if smB x ∧ smB y then some (.o (iv .i64 (cmpI x y))) else none
    | _, _ => none
  | _ => none
theorem val_dg0 (z : Int) (h : 0 ≤ z) : val (dg z) = z := by rw [val_dg]; omega
theorem val_dg1 (z : Int) (h : z < 0) : val (dg z) = -z := by rw [val_dg]; omega
theorem okCmpB : Ok Try.prog 23 sCmpB := ok_of' Try.func23 epactref01_Cmp.ent epactref01_Cmp.chk (specOk_cons okCmpD specOk_nil) fun av r h => by
  unfold sCmpB at h
  split at h
  · split at h
    · rename_i a b x1 x2 x y hx hy
      split at h
      · rename_i hs
        cases h
        obtain rfl := dB_some hx
        obtain rfl := dB_some hy
        have lx := len_dg hs.1
        have ly := len_dg hs.2
        have kx : (dg x).length ≤ 1000000 := by omega
        have ky : (dg y).length ≤ 1000000 := by omega
        refine ⟨by simp [epactref01_Cmp.c], 0, ?_⟩
        have rx := dR_dg x
        have ry := dR_dg y
        by_cases h1 : x < 0 <;> by_cases h2 : y < 0
        · have e : cmpI (-y) (-x) = cmpI x y := by unfold cmpI; split <;> split <;> (try split) <;> (try split) <;> omega
          simp [epactref01_Cmp.c, mkB, ngB_neg h1, ngB_neg h2, sCmpD, rx, ry, tr_dg, kx, ky, val_dg1 x h1, val_dg1 y h2, e]
        · have e : cmpI x y = -1 := by unfold cmpI; rw [if_neg (by omega), if_pos (by omega)]
          simp [epactref01_Cmp.c, mkB, ngB_neg h1, ngB_pos (show 0 ≤ y by omega), e]
        · have e : cmpI x y = 1 := by unfold cmpI; rw [if_neg (by omega), if_neg (by omega)]
          simp [epactref01_Cmp.c, mkB, ngB_pos (show 0 ≤ x by omega), ngB_neg h2, e]
        · simp [epactref01_Cmp.c, mkB, ngB_pos (show 0 ≤ x by omega), ngB_pos (show 0 ≤ y by omega), sCmpD, rx, ry, tr_dg, kx, ky, val_dg0 x (by omega), val_dg0 y (by omega)]
      · cases h
    · cases h
  · cases h
end Go.Proofs.Ytanolecbepjkcaa.E
/- The reference's whole numbers: a sum, a difference. -/
namespace Go.Proofs.Ytanolecbepjkcaa.E
open Go.VC Go.RowKit

def sAddB : List AP → Option AV
  | [a, b] => match dB a, dB b with
    | some x, some y => if smB x ∧ smB y then some (.o (mkB (x + y))) else none
    | _, _ => none
  | _ => none
theorem okAddB : Ok Try.prog 31 sAddB := ok_of' Try.func31 epactref01_Add.ent epactref01_Add.chk (specOk_cons okCmpD (specOk_cons okAddD (specOk_cons okSubD specOk_nil))) fun av r h => by
  unfold sAddB at h
  split at h
  · split at h
    · rename_i a b x1 x2 x y hx hy
      split at h
      · rename_i hs
        cases h
        obtain rfl := dB_some hx
        obtain rfl := dB_some hy
        have lx := len_dg hs.1
        have ly := len_dg hs.2
        have kx : (dg x).length ≤ 1000000 := by omega
        have ky : (dg y).length ≤ 1000000 := by omega
        have jx : (dg x).length ≤ 100000 := by omega
        have jy : (dg y).length ≤ 100000 := by omega
        refine ⟨by simp [epactref01_Add.c], 0, ?_⟩
        have rx := dR_dg x
        have ry := dR_dg y
        by_cases h1 : x < 0 <;> by_cases h2 : y < 0
        · have e : dg (-x + -y) = dg (x + y) := by rw [← dg_neg]; congr 1; omega
          simp [epactref01_Add.c, mkB, ngB_neg h1, ngB_neg h2, ngB_neg (show x + y < 0 by omega), sAddD, rx, ry, jx, jy, val_dg1 x h1, val_dg1 y h2, e]
        · by_cases h3 : -x < y
          · have c1 : cmpI (-x) y < 0 := cmpI_lt.2 h3
            have h4 : -x ≤ y := by omega
            have e : y - -x = x + y := by omega
            simp [epactref01_Add.c, mkB, ngB_neg h1, ngB_pos (show 0 ≤ y by omega), ngB_pos (show 0 ≤ x + y by omega), sCmpD, sSubD, rx, ry, tr_dg, kx, ky, jx, jy, val_dg1 x h1, val_dg0 y (by omega), c1, h4, e]
          · have c1 : ¬ cmpI (-x) y < 0 := by rw [cmpI_lt]; exact h3
            have h4 : y ≤ -x := by omega
            have e : dg (-x - y) = dg (x + y) := by rw [← dg_neg]; congr 1; omega
            by_cases h0 : x + y = 0
            · have e2 : dg (x + y) = [] := by rw [h0]; exact dg_zero
              have e3 : ngB (x + y) = false := ngB_pos (by omega)
              simp [epactref01_Add.c, mkB, ngB_neg h1, ngB_pos (show 0 ≤ y by omega), e3, sCmpD, sSubD, rx, ry, tr_dg, kx, ky, jx, jy, val_dg1 x h1, val_dg0 y (by omega), c1, h4, e, e2]
            · have e2 := len_pos h0
              simp [epactref01_Add.c, mkB, ngB_neg h1, ngB_pos (show 0 ≤ y by omega), ngB_neg (show x + y < 0 by omega), sCmpD, sSubD, rx, ry, tr_dg, kx, ky, jx, jy, val_dg1 x h1, val_dg0 y (by omega), c1, h4, e, e2]
        · by_cases h3 : x < -y
          · have c1 : cmpI x (-y) < 0 := cmpI_lt.2 h3
            have h4 : x ≤ -y := by omega
            have e : dg (-y - x) = dg (x + y) := by rw [← dg_neg]; congr 1; omega
            have e2 := len_pos (show x + y ≠ 0 by omega)
            simp [epactref01_Add.c, mkB, ngB_pos (show 0 ≤ x by omega), ngB_neg h2, ngB_neg (show x + y < 0 by omega), sCmpD, sSubD, rx, ry, tr_dg, kx, ky, jx, jy, val_dg0 x (by omega), val_dg1 y h2, c1, h4, e, e2]
          · have c1 : ¬ cmpI x (-y) < 0 := by rw [cmpI_lt]; exact h3
            have h4 : -y ≤ x := by omega
            have e : x - -y = x + y := by omega
            simp [epactref01_Add.c, mkB, ngB_pos (show 0 ≤ x by omega), ngB_neg h2, ngB_pos (show 0 ≤ x + y by omega), sCmpD, sSubD, rx, ry, tr_dg, kx, ky, jx, jy, val_dg0 x (by omega), val_dg1 y h2, c1, h4, e]
        · simp [epactref01_Add.c, mkB, ngB_pos (show 0 ≤ x by omega), ngB_pos (show 0 ≤ y by omega), ngB_pos (show 0 ≤ x + y by omega), sAddD, rx, ry, jx, jy, val_dg0 x (by omega), val_dg0 y (by omega)]
      · cases h
    · cases h
  · cases h
def sSubB : List AP → Option AV
  | [a, b] => match dB a, dB b with
    | some x, some y => if smB x ∧ smB y then some (.o (mkB (x - y))) else none
    | _, _ => none
  | _ => none
theorem okSubB : Ok Try.prog 47 sSubB := ok_of' Try.func47 epactref01_Sub.ent epactref01_Sub.chk (specOk_cons okNegB (specOk_cons okAddB specOk_nil)) fun av r h => by
  unfold sSubB at h
  split at h
  · split at h
    · rename_i a b x1 x2 x y hx hy
      split at h
      · rename_i hs
        cases h
        obtain rfl := dB_some hx
        obtain rfl := dB_some hy
        refine ⟨by simp [epactref01_Sub.c], 0, ?_⟩
        have rx := dB_mk x
        have ry := dB_mk y
        have rn := dB_mk (-y)
        have sn : smB (-y) := by have := hs.2; unfold smB at this ⊢; omega
        simp [epactref01_Sub.c, mkB, sNegB, sAddB, rx, ry, rn, hs.1, sn, ← Int.sub_eq_add_neg]
      · cases h
    · cases h
  · cases h
end Go.Proofs.Ytanolecbepjkcaa.E
/- The reference's whole numbers: of an int, a power of 2, the same. -/
namespace Go.Proofs.Ytanolecbepjkcaa.E
open Go.VC Go.RowKit

def sIntB : List AP → Option AV
  | [.c (.v (.int .i64 n))] => if -9223372036854775808 ≤ n ∧ n < 9223372036854775808 then some (.o (mkB n)) else none
  | _ => none
theorem okIntB : Ok Try.prog 25 sIntB := ok_of' Try.func25 epactref01_Int.ent epactref01_Int.chk (specOk_cons okWord (specOk_cons okAddB (specOk_cons okNegB specOk_nil))) fun av r h => by
  unfold sIntB at h
  split at h
  · rename_i n
    split at h
    · rename_i hn
      cases h
      refine ⟨by simp [epactref01_Int.c], 0, ?_⟩
      by_cases h0 : 0 ≤ n
      · have e : n % 18446744073709551616 = n := by omega
        have h1 : n < 18446744073709551616 := by omega
        simp [epactref01_Int.c, h0, wrap_u64_eq, e, sWord, h1, mkB]
      · have w1 : IntKind.i64.wrap (n + 1) = n + 1 := wrap_i64_in (by omega) (by omega)
        have w2 : IntKind.i64.wrap (-(n + 1)) = -(n + 1) := wrap_i64_in (by omega) (by omega)
        have e : -(n + 1) % 18446744073709551616 = -(n + 1) := by omega
        have h1 : 0 ≤ -(n + 1) := by omega
        have h2 : -(n + 1) < 18446744073709551616 := by omega
        have h3 : n + 1 ≤ 0 := by omega
        have b1 := dB_mk (-(n + 1))
        have b2 := dB_mk 1
        have b3 := dB_mk (-(n + 1) + 1)
        have s1 : smB (-(n + 1)) := by unfold smB; omega
        have s2 : smB 1 := by decide
        have e2 : -(-(n + 1) + 1) = n := by omega
        simp [epactref01_Int.c, h0, wrap_u64_eq, w1, w2, e, sWord, h1, h2, h3, mkB, sAddB, sNegB, b1, b2, b3, s1, s2, e2]
    · cases h
  · cases h
def sSameB : List AP → Option AV
  | [a, b] => match dB a, dB b with
    | some x, some y => if smB x ∧ smB y then some (.o (bv (decide (x = y)))) else none
    | _, _ => none
  | _ => none
theorem cmpI_eq {x y : Int} : (cmpI x y = 0) ↔ x = y := by unfold cmpI; split <;> (try split) <;> omega
theorem okSameB : Ok Try.prog 30 sSameB := ok_of' Try.func30 epactref01_Same.ent epactref01_Same.chk (specOk_cons okCmpB specOk_nil) fun av r h => by
  unfold sSameB at h
  split at h
  · split at h
    · rename_i a b x1 x2 x y hx hy
      split at h
      · rename_i hs
        cases h
        obtain rfl := dB_some hx
        obtain rfl := dB_some hy
        refine ⟨by simp [epactref01_Same.c], 0, ?_⟩
        have rx := dB_mk x
        have ry := dB_mk y
        simp [epactref01_Same.c, mkB, sCmpB, rx, ry, hs.1, hs.2]
        exact bb cmpI_eq
      · cases h
    · cases h
  · cases h
end Go.Proofs.Ytanolecbepjkcaa.E
/- The reference's whole numbers, by decoders; a power of 2. -/
namespace Go.Proofs.Ytanolecbepjkcaa.E
open Go.VC Go.RowKit

section
variable {ns : List Nat} {n : Nat} {cs : List AC} {s : St} {t : RT} {m : Nat}
theorem kil_v {x : Value} : (AC.v x).kill ns = .v x := _root_.id rfl
theorem kil_p {m off : Nat} : (AC.p m off).kill ns = if m ∈ ns then .u else .p m off := _root_.id rfl
theorem kil_s {t : RT} {m len : Nat} : (AC.s t m len).kill ns = if m ∈ ns then .u else .s t m len := _root_.id rfl
theorem kil_r {e : IntKind} {l : List Int} : (AC.r e l).kill ns = .r e l := _root_.id rfl
theorem kil_k {x : Value} : (AC.k x).kill ns = .k x := _root_.id rfl
theorem kil_q {m : Nat} {l : List QC} : (AC.q m l).kill ns = .q m l := _root_.id rfl
theorem kil_kq {l : List QC} : (AC.kq l).kill ns = .kq l := _root_.id rfl
theorem kil_n {e : IntKind} : (AC.nil e).kill ns = .nil e := _root_.id rfl
theorem kil_u : AC.u.kill ns = .u := _root_.id rfl
theorem rel_v {x : Value} : (AC.v x).rel n cs = .v x := _root_.id rfl
theorem rel_p {m off : Nat} : (AC.p m off).rel n cs = if m = n then .u else .p m off := _root_.id rfl
theorem rel_s {t : RT} {m len : Nat} : (AC.s t m len).rel n cs = if m = n then relRow t len cs else .s t m len := _root_.id rfl
theorem rel_r {e : IntKind} {l : List Int} : (AC.r e l).rel n cs = .r e l := _root_.id rfl
theorem rel_k {x : Value} : (AC.k x).rel n cs = .k x := _root_.id rfl
theorem rel_q {m : Nat} {l : List QC} : (AC.q m l).rel n cs = .q m l := _root_.id rfl
theorem rel_kq {l : List QC} : (AC.kq l).rel n cs = .kq l := _root_.id rfl
theorem rel_n {e : IntKind} : (AC.nil e).rel n cs = .nil e := _root_.id rfl
theorem rel_u : AC.u.rel n cs = .u := _root_.id rfl
theorem own_s {t' : RT} {len : Nat} : ownOf t s (.o (.c (.s t' n len))) = match s.mem n with
    | some cs => if t'.e = t.e ∧ t'.m = t.m ∧ len * t.m ≤ cs.length then some ([n], len, cs.take (len * t.m)) else none
    | none => none := _root_.id rfl
theorem own_n {e : IntKind} : ownOf t s (.o (.c (.nil e))) = some ([], 0, []) := _root_.id rfl
theorem lie_s {len : Nat} : lieOf m s (.o (.c (.s t n len))) = match s.mem n with
    | some cs => if t.m = m ∧ len * m ≤ cs.length then some ([n], len, cs.take (len * m)) else none
    | none => none := _root_.id rfl
theorem lie_r {l : List Int} : lieOf 1 s (.o (.c (.r .i64 l))) = some ([], l.length, ci l) := _root_.id rfl
theorem lie_n {e : IntKind} : lieOf m s (.o (.c (.nil e))) = some ([], 0, []) := _root_.id rfl
theorem ci_rel {l : List Int} : (ci l).map (fun x => x.rel n cs) = ci l := by simp [ci, AC.rel]
theorem relRow_ci {e n : Nat} {l : List Int} : relRow ⟨e, 1, some .i64⟩ n (ci l) = if n ≤ l.length then .r .i64 (l.take n) else .u := by
  unfold relRow
  simp only [Nat.mul_one, ci_len, if_true]
  have h : (ci l).take n = ci (l.take n) := by simp [ci]
  rw [h, ci_rows]
theorem relRow_1 {e : Nat} {x : Int} : relRow ⟨e, 1, some .i64⟩ 1 [.v (.int .i64 x)] = .r .i64 [x] := _root_.id rfl
theorem ci_cons {x : Int} {l : List Int} : AC.v (.int .i64 x) :: ci l = ci (x :: l) := by simp [ci]
theorem ci_getElem {l : List Int} {i : Nat} (h : i < (ci l).length) : (ci l)[i] = .v (.int .i64 (l[i]'(by rwa [ci_len] at h))) := by simp [ci]
theorem ci_getElem? {l : List Int} {i : Nat} (h : i < l.length) : (ci l)[i]? = some (.v (.int .i64 l[i])) := by simp [ci, h]
theorem ci_known {l : List Int} : (∀ x, x ∈ ci l → (match x with | AC.u => false | _ => true) = true) = True := by
  simp only [eq_iff_iff, iff_true]
  intro x hx
  simp only [ci, List.mem_map] at hx
  obtain ⟨y, _, rfl⟩ := hx
  rfl
end
attribute [simp] mkB own_s own_n lie_s lie_r lie_n St.drop kil_v kil_p kil_s kil_r kil_k kil_q kil_kq kil_n kil_u AP.kill AV.kill St.rel rel_v rel_p rel_s rel_r rel_k rel_q rel_kq rel_n rel_u AP.rel AV.rel relRow_ci relRow_1 ci_kill ci_rel ci_len ci_cons ci_getElem ci_known
theorem ngB_iff {z : Int} : (ngB z = true) ↔ z < 0 := by unfold ngB; simp
theorem ngB_niff {z : Int} : (ngB z = false) ↔ 0 ≤ z := by unfold ngB; simp
attribute [simp] ngB_iff ngB_niff
/-- A digits' row of the call's own, let go. -/
theorem row_ci {l : List Int} {n : Nat} (h : n = l.length) : rowInts .i64 ((ci l).take n) = some l := by
  subst h; rw [ci_take, ci_rows]
abbrev tTrim := s1 coD (fun l => l.length ≤ 1000000) fun l => .o (.c (.r .i64 (dg (val l))))
abbrev tCmpN := s2 coN coN (fun x y => smB x ∧ smB y) fun x y => .o (iv .i64 (cmpI x y))
abbrev tAddN := s2 coN coN (fun x y => smB x ∧ smB y) fun x y => .o (.c (.r .i64 (dg (x + y))))
abbrev tSubN := s2 coN coN (fun x y => smB x ∧ smB y ∧ y ≤ x) fun x y => .o (.c (.r .i64 (dg (x - y))))
abbrev tWord := s1 coU Tt1 fun n => .o (mkB n)
abbrev tIntB := s1 coI Tt1 fun n => .o (mkB n)
abbrev tNegB := s1 coB Tt1 fun n => .o (mkB (-n))
abbrev tCmpB := s2 coB coB (fun x y => smB x ∧ smB y) fun x y => .o (iv .i64 (cmpI x y))
abbrev tAddB := s2 coB coB (fun x y => smB x ∧ smB y) fun x y => .o (mkB (x + y))
abbrev tSubB := s2 coB coB (fun x y => smB x ∧ smB y) fun x y => .o (mkB (x - y))
abbrev tSameB := s2 coB coB (fun x y => smB x ∧ smB y) fun x y => .o (bv (decide (x = y)))
theorem eB (x : Int) : dB (coB.e x) = some x := dB_mk x
theorem eN (x : Int) : dR (coN.e x) = some (dg x) := dR_dg x
theorem vN' {x : Int} (h : coN.p x) : val (dg x) = x := val_dg0 x h
theorem okTTrim : Ok Try.prog 79 tTrim := okTrim.via fun av r h => by
  obtain ⟨x, rfl, h1, h2, rfl⟩ := s1_some h
  simp only [sTrim]
  have e : dR (coD.e x) = some x := by show dR (.c (.r .i64 x)) = _; simp only [dR]; exact if_pos h1
  rw [e]
  exact if_pos h2
theorem okTCmpN : Ok Try.prog 74 tCmpN := okCmpD.via fun av r h => by
  obtain ⟨x, y, rfl, h1, h2, ⟨h3, h4⟩, rfl⟩ := s2_some h
  have l1 := len_dg h3
  have l2 := len_dg h4
  simp only [sCmpD, eN, vN' h1, vN' h2]
  exact if_pos ⟨tr_dg _, tr_dg _, by omega, by omega⟩
theorem okTAddN : Ok Try.prog 82 tAddN := okAddD.via fun av r h => by
  obtain ⟨x, y, rfl, h1, h2, ⟨h3, h4⟩, rfl⟩ := s2_some h
  have l1 := len_dg h3
  have l2 := len_dg h4
  simp only [sAddD, eN, vN' h1, vN' h2]
  exact if_pos ⟨by omega, by omega⟩
theorem okTSubN : Ok Try.prog 81 tSubN := okSubD.via fun av r h => by
  obtain ⟨x, y, rfl, h1, h2, ⟨h3, h4, h5⟩, rfl⟩ := s2_some h
  have l1 := len_dg h3
  have l2 := len_dg h4
  simp only [sSubD, eN, vN' h1, vN' h2]
  exact if_pos ⟨tr_dg _, h5, by omega, by omega⟩
theorem okTWord : Ok Try.prog 76 tWord := okWord.via fun av r h => by
  obtain ⟨x, rfl, h1, -, rfl⟩ := s1_some h
  exact if_pos h1
theorem okTIntB : Ok Try.prog 25 tIntB := okIntB.via fun av r h => by
  obtain ⟨x, rfl, h1, -, rfl⟩ := s1_some h
  exact if_pos h1
theorem okTNegB : Ok Try.prog 77 tNegB := okNegB.via fun av r h => by
  obtain ⟨x, rfl, h1, -, rfl⟩ := s1_some h
  simp only [sNegB, eB]
theorem okTCmpB : Ok Try.prog 23 tCmpB := okCmpB.via fun av r h => by
  obtain ⟨x, y, rfl, h1, h2, h3, rfl⟩ := s2_some h
  simp only [sCmpB, eB]
  exact if_pos h3
theorem okTAddB : Ok Try.prog 31 tAddB := okAddB.via fun av r h => by
  obtain ⟨x, y, rfl, h1, h2, h3, rfl⟩ := s2_some h
  simp only [sAddB, eB]
  exact if_pos h3
theorem okTSubB : Ok Try.prog 47 tSubB := okSubB.via fun av r h => by
  obtain ⟨x, y, rfl, h1, h2, h3, rfl⟩ := s2_some h
  simp only [sSubB, eB]
  exact if_pos h3
theorem okTSameB : Ok Try.prog 30 tSameB := okSameB.via fun av r h => by
  obtain ⟨x, y, rfl, h1, h2, h3, rfl⟩ := s2_some h
  simp only [sSameB, eB]
  exact if_pos h3

/-! ### A power of 2 -/
theorem val_rep (q : Nat) : val (List.replicate q 0) = 0 := val_zero (fun d hd => List.eq_of_mem_replicate hd)
theorem dg_rep (q : Nat) : Dg (List.replicate q 0) := fun d hd => by rw [List.eq_of_mem_replicate hd]; decide
theorem pow2_small : ∀ m : Nat, m < 16 → (2 : Int) ^ m < 65536 ∧ 1 ≤ (2 : Int) ^ m := by decide
theorem pow_16 (q : Nat) : (65536 : Int) ^ q = 2 ^ (16 * q) := by
  induction q with
  | zero => rfl
  | succ q ih => rw [Int.pow_succ, ih, Nat.mul_succ, Int.pow_add]; rfl
theorem dg_pow2 (q m : Nat) (hm : m < 16) : List.replicate q 0 ++ [(2 : Int) ^ m] = dg (2 ^ (16 * q + m)) := by
  obtain ⟨h1, h2⟩ := pow2_small m hm
  have hd : Dg (List.replicate q 0 ++ [(2 : Int) ^ m]) := dg_append (dg_rep q) (fun d hd => by simp at hd; omega)
  have ht : Trm (List.replicate q 0 ++ [(2 : Int) ^ m]) := by unfold Trm; simp; omega
  have hv : val (List.replicate q 0 ++ [(2 : Int) ^ m]) = 2 ^ (16 * q + m) := by
    rw [val_snoc, val_rep, List.length_replicate, pow_16, ← Int.pow_add]; omega
  rw [digs_val hd ht, hv]
  unfold dg
  congr 1
abbrev tPow2 := s1 coI (fun n => 0 ≤ n ∧ n ≤ 1000000) fun n => .o (mkB (2 ^ n.toNat))
theorem ci_rep (q : Nat) : List.replicate q (AC.v (.int .i64 0)) = ci (List.replicate q 0) := by simp [ci]
theorem pow2_run (n : Int) (q m : Nat) (p P : Int) (hm : m < 16) (hq : q ≤ 62500) (hn : n = 16 * q + m) (hp1 : p < 65536) (hp2 : 1 ≤ p) (hp : (2 : Int) ^ m = p) (hP0 : 0 ≤ P) (hP : List.replicate q 0 ++ [p] = dg P) : codeW (spOf []) 0 epactref01_Pow2.c.code (st0 [coI.e n]) (done epactref01_Pow2.c (.o (mkB P))) := by
  have t1 : n.tdiv 16 = (q : Int) := by rw [Int.tdiv_eq_ediv_of_nonneg (by omega)]; omega
  have t2 : n.tmod 16 = (m : Int) := by rw [Int.tmod_eq_emod_of_nonneg (by omega)]; omega
  have w1 : IntKind.i64.wrap (q : Int) = q := wrap_i64_in (by omega) (by omega)
  have w2 : IntKind.i64.wrap ((q : Int) + 1) = (q : Int) + 1 := wrap_i64_in (by omega) (by omega)
  have w3 : IntKind.u64.wrap (m : Int) = (m : Int) := by rw [wrap_u64_eq]; omega
  have w5 : min m 64 = m := by omega
  have w6 : IntKind.i64.wrap p = p := wrap_i64_in (by omega) (by omega)
  have hc : List.replicate q (AC.v (.int .i64 0)) ++ [AC.v (.int .i64 p)] = ci (List.replicate q 0 ++ [p]) := by rw [ci_app, ci_rep]
  have hlP : (dg P).length = q + 1 := by rw [← hP]; simp
  have htk : List.take (q + 1) (dg P) = dg P := List.take_of_length_le (by omega)
  have hng : ngB P = false := ngB_pos hP0
  have c1 : (q : Int) + 1 ≤ 1000000000000 := by omega
  have c0 : (0 : Int) ≤ (q : Int) + 1 := by omega
  have c2 : ((q : Int) + 1).toNat = q + 1 := by omega
  have c5 : (q : Int) < (q : Int) + 1 := by omega
  have c3 : List.drop (q + 1) (List.replicate (q + 1) (AC.v (.int .i64 0))) = [] := List.drop_eq_nil_of_le (by simp)
  have c4 : List.take q (List.replicate (q + 1) (AC.v (.int .i64 0))) = List.replicate q (AC.v (.int .i64 0)) := by simp
  simp [epactref01_Pow2.c, c0, c5, t1, t2, w1, w2, w3, w5, w6, hp, c1, c2, c3, c4, hc, htk, hlP, hP, hng]
theorem okPow2 : Ok Try.prog 75 tPow2 := ok1 (code_mk Try.func75 epactref01_Pow2.ent epactref01_Pow2.chk specOk_nil) (by simp [epactref01_Pow2.c]) fun n hn hg => by
  refine ⟨0, ?_⟩
  obtain ⟨h1, h2⟩ := pow2_small (n.toNat % 16) (by omega)
  have e := dg_pow2 (n.toNat / 16) (n.toNat % 16) (by omega)
  have e2 : 16 * (n.toNat / 16) + n.toNat % 16 = n.toNat := by omega
  rw [e2] at e
  generalize hP : (2 : Int) ^ n.toNat = P at *
  have hP0 : 0 ≤ P := by rw [← hP]; exact Int.le_of_lt (Int.pow_pos (by decide))
  exact pow2_run n (n.toNat / 16) (n.toNat % 16) _ P (by omega) (by have := hg.2; omega) (by have := hg.1; omega) h1 h2 rfl hP0 e
end Go.Proofs.Ytanolecbepjkcaa.E
/- The reference's whole numbers: a product. -/
namespace Go.Proofs.Ytanolecbepjkcaa.E
open Go.VC Go.RowKit

theorem ci_get {d : List Int} {k : Nat} (h : k < d.length) : (ci d)[k]? = some (.v (.int .i64 (d.getD k 0))) := by
  simp [ci, List.getElem?_map, List.getD_eq_getElem?_getD, List.getElem?_eq_getElem h]
theorem ci_set {d : List Int} {k : Nat} {x : Int} (h : k < d.length) : List.take k (ci d) ++ AC.v (.int .i64 x) :: List.drop (k + 1) (ci d) = ci (d.set k x) := by
  rw [List.set_eq_take_append_cons_drop, if_pos h]
  simp [ci]
theorem dg_getI {l : List Int} (h : Dg l) (i : Nat) : 0 ≤ l.getD i 0 ∧ l.getD i 0 < 65536 := dg_get h i
theorem pow_add' (i j : Nat) : (65536 : Int) ^ (i + j) = 65536 ^ i * 65536 ^ j := Int.pow_add ..
theorem val_take_succ (l : List Int) (j : Nat) (h : j < l.length) : val (l.take (j + 1)) = val (l.take j) + l.getD j 0 * 65536 ^ j := by
  rw [List.take_add_one, List.getElem?_eq_getElem h]
  simp only [Option.toList_some]
  rw [val_snoc, List.length_take, Nat.min_eq_left (by omega)]
  simp [List.getD_eq_getElem?_getD, List.getElem?_eq_getElem h, Int.mul_comm]
/-- Within round i, ahead of round j. -/
def MulJ (x y : Int) (L i j : Nat) (d : List Int) (c : Int) (s : St) : Prop :=
  s.tm 2 = .o (.c (.p 2 0)) ∧ s.tm 3 = .o (.c (.p 3 0)) ∧ s.tm 4 = .o (.c (.p 4 0)) ∧ s.tm 5 = .o (.c (.s ⟨3, 1, some .i64⟩ 17 L)) ∧ s.tm 6 = .o (.c (.v (.int .i64 (i : Int)))) ∧ s.tm 7 = .o (.c (.v (.int .i64 c))) ∧ s.tm 8 = .o (.c (.v (.int .i64 (j : Int)))) ∧
  s.mem 2 = some [.v (.bool (ngB x)), .r .i64 (dg x)] ∧ s.mem 3 = some [.v (.bool (ngB y)), .r .i64 (dg y)] ∧ s.mem 4 = some [.v (.bool false), .nil .i64] ∧ s.mem 17 = some (ci d) ∧ d.length = L
theorem mul_in {sp : VC.Spec} {K : Nat} {Q : AX → St → Prop} {x y : Int} {L i j : Nat} {d : List Int} {c : Int} {s : St} (H : MulJ x y L i j d c s) (hi : i < (dg x).length) (hj : j < (dg y).length) (hL : L = (dg x).length + (dg y).length) (hL2 : L ≤ 1000) (hd : Dg d) (c0 : 0 ≤ c) (c1 : c < 65536) :
    codeW sp K epactref01_Mul.l1 s (roundW (MulJ x y L i (j + 1) (d.set (i + j) ((d.getD (i + j) 0 + (dg x).getD i 0 * (dg y).getD j 0 + c) % 65536)) ((d.getD (i + j) 0 + (dg x).getD i 0 * (dg y).getD j 0 + c) / 65536)) Q) := by
  obtain ⟨t2, t3, t4, t5, t6, t7, t8, m2, m3, m4, m17, hdl⟩ := H
  have hk : i + j < d.length := by omega
  have gx := dg_get (dg_dg x) i
  have gy := dg_get (dg_dg y) j
  have gd := dg_get hd (i + j)
  have hg := ci_get hk
  have hs := fun v => ci_set (d := d) (x := v) hk
  have hdl2 : (ci d).length = L := by rw [ci_len, hdl]
  generalize hA : (dg x).getD i 0 = A at *
  generalize hB : (dg y).getD j 0 = B at *
  generalize hC : d.getD (i + j) 0 = C at *
  have m0 : 0 ≤ A * B := Int.mul_nonneg gx.1 gy.1
  have m1 : A * B ≤ 65535 * 65535 := Int.mul_le_mul (by omega) (by omega) gy.1 (by decide)
  generalize hP : A * B = P at *
  have w1 : IntKind.i64.wrap ((i : Int) + (j : Int)) = (i : Int) + j := wrap_i64_in (by omega) (by omega)
  have w2 : IntKind.i64.wrap P = P := wrap_i64_in (by omega) (by omega)
  have w3 : IntKind.i64.wrap (C + P) = C + P := wrap_i64_in (by omega) (by omega)
  have w4 : IntKind.i64.wrap (C + P + c) = C + P + c := wrap_i64_in (by omega) (by omega)
  have w5 : (C + P + c).tdiv 65536 = (C + P + c) / 65536 := tdiv_nn (by omega)
  have w6 : (C + P + c).tmod 65536 = (C + P + c) % 65536 := tmod_nn (by omega)
  have w7 : IntKind.i64.wrap ((C + P + c) / 65536) = (C + P + c) / 65536 := wrap_i64_in (by omega) (by omega)
  have w8 : IntKind.i64.wrap ((j : Int) + 1) = (j : Int) + 1 := wrap_i64_in (by omega) (by omega)
  have n1 : ((i : Int) + j).toNat = i + j := by omega
  have n2 : (0 : Int) ≤ (i : Int) + j := by omega
  have n3 : (i : Int) + j < L := by omega
  have n4 : i + j + 1 ≤ L := by omega
  simp [-List.getD_eq_getElem?_getD, epactref01_Mul.l1, t2, t3, t4, t5, t6, t7, t8, m2, m3, m4, m17, hi, hj, w1, w2, w3, w4, w5, w6, w7, w8, n1, n2, n3, n4, hA, hB, hP, hg, hs, hdl2, hC, MulJ, hdl]
theorem round_mono {I I' : St → Prop} {Q : AX → St → Prop} (h : ∀ s, I s → I' s) : ∀ a s, roundW I Q a s → roundW I' Q a s := fun a s hq => by
  cases a with
  | n => exact h s hq
  | e i => exact hq
  | r => exact hq
/-- Ahead of round i. -/
def MulI (x y : Int) (L i : Nat) (s : St) : Prop :=
  s.tm 2 = .o (.c (.p 2 0)) ∧ s.tm 3 = .o (.c (.p 3 0)) ∧ s.tm 4 = .o (.c (.p 4 0)) ∧ s.tm 5 = .o (.c (.s ⟨3, 1, some .i64⟩ 17 L)) ∧ s.tm 6 = .o (.c (.v (.int .i64 (i : Int)))) ∧
  s.mem 2 = some [.v (.bool (ngB x)), .r .i64 (dg x)] ∧ s.mem 3 = some [.v (.bool (ngB y)), .r .i64 (dg y)] ∧ s.mem 4 = some [.v (.bool false), .nil .i64] ∧
  ∃ d, s.mem 17 = some (ci d) ∧ d.length = L ∧ Dg d ∧ val d = val ((dg x).take i) * val (dg y) ∧ ∀ k, i + (dg y).length ≤ k → d.getD k 0 = 0
theorem getD_set_ne {d : List Int} {k j : Nat} {v : Int} (h : j ≠ k) : (d.set k v).getD j 0 = d.getD j 0 := by
  simp [List.getD_eq_getElem?_getD, List.getElem?_set_ne (Ne.symm h)]
theorem mul_step {X A B c n Pi Pj : Int} : X + (n % 65536 - A) * (Pi * Pj) + n / 65536 * (Pi * (Pj * 65536)) = X + (n - A) * (Pi * Pj) := by
  have e : n = n / 65536 * 65536 + n % 65536 := by omega
  generalize n / 65536 = q at *
  generalize n % 65536 = r at *
  subst e
  grind
theorem mul_out {sp : VC.Spec} {K : Nat} {Q : AX → St → Prop} {x y : Int} {L i : Nat} {s : St} (H : MulI x y L i s) (hi : i < (dg x).length) (hL : L = (dg x).length + (dg y).length) (hL2 : L ≤ 1000) (hK : 1000 < K) :
    codeW sp K epactref01_Mul.l2 s (roundW (MulI x y L (i + 1)) Q) := by
  obtain ⟨t2, t3, t4, t5, t6, m2, m3, m4, d0, m17, hd0, hdg0, hv0, hz0⟩ := H
  simp [-List.getD_eq_getElem?_getD, epactref01_Mul.l2, t2, t3, t4, t5, t6, m2, m3, m4, m17, hi]
  refine loopW_iter (fun j s => ∃ d c, MulJ x y L i j d c s ∧ Dg d ∧ 0 ≤ c ∧ c < 65536 ∧ val d + c * (65536 ^ i * 65536 ^ j) = val d0 + (dg x).getD i 0 * (65536 ^ i * val ((dg y).take j)) ∧ ∀ k, i + (dg y).length ≤ k → d.getD k 0 = 0) (dg y).length ?_ ?_ K _ (by omega) ?_
  · rintro j s hj ⟨d, c, HJ, hd, c0, c1, hv, hz⟩
    have hdl : d.length = L := HJ.2.2.2.2.2.2.2.2.2.2.2
    refine codeW_mono (mul_in HJ hi hj hL hL2 hd c0 c1) (round_mono fun s' h' => ⟨_, _, h', dg_set hd _ (by omega), ?_, ?_, ?_, ?_⟩)
    · have gx := dg_get (dg_dg x) i
      have gy := dg_get (dg_dg y) j
      have gd := dg_get hd (i + j)
      have m0 : 0 ≤ (dg x).getD i 0 * (dg y).getD j 0 := Int.mul_nonneg gx.1 gy.1
      omega
    · have gx := dg_get (dg_dg x) i
      have gy := dg_get (dg_dg y) j
      have gd := dg_get hd (i + j)
      have m1 : (dg x).getD i 0 * (dg y).getD j 0 ≤ 65535 * 65535 := Int.mul_le_mul (by omega) (by omega) gy.1 (by decide)
      omega
    · rw [val_set _ _ _ (by omega), val_take_succ _ _ hj, pow_add', Int.pow_succ, mul_step]
      · generalize (dg x).getD i 0 = A at *
        generalize (dg y).getD j 0 = B at *
        generalize val ((dg y).take j) = V at *
        generalize (65536 : Int) ^ i = Pi at *
        generalize (65536 : Int) ^ j = Pj at *
        grind
      · exact 0
      · exact 0
    · intro k hk
      rw [getD_set_ne (by omega)]
      exact hz k hk
  · rintro s' ⟨d, c, ⟨t2, t3, t4, t5, t6, t7, t8, m2, m3, m4, m17, hdl⟩, hd, c0, c1, hv, hz⟩
    have hk : i + (dg y).length < d.length := by omega
    have hs := fun v => ci_set (d := d) (x := v) hk
    have hdl2 : (ci d).length = L := by rw [ci_len, hdl]
    have w1 : IntKind.i64.wrap ((i : Int) + ((dg y).length : Int)) = (i : Int) + (dg y).length := wrap_i64_in (by omega) (by omega)
    have w2 : IntKind.i64.wrap ((i : Int) + 1) = (i : Int) + 1 := wrap_i64_in (by omega) (by omega)
    have n1 : ((i : Int) + (dg y).length).toNat = i + (dg y).length := by omega
    have n2 : (0 : Int) ≤ (i : Int) + (dg y).length := by omega
    have n3 : (i : Int) + (dg y).length < L := by omega
    have n4 : i + (dg y).length + 1 ≤ L := by omega
    simp [-List.getD_eq_getElem?_getD, epactref01_Mul.l1, t2, t3, t4, t5, t6, t7, t8, m2, m3, m4, m17, hi, w1, w2, n1, n2, n3, n4, hs, hdl2, MulI]
    refine ⟨_, rfl, by simp [hdl], dg_set hd _ ⟨c0, c1⟩, ?_, ?_⟩
    · rw [val_set _ _ _ hk, hz _ (Nat.le_refl _), val_take_succ _ _ hi, pow_add', Int.sub_zero, hv, hv0]
      rw [List.take_of_length_le (Nat.le_refl _)]
      generalize (dg x).getD i 0 = A at *
      generalize (65536 : Int) ^ i = Pi at *
      grind
    · intro k hk2
      rw [getD_set_ne (by omega)]
      exact hz k (by omega)
  · refine ⟨d0, 0, ?_, hdg0, by decide, by decide, ?_, fun k hk => hz0 k hk⟩
    · simp [MulJ, t2, t3, t4, t5, t6, m2, m3, m4, m17, hd0]
    · simp [val]
abbrev tMulB := s2 coB coB (fun x y => smB x ∧ smB y) fun x y => .o (mkB (x * y))
theorem okMulB : Ok Try.prog 34 tMulB := ok2 (code_mk Try.func34 epactref01_Mul.ent epactref01_Mul.chk (specOk_cons okTTrim specOk_nil)) (by simp [epactref01_Mul.c]) fun x y _ _ hg => by
  have lx := len_dg hg.1
  have ly := len_dg hg.2
  refine ⟨2000, ?_⟩
  have w1 : IntKind.i64.wrap (((dg x).length : Int) + (dg y).length) = ((dg x).length : Int) + (dg y).length := wrap_i64_in (by omega) (by omega)
  have n1 : (((dg x).length : Int) + (dg y).length).toNat = (dg x).length + (dg y).length := by omega
  have n2 : (0 : Int) ≤ ((dg x).length : Int) + (dg y).length := by omega
  have n3 : ((dg x).length : Int) + (dg y).length ≤ 1000000000000 := by omega
  simp [-List.getD_eq_getElem?_getD, epactref01_Mul.c, w1, n1, n2, n3]
  refine loopW_iter (MulI x y ((dg x).length + (dg y).length)) (dg x).length (fun i s hi H => mul_out H hi rfl (by omega) (by omega)) ?_ 2000 _ (by omega) ?_
  · rintro s ⟨t2, t3, t4, t5, t6, m2, m3, m4, d, m17, hd, hdg, hv, hz⟩
    rw [List.take_of_length_le (Nat.le_refl _), val_dg, val_dg] at hv
    have hr : d.take ((dg x).length + (dg y).length) = d := List.take_of_length_le (by omega)
    have hlen : (dg x).length + (dg y).length ≤ 1000000 := by omega
    have hlen2 : (dg x).length + (dg y).length ≤ (ci d).length := by rw [ci_len]; omega
    have e : dg (val d) = dg (x * y) := by
      rw [hv, ← Int.natCast_mul, ← Int.natAbs_mul, dg_abs]
    have hp := @len_pos (x * y)
    have hz0 : x * y = 0 → dg (x * y) = [] := fun h => by rw [h]; exact dg_zero
    simp [-List.getD_eq_getElem?_getD, epactref01_Mul.l2, t2, t3, t4, t5, t6, m2, m3, m4, m17, hr, hd, hdg, hlen, hlen2, e]
    have hle : x * y ≠ 0 → decide (0 < (dg (x * y)).length) = true := fun h => decide_eq_true (hp h)
    have hl0 : x * y = 0 → decide (0 < (dg (x * y)).length) = false := fun h => by rw [hz0 h]; rfl
    by_cases hx : x < 0 <;> by_cases hy : y < 0
    · rw [ngB_neg hx, ngB_neg hy]
      simp
      exact Int.mul_nonneg_of_nonpos_of_nonpos (by omega) (by omega)
    · rw [ngB_neg hx, ngB_pos (show 0 ≤ y by omega)]
      simp
      by_cases h0 : x * y = 0
      · rw [hl0 h0, h0]; rfl
      · have : x * y ≤ 0 := Int.mul_nonpos_of_nonpos_of_nonneg (by omega) (by omega)
        rw [hle h0, ngB_neg (by omega)]
    · rw [ngB_pos (show 0 ≤ x by omega), ngB_neg hy]
      simp
      by_cases h0 : x * y = 0
      · rw [hl0 h0, h0]; rfl
      · have : x * y ≤ 0 := Int.mul_nonpos_of_nonneg_of_nonpos (by omega) (by omega)
        rw [hle h0, ngB_neg (by omega)]
    · rw [ngB_pos (show 0 ≤ x by omega), ngB_pos (show 0 ≤ y by omega)]
      simp
      exact Int.mul_nonneg (by omega) (by omega)
  · simp [MulI]
    refine ⟨List.replicate ((dg x).length + (dg y).length) 0, (ci_rep _), by simp, dg_rep _, by rw [val_rep]; simp [val], fun k hk => ?_⟩
    rw [List.getElem?_replicate]
    split <;> rfl
end Go.Proofs.Ytanolecbepjkcaa.E
/- The reference's whole numbers: a quotient. -/
namespace Go.Proofs.Ytanolecbepjkcaa.E
open Go.VC Go.RowKit

theorem smB_of {x : Int} (h0 : 0 ≤ x) (h1 : x < 4562440617622195218641171605700291324893228507248559930579192517899275167208677386505912811317371399778642309573594407310688704721375437998252661319722214188251994674360264950082874192246603776) : smB x := by unfold smB; omega
abbrev tDigit := s2 coN coN (fun r d => 0 < d ∧ r < 65536 * d ∧ 65536 * d < 4562440617622195218641171605700291324893228507248559930579192517899275167208677386505912811317371399778642309573594407310688704721375437998252661319722214188251994674360264950082874192246603776) fun r d => .o (iv .i64 (r / d))
theorem okDigit : Ok Try.prog 80 tDigit := ok2 (code_mk Try.func80 epactref01_digit.ent epactref01_digit.chk (specOk_cons okTWord (specOk_cons okMulB (specOk_cons okTCmpN specOk_nil)))) (by simp [epactref01_digit.c]) fun r d hr hd hg => by
  obtain ⟨g1, g2, g3⟩ := hg
  simp at hr hd
  refine ⟨70000, ?_⟩
  simp [epactref01_digit.c]
  refine loopW_while (fun m s => s.tm 0 = .o (.c (.r .i64 (dg r))) ∧ s.tm 1 = .o (.c (.r .i64 (dg d))) ∧ ∃ low high : Int, s.tm 5 = .o (.c (.v (.int .i64 low))) ∧ s.tm 6 = .o (.c (.v (.int .i64 high))) ∧ 0 ≤ low ∧ low ≤ high ∧ high ≤ 65535 ∧ low * d ≤ r ∧ r < (high + 1) * d ∧ high = low + m) ?_ 70000 65535 _ (by decide) ?_
  · rintro m s ⟨t0, t1, low, high, t5, t6, h0, h1, h2, h3, h4, rfl⟩
    by_cases hlt : low < low + m
    · obtain ⟨mid, hmid⟩ : ∃ mid, mid = (low + (low + m) + 1) / 2 := ⟨_, rfl⟩
      have w1 : IntKind.i64.wrap (low + (low + m)) = low + (low + m) := wrap_i64_in (by omega) (by omega)
      have w2 : IntKind.i64.wrap (low + (low + m) + 1) = low + (low + m) + 1 := wrap_i64_in (by omega) (by omega)
      have w3 : (low + (low + (m : Int)) + 1).tdiv 2 = mid := by rw [Int.tdiv_eq_ediv_of_nonneg (by omega), hmid]
      have w4 : IntKind.i64.wrap mid = mid := wrap_i64_in (by omega) (by omega)
      have w5 : IntKind.u64.wrap mid = mid := by rw [wrap_u64_eq]; omega
      have w6 : IntKind.i64.wrap (mid - 1) = mid - 1 := wrap_i64_in (by omega) (by omega)
      have q0 : 0 ≤ mid := by omega
      have q1 : mid < 18446744073709551616 := by omega
      have m0 : 0 ≤ d * mid := Int.mul_nonneg hd q0
      have m1 : d * mid ≤ d * 65536 := Int.mul_le_mul_of_nonneg_left (by omega) hd
      have s1 : smB d := smB_of hd (by omega)
      have s2 : smB mid := smB_of q0 (by omega)
      have s3 : smB (d * mid) := smB_of m0 (by omega)
      have s4 : smB r := smB_of hr (by omega)
      by_cases hc : d * mid ≤ r
      · have hc' := Int.not_lt.2 hc
        simp [epactref01_digit.l1, t0, t1, t5, t6, hlt, w1, w2, w3, w4, w5, w6, q0, q1, m0, s1, s2, s3, s4, hc, hc', hr, hd]
        have : m ≠ 0 := by omega
        refine ⟨(low + m - mid).toNat, by omega, by omega, by omega, ?_, h4, by omega⟩
        rw [Int.mul_comm]; exact hc
      · have hc' := Int.not_le.1 hc
        simp [epactref01_digit.l1, t0, t1, t5, t6, hlt, w1, w2, w3, w4, w5, w6, q0, q1, m0, s1, s2, s3, s4, hc, hc', hr, hd]
        refine ⟨(mid - 1 - low).toNat, by omega, by omega, by omega, by omega, h3, ?_, by omega⟩
        have e : mid * d = d * mid := Int.mul_comm _ _
        omega
    · have hm : m = 0 := by omega
      subst hm
      have e : r / d = low := by
        simp at h4
        have e1 : low ≤ r / d := Int.le_ediv_of_mul_le g1 h3
        have e2 : r / d < low + 1 := Int.ediv_lt_of_lt_mul g1 h4
        omega
      simp [epactref01_digit.l1, t0, t1, t5, t6, e]
  · simp
    exact ⟨hr, g2⟩
theorem known_ci (l : List Int) : ∀ x, x ∈ ci l → (match x with | AC.u => false | _ => true) = true := fun x hx => by
  simp only [ci, List.mem_map] at hx
  obtain ⟨y, _, rfl⟩ := hx
  rfl
theorem val_cons (x : Int) (l : List Int) : val (x :: l) = x + 65536 * val l := rfl
/-- Ahead of a round with i digits to go. -/
def DivQ (a d : Int) (n i : Nat) (s : St) : Prop :=
  s.tm 2 = .o (.c (.p 2 0)) ∧ s.tm 3 = .o (.c (.p 3 0)) ∧ s.tm 4 = .o (.c (.p 4 0)) ∧ s.tm 5 = .o (.c (.p 5 0)) ∧ s.tm 6 = .o (.c (.s ⟨3, 1, some .i64⟩ 14 n)) ∧ s.tm 8 = .o (.c (.v (.int .i64 ((i : Int) - 1)))) ∧
  s.mem 2 = some [.v (.bool (ngB a)), .r .i64 (dg a)] ∧ s.mem 3 = some [.v (.bool (ngB d)), .r .i64 (dg d)] ∧ s.mem 4 = some [.v (.bool false), .nil .i64] ∧ s.mem 5 = some [.v (.bool false), .nil .i64] ∧ s.mem 28 = none ∧ s.mem 30 = none ∧ s.mem 9 = none ∧ s.mem 10 = none ∧
  (s.tm 7 = .o (.c (.r .i64 (dg (val ((dg a).drop i) % d)))) ∨ (s.tm 7 = .o (.c (.nil .i64)) ∧ val ((dg a).drop i) % d = 0)) ∧
  ∃ q, s.mem 14 = some (ci q) ∧ q.length = n ∧ Dg q ∧ val (q.drop i) = val ((dg a).drop i) / d
theorem divq_step {A V d : Int} (hd : 0 < d) : (A + 65536 * V) % d = (A + 65536 * (V % d)) % d ∧ (A + 65536 * V) / d = (A + 65536 * (V % d)) / d + 65536 * (V / d) := by
  have h := Int.mul_ediv_add_emod V d
  have e : A + 65536 * V = (A + 65536 * (V % d)) + d * (65536 * (V / d)) := by
    generalize V / d = q at *
    generalize V % d = r at *
    subst h
    grind
  rw [e]
  constructor
  · rw [Int.add_mul_emod_self_left]
  · rw [Int.add_mul_ediv_left _ _ (by omega)]
theorem drop_set_same {q : List Int} {i : Nat} {x : Int} (h : i < q.length) : (q.set i x).drop i = x :: q.drop (i + 1) := by
  rw [List.set_eq_take_append_cons_drop, if_pos h]
  rw [List.drop_append]
  simp [Nat.min_eq_left (Nat.le_of_lt h)]
abbrev spDivB : List (Nat × (List AP → Option AV)) := [(79, tTrim), (80, tDigit), (76, tWord), (34, tMulB), (81, tSubN), (77, tNegB), (47, tSubB)]
theorem okSpDivB : SpecOk Try.prog (spOf spDivB) := specOk_cons okTTrim (specOk_cons okDigit (specOk_cons okTWord (specOk_cons okMulB (specOk_cons okTSubN (specOk_cons okTNegB (specOk_cons okTSubB specOk_nil))))))
theorem div_round {K : Nat} {Q : AX → St → Prop} {a d : Int} {n i : Nat} {s : St} (H : DivQ a d n (i + 1) s) (hn : n = (dg a).length) (hi : i < n) (hn2 : n ≤ 1000) (hd0 : 0 < d) (hd1 : 65536 * d < 4562440617622195218641171605700291324893228507248559930579192517899275167208677386505912811317371399778642309573594407310688704721375437998252661319722214188251994674360264950082874192246603776) :
    codeW (spOf spDivB) K epactref01_Div.l1 s (roundW (DivQ a d n i) Q) := by
  obtain ⟨t2, t3, t4, t5, t6, t8, m2, m3, m4, m5, m28, m30, m9, m10, h7, q, m14, hq, hdq, hv⟩ := H
  have hil : i < (dg a).length := by omega
  have hvd := val_dropD (dg a) i
  have ga := dg_get (dg_dg a) i
  obtain ⟨f1, f2⟩ := @divq_step ((dg a).getD i 0) (val ((dg a).drop (i + 1))) d hd0
  rw [← hvd] at f1 f2
  have r0 := Int.emod_nonneg (val ((dg a).drop (i + 1))) (show d ≠ 0 by omega)
  have r1 := Int.emod_lt_of_pos (val ((dg a).drop (i + 1))) hd0
  generalize hR : val ((dg a).drop (i + 1)) % d = R at *
  generalize hA : (dg a).getD i 0 = A at *
  have hs := fun v => ci_set (d := q) (x := v) (show i < q.length by omega)
  have hql : (ci q).length = n := by rw [ci_len, hq]
  have w1 : IntKind.i64.wrap ((i : Int) - 1) = (i : Int) - 1 := wrap_i64_in (by omega) (by omega)
  have e1 : val (A :: dg R) = A + 65536 * R := by rw [val_cons, val_dg0 R r0]
  have b0 : 0 ≤ A + 65536 * R := by omega
  have b1 : A + 65536 * R < 65536 * d := by omega
  have hmd := Int.mul_ediv_add_emod (A + 65536 * R) d
  have q0 : 0 ≤ (A + 65536 * R) / d := Int.ediv_nonneg b0 (by omega)
  have q1 : (A + 65536 * R) / d < 65536 := Int.ediv_lt_of_lt_mul hd0 b1
  have p0 := Int.emod_nonneg (A + 65536 * R) (show d ≠ 0 by omega)
  have p1 := Int.emod_lt_of_pos (A + 65536 * R) hd0
  generalize hU : A + 65536 * R = U at *
  generalize hq' : U / d = x at *
  generalize hr' : U % d = r at *
  have m0 : 0 ≤ d * x := Int.mul_nonneg (by omega) q0
  have mle : d * x ≤ U := by omega
  have w2 : IntKind.u64.wrap x = x := by rw [wrap_u64_eq]; omega
  have s1 : smB d := smB_of (by omega) (by omega)
  have s2 : smB x := smB_of q0 (by omega)
  have s3 : smB U := smB_of b0 (by omega)
  have s4 : smB (d * x) := smB_of m0 (by omega)
  have x1 : x < 18446744073709551616 := by omega
  have hd' := Int.le_of_lt hd0
  have e3 : U - d * x = r := by omega
  have hgq : (ci (q.set i x))[i]? = some (.v (.int .i64 x)) := by rw [ci_get (by rw [List.length_set]; omega)]; simp [List.getD_eq_getElem?_getD, show i < q.length by omega]
  have hsl : (ci (q.set i x)).length = n := by rw [ci_len, List.length_set, hq]
  have hfin : val ((q.set i x).drop i) = x + 65536 * val (q.drop (i + 1)) := by rw [drop_set_same (by omega), val_cons]
  have hset : Dg (q.set i x) := dg_set hdq _ ⟨q0, q1⟩
  have hdA : Dg (A :: dg R) := fun y hy => by
    rcases List.mem_cons.1 hy with rfl | hy
    · exact ga
    · exact dg_dg R y hy
  have hlR : (dg R).length ≤ 40 := len_dg (smB_of r0 (by omega))
  have hk2 : (dg R).length + 1 ≤ 1000000000000 := by omega
  have hi1 : i + 1 ≤ n := hi
  have hlR2 : (dg R).length ≤ 999999 := by omega
  rcases h7 with h7 | ⟨h7, h70⟩
  · simp [-List.getD_eq_getElem?_getD, epactref01_Div.l1, t2, t3, t4, t5, t6, t8, m2, m3, m4, m5, m28, m30, m9, m10, h7, m14, hA, hil, hk2, hdA, hs, hql, w1, w2, e1, hU, hq', hr', b0, b1, q0, q1, p0, p1, m0, mle, s1, s2, s3, s4, x1, hd', hd0, hd1, e3, hgq, hsl, ci_kill, DivQ, hfin, hset, hq, f1, f2, Nat.add_comm 1 (dg R).length, hi, hi1, hlR2]
    refine ⟨known_ci _, q.set i x, rfl, by simp [hq], hset, ?_⟩
    rw [hfin, hv]
  · have hd1A : Dg [A] := fun y hy => by
      have : y = A := by simpa using hy
      subst this; exact ga
    have e1' : val [A] = U := by simp [val]; omega
    simp [-List.getD_eq_getElem?_getD, epactref01_Div.l1, t2, t3, t4, t5, t6, t8, m2, m3, m4, m5, m28, m30, m9, m10, h7, m14, hA, hil, hk2, hd1A, hs, hql, w1, w2, e1', hq', hr', b0, b1, q0, q1, p0, p1, m0, mle, s1, s2, s3, s4, x1, hd', hd0, hd1, e3, hgq, hsl, ci_kill, DivQ, hfin, hset, hq, f1, f2, hi, hi1, hlR2]
    refine ⟨q.set i x, rfl, by simp [hq], hset, ?_⟩
    rw [hfin, hv]
abbrev tDivB := s2 coB coB (fun a d => smB a ∧ 0 < d ∧ 65536 * d < 4562440617622195218641171605700291324893228507248559930579192517899275167208677386505912811317371399778642309573594407310688704721375437998252661319722214188251994674360264950082874192246603776) fun a d => .t [mkB (a / d), mkB (a % d)]
theorem okDivB : Ok Try.prog 29 tDivB := ok2 (code_mk Try.func29 epactref01_Div.ent epactref01_Div.chk okSpDivB) (by simp [epactref01_Div.c]) fun a d _ _ hg => by
  obtain ⟨g1, g2, g3⟩ := hg
  have la := len_dg g1
  refine ⟨2000, ?_⟩
  have w1 : IntKind.i64.wrap (((dg a).length : Int) - 1) = ((dg a).length : Int) - 1 := wrap_i64_in (by omega) (by omega)
  have n1 : ((dg a).length : Int) ≤ 1000000000000 := by omega
  simp [-List.getD_eq_getElem?_getD, epactref01_Div.c, w1, n1]
  refine loopW_while (fun i s => i ≤ (dg a).length ∧ DivQ a d (dg a).length i s) ?_ 2000 (dg a).length _ (by omega) ?_
  · rintro i s ⟨hil, H⟩
    cases i with
    | succ i =>
      exact codeW_mono (div_round H rfl (by omega) (by omega) g2 g3) (round_mono fun s' h' => ⟨i, by omega, by omega, h'⟩)
    | zero =>
      obtain ⟨t2, t3, t4, t5, t6, t8, m2, m3, m4, m5, m28, m30, m9, m10, h7, q, m14, hq, hdq, hv⟩ := H
      simp at hv h7 t8
      have hva : val (dg a) = nabs a := val_dg a
      rw [hva] at hv h7
      have n0 : 0 ≤ nabs a := by unfold nabs; omega
      have r0 := Int.emod_nonneg (nabs a) (show d ≠ 0 by omega)
      have r1 := Int.emod_lt_of_pos (nabs a) g2
      have hmd := Int.mul_ediv_add_emod (nabs a) d
      have q0 : 0 ≤ nabs a / d := Int.ediv_nonneg n0 (by omega)
      have htk : List.take (dg a).length q = q := List.take_of_length_le (by omega)
      have hll : (dg a).length ≤ 1000000 := by omega
      by_cases ha : a < 0
      · have hn : nabs a = -a := by rw [nabs_eq, if_pos ha]
        have hng : ngB a = true := ngB_neg ha
        rw [hn] at hv h7 n0 r0 r1 hmd q0
        have ga : -a < 4562440617622195218641171605700291324893228507248559930579192517899275167208677386505912811317371399778642309573594407310688704721375437998252661319722214188251994674360264950082874192246603776 := by have := g1; unfold smB at this; omega
        have s1 : smB (-(-a / d)) := by
          have h1 : -a / d ≤ -a := Int.ediv_le_self _ (by omega)
          unfold smB; omega
        have s2 : smB 1 := by decide
        have s3 : smB d := smB_of (by omega) (by omega)
        have s4 : smB (-a % d) := smB_of r0 (by omega)
        generalize hx : -a / d = x at *
        generalize hr : -a % d = r at *
        have ea : a = -(d * x) - r := by omega
        by_cases hr0 : r = 0
        · have e1 : a / d = -x := by
            rw [ea, hr0, Int.sub_zero, ← Int.mul_neg, Int.mul_ediv_cancel_left _ (by omega)]
          have e2 : a % d = 0 := by
            rw [ea, hr0, Int.sub_zero, ← Int.mul_neg, Int.mul_emod_right]
          have hz : dg 0 = [] := dg_zero
          have hz2 : ngB 0 = false := rfl
          rcases h7 with h7 | ⟨h7, h70⟩
          · simp [-List.getD_eq_getElem?_getD, epactref01_Div.l1, t2, t3, t4, t5, t6, t8, m2, m3, m4, m5, m28, m30, m9, m10, h7, m14, hq, htk, hdq, hll, hv, hng, hr0, e1, e2, hz, hz2, q0]
          · simp [-List.getD_eq_getElem?_getD, epactref01_Div.l1, t2, t3, t4, t5, t6, t8, m2, m3, m4, m5, m28, m30, m9, m10, h7, m14, hq, htk, hdq, hll, hv, hng, hr0, e1, e2, hz, hz2, q0]
        · have e0 : a = (d - r) + d * (-x - 1) := by rw [ea]; grind
          have e1 : a / d = -x - 1 := by
            rw [e0, Int.add_mul_ediv_left _ _ (by omega), Int.ediv_eq_zero_of_lt (by omega) (by omega)]; omega
          have e2 : a % d = d - r := by
            rw [e0, Int.add_mul_emod_self_left, Int.emod_eq_of_lt (by omega) (by omega)]
          have hrl := len_pos hr0
          have hrn : dg r ≠ [] := fun h => hr0 (dg_nil.1 h)
          rcases h7 with h7 | ⟨h7, h70⟩
          · simp [-List.getD_eq_getElem?_getD, epactref01_Div.l1, t2, t3, t4, t5, t6, t8, m2, m3, m4, m5, m28, m30, m9, m10, h7, m14, hq, htk, hdq, hll, hv, hng, hr0, e1, e2, hrl, hrn, q0, r0, s1, s2, s3, s4]
          · exact (hr0 h70).elim
      · have hn : nabs a = a := nabs_nn (by omega)
        have hng : ngB a = false := ngB_pos (by omega)
        rw [hn] at hv h7 n0 r0 r1 hmd q0
        have hq1 : ngB (a / d) = false := ngB_pos q0
        have hq2 : ngB (a % d) = false := ngB_pos r0
        rcases h7 with h7 | ⟨h7, h70⟩
        · simp [-List.getD_eq_getElem?_getD, epactref01_Div.l1, t2, t3, t4, t5, t6, t8, m2, m3, m4, m5, m28, m30, m9, m10, h7, m14, hq, htk, hdq, hll, hv, hng, hq1, hq2]
        · have hz : dg 0 = [] := dg_zero
          simp [-List.getD_eq_getElem?_getD, epactref01_Div.l1, t2, t3, t4, t5, t6, t8, m2, m3, m4, m5, m28, m30, m9, m10, h7, m14, hq, htk, hdq, hll, hv, hng, hq1, hq2, h70, hz]
  · simp [DivQ]
    exact ⟨rfl, List.replicate (dg a).length 0, ci_rep _, by simp, dg_rep _, by simp [val]⟩
end Go.Proofs.Ytanolecbepjkcaa.E
/- The reference's whole numbers: of a Wide, as a Wide, of a Limb. -/
namespace Go.Proofs.Ytanolecbepjkcaa.E
open Go.VC Go.RowKit

/-- What a Wide can be. -/
theorem smB_w {x : Int} (h : -340282366920938463463374607431768211456 * 340282366920938463463374607431768211456 ≤ x ∧ x ≤ 340282366920938463463374607431768211456 * 340282366920938463463374607431768211456) : smB x := by unfold smB; omega
theorem p64 : (2 : Int) ^ (64 : Int).toNat = 18446744073709551616 := by decide
theorem p127 : (2 : Int) ^ (127 : Int).toNat = 170141183460469231731687303715884105728 := by decide
theorem p128 : (2 : Int) ^ (128 : Int).toNat = 340282366920938463463374607431768211456 := by decide
theorem q64 : (2 : Int) ^ 64 = 18446744073709551616 := by decide
theorem q127 : (2 : Int) ^ 127 = 170141183460469231731687303715884105728 := by decide
theorem q128 : (2 : Int) ^ 128 = 340282366920938463463374607431768211456 := by decide
abbrev tOf := s1 coW Tt1 fun x => .o (mkB x)
theorem w_rng {x : Int} (h : -170141183460469231731687303715884105728 ≤ x ∧ x < 170141183460469231731687303715884105728) : (-9223372036854775808 ≤ whi x ∧ whi x < 9223372036854775808) ∧ (0 ≤ wlo x ∧ wlo x < 18446744073709551616) := by unfold whi wlo; omega
theorem okOf : Ok Try.prog 24 tOf := ok1 (code_mk Try.func24 epactref01_Of.ent epactref01_Of.chk (specOk_cons okTIntB (specOk_cons okPow2 (specOk_cons okMulB (specOk_cons okTWord (specOk_cons okTAddB specOk_nil)))))) (by simp [epactref01_Of.c]) fun x hx _ => by
  simp at hx
  refine ⟨0, ?_⟩
  obtain ⟨h1, h2⟩ := w_rng hx
  have s1 : smB (whi x) := by unfold smB; omega
  have s2 : smB 18446744073709551616 := by decide
  have s3 : smB (whi x * 18446744073709551616) := by unfold smB; omega
  have s4 : smB (wlo x) := by unfold smB; omega
  simp [epactref01_Of.c, h1, h2, s1, s2, s3, s4, whi_wlo, q64]
/-- Four digits, from a place on. -/
theorem word_v (d : List Int) (hd : Dg d) (j : Nat) : val (d.drop j) % 18446744073709551616 = d.getD j 0 + 65536 * d.getD (j + 1) 0 + 4294967296 * d.getD (j + 2) 0 + 281474976710656 * d.getD (j + 3) 0 := by
  have e0 := val_dropD d j
  have e1 := val_dropD d (j + 1)
  have e2 := val_dropD d (j + 1 + 1)
  have e3 := val_dropD d (j + 1 + 1 + 1)
  have g0 := dg_get hd j
  have g1 := dg_get hd (j + 1)
  have g2 := dg_get hd (j + 1 + 1)
  have g3 := dg_get hd (j + 1 + 1 + 1)
  rw [show j + 2 = j + 1 + 1 from rfl, show j + 3 = j + 1 + 1 + 1 from rfl]
  omega
theorem val_drop_div (d : List Int) (hd : Dg d) : ∀ j : Nat, val (d.drop j) = val d / 65536 ^ j
  | 0 => by simp
  | j + 1 => by
    have e := val_dropD d j
    have g := dg_get hd j
    rw [val_drop_div d hd j] at e
    rw [Int.pow_succ, ← Int.ediv_ediv_of_nonneg (Int.le_of_lt (pow_pos' j)), e]
    omega
def wv (d : List Int) (j : Nat) : Nat → Int
  | 0 => 0
  | i + 1 => d.getD (j + (3 - i)) 0 + 65536 * wv d j i
theorem wv_rng {d : List Int} (hd : Dg d) (j : Nat) : ∀ i, i ≤ 3 → 0 ≤ wv d j i ∧ wv d j i < 281474976710656 := by
  intro i hi
  have g1 := dg_get hd (j + (3 - 0))
  have g2 := dg_get hd (j + (3 - 1))
  have g3 := dg_get hd (j + (3 - 2))
  match i, hi with
  | 0, _ => simp [wv]
  | 1, _ => simp only [wv]; omega
  | 2, _ => simp only [wv]; omega
  | 3, _ => simp only [wv]; omega
abbrev tRefWord := s2 coN coI (fun x j => smB x ∧ 0 ≤ j ∧ j ≤ 1000) fun x j => .o (iv .u64 (x / 65536 ^ j.toNat % 18446744073709551616))
theorem okRefWord : Ok Try.prog 110 tRefWord := ok2 (code_mk Try.func110 epactref01_word.ent epactref01_word.chk specOk_nil) (by simp [epactref01_word.c]) fun x j hx hj hg => by
  obtain ⟨g1, g2, g3⟩ := hg
  simp at hx hj
  obtain ⟨j, rfl⟩ := Int.eq_ofNat_of_zero_le g2
  have hv := word_v (dg x) (dg_dg x) j
  rw [val_drop_div _ (dg_dg x), val_dg0 x hx] at hv
  refine ⟨10, ?_⟩
  simp only [Int.toNat_natCast]
  rw [hv]
  have l := len_dg g1
  simp [-List.getD_eq_getElem?_getD, epactref01_word.c]
  refine loopW_iter (fun i s => s.tm 0 = .o (.c (.r .i64 (dg x))) ∧ s.tm 1 = .o (.c (.v (.int .i64 (j : Int)))) ∧ s.tm 6 = .o (.c (.v (.int .i64 (3 - (i : Int))))) ∧ ∃ v : Int, s.tm 5 = .o (.c (.v (.int .u64 v))) ∧ v = wv (dg x) j i) 4 ?_ ?_ 10 _ (by decide) ?_
  · rintro i s hi ⟨t0, t1, t6, v, t5, hv⟩
    obtain ⟨v0, v1⟩ := wv_rng (dg_dg x) j i (by omega)
    rw [← hv] at v0 v1
    have w1 : IntKind.u64.wrap (v * 65536) = v * 65536 := by rw [wrap_u64_eq]; omega
    have w2 : IntKind.i64.wrap ((j : Int) + (3 - (i : Int))) = (j : Int) + (3 - (i : Int)) := wrap_i64_in (by omega) (by omega)
    have w3 : IntKind.i64.wrap (3 - (i : Int) - 1) = 3 - ((i : Int) + 1) := by rw [wrap_i64_in (by omega) (by omega)]; omega
    have i3 : (i : Int) ≤ 3 := by omega
    have i4 : (0 : Int) ≤ 3 - (i : Int) := by omega
    have ev : wv (dg x) j (i + 1) = (dg x).getD (j + (3 - i)) 0 + 65536 * v := by rw [hv, wv]
    by_cases hl : (j : Int) + (3 - (i : Int)) < (dg x).length
    · have g := dg_get (dg_dg x) (j + (3 - i))
      have n1 : ((j : Int) + (3 - (i : Int))).toNat = j + (3 - i) := by omega
      have n2 : (0 : Int) ≤ (j : Int) + (3 - (i : Int)) := by omega
      generalize hD : (dg x).getD (j + (3 - i)) 0 = D at *
      have w4 : IntKind.u64.wrap D = D := by rw [wrap_u64_eq]; omega
      have w5 : IntKind.u64.wrap (v * 65536 + D) = v * 65536 + D := by rw [wrap_u64_eq]; omega
      simp [-List.getD_eq_getElem?_getD, epactref01_word.l1, t0, t1, t5, t6, w1, w2, w3, w4, w5, i3, i4, hl, n1, n2, hD, ev]
      omega
    · have e0 : (dg x).getD (j + (3 - i)) 0 = 0 := by
        rw [List.getD_eq_getElem?_getD, List.getElem?_eq_none (by omega)]; rfl
      simp [-List.getD_eq_getElem?_getD, epactref01_word.l1, t0, t1, t5, t6, w1, w2, w3, i3, i4, hl, ev, e0]
      omega
  · rintro s ⟨t0, t1, t6, v, t5, hv⟩
    simp [-List.getD_eq_getElem?_getD, epactref01_word.l1, t0, t1, t5, t6, hv, wv]
    omega
  · simp [wv]
abbrev tWideB := s1 coB (fun x => smB x) fun x => if -170141183460469231731687303715884105728 ≤ x ∧ x < 170141183460469231731687303715884105728 then .t [wd x, bv true] else .t [wd 0, bv false]
theorem okWideB : Ok Try.prog 91 tWideB := ok1 (code_mk Try.func91 epactref01_Wide.ent epactref01_Wide.chk (specOk_cons okPow2 (specOk_cons okTCmpB (specOk_cons okTNegB (specOk_cons okTSubB (specOk_cons okRefWord specOk_nil)))))) (by simp [epactref01_Wide.c]) fun x _ hg => by
  refine ⟨0, ?_⟩
  have s1 : smB 170141183460469231731687303715884105728 := by decide
  have s2 : smB (-170141183460469231731687303715884105728) := by decide
  have s3 : smB 340282366920938463463374607431768211456 := by decide
  by_cases h1 : x < 170141183460469231731687303715884105728
  · have h1' := Int.not_le.2 h1
    by_cases h2 : -170141183460469231731687303715884105728 ≤ x
    · have h2' := Int.not_lt.2 h2
      by_cases h3 : x < 0
      · have h3' := Int.not_le.2 h3
        have hn : nabs x = -x := by rw [nabs_eq, if_pos h3]
        have s4 : smB (-x) := by unfold smB; omega
        have s5 : smB (340282366920938463463374607431768211456 + x) := by unfold smB; omega
        have s6 : 0 ≤ 340282366920938463463374607431768211456 + x := by omega
        have e1 : IntKind.i64.wrap ((340282366920938463463374607431768211456 + x) / 18446744073709551616 % 18446744073709551616) = whi x := by rw [IntKind.wrap_i64]; unfold whi; omega
        have e2 : (340282366920938463463374607431768211456 + x) % 18446744073709551616 = wlo x := by unfold wlo; omega
        simp [epactref01_Wide.c, hg, s1, s2, s3, s4, s5, s6, h1, h1', h2, h2', h3, h3', q127, q128, hn, e1, e2]
      · have h3' := Int.not_lt.1 h3
        have e1 : IntKind.i64.wrap (x / 18446744073709551616 % 18446744073709551616) = whi x := by rw [IntKind.wrap_i64]; unfold whi; omega
        have e2 : x % 18446744073709551616 = wlo x := by unfold wlo; omega
        simp [epactref01_Wide.c, hg, s1, s2, s3, h1, h1', h2, h2', h3, h3', q127, q128, e1, e2]
    · have h2' := Int.not_le.1 h2
      simp [epactref01_Wide.c, hg, s1, s2, s3, h1, h1', h2, h2', q127, q128]
  · have h1' := Int.not_lt.1 h1
    simp [epactref01_Wide.c, hg, s1, s2, s3, h1, h1', q127, q128]
end Go.Proofs.Ytanolecbepjkcaa.E

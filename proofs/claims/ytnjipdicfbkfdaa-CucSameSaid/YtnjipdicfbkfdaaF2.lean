/- Octets: what the package frac and the reference do with them. -/
import Derived.Test.YtnjipdicfbkfdaaF1
import Derived.Test.YtnjipdicfbkfdaaD0
set_option linter.unusedVariables false
set_option linter.unusedSimpArgs false
set_option maxHeartbeats 2000000
set_option maxRecDepth 100000
namespace Go.Proofs.Ytnjipdicfbkfdaa.E
open Go.VC Go.RowKit

/-! ### Octets as cells -/
def c8 (l : List Int) : List AC := l.map fun x => .v (.int .u8 x)
theorem c8_len (l : List Int) : (c8 l).length = l.length := by simp [c8]
theorem c8_rows : ∀ l : List Int, rowInts .u8 (c8 l) = some l
  | [] => rfl
  | x :: l => by
    have := c8_rows l
    simp only [c8, List.map_cons, rowInts] at this ⊢
    simp [this]
theorem c8_kill (l : List Int) (ns : List Nat) : (c8 l).map (AC.kill ns) = c8 l := by simp [c8, AC.kill]
theorem c8_rel {n : Nat} {cs : List AC} {l : List Int} : (c8 l).map (fun x => x.rel n cs) = c8 l := by simp [c8, AC.rel]
theorem relRow_c8 {e n : Nat} {l : List Int} : relRow ⟨e, 1, some .u8⟩ n (c8 l) = if n ≤ l.length then .r .u8 (l.take n) else .u := by
  unfold relRow
  simp only [Nat.mul_one, c8_len, if_true]
  have h : (c8 l).take n = c8 (l.take n) := by simp [c8]
  rw [h, c8_rows]
theorem c8_cons {x : Int} {l : List Int} : AC.v (.int .u8 x) :: c8 l = c8 (x :: l) := by simp [c8]
theorem c8_app {l m : List Int} : c8 l ++ c8 m = c8 (l ++ m) := by simp [c8]
theorem c8_rep (q : Nat) : List.replicate q (AC.v (.int .u8 0)) = c8 (List.replicate q 0) := by simp [c8]
theorem c8_set {d : List Int} {k : Nat} {x : Int} (h : k < d.length) : List.take k (c8 d) ++ AC.v (.int .u8 x) :: List.drop (k + 1) (c8 d) = c8 (d.set k x) := by
  rw [List.set_eq_take_append_cons_drop, if_pos h]
  simp [c8]
theorem c8_known {l : List Int} : (∀ x, x ∈ c8 l → (match x with | AC.u => false | _ => true) = true) = True := by
  simp only [eq_iff_iff, iff_true]
  intro x hx
  simp only [c8, List.mem_map] at hx
  obtain ⟨y, _, rfl⟩ := hx
  rfl
theorem lie_r8 {s : St} {l : List Int} : lieOf 1 s (.o (.c (.r .u8 l))) = some ([], l.length, c8 l) := _root_.id rfl
attribute [simp] c8_len c8_kill c8_rel relRow_c8 c8_cons c8_app c8_known lie_r8

/-! ### Numbers and octets -/
/-- The last k octets of a number, the greatest first. -/
def oct (n : Int) : Nat → List Int
  | 0 => []
  | k + 1 => oct (n / 256) k ++ [n % 256]
theorem oct_len : ∀ (k : Nat) (n : Int), (oct n k).length = k
  | 0, _ => rfl
  | k + 1, n => by simp [oct, oct_len k]
def oc (x : Int) : Prop := 0 ≤ x ∧ x < 256
theorem oct_rng : ∀ (k : Nat) (n : Int), ∀ x ∈ oct n k, 0 ≤ x ∧ x < 256
  | 0, _, x, h => by cases h
  | k + 1, n, x, h => by
    simp only [oct, List.mem_append, List.mem_singleton] at h
    rcases h with h | rfl
    · exact oct_rng k _ x h
    · omega
theorem snoc_ind {P : List Int → Prop} (h0 : P []) (h1 : ∀ l x, P l → P (l ++ [x])) (l : List Int) : P l := by
  rw [← List.reverse_reverse l]
  induction l.reverse with
  | nil => exact h0
  | cons x l ih => rw [List.reverse_cons]; exact h1 _ x ih
/-- The number of octets. -/
def num (l : List Int) : Int := l.foldl (fun n c => n * 256 + c) 0
theorem num_nil : num [] = 0 := rfl
theorem num_snoc (l : List Int) (x : Int) : num (l ++ [x]) = num l * 256 + x := by simp [num]
theorem num_rng {l : List Int} : (∀ x ∈ l, 0 ≤ x ∧ x < 256) → 0 ≤ num l ∧ num l < pw (l.length : Int) := by
  refine snoc_ind (P := fun l => (∀ x ∈ l, 0 ≤ x ∧ x < 256) → 0 ≤ num l ∧ num l < pw (l.length : Int)) ?_ ?_ l
  · intro _; exact ⟨Int.le_refl _, by decide⟩
  · intro l x ih h
    have h1 := ih (fun y hy => h y (by simp [hy]))
    have h2 := h x (by simp)
    rw [num_snoc, List.length_append]
    have e : ((l.length + [x].length : Nat) : Int) = (l.length : Int) + 1 := by simp
    rw [e, pw_succ (by omega)]
    omega
theorem num_oct : ∀ (k : Nat) (n : Int), num (oct n k) = n % pw (k : Int)
  | 0, n => by rw [oct, num_nil]; show 0 = n % 1; omega
  | k + 1, n => by
    rw [oct, num_snoc, num_oct k, show ((k + 1 : Nat) : Int) = (k : Int) + 1 by omega, pw_succ (by omega)]
    have hp := pw_pos (k : Int)
    have h1 := Int.mul_ediv_add_emod (n / 256) (pw (k : Int))
    have r0 := Int.emod_nonneg (n / 256) (show pw (k : Int) ≠ 0 by omega)
    have r1 := Int.emod_lt_of_pos (n / 256) hp
    generalize hr : n / 256 % pw (k : Int) = r at *
    generalize n / 256 / pw (k : Int) = q at *
    have e : n = (r * 256 + n % 256) + pw (k : Int) * 256 * q := by
      have : n = 256 * (n / 256) + n % 256 := by omega
      rw [← h1] at this
      generalize pw (k : Int) = P at *
      generalize n % 256 = t at *
      rw [this]
      grind
    generalize pw (k : Int) = P at *
    have e2 : n % (P * 256) = (r * 256 + n % 256) % (P * 256) := by
      conv => lhs; rw [e]
      rw [Int.add_mul_emod_self_left]
    rw [e2]
    exact (Int.emod_eq_of_lt (by omega) (by omega)).symm
theorem oct_num {l : List Int} : (∀ x ∈ l, 0 ≤ x ∧ x < 256) → oct (num l) l.length = l := by
  refine snoc_ind (P := fun l => (∀ x ∈ l, 0 ≤ x ∧ x < 256) → oct (num l) l.length = l) ?_ ?_ l
  · intro _; rfl
  · intro l x ih h
    have h1 := ih (fun y hy => h y (by simp [hy]))
    have h2 := h x (by simp)
    rw [num_snoc, List.length_append]
    show oct (num l * 256 + x) (l.length + 1) = _
    rw [oct]
    have e1 : (num l * 256 + x) / 256 = num l := by omega
    have e2 : (num l * 256 + x) % 256 = x := by omega
    rw [e1, e2, h1]
theorem take_succ_num (l : List Int) (i : Nat) (h : i < l.length) : num (l.take (i + 1)) = num (l.take i) * 256 + l.getD i 0 := by
  rw [List.take_add_one, List.getElem?_eq_getElem h]
  simp only [Option.toList_some]
  rw [num_snoc]
  simp [List.getD_eq_getElem?_getD, List.getElem?_eq_getElem h]
/-! ### Octets as a number -/
abbrev tGet := s1 coY Tt1 fun b => if 15 < b.length then .t [wd 0, iv .i64 1] else .t [wd (num b), iv .i64 0]
theorem byte_get {l : List Int} (h : ∀ x ∈ l, 0 ≤ x ∧ x < 256) (i : Nat) : 0 ≤ l.getD i 0 ∧ l.getD i 0 < 256 := by
  rw [List.getD_eq_getElem?_getD]
  cases hq : l[i]? with
  | none => simp
  | some d => exact h d (List.mem_of_getElem? hq)
theorem okGet : Ok Try.prog 72 tGet := ok1 (code_mk Try.func72 frac_Get.ent frac_Get.chk okSpW) (by simp [frac_Get.c]) fun b hb _ => by
  simp at hb
  refine ⟨20, ?_⟩
  by_cases hl : 15 < b.length
  · have hl' : (15 : Int) < b.length := by omega
    simp [frac_Get.c, hl, hl']
  · have hl' : ¬ (15 : Int) < b.length := by omega
    simp [-List.getD_eq_getElem?_getD, frac_Get.c, hl, hl']
    refine loopW_iter (fun i s => s.tm 2 = .o (.c (.p 2 0)) ∧ s.tm 4 = .o (.c (.p 4 0)) ∧ s.tm 12 = .o (.c (.r .u8 b)) ∧ s.tm 13 = .o (.c (.v (.int .i64 (b.length : Int)))) ∧ s.tm 14 = .o (.c (.v (.int .i64 (i : Int)))) ∧ s.mem 2 = some [.v (.int .i64 0), .v (.int .u64 0)] ∧ s.mem 4 = some [.v (.int .i64 (whi (num (b.take i)))), .v (.int .u64 (wlo (num (b.take i))))]) b.length ?_ ?_ 20 _ (by omega) ?_
    · rintro i s hi ⟨t2, t4, t12, t13, t14, m2, m4⟩
      have h1 := num_rng (l := b.take i) (fun x hx => hb x (List.mem_of_mem_take hx))
      rw [List.length_take, Nat.min_eq_left (by omega)] at h1
      have h2 := pw_15 (n := (i : Int) + 1) (by omega)
      rw [pw_succ (by omega)] at h2
      have g := byte_get hb i
      have hs := take_succ_num b i hi
      generalize num (b.take i) = N at *
      generalize hD : b.getD i 0 = D at *
      have w : IntKind.i64.wrap ((i : Int) + 1) = (i : Int) + 1 := wrap_i64_in (by omega) (by omega)
      have w2 : IntKind.i64.wrap D = D := wrap_i64_in (by omega) (by omega)
      have f1 : -170141183460469231731687303715884105728 ≤ N ∧ N < 170141183460469231731687303715884105728 := by omega
      have f2 : -170141183460469231731687303715884105728 ≤ N * 256 ∧ N * 256 < 170141183460469231731687303715884105728 := by omega
      have f3 : -170141183460469231731687303715884105728 ≤ N * 256 + D ∧ N * 256 + D < 170141183460469231731687303715884105728 := by omega
      have f4 : -170141183460469231731687303715884105728 ≤ D ∧ D < 170141183460469231731687303715884105728 := by omega
      have f5 : -9223372036854775808 ≤ D ∧ D < 9223372036854775808 := by omega
      simp [-List.getD_eq_getElem?_getD, frac_Get.l1, t2, t4, t12, t13, t14, m2, m4, hi, w, w2, f1, f2, f3, f4, f5, hs, hD]
    · rintro s ⟨t2, t4, t12, t13, t14, m2, m4⟩
      rw [List.take_of_length_le (Nat.le_refl _)] at m4
      simp [-List.getD_eq_getElem?_getD, frac_Get.l1, t2, t4, t12, t13, t14, m2, m4]
    · simp [num_nil]
abbrev tNumber := s1 coY (fun b => b.length ≤ 60) fun b => .o (mkB (num b))
theorem pw_60 {n : Int} (h : n ≤ 60) : pw n ≤ 3121748550315992231381597229793166305748598142664971150859156959625371738819765620120306103063491971159826931121406622895447975679288285306290176 := pw_mono h
theorem okNumber : Ok Try.prog 76 tNumber := ok1 (code_mk Try.func76 epactref19_Number.ent epactref19_Number.chk okSpRef) (by simp [epactref19_Number.c]) fun b hb hl => by
  simp at hb
  refine ⟨70, ?_⟩
  simp [-List.getD_eq_getElem?_getD, epactref19_Number.c]
  refine loopW_iter (fun i s => s.tm 0 = .o (.c (.r .u8 b)) ∧ s.tm 2 = .o (.c (.p 2 0)) ∧ s.tm 3 = .o (.c (.p 3 0)) ∧ s.tm 4 = .o (.c (.v (.int .i64 (i : Int)))) ∧ s.mem 2 = some [.v (.bool false), .nil .i64] ∧ ((i = 0 ∧ s.mem 3 = some [.v (.bool false), .nil .i64]) ∨ s.mem 3 = some [.v (.bool (ngB (num (b.take i)))), .r .i64 (dg (num (b.take i)))])) b.length ?_ ?_ 70 _ (by omega) ?_
  · rintro i s hi ⟨t0, t2, t3, t4, m2, m3⟩
    have h1 := num_rng (l := b.take i) (fun x hx => hb x (List.mem_of_mem_take hx))
    rw [List.length_take, Nat.min_eq_left (by omega)] at h1
    have h2 := pw_60 (n := (i : Int)) (by omega)
    have g := byte_get hb i
    have hs := take_succ_num b i hi
    have hi0 : i = 0 → num (b.take i) = 0 := fun h => by subst h; simp [num_nil]
    generalize num (b.take i) = N at *
    generalize hD : b.getD i 0 = D at *
    have w : IntKind.i64.wrap ((i : Int) + 1) = (i : Int) + 1 := wrap_i64_in (by omega) (by omega)
    have w2 : IntKind.i64.wrap D = D := wrap_i64_in (by omega) (by omega)
    have s1 : smB N := by unfold smB; omega
    have s2 : smB 256 := by decide
    have s3 : smB (N * 256) := by unfold smB; omega
    have s4 : smB D := by unfold smB; omega
    have f5 : -9223372036854775808 ≤ D ∧ D < 9223372036854775808 := by omega
    rcases m3 with ⟨i0, m3⟩ | m3
    · have hN := hi0 i0
      subst hN
      simp only [Int.zero_mul, Int.zero_add] at hs
      have s5 : smB 0 := by decide
      simp [-List.getD_eq_getElem?_getD, epactref19_Number.l1, t0, t2, t3, t4, m2, m3, hi, w, w2, s5, s2, s4, f5, hs, hD]
    · simp [-List.getD_eq_getElem?_getD, epactref19_Number.l1, t0, t2, t3, t4, m2, m3, hi, w, w2, s1, s2, s3, s4, f5, hs, hD]
  · rintro s ⟨t0, t2, t3, t4, m2, m3⟩
    rw [List.take_of_length_le (Nat.le_refl _)] at m3
    rcases m3 with ⟨i0, m3⟩ | m3
    · have hb0 : b = [] := List.eq_nil_of_length_eq_zero i0
      have z0 : ngB 0 = false := rfl
      have z1 : dg 0 = [] := dg_zero
      subst hb0
      simp [-List.getD_eq_getElem?_getD, epactref19_Number.l1, t0, t2, t3, t4, m2, m3, num_nil, z0, z1]
    · simp [-List.getD_eq_getElem?_getD, epactref19_Number.l1, t0, t2, t3, t4, m2, m3]
  · simp
/-! ### A number as octets -/
abbrev tPut := s2 coW coI Tt2 fun n o => if 0 ≤ o ∧ o ≤ 15 then (if 0 ≤ n ∧ n < pw o then .t [.c (.r .u8 (oct n o.toNat)), iv .i64 0] else .t [.c (.r .u8 []), iv .i64 2]) else .t [.c (.r .u8 []), iv .i64 1]
theorem rep_set (j : Nat) (L : List Int) (x : Int) : (List.replicate (j + 1) 0 ++ L).set j x = List.replicate j 0 ++ x :: L := by
  rw [List.set_append, List.length_replicate, if_pos (by omega), List.replicate_succ', List.set_append, List.length_replicate, if_neg (by omega)]
  simp
theorem okPut : Ok Try.prog 68 tPut := ok2 (code_mk Try.func68 frac_Put.ent frac_Put.chk (specOk_cons okPw (specOk_cons okBelow okSpW))) (by simp [frac_Put.c]) fun n o hn ho _ => by
  simp at hn ho
  refine ⟨20, ?_⟩
  by_cases h3 : 0 ≤ o
  · have h3' := Int.not_lt.2 h3
    by_cases h4 : o ≤ 15
    · have h4' := Int.not_lt.2 h4
      have h15 := pw_15 h4
      have hp := pw_pos o
      have f2 : -170141183460469231731687303715884105728 ≤ pw o ∧ pw o < 170141183460469231731687303715884105728 := by omega
      by_cases h1 : 0 ≤ n ∧ n < pw o
      · have eo : max o 0 = o := by omega
        have w : IntKind.i64.wrap (o - 1) = o - 1 := wrap_i64_in (by omega) (by omega)
        have c1 : o ≤ 1000000000000 := by omega
        simp [-List.getD_eq_getElem?_getD, frac_Put.c, hn, ho, h3, h3', h4, h4', h1, f2, w, c1]
        refine loopW_while (fun j s => s.tm 2 = .o (.c (.p 2 0)) ∧ s.tm 6 = .o (.c (.s ⟨5, 1, some .u8⟩ 25 o.toNat)) ∧ s.tm 7 = .o (.c (.v (.int .i64 ((j : Int) - 1)))) ∧ j ≤ o.toNat ∧ ∃ (m : Int) (L : List Int), s.mem 2 = some [.v (.int .i64 (whi m)), .v (.int .u64 (wlo m))] ∧ s.mem 25 = some (c8 (List.replicate j 0 ++ L)) ∧ j + L.length = o.toNat ∧ (0 ≤ m ∧ m < 170141183460469231731687303715884105728) ∧ oct m j ++ L = oct n o.toNat) ?_ 20 o.toNat _ (by omega) ?_
        · rintro j s ⟨t2, t6, t7, hj, m, L, m2, m25, hL, hm, hoct⟩
          cases j with
          | zero =>
            have htk : L.take o.toNat = L := List.take_of_length_le (by omega)
            simp at t7 m25 hL
            simp [oct] at hoct
            rw [hoct] at htk m25
            have hLe : (oct n o.toNat).length = o.toNat := oct_len _ _
            simp [-List.getD_eq_getElem?_getD, frac_Put.l1, t2, t6, t7, m2, m25, hLe, htk]
          | succ j =>
            have f1 : -170141183460469231731687303715884105728 ≤ m ∧ m < 170141183460469231731687303715884105728 := by omega
            have f3 : -170141183460469231731687303715884105728 ≤ m / 256 ∧ m / 256 < 170141183460469231731687303715884105728 := by omega
            have f4 : -170141183460469231731687303715884105728 ≤ m % 256 ∧ m % 256 < 170141183460469231731687303715884105728 := by omega
            have e1 : wlo (m % 256) = m % 256 := by unfold wlo; omega
            have e2 : IntKind.u8.wrap (m % 256) = m % 256 := by rw [wrap_u8_eq]; omega
            have w2 : IntKind.i64.wrap ((j : Int) - 1) = (j : Int) - 1 := wrap_i64_in (by omega) (by omega)
            have hs := fun v => c8_set (d := List.replicate (j + 1) 0 ++ L) (x := v) (k := j) (by simp; omega)
            have c2 : (j : Int) < o.toNat := by omega
            have c3 : j + 1 ≤ j + 1 + L.length := by omega
            have c4 : (j : Int) < o := by omega
            have c5 : j < j + 1 + L.length := by omega
            have e3 : ((j + 1 : Nat) : Int) - 1 = (j : Int) := by omega
            rw [e3] at t7
            simp only [rep_set] at hs
            simp [-List.getD_eq_getElem?_getD, frac_Put.l1, t2, t6, t7, m2, m25, f1, f3, f4, e1, e2, w2, hs, c2, c3, c4, c5, eo]
            refine ⟨j, by omega, rfl, by omega, m % 256 :: L, rfl, by simp; omega, by omega, ?_⟩
            rw [← hoct, oct, List.append_assoc]
            rfl
        · simp [eo]
          exact ⟨[], by rw [List.append_nil]; exact c8_rep _, rfl, by omega, rfl⟩
      · simp [frac_Put.c, hn, ho, h3, h3', h4, h4', h1, f2]
    · have h4' := Int.not_le.1 h4
      simp [frac_Put.c, hn, ho, h3, h3', h4, h4']
  · have h3' := Int.not_le.1 h3
    simp [frac_Put.c, hn, ho, h3, h3']
end Go.Proofs.Ytnjipdicfbkfdaa.E

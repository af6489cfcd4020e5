/- Two operations that do not meddle may change places. -/
import Derived.Test.YtichmemhahbhnaaV10
set_option linter.unusedVariables false
set_option linter.unusedSimpArgs false
namespace Go.VC
open Go.RowKit

theorem upd_dom {m : Nat → Option (List AC)} {n : Nat} {cs : List AC} : ∀ k, m k ≠ none → upd m n (some cs) k ≠ none := by
  intro k hk
  by_cases h : k = n
  · subst h; rw [upd_same]; simp
  · rw [upd_ne _ _ h]; exact hk

/-! ### Two operations that may change places -/
/-- Does b look at (or write) the variable n? -/
def SOp.uses (o : SOp) (n : Option Nat) : Bool := match n with | some n => o.rdM == some n || o.wrM == some n | none => false
def SOper.indep (a b : SOper) : Bool :=
  (match a.dst with | some d => !(b.rd.contains d) && b.dst != some d | none => true) &&
  (match b.dst with | some d => !(a.rd.contains d) | none => true) &&
  (match a.op.wrM with | some n => !(b.op.uses (some n)) | none => true) && (match b.op.wrM with | some n => !(a.op.uses (some n)) | none => true) &&
  !(a.op.isA && b.op.uses a.dst) && !(b.op.isA && a.op.uses b.dst) && !a.op.hard && !b.op.hard

theorem uses_not {o : SOp} {n : Nat} (h : o.uses (some n) = false) : ∀ m, o.rdM = some m ∨ o.wrM = some m → m ≠ n := by
  simp only [SOp.uses, Bool.or_eq_false_iff, beq_eq_false_iff_ne] at h
  rintro m (hm | hm) rfl
  · exact h.1 hm
  · exact h.2 hm
theorem indep_spec {a b : SOper} (h : a.indep b = true) :
    (∀ d, a.dst = some d → d ∉ b.rd) ∧ (∀ d, a.dst = some d → b.dst ≠ some d) ∧ (∀ d, b.dst = some d → d ∉ a.rd) ∧
    (∀ n, a.op.wrM = some n → ∀ m, b.op.rdM = some m ∨ b.op.wrM = some m → m ≠ n) ∧ (∀ n, b.op.wrM = some n → ∀ m, a.op.rdM = some m ∨ a.op.wrM = some m → m ≠ n) ∧
    (a.op.isA = true → ∀ n, a.dst = some n → ∀ m, b.op.rdM = some m ∨ b.op.wrM = some m → m ≠ n) ∧ (b.op.isA = true → ∀ n, b.dst = some n → ∀ m, a.op.rdM = some m ∨ a.op.wrM = some m → m ≠ n) ∧ a.op.hard = false ∧ b.op.hard = false := by
  simp only [SOper.indep, Bool.and_eq_true, Bool.not_eq_true', Bool.and_eq_false_iff] at h
  obtain ⟨⟨⟨⟨⟨⟨⟨h1, h2⟩, h3⟩, h4⟩, h5⟩, h6⟩, h7⟩, h8⟩ := h
  refine ⟨fun d hd => ?_, fun d hd => ?_, fun d hd => ?_, fun n hn => ?_, fun n hn => ?_, fun ha n hn => ?_, fun hb n hn => ?_, h7, h8⟩
  · rw [hd] at h1; simp at h1; exact h1.1
  · rw [hd] at h1; simp at h1; exact h1.2
  · rw [hd] at h2; simpa using h2
  · rw [hn] at h3; exact uses_not (by simpa using h3)
  · rw [hn] at h4; exact uses_not (by simpa using h4)
  · rcases h5 with h5 | h5
    · rw [h5] at ha; cases ha
    · rw [hn] at h5; exact uses_not h5
  · rcases h6 with h6 | h6
    · rw [h6] at hb; cases hb
    · rw [hn] at h6; exact uses_not h6

def putTm (tm : Nat → AV) (d : Option Nat) (v : AV) : Nat → AV :=
  match d with
  | some n => upd tm n v
  | none => tm
theorem put_eq (s : St) (d : Option Nat) (v : AV) : s.put d v = { s with tm := putTm s.tm d v } := by cases d <;> rfl
theorem putTm_ne {tm : Nat → AV} {d : Option Nat} {v : AV} {t : Nat} (h : d ≠ some t) : putTm tm d v t = tm t := by
  cases d with
  | none => rfl
  | some n => exact upd_ne _ _ (fun e => h (by rw [e]))
theorem upd_comm {α : Type} (f : Nat → α) {n m : Nat} (x y : α) (h : n ≠ m) : upd (upd f n x) m y = upd (upd f m y) n x := by
  funext k
  simp only [upd]
  split <;> split <;> first | rfl | (rename_i h1 h2; exact absurd (h2.symm.trans h1) h) | skip
theorem putTm_comm {tm : Nat → AV} {d e : Option Nat} {v u : AV} (h : ∀ k, d = some k → e ≠ some k) : putTm (putTm tm d v) e u = putTm (putTm tm e u) d v := by
  cases d with
  | none => rfl
  | some n =>
    cases e with
    | none => rfl
    | some m => exact upd_comm _ _ _ (fun hnm => h n rfl (by rw [hnm]))

structure TrO (sp : Spec) (o : SOper) (s : St) (v : AV) (m : ME) : Prop where
  go : ∀ s2 : St, (∀ t ∈ o.rd, s2.tm t = s.tm t) → (∀ n, o.op.rdM = some n ∨ o.op.wrM = some n → s2.mem n = s.mem n) → (∀ n cs, m = .nw n cs → s2.mem n = none) →
    absOper sp o s2 = some { tm := putTm s2.tm o.dst v, mem := m.app s2.mem }
  new : ∀ n cs, m = .nw n cs → o.op.isA = true ∧ o.dst = some n ∧ s.mem n = none
  old : ∀ n cs, m = .st n cs → o.op.wrM = some n ∧ s.mem n ≠ none

theorem absOper_tr {sp : Spec} {o : SOper} {s s' : St} (hh : o.op.hard = false) (he : absOper sp o s = some s') : ∃ v m, s' = { tm := putTm s.tm o.dst v, mem := m.app s.mem } ∧ TrO sp o s v m := by
  have run : ∀ {v : AV} {s1 : St}, absOp sp o.dst o.op s = some (v, s1) → ∃ m, s1.put o.dst v = { tm := putTm s.tm o.dst v, mem := m.app s.mem } ∧
      Tr sp o.dst o.op s v m := by
    intro v s1 h1
    obtain ⟨m, rfl, T⟩ := absOp_tr hh h1
    exact ⟨m, by rw [put_eq], T⟩
  have hin : ∀ t ∈ o.op.rd, t ∈ o.rd := fun t ht => List.mem_append_left _ ht
  cases hg : o.guard with
  | none =>
    unfold absOper at he
    simp only [hg] at he
    split at he
    · rename_i v s1 h1
      cases he
      obtain ⟨m, h2, T⟩ := run h1
      refine ⟨v, m, h2, { go := fun s2 g1 g2 g3 => ?_, new := T.new, old := T.old }⟩
      have := T.go s2 (fun t ht => g1 t (hin t ht)) g2 g3
      unfold absOper
      simp only [hg, this]
      rw [put_eq]
    · cases he
  | some gw =>
    obtain ⟨g, want⟩ := gw
    have hgr : g ∈ o.rd := by simp [SOper.rd, hg]
    unfold absOper at he
    simp only [hg] at he
    split at he
    · rename_i b hb
      split at he
      · rename_i hbw
        split at he
        · rename_i v s1 h1
          cases he
          obtain ⟨m, h2, T⟩ := run h1
          refine ⟨v, m, h2, { go := fun s2 g1 g2 g3 => ?_, new := T.new, old := T.old }⟩
          have := T.go s2 (fun t ht => g1 t (hin t ht)) g2 g3
          unfold absOper
          simp only [hg, this, g1 g hgr, hb, hbw, if_true]
          rw [put_eq]
        · cases he
      · rename_i hbw
        cases he
        refine ⟨.t [], .no, by rw [put_eq]; rfl, { go := fun s2 g1 g2 g3 => ?_, new := fun _ _ e => (by cases e), old := fun _ _ e => (by cases e) }⟩
        unfold absOper
        simp only [hg, g1 g hgr, hb, hbw, if_false]
        rw [put_eq]
        rfl
    · rename_i l hb
      cases he
      refine ⟨.t [], .no, by rw [put_eq]; rfl, { go := fun s2 g1 g2 g3 => ?_, new := fun _ _ e => (by cases e), old := fun _ _ e => (by cases e) }⟩
      unfold absOper
      simp only [hg, g1 g hgr, hb]
      rw [put_eq]
      rfl
    · cases he

theorem app_dom (m : ME) {f : Nat → Option (List AC)} {k : Nat} (h : f k ≠ none) : m.app f k ≠ none := by
  cases m with
  | no => exact h
  | nw n cs => exact upd_dom k h
  | st n cs => exact upd_dom k h

theorem swap {sp : Spec} {a b : SOper} {s s1 s2 : St} (hi : a.indep b = true) (ha : absOper sp a s = some s1) (hb : absOper sp b s1 = some s2) :
    ∃ s1', absOper sp b s = some s1' ∧ absOper sp a s1' = some s2 := by
  obtain ⟨i1, i2, i3, i4, i5, i6, i7, i8, i9⟩ := indep_spec hi
  obtain ⟨va, ma, rfl, TA⟩ := absOper_tr i8 ha
  obtain ⟨vb, mb, rfl, TB⟩ := absOper_tr i9 hb
  have tmb : ∀ t ∈ b.rd, putTm s.tm a.dst va t = s.tm t := fun t ht => putTm_ne (fun e => i1 t e ht)
  have hnone : ∀ n, ma.app s.mem n = none → s.mem n = none := fun n h => by
    cases hn : s.mem n with
    | none => rfl
    | some c => exact absurd h (app_dom ma (by rw [hn]; simp))
  have hB := TB.go s (fun t ht => (tmb t ht).symm) (fun n hn => by
    show s.mem n = ma.app s.mem n
    cases hma : ma with
    | no => rfl
    | nw d cs =>
      obtain ⟨hA, hd, _⟩ := TA.new d cs hma
      exact (upd_ne _ _ (i6 hA d hd n hn)).symm
    | st d cs =>
      obtain ⟨hW, _⟩ := TA.old d cs hma
      exact (upd_ne _ _ (i4 d hW n hn)).symm) (fun n cs e => hnone n (TB.new n cs e).2.2)
  refine ⟨_, hB, ?_⟩
  have tma : ∀ t ∈ a.rd, putTm s.tm b.dst vb t = s.tm t := fun t ht => putTm_ne (fun e => i3 t e ht)
  have hA := TA.go { tm := putTm s.tm b.dst vb, mem := mb.app s.mem } tma (fun n hn => by
    show mb.app s.mem n = s.mem n
    cases hmb : mb with
    | no => rfl
    | nw d cs =>
      obtain ⟨hA', hd, _⟩ := TB.new d cs hmb
      exact upd_ne _ _ (i7 hA' d hd n hn)
    | st d cs =>
      obtain ⟨hW, _⟩ := TB.old d cs hmb
      exact upd_ne _ _ (i5 d hW n hn)) (fun n cs e => by
    obtain ⟨hA', hd, h0⟩ := TA.new n cs e
    show mb.app s.mem n = none
    cases hmb : mb with
    | no => exact h0
    | nw d cs' =>
      obtain ⟨_, h1, _⟩ := TB.new d cs' hmb
      exact (upd_ne _ _ (fun hnd : n = d => i2 n hd (by rw [hnd]; exact h1))).trans h0
    | st d cs' =>
      obtain ⟨hW, _⟩ := TB.old d cs' hmb
      exact (upd_ne _ _ (fun hnd : n = d => i6 hA' n hd d (.inr hW) hnd.symm)).trans h0)
  rw [hA]
  congr 1
  have e1 : putTm (putTm s.tm b.dst vb) a.dst va = putTm (putTm s.tm a.dst va) b.dst vb := putTm_comm (fun k hk hk2 => i2 k hk2 hk)
  have e2 : ma.app (mb.app s.mem) = mb.app (ma.app s.mem) := by
    cases hma : ma with
    | no => rfl
    | nw n cs =>
      obtain ⟨hA', hd, h0⟩ := TA.new n cs hma
      cases hmb : mb with
      | no => rfl
      | nw d cs' =>
        obtain ⟨_, h1, _⟩ := TB.new d cs' hmb
        exact upd_comm _ _ _ (fun hnd => i2 n hd (by rw [← hnd]; exact h1))
      | st d cs' =>
        obtain ⟨hW, _⟩ := TB.old d cs' hmb
        exact upd_comm _ _ _ (fun hnd => i6 hA' n hd d (.inr hW) hnd)
    | st n cs =>
      obtain ⟨hw, _⟩ := TA.old n cs hma
      cases hmb : mb with
      | no => rfl
      | nw d cs' =>
        obtain ⟨hA', hd, _⟩ := TB.new d cs' hmb
        exact upd_comm _ _ _ (fun hnd => i7 hA' d hd n (.inr hw) hnd.symm)
      | st d cs' =>
        obtain ⟨hW, _⟩ := TB.old d cs' hmb
        exact upd_comm _ _ _ (fun hnd => i4 n hw d (.inr hW) hnd)
  simp only [e1, e2]

theorem bubble {sp : Spec} {i : SOper} {sn : St} (post : List SOper) : ∀ (pre : List SOper) {s : St}, (∀ e ∈ pre, e.indep i = true) → absOps sp (pre ++ i :: post) s = some sn → absOps sp (i :: (pre ++ post)) s = some sn
  | [], s, _, h => h
  | e :: pre, s, hi, h => by
    simp only [List.cons_append, absOps] at h
    split at h
    · rename_i s1 h1
      have h2 := bubble post pre (fun x hx => hi x (by simp [hx])) h
      simp only [absOps] at h2
      split at h2
      · rename_i s2 h3
        obtain ⟨s1', g1, g2⟩ := swap (hi e (by simp)) h1 h3
        simp only [List.cons_append, absOps, g1, g2]
        exact h2
      · cases h2
    · cases h
end Go.VC

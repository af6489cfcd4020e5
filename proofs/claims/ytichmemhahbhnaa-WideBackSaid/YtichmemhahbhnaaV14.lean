/- The evaluator is sound: operations in whatever order is drawn. -/
import Derived.Test.YtichmemhahbhnaaV13
set_option linter.unusedVariables false
set_option linter.unusedSimpArgs false
namespace Go.VC
open Go.RowKit

/-! ### A region that draws its order -/
def befores (o : Oper) : List Nat := (o.after.toList.filter (Region.binds .any)).map (·.on)
/-- Of each operation: all that come before it in every order, as bits. -/
def cloStep (acc : List Nat) (as : List Nat) : Nat := as.foldl (fun m k => m ||| 2 ^ k ||| acc.getD k 0) 0
def cloGo : List Nat → List (List Nat) → List Nat
  | acc, [] => acc
  | acc, a :: as => cloGo (acc ++ [cloStep acc a]) as

theorem foldl_bits (acc : List Nat) : ∀ (as : List Nat) (m e : Nat), Nat.testBit (as.foldl (fun m k => m ||| 2 ^ k ||| acc.getD k 0) m) e = true →
    Nat.testBit m e = true ∨ ∃ k ∈ as, e = k ∨ Nat.testBit (acc.getD k 0) e = true
  | [], m, e, h => .inl h
  | k :: as, m, e, h => by
    simp only [List.foldl_cons] at h
    rcases foldl_bits acc as _ e h with h1 | ⟨k', hk', h1⟩
    · simp only [Nat.testBit_or, Bool.or_eq_true] at h1
      rcases h1 with (h1 | h1) | h1
      · exact .inl h1
      · right
        rw [Nat.testBit_two_pow] at h1
        exact ⟨k, by simp, .inl (by simpa using (of_decide_eq_true h1).symm)⟩
      · exact .inr ⟨k, by simp, .inr h1⟩
    · exact .inr ⟨k', by simp [hk'], h1⟩

/-- D: what has come up. -/
theorem cloGo_spec (A : List (List Nat)) (D : Nat → Prop) (hD : ∀ j as, A[j]? = some as → D j → ∀ k ∈ as, D k) :
    ∀ (rest : List (List Nat)) (acc : List Nat), (∀ i, rest[i]? = A[acc.length + i]?) →
      (∀ j as, A[j]? = some as → j < acc.length → (∀ k ∈ as, D k) → ∀ e, Nat.testBit (acc.getD j 0) e = true → D e) →
      ∀ j as, A[j]? = some as → (∀ k ∈ as, D k) → ∀ e, Nat.testBit ((cloGo acc rest).getD j 0) e = true → D e
  | [], acc, hr, hacc, j, as, hj, hk, e, he => by
    have hlt : j < acc.length := by
      rcases Nat.lt_or_ge j acc.length with h | h
      · exact h
      · simp only [cloGo] at he
        rw [List.getD_eq_getElem?_getD, List.getElem?_eq_none h] at he
        simp at he
    exact hacc j as hj hlt hk e he
  | a :: rest, acc, hr, hacc, j, as, hj, hk, e, he => by
    have ha : A[acc.length]? = some a := by have := hr 0; simpa using this.symm
    refine cloGo_spec A D hD rest (acc ++ [cloStep acc a]) (fun i => ?_) (fun j' as' hj' hlt' hk' e' he' => ?_) j as hj hk e he
    · have := hr (i + 1)
      simp only [List.getElem?_cons_succ] at this
      rw [this, List.length_append]
      congr 1
      simp; omega
    · rw [List.length_append] at hlt'
      by_cases hjl : j' < acc.length
      · refine hacc j' as' hj' hjl hk' e' ?_
        rw [List.getD_eq_getElem?_getD, List.getElem?_append_left hjl] at he'
        rw [List.getD_eq_getElem?_getD]
        exact he'
      · have hje : j' = acc.length := by simp at hlt'; omega
        subst hje
        rw [ha] at hj'
        cases hj'
        rw [List.getD_eq_getElem?_getD, List.getElem?_append_right (Nat.le_refl _)] at he'
        simp at he'
        rcases foldl_bits acc a 0 e' he' with h1 | ⟨k, hkm, h1 | h1⟩
        · simp at h1
        · subst h1; exact hk' e' hkm
        · have hkl : k < acc.length := by
            rcases Nat.lt_or_ge k acc.length with h | h
            · exact h
            · rw [List.getD_eq_getElem?_getD, List.getElem?_eq_none h] at h1; simp at h1
          have hDk := hk' k hkm
          cases hAk : A[k]? with
          | none =>
            exfalso
            have h0 : A[acc.length]?.isSome = true := by rw [ha]; rfl
            have : acc.length < A.length := by
              rcases Nat.lt_or_ge acc.length A.length with h | h
              · exact h
              · rw [List.getElem?_eq_none h] at h0; cases h0
            rw [List.getElem?_eq_none_iff] at hAk
            omega
          | some as2 => exact hacc k as2 hAk hkl (hD k as2 hAk hDk) e' h1

def pairsOk (C : List Nat) : List (Nat × SOper) → Bool
  | [] => true
  | (i, a) :: rest => rest.all (fun jb => Nat.testBit (C.getD jb.1 0) i || a.indep jb.2) && pairsOk C rest
def number : Nat → List SOper → List (Nat × SOper)
  | _, [] => []
  | i, a :: as => (i, a) :: number (i + 1) as
def chkOrder (ops : Array Oper) (sos : List SOper) : Bool :=
  pairsOk (cloGo [] (ops.toList.map befores)) (number 0 sos) && (ops.toList.zipIdx.all fun oi => (befores oi.1).all (· < oi.2))

theorem pairsOk_spec {C : List Nat} : ∀ {l : List (Nat × SOper)}, pairsOk C l = true → ∀ pre x post, l = pre ++ x :: post → ∀ e ∈ pre, Nat.testBit (C.getD x.1 0) e.1 = true ∨ e.2.indep x.2 = true
  | [], _, pre, x, post, h, _, _ => by simp at h
  | (i, a) :: rest, hp, pre, x, post, h, e, he => by
    simp only [pairsOk, Bool.and_eq_true, List.all_eq_true] at hp
    cases pre with
    | nil => cases he
    | cons p pre =>
      simp only [List.cons_append, List.cons.injEq] at h
      obtain ⟨rfl, rfl⟩ := h
      rcases List.mem_cons.1 he with rfl | he
      · have := hp.1 x (by simp)
        simpa using this
      · exact pairsOk_spec hp.2 pre x post rfl e he
theorem pairsOk_sub {C : List Nat} : ∀ {l l' : List (Nat × SOper)}, pairsOk C l = true → l'.Sublist l → pairsOk C l' = true
  | [], l', _, h => by rw [List.sublist_nil.1 h]; rfl
  | (i, a) :: rest, l', hp, h => by
    simp only [pairsOk, Bool.and_eq_true, List.all_eq_true] at hp
    cases h with
    | cons _ h => exact pairsOk_sub hp.2 h
    | cons_cons _ h =>
      simp only [pairsOk, Bool.and_eq_true, List.all_eq_true]
      exact ⟨fun x hx => hp.1 x (h.subset hx), pairsOk_sub hp.2 h⟩

section
variable {P : Program} {S0 : Nat → Prop} {w0 : World} {N : Nat} {sp : Spec} {Q : Exit → Act → World → Prop}

theorem any_sound {ops : Array Oper} (hS0 : ∀ b, S0 b → b < w0.heap.size) (hsp : SpecOk P sp) {sn : St} (hQ : ∀ μ' a' w', Rel S0 w0 N μ' sn a' w' → Q .normal a' w')
    (C : List Nat) (hC : C = cloGo [] (ops.toList.map befores)) (hlt : ∀ j o, ops[j]? = some o → ∀ k ∈ befores o, k < j) :
    ∀ (fuel : Nat) (rem : List (Nat × SOper)) (listed : Array Bool) {μ : Nat → Nat} {s : St} {a : Act} {w : World},
      rem.length = fuel → (∀ x ∈ rem, ∃ o, ops[x.1]? = some o ∧ chkOper P N ops o x.2 = true) → (∀ i o, ops[i]? = some o → listed.getD i true = false → ∃ so, (i, so) ∈ rem) →
      (∀ x ∈ rem, listed.getD x.1 true = false) → listed.size = ops.size → (rem.map (·.1)).Pairwise (· < ·) → pairsOk C rem = true → (∀ j o, ops[j]? = some o → listed.getD j false = true → ∀ k ∈ befores o, listed.getD k false = true) →
      Rel S0 w0 N μ s a w → absOps sp (rem.map (·.2)) s = some sn → wpAny P .any ops Q fuel listed a w
  | 0, rem, listed, μ, s, a, w, hf, _, hall, _, _, _, _, _, R, he => by
    have : rem = [] := List.length_eq_zero_iff.1 hf
    subst this
    simp only [List.map_nil, absOps, Option.some.injEq] at he
    subst he
    refine ⟨?_, hQ _ _ _ R⟩
    cases hr : Region.ready .any ops listed with
    | nil => rfl
    | cons j js =>
      obtain ⟨h0, o, ho, _⟩ := mem_ready.1 (show j ∈ Region.ready .any ops listed by rw [hr]; simp)
      obtain ⟨so, hso⟩ := hall j o ho h0
      cases hso
  | fuel + 1, rem, listed, μ, s, a, w, hf, hchk, hall, hun, hsize, hsorted, hpairs, hdown, R, he => by
    have hgetD : ∀ i, i < listed.size → (listed.getD i true = listed.getD i false) := fun i hi => by simp [hi]
    refine ⟨fun hnil => ?_, fun i hi => ?_⟩
    · exfalso
      cases rem with
      | nil => simp at hf
      | cons x rest =>
        obtain ⟨o, ho, _⟩ := hchk x (by simp)
        have : x.1 ∈ Region.ready .any ops listed := by
          refine mem_ready.2 ⟨hun x (by simp), o, ho, fun e he' hb => ?_⟩
          have hk : e.on ∈ befores o := by
            unfold befores
            exact List.mem_map.2 ⟨e, List.mem_filter.2 ⟨by simpa using he', hb⟩, rfl⟩
          have hlt' := hlt x.1 o ho e.on hk
          have hxs : x.1 < ops.size := (Array.getElem?_eq_some_iff.1 ho).1
          cases hl : listed.getD e.on false with
          | true => rfl
          | false =>
            exfalso
            have hes : e.on < ops.size := by omega
            have h1 : listed.getD e.on true = false := by rw [hgetD _ (by omega)]; exact hl
            obtain ⟨so, hso⟩ := hall e.on _ (Array.getElem?_eq_getElem hes) h1
            rw [List.map_cons, List.pairwise_cons] at hsorted
            rcases List.mem_cons.1 hso with h2 | h2
            · rw [← h2] at hlt'; exact Nat.lt_irrefl _ hlt'
            · have := hsorted.1 e.on (List.mem_map.2 ⟨_, h2, rfl⟩)
              omega
        rw [hnil] at this
        cases this
    · obtain ⟨h0, o, ho, hready⟩ := mem_ready.1 hi
      obtain ⟨so, hso⟩ := hall i o ho h0
      obtain ⟨pre, post, hrem⟩ := List.append_of_mem hso
      have hchk_i := hchk (i, so) hso
      obtain ⟨o', ho', hco⟩ := hchk_i
      have : o' = o := by rw [ho] at ho'; cases ho'; rfl
      subst this
      -- what stands ahead of i and has not come up is apart from it
      have hbefore : ∀ k ∈ befores o', listed.getD k false = true := fun k hk => by
        unfold befores at hk
        obtain ⟨e, he', rfl⟩ := List.mem_map.1 hk
        obtain ⟨h1, h2⟩ := List.mem_filter.1 he'
        exact hready e (by simpa using h1) h2
      have hind : ∀ e ∈ pre, e.2.indep so = true := fun e hep => by
        rcases pairsOk_spec hpairs pre (i, so) post hrem e hep with h1 | h1
        · exfalso
          have hA : (ops.toList.map befores)[i]? = some (befores o') := by simp [ho]
          have := cloGo_spec (ops.toList.map befores) (fun k => listed.getD k false = true) (fun j as hj hDj k hk => by
            have hj' : ∃ o, ops[j]? = some o ∧ befores o = as := by
              rw [List.getElem?_map] at hj
              cases hq : ops.toList[j]? with
              | none => rw [hq] at hj; cases hj
              | some o2 => rw [hq] at hj; cases hj; exact ⟨o2, by simpa using hq, rfl⟩
            obtain ⟨o2, h2, rfl⟩ := hj'
            exact hdown j o2 h2 hDj k hk) (ops.toList.map befores) [] (fun i => by simp) (fun j as _ hlt _ => by simp at hlt) i (befores o') hA hbefore e.1 (by rw [← hC]; exact h1)
          have hun' := hun e (by rw [hrem]; simp [hep])
          have hsz : e.1 < listed.size := by
            rcases Nat.lt_or_ge e.1 listed.size with h | h
            · exact h
            · simp [Array.getElem?_eq_none h] at hun'
          rw [hgetD _ hsz] at hun'
          rw [hun'] at this
          cases this
        · exact h1
      have he2 : absOps sp (so :: ((pre ++ post).map (·.2))) s = some sn := by
        rw [hrem] at he
        simp only [List.map_append, List.map_cons] at he
        rw [List.map_append]
        exact bubble (post.map (·.2)) (pre.map (·.2)) (fun x hx => by
          obtain ⟨e, hep, rfl⟩ := List.mem_map.1 hx
          exact hind e hep) he
      simp only [absOps] at he2
      split at he2
      · rename_i s1 h1
        have hiz : i < listed.size := by rw [hsize]; exact (Array.getElem?_eq_some_iff.1 ho).1
        have hnotin : ∀ x ∈ pre ++ post, x.1 ≠ i := fun x hx hxi => by
          rw [hrem] at hsorted
          simp only [List.map_append, List.map_cons, List.pairwise_append, List.pairwise_cons] at hsorted
          obtain ⟨_, ⟨h3, _⟩, h4⟩ := hsorted
          rcases List.mem_append.1 hx with hx | hx
          · have := h4 x.1 (List.mem_map.2 ⟨x, hx, rfl⟩) i (by simp)
            omega
          · have := h3 x.1 (List.mem_map.2 ⟨x, hx, rfl⟩)
            omega
        have hsub : (pre ++ post).Sublist rem := by
          rw [hrem]
          exact List.Sublist.append_left (List.sublist_cons_self _ _) _
        have hK : ∀ μ' a' w', Rel S0 w0 N μ' s1 a' w' → wpAny P .any ops Q fuel (listed.setIfInBounds i true) a' w' := fun μ' a' w' R' => by
          refine any_sound hS0 hsp hQ C hC hlt fuel (pre ++ post) (listed.setIfInBounds i true) ?_ (fun x hx => hchk x (hsub.subset hx)) (fun k ok hk hku => ?_) (fun x hx => ?_) (by simpa using hsize) (List.Pairwise.sublist (hsub.map _) hsorted) (pairsOk_sub hpairs hsub) (fun j oj hj hjl k hk => ?_) R' he2
          · rw [hrem] at hf; simp at hf ⊢; omega
          · have hki : k ≠ i := fun e => by subst e; simp [hiz] at hku
            rw [getD_set_ne true (Ne.symm hki)] at hku
            obtain ⟨so', hs'⟩ := hall k ok hk hku
            rw [hrem] at hs'
            refine ⟨so', ?_⟩
            rcases List.mem_append.1 hs' with h | h
            · exact List.mem_append_left _ h
            · rcases List.mem_cons.1 h with h | h
              · cases h; exact absurd rfl hki
              · exact List.mem_append_right _ h
          · rw [getD_set_ne true (Ne.symm (hnotin x hx))]
            exact hun x (hsub.subset hx)
          · by_cases hji : j = i
            · subst hji
              rw [ho] at hj
              cases hj
              exact getD_set_true (hbefore k hk)
            · have hjl' : listed.getD j false = true := by
                simpa [Array.getElem?_setIfInBounds_ne (Ne.symm hji)] using hjl
              exact getD_set_true (hdown j oj hj hjl' k hk)
        have := oper_sound (Q := Q) hS0 hsp R hco h1 hK
        unfold wpOp
        simp only [ho]
        exact this
      · cases he2
end
end Go.VC

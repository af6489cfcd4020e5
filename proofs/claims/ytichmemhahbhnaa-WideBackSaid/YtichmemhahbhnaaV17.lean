/- The evaluator is sound: append. -/
import Derived.Test.YtichmemhahbhnaaV11
set_option linter.unusedVariables false
set_option linter.unusedSimpArgs false
namespace Go.VC
open Go.RowKit
section
variable {P : Program} {S0 : Nat → Prop} {w0 : World} {N : Nat} {μ : Nat → Nat} {s s' : St} {a : Act} {w : World} {sp : Spec} {o : Oper} {v : AV} {K : Act → World → Prop} {Q : Exit → Act → World → Prop} {dst : Option Nat}

/-! ### append -/
theorem run_app (base : Nat) (t ty e : TypeId) (i : TypeInfo) (z : Value) (size bytes : Nat) (ht : P.underlying t = some (.slice e)) (hi : P.info? e = some i) (hz : i.zero = some z)
    (hsize : i.size = size) (hby : i.bytes = bytes) (hzs : z.cells.size = size) (hsz : 0 < size)
    (v : Value) (n : Nat) (xs : List Value) (hown : w.ownsRow base e size v n xs)
    (ad : Addr) (m c : Nat) (news : List Value) (hl : news.length = m * size) (hnews : ∀ j u, news[j]? = some u → w.cell? (ad.add j) = some u) (h1 : ∀ u ∈ news, u.oneCell' = true)
    (h63 : n + m ≤ maxLen) (hbytes : (n + m) * bytes ≤ 140737488355328) (hbase : base ≤ w.heap.size) (h0 : v = .slice none 0 0 → 0 < m) :
    ∃ g cap cur w', (Builtin.append_ #[t, t] ty #[v, .slice (some ad) m c]).run P w = .ok (.slice (some ⟨g, 0, none⟩) (n + m) cap) w' ∧ (w.heap.size ≤ g ∨ v.ownBlock = some g) ∧ base ≤ g ∧
      w'.heap[g]? = some (.cells cur e (0, 0)) ∧ n + m ≤ cap ∧ cap ≤ maxLen ∧ cur.size = cap * size ∧ cur.toList.take ((n + m) * size) = xs ++ news ∧ w.grownBy w' (some g) := by
  have weak : ∀ {w' : World} {row : Option Nat}, w.grownBy w' row → ∀ g, (∀ k, row = some k → k = g) → w.grownBy w' (some g) := fun hg g h => ⟨hg.os, hg.tape, hg.output, hg.size, fun k hk hne => hg.block k hk (fun e => hne (by rw [h k e.symm]))⟩
  rcases hown.2 with ⟨hv, hn⟩ | ⟨g, cap, cur, hv, hbg, hg, hnc, hcm, hcs, htk⟩
  · have hown' : w.ownsRow w.heap.size e size v n xs := ⟨hown.1, .inl ⟨hv, hn⟩⟩
    obtain ⟨v', w', hrun, hown2, hgr, hnil⟩ := run_append_own (P := P) w w.heap.size t ty e i z size bytes ht hi hz hsize hby hzs hsz v n xs hown' ad m c news hl hnews h1 h63 hbytes (Nat.le_refl _)
    rcases hown2.2 with ⟨hv', _⟩ | ⟨g, cap, cur, hv', hbg, hg, hnc, hcm, hcs, htk⟩
    · have := (hnil.1 hv').2; have := h0 hv; omega
    · refine ⟨g, cap, cur, w', by rw [hrun, hv'], .inl hbg, Nat.le_trans hbase hbg, hg, hnc, hcm, hcs, htk, weak hgr g (fun k hk => ?_)⟩
      rw [hv] at hk; cases hk
  · by_cases hroom : n + m ≤ cap
    · subst hv
      obtain ⟨w', hrun, hown2, hgr⟩ := run_append_fits (P := P) w base t ty e i size ht hi hsize g n cap xs hown ad m c news hl hnews h1 hroom
      rcases hown2.2 with ⟨hv', _⟩ | ⟨g', cap', cur', hv', hbg', hg', hnc', hcm', hcs', htk'⟩
      · cases hv'
      · simp only [Value.slice.injEq, Option.some.injEq, Addr.mk.injEq, and_true, true_and] at hv'
        obtain ⟨rfl, rfl⟩ := hv'
        exact ⟨g, cap, cur', w', hrun, .inr rfl, hbg, hg', hroom, hcm, hcs', htk', hgr⟩
    · subst hv
      have holds : ∀ j u, xs[j]? = some u → w.cell? ((⟨g, 0, none⟩ : Addr).add j) = some u := hown.cells (g := g) rfl
      have hsmall : n + m ≤ 9223372036854775807 := by simp only [maxLen] at h63; omega
      have hrun := run_append_grow (P := P) w t ty e i z ht hi hz ⟨g, 0, none⟩ n cap xs (by rw [hsize]; exact hown.1) holds ad m c news (by rw [hsize]; exact hl) hnews (by omega) (by omega) (by rw [hby]; exact growslice_fits (by omega) hbytes)
      have hge := grownCap_ge w (n + m) cap e
      have hlen : (xs ++ news).length = (n + m) * size := by rw [List.length_append, hown.1, hl, Nat.add_mul]
      refine ⟨w.heap.size, _, _, _, hrun, .inl (Nat.le_refl _), hbase, heap_alloc_new w.drew _, hge, grownCap_le_maxLen w (n + m) cap e h63, ?_, ?_, ⟨rfl, rfl, rfl, by simp, fun k hk _ => heap_alloc_old w.drew _ k hk⟩⟩
      · simp only [Array.size_append, List.size_toArray, size_zeroCells, hzs, hown.1, hl, ← Nat.add_mul]
        congr 1
        omega
      · simp only [Array.toList_append, List.append_assoc]
        rw [← List.append_assoc, ← hlen]
        exact List.take_left

theorem own_of (R : Rel S0 w0 N μ s a w) {x : Operand} {y : SA} (h : chkSA x y = true) {t : RT} {ns : List Nat} {n : Nat} {xs : List AC} (ho : ownOf t s (y.ev s) = some (ns, n, xs)) :
    ∃ xv : List Value, w.ownsRow w0.heap.size t.e t.m (a.eval x) n xv ∧ repL (own S0 μ s.mem) w xs xv ∧ ((ns = [] ∧ n = 0 ∧ a.eval x = .slice none 0 0) ∨ ∃ q, ns = [q] ∧ s.mem q ≠ none ∧ (a.eval x).ownBlock = some (μ q) ∧ a.eval x ≠ .slice none 0 0) := by
  have hev := R.ev h
  unfold ownOf at ho
  split at ho
  · rename_i t' q len hy
    rw [hy] at hev
    obtain ⟨hD, cap, h1, h2, h3, h4⟩ := hev
    split at ho
    · rename_i cs hcs
      split at ho
      · rename_i hc
        obtain ⟨he, hm, hlen⟩ := hc
        simp only [Option.some.injEq, Prod.mk.injEq] at ho
        obtain ⟨rfl, rfl, rfl⟩ := ho
        obtain ⟨hge, ys, zs, T, hb, hr⟩ := R.mem q cs hcs
        have hl := repL_length hr
        have hsh : w.shape? (μ q) = some (t'.e, cap * t'.m) := h2
        rw [own_shape hb] at hsh
        simp only [Option.some.injEq, Prod.mk.injEq] at hsh
        obtain ⟨rfl, hcap⟩ := hsh
        rw [hm] at hcap
        refine ⟨ys.take (len * t.m), ⟨by rw [List.length_take]; omega, .inr ⟨μ q, cap, (ys ++ zs).toArray, h1, hge, by rw [hb, he], h3, h4, hcap, ?_⟩⟩, repL_take _ hr, .inr ⟨q, rfl, hD, by rw [h1]; rfl, by rw [h1]; simp⟩⟩
        simp only [List.toList_toArray]
        rw [List.take_append_of_le_length (by omega)]
      · cases ho
    · cases ho
  · rename_i hy
    rw [hy] at hev
    simp only [Option.some.injEq, Prod.mk.injEq] at ho
    obtain ⟨rfl, rfl, rfl⟩ := ho
    exact ⟨[], ⟨by simp, .inl ⟨hev, rfl⟩⟩, trivial, .inl ⟨rfl, rfl, hev⟩⟩
  · cases ho

theorem lie_of (R : Rel S0 w0 N μ s a w) {x : Operand} {y : SA} (h : chkSA x y = true) {m : Nat} {ns : List Nat} {n : Nat} {xs : List AC} (ho : lieOf m s (y.ev s) = some (ns, n, xs)) :
    ∃ xv : List Value, repL (own S0 μ s.mem) w xs xv ∧ xv.length = n * m ∧ ((a.eval x = .slice none 0 0 ∧ n = 0) ∨ ∃ ad c, a.eval x = .slice (some ad) n c ∧ ∀ j u, xv[j]? = some u → w.cell? (ad.add j) = some u) := by
  have hev := R.ev h
  unfold lieOf at ho
  split at ho
  · rename_i t q len hy
    rw [hy] at hev
    obtain ⟨hD, cap, h1, h2, h3, h4⟩ := hev
    split at ho
    · rename_i cs hcs
      split at ho
      · rename_i hc
        obtain ⟨hm, hlen⟩ := hc
        simp only [Option.some.injEq, Prod.mk.injEq] at ho
        obtain ⟨rfl, rfl, rfl⟩ := ho
        obtain ⟨hge, ys, zs, T, hb, hr⟩ := R.mem q cs hcs
        have hl := repL_length hr
        refine ⟨ys.take (len * m), repL_take _ hr, by rw [List.length_take]; omega, .inr ⟨_, _, h1, fun j u hj => ?_⟩⟩
        rw [Addr.add_mid, Nat.zero_add]
        rw [List.getElem?_take] at hj
        split at hj
        · exact cell_own hb hj
        · cases hj
      · cases ho
    · cases ho
  · rename_i e l hy
    rw [hy] at hev
    split at ho
    · rename_i hm
      subst hm
      simp only [Option.some.injEq, Prod.mk.injEq] at ho
      obtain ⟨rfl, rfl, rfl⟩ := ho
      have hrep : ∀ l : List Int, repL (own S0 μ s.mem) w (l.map fun x => AC.v (.int e x)) (l.map (.int e)) := fun l => by
        induction l with
        | nil => trivial
        | cons z l ih => exact ⟨⟨rfl, rfl⟩, ih⟩
      refine ⟨l.map (.int e), hrep l, by simp, ?_⟩
      rcases hev with ⟨h1, rfl⟩ | ⟨b, o', c, h1, h2, h3, h4, h5⟩
      · exact .inl ⟨h1, rfl⟩
      · refine .inr ⟨_, _, h1, fun j u hj => ?_⟩
        rw [Addr.add_mid]
        have hlt : j < l.length := by
          rcases Nat.lt_or_ge j l.length with h | h
          · exact h
          · rw [List.getElem?_eq_none (by simpa using h)] at hj; cases hj
        rw [h5 j hlt]
        simp [List.getElem?_eq_getElem hlt] at hj
        rw [← hj]
        simp [List.getD_eq_getElem?_getD, List.getElem?_eq_getElem hlt]
    · cases ho
  · rename_i m' cs hy
    rw [hy] at hev
    split at ho
    · rename_i hc
      obtain ⟨rfl, hpos⟩ := hc
      simp only [Option.some.injEq, Prod.mk.injEq] at ho
      obtain ⟨rfl, rfl, rfl⟩ := ho
      rcases hev with ⟨h1, rfl⟩ | ⟨b, o', k, c, h1, h2, h3, h4, h5, h6⟩
      · exact ⟨[], trivial, by simp, .inl ⟨h1, by simp⟩⟩
      · obtain ⟨ys, g1, g2⟩ := stand_rep (L := own S0 μ s.mem) cs o' h6
        have hk : cs.length / m' = k := by rw [h2, Nat.mul_div_cancel _ hpos]
        refine ⟨ys, g1, by rw [hk, ← h2, ← repL_length g1, List.length_map], .inr ⟨_, c, by rw [hk]; exact h1, fun j u hj => ?_⟩⟩
        rw [Addr.add_mid]
        exact g2 j u hj
    · cases ho
  · rename_i hy
    rw [hy] at hev
    simp only [Option.some.injEq, Prod.mk.injEq] at ho
    obtain ⟨rfl, rfl, rfl⟩ := ho
    exact ⟨[], trivial, by simp, .inl ⟨hev, rfl⟩⟩
  · cases ho

theorem sound_app {c : Call} {t1 : TypeId} {t : RT} {x' y' : SA} (hS0 : ∀ b, S0 b → b < w0.heap.size) (R : Rel S0 w0 N μ s a w) (hop : o.op = .call c) (hcal : c.callee = .builtin .append) (htys : c.argTypes = #[t1, t1]) (ht : chkRT P t1 t = true) (hargs : chkArgs c.args.toList [x', y'] = true) (he : absOp sp dst (.app t x' y') s = some (v, s')) : Sound P S0 w0 N o s' v a w := by
  obtain ⟨x, y, hxy, hx, hy⟩ : ∃ x y, c.args = #[x, y] ∧ chkSA x x' = true ∧ chkSA y y' = true := by
    match h : c.args.toList, hargs with
    | [x, y], hargs =>
      simp only [chkArgs, Bool.and_eq_true] at hargs
      exact ⟨x, y, Array.ext' (by simpa using h), hargs.1, hargs.2.1⟩
    | [], hargs => cases hargs
    | [x], hargs => simp [chkArgs] at hargs
    | x :: y :: z :: l, hargs => simp [chkArgs] at hargs
  obtain ⟨hu, hsz, hpos, i, z, hi, hz, hisz, hby, hzs⟩ := chkRT_spec ht
  simp only [absOp] at he
  split at he
  · rename_i d ns na xs ms nb ys ho hl
    split at he
    · rename_i hc
      obtain ⟨hc1, hc2, hc3, hc4⟩ := hc
      simp only [Option.some.injEq, Prod.mk.injEq] at he
      obtain ⟨rfl, rfl⟩ := he
      obtain ⟨xv, hown, hrx, hns⟩ := own_of R hx ho
      obtain ⟨yv, hry, hylen, hyv⟩ := lie_of R hy hl
      have hexec : ∀ {r : Value} {w' : World}, (Builtin.append_ #[t1, t1] o.type #[a.eval x, a.eval y]).run P w = .ok r w' → (execOp a.eval o).run P w = .ok (.value r) w' := fun h => by
        simp only [execOp, hop, resolve, hcal, hxy, htys, invoke, builtin, Sem.run_bind, Sem.run_pure, Result.andThen_ok, List.map_toArray, List.map_cons, List.map_nil, h]
      have hones := known_all hc4 hry
      rcases hyv with ⟨hy0, hnb⟩ | ⟨ad, cp, hy0, hcell⟩
      · -- nothing is appended
        subst hnb
        have hnsne : ns ≠ [] := fun e => by have := hc1 e; omega
        rcases hns with ⟨h, _⟩ | ⟨q, rfl, hq, hblk, hnn⟩
        · exact absurd h hnsne
        have hyv0 : yv = [] := List.eq_nil_of_length_eq_zero (by omega)
        subst hyv0
        have hrun := run_append_owned_none (P := P) w w0.heap.size t1 o.type t.e i t.m hu hi (a.eval x) na xv hown
        rcases hown.2 with ⟨h, _⟩ | ⟨g, cap, cur, hv, hbg, hg, hnc, hcm, hcs, htk⟩
        · exact absurd h hnn
        have hgq : g = μ q := by rw [hv] at hblk; simpa [Value.ownBlock] using hblk
        subst hgq
        obtain ⟨R', hD, hμ⟩ := R.turn hS0 (ns := [q] ++ ms) (d := d) (b := μ q) (cs := xs ++ ys) (ys := xv ++ []) (zs := cur.toList.drop (na * t.m)) (T := t.e) (w' := w) hc3 hbg (.inr ⟨q, by simp, hq, rfl⟩)
          (by rw [hg, List.append_nil, ← htk, List.take_append_drop]) (fun _ _ _ => rfl) (Nat.le_refl _) R.below (repL_append hrx hry)
        refine sound_value (y := a.eval x) (w' := w) (hexec (by rw [hy0]; exact hrun)) R' ⟨hD, cap, ?_, ?_, hnc, hcm⟩
        · show _ = Value.slice (some ⟨upd μ d (μ q) d, 0, none⟩) _ _
          rw [hμ]; exact hv
        · show w.shape? (upd μ d (μ q) d) = _
          rw [hμ, own_shape hg, hcs]
      · have h0 : a.eval x = .slice none 0 0 → 0 < nb := fun h => by
          rcases hns with ⟨h', _⟩ | ⟨q, _, _, _, hnn⟩
          · exact hc1 h'
          · exact absurd h hnn
        have hbb : (na + nb) * i.bytes ≤ 1000000000000 * 128 := Nat.mul_le_mul hc2 hby
        obtain ⟨g, cap, cur, w', hrun, hgb, hbg, hg, hnc, hcm, hcs, htk, hgr⟩ := run_app (P := P) w0.heap.size t1 o.type t.e i z t.m i.bytes hu hi hz hisz rfl hzs hpos (a.eval x) na xv hown ad nb cp yv hylen hcell hones
          (by simp only [maxLen]; omega) (by omega) R.below.size h0
        obtain ⟨R', hD, hμ⟩ := R.turn hS0 (ns := ns ++ ms) (d := d) (b := g) (cs := xs ++ ys) (ys := xv ++ yv) (zs := cur.toList.drop ((na + nb) * t.m)) (T := t.e) (w' := w') hc3 hbg
          (by
            rcases hgb with h | h
            · exact .inl h
            · right
              rcases hns with ⟨_, _, hn0⟩ | ⟨q, rfl, hq, hblk, _⟩
              · rw [hn0] at h; cases h
              · rw [hblk] at h
                exact ⟨q, by simp, hq, by simpa using h⟩)
          (by rw [hg, ← htk, List.take_append_drop]) (fun k hk hne => hgr.block k hk (by simpa using hne)) hgr.size
          ⟨hgr.os.trans R.below.os, hgr.tape.trans R.below.tape, hgr.output.trans R.below.output, Nat.le_trans R.below.size hgr.size, fun k hk => (hgr.block k (Nat.lt_of_lt_of_le hk R.below.size) (by simp; omega)).trans (R.below.block k hk)⟩
          (repL_append hrx hry)
        refine sound_value (w' := w') (hexec (by rw [hy0]; exact hrun)) R' ⟨hD, cap, ?_, ?_, hnc, hcm⟩
        · show _ = Value.slice (some ⟨upd μ d g d, 0, none⟩) _ _
          rw [hμ]
        · show w'.shape? (upd μ d g d) = _
          rw [hμ, own_shape hg, hcs]
    · cases he
  · cases he
end
end Go.VC

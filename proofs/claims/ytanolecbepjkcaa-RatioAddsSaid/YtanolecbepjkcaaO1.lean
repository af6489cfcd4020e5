/- What comes in, opened: rows of octets, and fractions. -/
import Derived.Test.YtanolecbepjkcaaProg
import Derived.Test.YtanolecbepjkcaaNA
import Derived.WalkKit
import Derived.ProofKit
import Derived.OpenShut
import Derived.ShutString
import Derived.ChangeOld
import Derived.Below
import Derived.SizedLaws
import Derived.Carry
import Derived.Lib.SmallJoins
set_option linter.unusedVariables false
set_option linter.unusedSimpArgs false
namespace Go.Proofs.Ytanolecbepjkcaa.E
open Go.ChangeShapes Go.WideShapes Go.ChangeAt Go.RowKit Go.Joins
section
variable {H : Type} {enc : TypeId × Value → H} {P : Program} {W : World} {b0 : Nat} {held : Bool} {d : DataW H} {p : List MemPlace}
theorem bytes_in {t e : TypeId} {A : Option Addr} {len cap : Nat} (hu : P.underlying t = some (.slice e)) (he : P.underlying e = some (.int .u8)) (hc : P.cellsOf e = 1) (hv : Value.okWide P W .any b0 t (.slice A len cap)) (h : DataW.Trod enc P W 0 (fun _ => true) held t (.slice A len cap) d p) :
    ∃ zs : List Int, VC.Reads (fun _ => False) W .u8 (.slice A len cap) zs ∧ VC.allB zs := by
  obtain ⟨fuel, hf⟩ := h
  rcases open_ints hu he hc hf with ⟨hcs, _⟩ | ⟨x, l, c, zs, hcs, _, hl, hm, hz, _, hcell, hwz⟩
  · simp [Value.cells] at hcs
    obtain ⟨rfl, rfl, rfl⟩ := hcs
    exact ⟨[], .inl ⟨rfl, rfl⟩, fun x hx => by cases hx⟩
  · simp [Value.cells] at hcs
    obtain ⟨rfl, rfl, rfl⟩ := hcs
    simp only [Value.okWide, hu, Cell.okWide, Cell.ok] at hv
    obtain ⟨_, _, _, hsp, row, cells, hsh, _⟩ := hv
    simp only [if_true] at hz
    obtain ⟨b, o, sp⟩ := x
    simp only at hsp hsh
    subst hsp
    have hb : b < W.heap.size := by
      unfold World.shape? at hsh
      rcases Nat.lt_or_ge b W.heap.size with h | h
      · exact h
      · rw [Array.getElem?_eq_none (by omega)] at hsh; cases hsh
    have hlen : (zs.take len).length = len := by rw [List.length_take]; omega
    refine ⟨zs.take len, .inr ⟨b, o, cap, by rw [hlen], by rw [hlen]; exact hl, fun h => h, hb, fun j hj => ?_⟩, fun y hy => ?_⟩
    · rw [hlen] at hj
      have := hcell j (by omega)
      rw [Addr.add_mid] at this
      rw [this]
      congr 2
      simp only [List.getD_eq_getElem?_getD, List.getElem?_take]
      rw [if_pos hj]
    · have := hwz y (List.mem_of_mem_take hy)
      simp [Lit.wf, IntKind.min, IntKind.max, IntKind.signed, IntKind.bits] at this
      omega
theorem open_ratio {t : TypeId} {f0 f1 g0 g1 : Field} {v : Value} (hs : P.underlying t = some (.struct #[f0, f1])) (hw0 : P.underlying f0.type = some (.struct #[g0, g1])) (hw1 : P.underlying f1.type = some (.struct #[g0, g1])) (hi : P.underlying g0.type = some (.int .i64)) (hl : P.underlying g1.type = some (.int .u64))
    (hoff : f0.offset = 0 ∧ f1.offset = 2 ∧ g0.offset = 0 ∧ g1.offset = 1) (h4 : P.cellsOf t = 4) (c0 : P.cellsOf f0.type = 2) (c1 : P.cellsOf f1.type = 2) (c2 : P.cellsOf g0.type = 1) (c3 : P.cellsOf g1.type = 1) (hv : Value.okWide P W .any b0 t v) (h : DataW.Trod enc P W 0 (fun _ => true) held t v d p) :
    ∃ a0 a1 a2 a3 : Int, v = .agg #[.int .i64 a0, .int .u64 a1, .int .i64 a2, .int .u64 a3] ∧ (Lit.int .i64 a0).wf = true ∧ (Lit.int .u64 a1).wf = true ∧ (Lit.int .i64 a2).wf = true ∧ (Lit.int .u64 a3).wf = true := by
  obtain ⟨cs, rfl, hsz⟩ := okWide_struct hs hv
  rw [h4] at hsz
  obtain ⟨x0, x1, x2, x3, rfl⟩ : ∃ x0 x1 x2 x3, cs = #[x0, x1, x2, x3] := by
    obtain ⟨l⟩ := cs
    match l, hsz with
    | [x0, x1, x2, x3], _ => exact ⟨x0, x1, x2, x3, rfl⟩
  obtain ⟨fuel, hf⟩ := h
  obtain ⟨y0, y1, n, -, -, k0, k1⟩ := trod_struct2 hs hf
  rw [hoff.1, c0] at k0
  rw [hoff.2.1, c1] at k1
  obtain ⟨z0, z1, n0, -, -, m0, m1⟩ := trod_struct2 hw0 k0
  obtain ⟨z2, z3, n1, -, -, m2, m3⟩ := trod_struct2 hw1 k1
  rw [hoff.2.2.1, c2] at m0 m2
  rw [hoff.2.2.2, c3] at m1 m3
  obtain ⟨a0, e0, -, w0⟩ := DataW.trod_int hi m0
  obtain ⟨a1, e1, -, w1⟩ := DataW.trod_int hl m1
  obtain ⟨a2, e2, -, w2⟩ := DataW.trod_int hi m2
  obtain ⟨a3, e3, -, w3⟩ := DataW.trod_int hl m3
  simp [Value.cells] at e0 e1 e2 e3
  subst e0 e1 e2 e3
  exact ⟨a0, a1, a2, a3, rfl, w0, w1, w2, w3⟩
end
end Go.Proofs.Ytanolecbepjkcaa.E

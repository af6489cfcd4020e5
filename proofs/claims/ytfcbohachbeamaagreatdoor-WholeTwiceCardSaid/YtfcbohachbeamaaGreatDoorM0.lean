/- What the laws' code answers: part 0 of what the rows of this seat lean on. -/
import Derived.Below
set_option linter.unusedVariables false
set_option linter.unusedSimpArgs false
set_option maxHeartbeats 8000000
set_option maxRecDepth 100000
section
namespace Go.VC
def NG:Nat:=11
def pQ:Array Value:=((List.range 20).map fun i=>Value.int .u64 ((10 ^ i:Nat):Int)).toArray
def aZ (w:World):Prop:=NG<=w.heap.size/\(∃ m,w.cell? ⟨0,0,none⟩=some (.int .i64 m)) /\ ∃ t p,w.heap[5]? = some (.cells pQ t p)
theorem aZ.le {w:World} (h:aZ w):NG<=w.heap.size:=h.1
theorem aZ.jA {w w':World} (h:aZ w) (hs:w.heap.size<=w'.heap.size) (hk : ∀ k,k<NG->w'.heap[k]? = w.heap[k]?):aZ w':=by
 obtain ⟨h1,⟨m,h2⟩,t,p,h3⟩:=h
 refine ⟨Nat.le_trans h1 hs,⟨m,?_⟩,t,p,?_⟩
 ·unfold World.cell? at h2 ⊢
  rw [hk 0 (by decide)]
  exact h2
 ·rw [hk 5 (by decide)]
  exact h3
theorem aZ.cell {w:World} (h:aZ w) : ∃ m,w.cell? ⟨0,0,none⟩=some (.int .i64 m):=h.2.1
theorem aZ.pQ {w:World} (h:aZ w) : ∃ t p,w.heap[5]? = some (.cells pQ t p):=h.2.2
end Go.VC
end

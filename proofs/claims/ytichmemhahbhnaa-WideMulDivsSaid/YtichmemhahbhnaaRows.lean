/-
  No cell of these rows narrows 'for every input' (looked for: loops, veiled, ifaces, maps, wideKeys, modest, calm, conditions, laid).
  DERIVED. THE GIVEN ROWS OF THIS SEAT. 14 by the template 'for every input the law returns true; each argument reads behind the call as it read before'; 0 by the template 'total and deterministic' (their statements: YtichmemhahbhnaaTotals.lean).
  GIVEN WITH THE SEED: the statements are not yours to turn. If you find one false, say at which input.
  Laid BY PROGRAM, IN A SANDBOX (cutbox-rows.mjs): the forced cells as the released guide's own fill.sh prints them over the translation 5bba2f3fb62d92c4… (all of the seat's roots in one cut). By AI agents, Wed Nov 11 2026. No macro, syntax, notation, axiom, sorry.
-/
import Derived.Test.YtichmemhahbhnaaChecked
import GoSem.Claim
import GoSem.ClaimJoined
import GoSem.ClaimMapViews
import Derived.JoinedTies
import Derived.KernelRfl
namespace Go.Proofs.Ytichmemhahbhnaa
/- THE CELL 'sum', in the pinned program and in every row, IS THE sha256 OF THE DUMP (.gsa) THAT YtichmemhahbhnaaProg.lean LOADS. Nothing in Lean hashes anything: it is a label: what it is worth is what the hold of that sum in a sandbox is worth. -/
noncomputable def Try.pinned : Pinned := { name := "ytichmemhahbhnaa", sum := "5bba2f3fb62d92c4faaba37e891864004b20d1cb3ce81a19047d20001126aa94", checked := Try.checked }
namespace Rows
def none {H : Type} : Left H := { results := [], args := [] }

/-- 'epactlaw01.LimbMuls': WHATEVER THE INPUT: true; the input reads as it did. -/
def limbMulsSpec : ChangeSpec := { name := "limbMuls", fn := fun _ => fun
  | [d1, d2] => { results := [.lit (.bool true)], args := [d1, d2] }
  | _ => none }
def limbMulsRow : OpenClaim := { program := "ytichmemhahbhnaa", sum := "5bba2f3fb62d92c4faaba37e891864004b20d1cb3ce81a19047d20001126aa94", func := "epact/epactlaw01.LimbMuls", spec := "limbMuls", inPlace := ["math/bits.Add64", "math/bits.Sub64"], named := ["math/bits.divideError", "math/bits.overflowError"], apart := false }
def LimbMulsSaid : Prop := limbMulsRow.holds Try.pinned (OpenSpec.ofChange limbMulsSpec)

/-- ITS FALSE NEIGHBOUR: 'it returns false'. Refute it at one input. -/
def limbMulsWrong : ChangeSpec := { name := "limbMuls", fn := fun _ => fun
  | [d1, d2] => { results := [.lit (.bool false)], args := [d1, d2] }
  | _ => none }
def LimbMulsWrongFalsely : Prop := limbMulsRow.holds Try.pinned (OpenSpec.ofChange limbMulsWrong)

/-- 'epactlaw01.LimbDivs': WHATEVER THE INPUT: true; the input reads as it did. -/
def limbDivsSpec : ChangeSpec := { name := "limbDivs", fn := fun _ => fun
  | [d1, d2, d3] => { results := [.lit (.bool true)], args := [d1, d2, d3] }
  | _ => none }
def limbDivsRow : OpenClaim := { program := "ytichmemhahbhnaa", sum := "5bba2f3fb62d92c4faaba37e891864004b20d1cb3ce81a19047d20001126aa94", func := "epact/epactlaw01.LimbDivs", spec := "limbDivs", inPlace := ["math/bits.Sub64", "math/bits.Add64"], named := ["math/bits.divideError", "math/bits.overflowError"], apart := false }
def LimbDivsSaid : Prop := limbDivsRow.holds Try.pinned (OpenSpec.ofChange limbDivsSpec)

/-- ITS FALSE NEIGHBOUR: 'it returns false'. Refute it at one input. -/
def limbDivsWrong : ChangeSpec := { name := "limbDivs", fn := fun _ => fun
  | [d1, d2, d3] => { results := [.lit (.bool false)], args := [d1, d2, d3] }
  | _ => none }
def LimbDivsWrongFalsely : Prop := limbDivsRow.holds Try.pinned (OpenSpec.ofChange limbDivsWrong)

/-- 'epactlaw01.LimbAdds': WHATEVER THE INPUT: true; the input reads as it did. -/
def limbAddsSpec : ChangeSpec := { name := "limbAdds", fn := fun _ => fun
  | [d1, d2] => { results := [.lit (.bool true)], args := [d1, d2] }
  | _ => none }
def limbAddsRow : OpenClaim := { program := "ytichmemhahbhnaa", sum := "5bba2f3fb62d92c4faaba37e891864004b20d1cb3ce81a19047d20001126aa94", func := "epact/epactlaw01.LimbAdds", spec := "limbAdds", inPlace := ["math/bits.Add64", "math/bits.Sub64"], named := ["math/bits.divideError", "math/bits.overflowError"], apart := false }
def LimbAddsSaid : Prop := limbAddsRow.holds Try.pinned (OpenSpec.ofChange limbAddsSpec)

/-- ITS FALSE NEIGHBOUR: 'it returns false'. Refute it at one input. -/
def limbAddsWrong : ChangeSpec := { name := "limbAdds", fn := fun _ => fun
  | [d1, d2] => { results := [.lit (.bool false)], args := [d1, d2] }
  | _ => none }
def LimbAddsWrongFalsely : Prop := limbAddsRow.holds Try.pinned (OpenSpec.ofChange limbAddsWrong)

/-- 'epactlaw01.LimbBack': WHATEVER THE INPUT: true; the input reads as it did. -/
def limbBackSpec : ChangeSpec := { name := "limbBack", fn := fun _ => fun
  | [d1, d2, d3] => { results := [.lit (.bool true)], args := [d1, d2, d3] }
  | _ => none }
def limbBackRow : OpenClaim := { program := "ytichmemhahbhnaa", sum := "5bba2f3fb62d92c4faaba37e891864004b20d1cb3ce81a19047d20001126aa94", func := "epact/epactlaw01.LimbBack", spec := "limbBack", inPlace := ["math/bits.Sub64", "math/bits.Add64"], named := ["math/bits.divideError", "math/bits.overflowError"], apart := false }
def LimbBackSaid : Prop := limbBackRow.holds Try.pinned (OpenSpec.ofChange limbBackSpec)

/-- ITS FALSE NEIGHBOUR: 'it returns false'. Refute it at one input. -/
def limbBackWrong : ChangeSpec := { name := "limbBack", fn := fun _ => fun
  | [d1, d2, d3] => { results := [.lit (.bool false)], args := [d1, d2, d3] }
  | _ => none }
def LimbBackWrongFalsely : Prop := limbBackRow.holds Try.pinned (OpenSpec.ofChange limbBackWrong)

/-- 'epactlaw01.LimbTurns': WHATEVER THE INPUT: true; the input reads as it did. -/
def limbTurnsSpec : ChangeSpec := { name := "limbTurns", fn := fun _ => fun
  | [d1, d2] => { results := [.lit (.bool true)], args := [d1, d2] }
  | _ => none }
def limbTurnsRow : OpenClaim := { program := "ytichmemhahbhnaa", sum := "5bba2f3fb62d92c4faaba37e891864004b20d1cb3ce81a19047d20001126aa94", func := "epact/epactlaw01.LimbTurns", spec := "limbTurns", inPlace := ["math/bits.Add64", "math/bits.Sub64"], named := ["math/bits.divideError", "math/bits.overflowError"], apart := false }
def LimbTurnsSaid : Prop := limbTurnsRow.holds Try.pinned (OpenSpec.ofChange limbTurnsSpec)

/-- ITS FALSE NEIGHBOUR: 'it returns false'. Refute it at one input. -/
def limbTurnsWrong : ChangeSpec := { name := "limbTurns", fn := fun _ => fun
  | [d1, d2] => { results := [.lit (.bool false)], args := [d1, d2] }
  | _ => none }
def LimbTurnsWrongFalsely : Prop := limbTurnsRow.holds Try.pinned (OpenSpec.ofChange limbTurnsWrong)

/-- 'epactlaw02.WideInts': WHATEVER THE INPUT: true; the input reads as it did. -/
def wideIntsSpec : ChangeSpec := { name := "wideInts", fn := fun _ => fun
  | [d1, d2, d3] => { results := [.lit (.bool true)], args := [d1, d2, d3] }
  | _ => none }
def wideIntsRow : OpenClaim := { program := "ytichmemhahbhnaa", sum := "5bba2f3fb62d92c4faaba37e891864004b20d1cb3ce81a19047d20001126aa94", func := "epact/epactlaw02.WideInts", spec := "wideInts", inPlace := ["math/bits.Sub64", "math/bits.Add64"], named := ["math/bits.divideError", "math/bits.overflowError"], apart := false }
def WideIntsSaid : Prop := wideIntsRow.holds Try.pinned (OpenSpec.ofChange wideIntsSpec)

/-- ITS FALSE NEIGHBOUR: 'it returns false'. Refute it at one input. -/
def wideIntsWrong : ChangeSpec := { name := "wideInts", fn := fun _ => fun
  | [d1, d2, d3] => { results := [.lit (.bool false)], args := [d1, d2, d3] }
  | _ => none }
def WideIntsWrongFalsely : Prop := wideIntsRow.holds Try.pinned (OpenSpec.ofChange wideIntsWrong)

/-- 'epactlaw02.WideDivs': WHATEVER THE INPUT: true; the input reads as it did. -/
def wideDivsSpec : ChangeSpec := { name := "wideDivs", fn := fun _ => fun
  | [d1, d2] => { results := [.lit (.bool true)], args := [d1, d2] }
  | _ => none }
def wideDivsRow : OpenClaim := { program := "ytichmemhahbhnaa", sum := "5bba2f3fb62d92c4faaba37e891864004b20d1cb3ce81a19047d20001126aa94", func := "epact/epactlaw02.WideDivs", spec := "wideDivs", inPlace := ["math/bits.Sub64", "math/bits.Add64"], named := ["math/bits.divideError", "math/bits.overflowError"], apart := false }
def WideDivsSaid : Prop := wideDivsRow.holds Try.pinned (OpenSpec.ofChange wideDivsSpec)

/-- ITS FALSE NEIGHBOUR: 'it returns false'. Refute it at one input. -/
def wideDivsWrong : ChangeSpec := { name := "wideDivs", fn := fun _ => fun
  | [d1, d2] => { results := [.lit (.bool false)], args := [d1, d2] }
  | _ => none }
def WideDivsWrongFalsely : Prop := wideDivsRow.holds Try.pinned (OpenSpec.ofChange wideDivsWrong)

/-- 'epactlaw02.WideMulDivs': WHATEVER THE INPUT: true; the input reads as it did. -/
def wideMulDivsSpec : ChangeSpec := { name := "wideMulDivs", fn := fun _ => fun
  | [d1, d2, d3] => { results := [.lit (.bool true)], args := [d1, d2, d3] }
  | _ => none }
def wideMulDivsRow : OpenClaim := { program := "ytichmemhahbhnaa", sum := "5bba2f3fb62d92c4faaba37e891864004b20d1cb3ce81a19047d20001126aa94", func := "epact/epactlaw02.WideMulDivs", spec := "wideMulDivs", inPlace := ["math/bits.Sub64", "math/bits.Add64"], named := ["math/bits.divideError", "math/bits.overflowError"], apart := false }
def WideMulDivsSaid : Prop := wideMulDivsRow.holds Try.pinned (OpenSpec.ofChange wideMulDivsSpec)

/-- ITS FALSE NEIGHBOUR: 'it returns false'. Refute it at one input. -/
def wideMulDivsWrong : ChangeSpec := { name := "wideMulDivs", fn := fun _ => fun
  | [d1, d2, d3] => { results := [.lit (.bool false)], args := [d1, d2, d3] }
  | _ => none }
def WideMulDivsWrongFalsely : Prop := wideMulDivsRow.holds Try.pinned (OpenSpec.ofChange wideMulDivsWrong)

/-- 'epactlaw02.WideMuls': WHATEVER THE INPUT: true; the input reads as it did. -/
def wideMulsSpec : ChangeSpec := { name := "wideMuls", fn := fun _ => fun
  | [d1, d2] => { results := [.lit (.bool true)], args := [d1, d2] }
  | _ => none }
def wideMulsRow : OpenClaim := { program := "ytichmemhahbhnaa", sum := "5bba2f3fb62d92c4faaba37e891864004b20d1cb3ce81a19047d20001126aa94", func := "epact/epactlaw02.WideMuls", spec := "wideMuls", inPlace := ["math/bits.Sub64", "math/bits.Add64"], named := ["math/bits.divideError", "math/bits.overflowError"], apart := false }
def WideMulsSaid : Prop := wideMulsRow.holds Try.pinned (OpenSpec.ofChange wideMulsSpec)

/-- ITS FALSE NEIGHBOUR: 'it returns false'. Refute it at one input. -/
def wideMulsWrong : ChangeSpec := { name := "wideMuls", fn := fun _ => fun
  | [d1, d2] => { results := [.lit (.bool false)], args := [d1, d2] }
  | _ => none }
def WideMulsWrongFalsely : Prop := wideMulsRow.holds Try.pinned (OpenSpec.ofChange wideMulsWrong)

/-- 'epactlaw02.WideAdds': WHATEVER THE INPUT: true; the input reads as it did. -/
def wideAddsSpec : ChangeSpec := { name := "wideAdds", fn := fun _ => fun
  | [d1, d2] => { results := [.lit (.bool true)], args := [d1, d2] }
  | _ => none }
def wideAddsRow : OpenClaim := { program := "ytichmemhahbhnaa", sum := "5bba2f3fb62d92c4faaba37e891864004b20d1cb3ce81a19047d20001126aa94", func := "epact/epactlaw02.WideAdds", spec := "wideAdds", inPlace := ["math/bits.Add64", "math/bits.Sub64"], named := ["math/bits.divideError", "math/bits.overflowError"], apart := false }
def WideAddsSaid : Prop := wideAddsRow.holds Try.pinned (OpenSpec.ofChange wideAddsSpec)

/-- ITS FALSE NEIGHBOUR: 'it returns false'. Refute it at one input. -/
def wideAddsWrong : ChangeSpec := { name := "wideAdds", fn := fun _ => fun
  | [d1, d2] => { results := [.lit (.bool false)], args := [d1, d2] }
  | _ => none }
def WideAddsWrongFalsely : Prop := wideAddsRow.holds Try.pinned (OpenSpec.ofChange wideAddsWrong)

/-- 'epactlaw02.WideBack': WHATEVER THE INPUT: true; the input reads as it did. -/
def wideBackSpec : ChangeSpec := { name := "wideBack", fn := fun _ => fun
  | [d1, d2, d3] => { results := [.lit (.bool true)], args := [d1, d2, d3] }
  | _ => none }
def wideBackRow : OpenClaim := { program := "ytichmemhahbhnaa", sum := "5bba2f3fb62d92c4faaba37e891864004b20d1cb3ce81a19047d20001126aa94", func := "epact/epactlaw02.WideBack", spec := "wideBack", inPlace := ["math/bits.Add64", "math/bits.Sub64"], named := ["math/bits.divideError", "math/bits.overflowError"], apart := false }
def WideBackSaid : Prop := wideBackRow.holds Try.pinned (OpenSpec.ofChange wideBackSpec)

/-- ITS FALSE NEIGHBOUR: 'it returns false'. Refute it at one input. -/
def wideBackWrong : ChangeSpec := { name := "wideBack", fn := fun _ => fun
  | [d1, d2, d3] => { results := [.lit (.bool false)], args := [d1, d2, d3] }
  | _ => none }
def WideBackWrongFalsely : Prop := wideBackRow.holds Try.pinned (OpenSpec.ofChange wideBackWrong)

/-- 'epactlaw18.PivotFolds': WHATEVER THE INPUT: true; the input reads as it did. -/
def pivotFoldsSpec : ChangeSpec := { name := "pivotFolds", fn := fun _ => fun
  | [d1, d2] => { results := [.lit (.bool true)], args := [d1, d2] }
  | _ => none }
def pivotFoldsRow : OpenClaim := { program := "ytichmemhahbhnaa", sum := "5bba2f3fb62d92c4faaba37e891864004b20d1cb3ce81a19047d20001126aa94", func := "epact/epactlaw18.PivotFolds", spec := "pivotFolds", inPlace := ["math/bits.Sub64", "math/bits.Add64"], named := ["math/bits.divideError", "math/bits.overflowError"], apart := false }
def PivotFoldsSaid : Prop := pivotFoldsRow.holds Try.pinned (OpenSpec.ofChange pivotFoldsSpec)

/-- ITS FALSE NEIGHBOUR: 'it returns false'. Refute it at one input. -/
def pivotFoldsWrong : ChangeSpec := { name := "pivotFolds", fn := fun _ => fun
  | [d1, d2] => { results := [.lit (.bool false)], args := [d1, d2] }
  | _ => none }
def PivotFoldsWrongFalsely : Prop := pivotFoldsRow.holds Try.pinned (OpenSpec.ofChange pivotFoldsWrong)

/-- 'epactlaw18.PivotNear': WHATEVER THE INPUT: true; the input reads as it did. -/
def pivotNearSpec : ChangeSpec := { name := "pivotNear", fn := fun _ => fun
  | [d1, d2, d3] => { results := [.lit (.bool true)], args := [d1, d2, d3] }
  | _ => none }
def pivotNearRow : OpenClaim := { program := "ytichmemhahbhnaa", sum := "5bba2f3fb62d92c4faaba37e891864004b20d1cb3ce81a19047d20001126aa94", func := "epact/epactlaw18.PivotNear", spec := "pivotNear", inPlace := ["math/bits.Sub64", "math/bits.Add64"], named := ["math/bits.divideError", "math/bits.overflowError"], apart := false }
def PivotNearSaid : Prop := pivotNearRow.holds Try.pinned (OpenSpec.ofChange pivotNearSpec)

/-- ITS FALSE NEIGHBOUR: 'it returns false'. Refute it at one input. -/
def pivotNearWrong : ChangeSpec := { name := "pivotNear", fn := fun _ => fun
  | [d1, d2, d3] => { results := [.lit (.bool false)], args := [d1, d2, d3] }
  | _ => none }
def PivotNearWrongFalsely : Prop := pivotNearRow.holds Try.pinned (OpenSpec.ofChange pivotNearWrong)

/-- 'epactlaw18.PivotOnly': WHATEVER THE INPUT: true; the input reads as it did. -/
def pivotOnlySpec : ChangeSpec := { name := "pivotOnly", fn := fun _ => fun
  | [d1, d2, d3] => { results := [.lit (.bool true)], args := [d1, d2, d3] }
  | _ => none }
def pivotOnlyRow : OpenClaim := { program := "ytichmemhahbhnaa", sum := "5bba2f3fb62d92c4faaba37e891864004b20d1cb3ce81a19047d20001126aa94", func := "epact/epactlaw18.PivotOnly", spec := "pivotOnly", inPlace := ["math/bits.Sub64", "math/bits.Add64"], named := ["math/bits.divideError", "math/bits.overflowError"], apart := false }
def PivotOnlySaid : Prop := pivotOnlyRow.holds Try.pinned (OpenSpec.ofChange pivotOnlySpec)

/-- ITS FALSE NEIGHBOUR: 'it returns false'. Refute it at one input. -/
def pivotOnlyWrong : ChangeSpec := { name := "pivotOnly", fn := fun _ => fun
  | [d1, d2, d3] => { results := [.lit (.bool false)], args := [d1, d2, d3] }
  | _ => none }
def PivotOnlyWrongFalsely : Prop := pivotOnlyRow.holds Try.pinned (OpenSpec.ofChange pivotOnlyWrong)

/- THE SECOND FORM. 'bulk': how many values and letters a reading holds, each counted each time it is reached (what is shared counts as often as it is met; a slice's spare places count too). A statement '..UptoSaid' is the law's where the arguments, and the package variables that the reading takes, are together of bulk at most 1048576: NARROWER than '..Said'. Prove '..Said' where nothing that the law and all that it calls make is longer than what came in: it says more and counts as full. Else prove '..UptoSaid'. A law counts once. -/
mutual
def uptoBulk {H : Type} : DataW H → Nat
  | .lit (.string bytes) => bytes.length + 1
  | .lit _ => 1
  | .nil => 1
  | .ptr d => uptoBulk d + 1
  | .slice elems spare => uptoBulkAll elems + uptoBulkAll spare + 1
  | .agg parts => uptoBulkAll parts + 1
  | .iface _ d => uptoBulk d + 1
  | .map entries => uptoBulkEntries entries + 1
  | .held _ => 1
def uptoBulkAll {H : Type} : List (DataW H) → Nat
  | [] => 0
  | d :: r => uptoBulk d + uptoBulkAll r
def uptoBulkEntries {H : Type} : List (Lit × DataW H) → Nat
  | [] => 0
  | x :: r => uptoBulkEntry x + uptoBulkEntries r
def uptoBulkEntry {H : Type} : Lit × DataW H → Nat
  | (.string bytes, d) => bytes.length + uptoBulk d + 1
  | (_, d) => uptoBulk d + 1
 end
def uptoSmall : (H : Type) → List (DataW H) → Bool := fun _ ds => decide (uptoBulkAll ds ≤ 1048576)
def OpenSpec.upto (s : _root_.Go.ChangeSpec) : _root_.Go.OpenSpec := { _root_.Go.OpenSpec.ofChange s with cond := some uptoSmall }

/-- 'epactlaw01.LimbMuls', WHERE WHAT IT READS IS OF BULK AT MOST 1048576: true; the input reads as it did. -/
def limbMulsUptoRow : OpenClaim := { program := "ytichmemhahbhnaa", sum := "5bba2f3fb62d92c4faaba37e891864004b20d1cb3ce81a19047d20001126aa94", func := "epact/epactlaw01.LimbMuls", spec := "limbMuls", inPlace := ["math/bits.Add64", "math/bits.Sub64"], named := ["math/bits.divideError", "math/bits.overflowError"], apart := false, narrowed := true }
def LimbMulsUptoSaid : Prop := limbMulsUptoRow.holds Try.pinned (OpenSpec.upto limbMulsSpec)

/-- 'epactlaw01.LimbDivs', WHERE WHAT IT READS IS OF BULK AT MOST 1048576: true; the input reads as it did. -/
def limbDivsUptoRow : OpenClaim := { program := "ytichmemhahbhnaa", sum := "5bba2f3fb62d92c4faaba37e891864004b20d1cb3ce81a19047d20001126aa94", func := "epact/epactlaw01.LimbDivs", spec := "limbDivs", inPlace := ["math/bits.Sub64", "math/bits.Add64"], named := ["math/bits.divideError", "math/bits.overflowError"], apart := false, narrowed := true }
def LimbDivsUptoSaid : Prop := limbDivsUptoRow.holds Try.pinned (OpenSpec.upto limbDivsSpec)

/-- 'epactlaw01.LimbAdds', WHERE WHAT IT READS IS OF BULK AT MOST 1048576: true; the input reads as it did. -/
def limbAddsUptoRow : OpenClaim := { program := "ytichmemhahbhnaa", sum := "5bba2f3fb62d92c4faaba37e891864004b20d1cb3ce81a19047d20001126aa94", func := "epact/epactlaw01.LimbAdds", spec := "limbAdds", inPlace := ["math/bits.Add64", "math/bits.Sub64"], named := ["math/bits.divideError", "math/bits.overflowError"], apart := false, narrowed := true }
def LimbAddsUptoSaid : Prop := limbAddsUptoRow.holds Try.pinned (OpenSpec.upto limbAddsSpec)

/-- 'epactlaw01.LimbBack', WHERE WHAT IT READS IS OF BULK AT MOST 1048576: true; the input reads as it did. -/
def limbBackUptoRow : OpenClaim := { program := "ytichmemhahbhnaa", sum := "5bba2f3fb62d92c4faaba37e891864004b20d1cb3ce81a19047d20001126aa94", func := "epact/epactlaw01.LimbBack", spec := "limbBack", inPlace := ["math/bits.Sub64", "math/bits.Add64"], named := ["math/bits.divideError", "math/bits.overflowError"], apart := false, narrowed := true }
def LimbBackUptoSaid : Prop := limbBackUptoRow.holds Try.pinned (OpenSpec.upto limbBackSpec)

/-- 'epactlaw01.LimbTurns', WHERE WHAT IT READS IS OF BULK AT MOST 1048576: true; the input reads as it did. -/
def limbTurnsUptoRow : OpenClaim := { program := "ytichmemhahbhnaa", sum := "5bba2f3fb62d92c4faaba37e891864004b20d1cb3ce81a19047d20001126aa94", func := "epact/epactlaw01.LimbTurns", spec := "limbTurns", inPlace := ["math/bits.Add64", "math/bits.Sub64"], named := ["math/bits.divideError", "math/bits.overflowError"], apart := false, narrowed := true }
def LimbTurnsUptoSaid : Prop := limbTurnsUptoRow.holds Try.pinned (OpenSpec.upto limbTurnsSpec)

/-- 'epactlaw02.WideInts', WHERE WHAT IT READS IS OF BULK AT MOST 1048576: true; the input reads as it did. -/
def wideIntsUptoRow : OpenClaim := { program := "ytichmemhahbhnaa", sum := "5bba2f3fb62d92c4faaba37e891864004b20d1cb3ce81a19047d20001126aa94", func := "epact/epactlaw02.WideInts", spec := "wideInts", inPlace := ["math/bits.Sub64", "math/bits.Add64"], named := ["math/bits.divideError", "math/bits.overflowError"], apart := false, narrowed := true }
def WideIntsUptoSaid : Prop := wideIntsUptoRow.holds Try.pinned (OpenSpec.upto wideIntsSpec)

/-- 'epactlaw02.WideDivs', WHERE WHAT IT READS IS OF BULK AT MOST 1048576: true; the input reads as it did. -/
def wideDivsUptoRow : OpenClaim := { program := "ytichmemhahbhnaa", sum := "5bba2f3fb62d92c4faaba37e891864004b20d1cb3ce81a19047d20001126aa94", func := "epact/epactlaw02.WideDivs", spec := "wideDivs", inPlace := ["math/bits.Sub64", "math/bits.Add64"], named := ["math/bits.divideError", "math/bits.overflowError"], apart := false, narrowed := true }
def WideDivsUptoSaid : Prop := wideDivsUptoRow.holds Try.pinned (OpenSpec.upto wideDivsSpec)

/-- 'epactlaw02.WideMulDivs', WHERE WHAT IT READS IS OF BULK AT MOST 1048576: true; the input reads as it did. -/
def wideMulDivsUptoRow : OpenClaim := { program := "ytichmemhahbhnaa", sum := "5bba2f3fb62d92c4faaba37e891864004b20d1cb3ce81a19047d20001126aa94", func := "epact/epactlaw02.WideMulDivs", spec := "wideMulDivs", inPlace := ["math/bits.Sub64", "math/bits.Add64"], named := ["math/bits.divideError", "math/bits.overflowError"], apart := false, narrowed := true }
def WideMulDivsUptoSaid : Prop := wideMulDivsUptoRow.holds Try.pinned (OpenSpec.upto wideMulDivsSpec)

/-- 'epactlaw02.WideMuls', WHERE WHAT IT READS IS OF BULK AT MOST 1048576: true; the input reads as it did. -/
def wideMulsUptoRow : OpenClaim := { program := "ytichmemhahbhnaa", sum := "5bba2f3fb62d92c4faaba37e891864004b20d1cb3ce81a19047d20001126aa94", func := "epact/epactlaw02.WideMuls", spec := "wideMuls", inPlace := ["math/bits.Sub64", "math/bits.Add64"], named := ["math/bits.divideError", "math/bits.overflowError"], apart := false, narrowed := true }
def WideMulsUptoSaid : Prop := wideMulsUptoRow.holds Try.pinned (OpenSpec.upto wideMulsSpec)

/-- 'epactlaw02.WideAdds', WHERE WHAT IT READS IS OF BULK AT MOST 1048576: true; the input reads as it did. -/
def wideAddsUptoRow : OpenClaim := { program := "ytichmemhahbhnaa", sum := "5bba2f3fb62d92c4faaba37e891864004b20d1cb3ce81a19047d20001126aa94", func := "epact/epactlaw02.WideAdds", spec := "wideAdds", inPlace := ["math/bits.Add64", "math/bits.Sub64"], named := ["math/bits.divideError", "math/bits.overflowError"], apart := false, narrowed := true }
def WideAddsUptoSaid : Prop := wideAddsUptoRow.holds Try.pinned (OpenSpec.upto wideAddsSpec)

/-- 'epactlaw02.WideBack', WHERE WHAT IT READS IS OF BULK AT MOST 1048576: true; the input reads as it did. -/
def wideBackUptoRow : OpenClaim := { program := "ytichmemhahbhnaa", sum := "5bba2f3fb62d92c4faaba37e891864004b20d1cb3ce81a19047d20001126aa94", func := "epact/epactlaw02.WideBack", spec := "wideBack", inPlace := ["math/bits.Add64", "math/bits.Sub64"], named := ["math/bits.divideError", "math/bits.overflowError"], apart := false, narrowed := true }
def WideBackUptoSaid : Prop := wideBackUptoRow.holds Try.pinned (OpenSpec.upto wideBackSpec)

/-- 'epactlaw18.PivotFolds', WHERE WHAT IT READS IS OF BULK AT MOST 1048576: true; the input reads as it did. -/
def pivotFoldsUptoRow : OpenClaim := { program := "ytichmemhahbhnaa", sum := "5bba2f3fb62d92c4faaba37e891864004b20d1cb3ce81a19047d20001126aa94", func := "epact/epactlaw18.PivotFolds", spec := "pivotFolds", inPlace := ["math/bits.Sub64", "math/bits.Add64"], named := ["math/bits.divideError", "math/bits.overflowError"], apart := false, narrowed := true }
def PivotFoldsUptoSaid : Prop := pivotFoldsUptoRow.holds Try.pinned (OpenSpec.upto pivotFoldsSpec)

/-- 'epactlaw18.PivotNear', WHERE WHAT IT READS IS OF BULK AT MOST 1048576: true; the input reads as it did. -/
def pivotNearUptoRow : OpenClaim := { program := "ytichmemhahbhnaa", sum := "5bba2f3fb62d92c4faaba37e891864004b20d1cb3ce81a19047d20001126aa94", func := "epact/epactlaw18.PivotNear", spec := "pivotNear", inPlace := ["math/bits.Sub64", "math/bits.Add64"], named := ["math/bits.divideError", "math/bits.overflowError"], apart := false, narrowed := true }
def PivotNearUptoSaid : Prop := pivotNearUptoRow.holds Try.pinned (OpenSpec.upto pivotNearSpec)

/-- 'epactlaw18.PivotOnly', WHERE WHAT IT READS IS OF BULK AT MOST 1048576: true; the input reads as it did. -/
def pivotOnlyUptoRow : OpenClaim := { program := "ytichmemhahbhnaa", sum := "5bba2f3fb62d92c4faaba37e891864004b20d1cb3ce81a19047d20001126aa94", func := "epact/epactlaw18.PivotOnly", spec := "pivotOnly", inPlace := ["math/bits.Sub64", "math/bits.Add64"], named := ["math/bits.divideError", "math/bits.overflowError"], apart := false, narrowed := true }
def PivotOnlyUptoSaid : Prop := pivotOnlyUptoRow.holds Try.pinned (OpenSpec.upto pivotOnlySpec)

end Rows
end Go.Proofs.Ytichmemhahbhnaa

/-
  No cell of these rows narrows 'for every input' (looked for: loops, veiled, ifaces, maps, wideKeys, modest, calm, conditions, laid).
  DERIVED. THE GIVEN ROWS OF THIS SEAT. 17 by the template 'for every input the law returns true; each argument reads behind the call as it read before'; 0 by the template 'total and deterministic' (their statements: YtnjipdicfbkfdaaTotals.lean).
  GIVEN WITH THE SEED: the statements are not yours to turn. If you find one false, say at which input.
  Laid BY PROGRAM, IN A SANDBOX (cutbox-rows.mjs): the forced cells as the released guide's own fill.sh prints them over the translation 23ab9d02d5ecb90a… (all of the seat's roots in one cut). By AI agents, Wed Nov 11 2026. No macro, syntax, notation, axiom, sorry.
-/
import Derived.Test.YtnjipdicfbkfdaaChecked
import GoSem.Claim
import GoSem.ClaimJoined
import GoSem.ClaimMapViews
import Derived.JoinedTies
import Derived.KernelRfl
namespace Go.Proofs.Ytnjipdicfbkfdaa
/- THE CELL 'sum', in the pinned program and in every row, IS THE sha256 OF THE DUMP (.gsa) THAT YtnjipdicfbkfdaaProg.lean LOADS. Nothing in Lean hashes anything: it is a label: what it is worth is what the hold of that sum in a sandbox is worth. -/
noncomputable def Try.pinned : Pinned := { name := "ytnjipdicfbkfdaa", sum := "23ab9d02d5ecb90a73bf5d648ff5ff6dc229c3f3daa2f98f98adc7482b05d825", checked := Try.checked }
namespace Rows
def none {H : Type} : Left H := { results := [], args := [] }

/-- 'epactlaw21.GpsWeeks': WHATEVER THE INPUT: true; the input reads as it did. -/
def gpsWeeksSpec : ChangeSpec := { name := "gpsWeeks", fn := fun _ => fun
  | [d] => { results := [.lit (.bool true)], args := [d] }
  | _ => none }
def gpsWeeksRow : OpenClaim := { program := "ytnjipdicfbkfdaa", sum := "23ab9d02d5ecb90a73bf5d648ff5ff6dc229c3f3daa2f98f98adc7482b05d825", func := "epact/epactlaw21.GpsWeeks", spec := "gpsWeeks", inPlace := ["math/bits.Sub64", "math/bits.Add64"], named := ["math/bits.divideError", "math/bits.overflowError"], apart := false }
def GpsWeeksSaid : Prop := gpsWeeksRow.holds Try.pinned (OpenSpec.ofChange gpsWeeksSpec)

/-- ITS FALSE NEIGHBOUR: 'it returns false'. Refute it at one input. -/
def gpsWeeksWrong : ChangeSpec := { name := "gpsWeeks", fn := fun _ => fun
  | [d] => { results := [.lit (.bool false)], args := [d] }
  | _ => none }
def GpsWeeksWrongFalsely : Prop := gpsWeeksRow.holds Try.pinned (OpenSpec.ofChange gpsWeeksWrong)

/-- 'epactlaw21.GpsEncodes': WHATEVER THE INPUT: true; the input reads as it did. -/
def gpsEncodesSpec : ChangeSpec := { name := "gpsEncodes", fn := fun _ => fun
  | [d1, d2] => { results := [.lit (.bool true)], args := [d1, d2] }
  | _ => none }
def gpsEncodesRow : OpenClaim := { program := "ytnjipdicfbkfdaa", sum := "23ab9d02d5ecb90a73bf5d648ff5ff6dc229c3f3daa2f98f98adc7482b05d825", func := "epact/epactlaw21.GpsEncodes", spec := "gpsEncodes", inPlace := ["math/bits.Sub64", "math/bits.Add64"], named := ["math/bits.divideError", "math/bits.overflowError"], apart := false }
def GpsEncodesSaid : Prop := gpsEncodesRow.holds Try.pinned (OpenSpec.ofChange gpsEncodesSpec)

/-- ITS FALSE NEIGHBOUR: 'it returns false'. Refute it at one input. -/
def gpsEncodesWrong : ChangeSpec := { name := "gpsEncodes", fn := fun _ => fun
  | [d1, d2] => { results := [.lit (.bool false)], args := [d1, d2] }
  | _ => none }
def GpsEncodesWrongFalsely : Prop := gpsEncodesRow.holds Try.pinned (OpenSpec.ofChange gpsEncodesWrong)

/-- 'epactlaw21.GpsDecodes': WHATEVER THE INPUT: true; the input reads as it did. -/
def gpsDecodesSpec : ChangeSpec := { name := "gpsDecodes", fn := fun _ => fun
  | [d1, d2, d3] => { results := [.lit (.bool true)], args := [d1, d2, d3] }
  | _ => none }
def gpsDecodesRow : OpenClaim := { program := "ytnjipdicfbkfdaa", sum := "23ab9d02d5ecb90a73bf5d648ff5ff6dc229c3f3daa2f98f98adc7482b05d825", func := "epact/epactlaw21.GpsDecodes", spec := "gpsDecodes", inPlace := ["math/bits.Sub64", "math/bits.Add64"], named := ["math/bits.divideError", "math/bits.overflowError"], apart := false }
def GpsDecodesSaid : Prop := gpsDecodesRow.holds Try.pinned (OpenSpec.ofChange gpsDecodesSpec)

/-- ITS FALSE NEIGHBOUR: 'it returns false'. Refute it at one input. -/
def gpsDecodesWrong : ChangeSpec := { name := "gpsDecodes", fn := fun _ => fun
  | [d1, d2, d3] => { results := [.lit (.bool false)], args := [d1, d2, d3] }
  | _ => none }
def GpsDecodesWrongFalsely : Prop := gpsDecodesRow.holds Try.pinned (OpenSpec.ofChange gpsDecodesWrong)

/-- 'epactlaw21.GpsFloors': WHATEVER THE INPUT: true; the input reads as it did. -/
def gpsFloorsSpec : ChangeSpec := { name := "gpsFloors", fn := fun _ => fun
  | [d1, d2] => { results := [.lit (.bool true)], args := [d1, d2] }
  | _ => none }
def gpsFloorsRow : OpenClaim := { program := "ytnjipdicfbkfdaa", sum := "23ab9d02d5ecb90a73bf5d648ff5ff6dc229c3f3daa2f98f98adc7482b05d825", func := "epact/epactlaw21.GpsFloors", spec := "gpsFloors", inPlace := ["math/bits.Sub64", "math/bits.Add64"], named := ["math/bits.divideError", "math/bits.overflowError"], apart := false }
def GpsFloorsSaid : Prop := gpsFloorsRow.holds Try.pinned (OpenSpec.ofChange gpsFloorsSpec)

/-- ITS FALSE NEIGHBOUR: 'it returns false'. Refute it at one input. -/
def gpsFloorsWrong : ChangeSpec := { name := "gpsFloors", fn := fun _ => fun
  | [d1, d2] => { results := [.lit (.bool false)], args := [d1, d2] }
  | _ => none }
def GpsFloorsWrongFalsely : Prop := gpsFloorsRow.holds Try.pinned (OpenSpec.ofChange gpsFloorsWrong)

/-- 'epactlaw21.GpsSame': WHATEVER THE INPUT: true; the input reads as it did. -/
def gpsSameSpec : ChangeSpec := { name := "gpsSame", fn := fun _ => fun
  | [d1, d2, d3] => { results := [.lit (.bool true)], args := [d1, d2, d3] }
  | _ => none }
def gpsSameRow : OpenClaim := { program := "ytnjipdicfbkfdaa", sum := "23ab9d02d5ecb90a73bf5d648ff5ff6dc229c3f3daa2f98f98adc7482b05d825", func := "epact/epactlaw21.GpsSame", spec := "gpsSame", inPlace := ["math/bits.Sub64", "math/bits.Add64"], named := ["math/bits.divideError", "math/bits.overflowError"], apart := false }
def GpsSameSaid : Prop := gpsSameRow.holds Try.pinned (OpenSpec.ofChange gpsSameSpec)

/-- ITS FALSE NEIGHBOUR: 'it returns false'. Refute it at one input. -/
def gpsSameWrong : ChangeSpec := { name := "gpsSame", fn := fun _ => fun
  | [d1, d2, d3] => { results := [.lit (.bool false)], args := [d1, d2, d3] }
  | _ => none }
def GpsSameWrongFalsely : Prop := gpsSameRow.holds Try.pinned (OpenSpec.ofChange gpsSameWrong)

/-- 'epactlaw23.CdsEncodes': WHATEVER THE INPUT: true; the input reads as it did. -/
def cdsEncodesSpec : ChangeSpec := { name := "cdsEncodes", fn := fun _ => fun
  | [d1, d2, d3] => { results := [.lit (.bool true)], args := [d1, d2, d3] }
  | _ => none }
def cdsEncodesRow : OpenClaim := { program := "ytnjipdicfbkfdaa", sum := "23ab9d02d5ecb90a73bf5d648ff5ff6dc229c3f3daa2f98f98adc7482b05d825", func := "epact/epactlaw23.CdsEncodes", spec := "cdsEncodes", inPlace := ["math/bits.Sub64", "math/bits.Add64"], named := ["math/bits.divideError", "math/bits.overflowError"], apart := false }
def CdsEncodesSaid : Prop := cdsEncodesRow.holds Try.pinned (OpenSpec.ofChange cdsEncodesSpec)

/-- ITS FALSE NEIGHBOUR: 'it returns false'. Refute it at one input. -/
def cdsEncodesWrong : ChangeSpec := { name := "cdsEncodes", fn := fun _ => fun
  | [d1, d2, d3] => { results := [.lit (.bool false)], args := [d1, d2, d3] }
  | _ => none }
def CdsEncodesWrongFalsely : Prop := cdsEncodesRow.holds Try.pinned (OpenSpec.ofChange cdsEncodesWrong)

/-- 'epactlaw23.CdsDecodes': WHATEVER THE INPUT: true; the input reads as it did. -/
def cdsDecodesSpec : ChangeSpec := { name := "cdsDecodes", fn := fun _ => fun
  | [d1, d2] => { results := [.lit (.bool true)], args := [d1, d2] }
  | _ => none }
def cdsDecodesRow : OpenClaim := { program := "ytnjipdicfbkfdaa", sum := "23ab9d02d5ecb90a73bf5d648ff5ff6dc229c3f3daa2f98f98adc7482b05d825", func := "epact/epactlaw23.CdsDecodes", spec := "cdsDecodes", inPlace := ["math/bits.Sub64", "math/bits.Add64"], named := ["math/bits.divideError", "math/bits.overflowError"], apart := false }
def CdsDecodesSaid : Prop := cdsDecodesRow.holds Try.pinned (OpenSpec.ofChange cdsDecodesSpec)

/-- ITS FALSE NEIGHBOUR: 'it returns false'. Refute it at one input. -/
def cdsDecodesWrong : ChangeSpec := { name := "cdsDecodes", fn := fun _ => fun
  | [d1, d2] => { results := [.lit (.bool false)], args := [d1, d2] }
  | _ => none }
def CdsDecodesWrongFalsely : Prop := cdsDecodesRow.holds Try.pinned (OpenSpec.ofChange cdsDecodesWrong)

/-- 'epactlaw23.CdsFloors': WHATEVER THE INPUT: true; the input reads as it did. -/
def cdsFloorsSpec : ChangeSpec := { name := "cdsFloors", fn := fun _ => fun
  | [d1, d2, d3] => { results := [.lit (.bool true)], args := [d1, d2, d3] }
  | _ => none }
def cdsFloorsRow : OpenClaim := { program := "ytnjipdicfbkfdaa", sum := "23ab9d02d5ecb90a73bf5d648ff5ff6dc229c3f3daa2f98f98adc7482b05d825", func := "epact/epactlaw23.CdsFloors", spec := "cdsFloors", inPlace := ["math/bits.Sub64", "math/bits.Add64"], named := ["math/bits.divideError", "math/bits.overflowError"], apart := false }
def CdsFloorsSaid : Prop := cdsFloorsRow.holds Try.pinned (OpenSpec.ofChange cdsFloorsSpec)

/-- ITS FALSE NEIGHBOUR: 'it returns false'. Refute it at one input. -/
def cdsFloorsWrong : ChangeSpec := { name := "cdsFloors", fn := fun _ => fun
  | [d1, d2, d3] => { results := [.lit (.bool false)], args := [d1, d2, d3] }
  | _ => none }
def CdsFloorsWrongFalsely : Prop := cdsFloorsRow.holds Try.pinned (OpenSpec.ofChange cdsFloorsWrong)

/-- 'epactlaw23.CdsSame': WHATEVER THE INPUT: true; the input reads as it did. -/
def cdsSameSpec : ChangeSpec := { name := "cdsSame", fn := fun _ => fun
  | [d1, d2] => { results := [.lit (.bool true)], args := [d1, d2] }
  | _ => none }
def cdsSameRow : OpenClaim := { program := "ytnjipdicfbkfdaa", sum := "23ab9d02d5ecb90a73bf5d648ff5ff6dc229c3f3daa2f98f98adc7482b05d825", func := "epact/epactlaw23.CdsSame", spec := "cdsSame", inPlace := ["math/bits.Sub64", "math/bits.Add64"], named := ["math/bits.divideError", "math/bits.overflowError"], apart := false }
def CdsSameSaid : Prop := cdsSameRow.holds Try.pinned (OpenSpec.ofChange cdsSameSpec)

/-- ITS FALSE NEIGHBOUR: 'it returns false'. Refute it at one input. -/
def cdsSameWrong : ChangeSpec := { name := "cdsSame", fn := fun _ => fun
  | [d1, d2] => { results := [.lit (.bool false)], args := [d1, d2] }
  | _ => none }
def CdsSameWrongFalsely : Prop := cdsSameRow.holds Try.pinned (OpenSpec.ofChange cdsSameWrong)

/-- 'epactlaw20.NtpEncodes': WHATEVER THE INPUT: true; the input reads as it did. -/
def ntpEncodesSpec : ChangeSpec := { name := "ntpEncodes", fn := fun _ => fun
  | [d1, d2] => { results := [.lit (.bool true)], args := [d1, d2] }
  | _ => none }
def ntpEncodesRow : OpenClaim := { program := "ytnjipdicfbkfdaa", sum := "23ab9d02d5ecb90a73bf5d648ff5ff6dc229c3f3daa2f98f98adc7482b05d825", func := "epact/epactlaw20.NtpEncodes", spec := "ntpEncodes", inPlace := ["math/bits.Sub64", "math/bits.Add64"], named := ["math/bits.divideError", "math/bits.overflowError"], apart := false }
def NtpEncodesSaid : Prop := ntpEncodesRow.holds Try.pinned (OpenSpec.ofChange ntpEncodesSpec)

/-- ITS FALSE NEIGHBOUR: 'it returns false'. Refute it at one input. -/
def ntpEncodesWrong : ChangeSpec := { name := "ntpEncodes", fn := fun _ => fun
  | [d1, d2] => { results := [.lit (.bool false)], args := [d1, d2] }
  | _ => none }
def NtpEncodesWrongFalsely : Prop := ntpEncodesRow.holds Try.pinned (OpenSpec.ofChange ntpEncodesWrong)

/-- 'epactlaw20.NtpDecodes': WHATEVER THE INPUT: true; the input reads as it did. -/
def ntpDecodesSpec : ChangeSpec := { name := "ntpDecodes", fn := fun _ => fun
  | [d1, d2, d3] => { results := [.lit (.bool true)], args := [d1, d2, d3] }
  | _ => none }
def ntpDecodesRow : OpenClaim := { program := "ytnjipdicfbkfdaa", sum := "23ab9d02d5ecb90a73bf5d648ff5ff6dc229c3f3daa2f98f98adc7482b05d825", func := "epact/epactlaw20.NtpDecodes", spec := "ntpDecodes", inPlace := ["math/bits.Sub64", "math/bits.Add64"], named := ["math/bits.divideError", "math/bits.overflowError"], apart := false }
def NtpDecodesSaid : Prop := ntpDecodesRow.holds Try.pinned (OpenSpec.ofChange ntpDecodesSpec)

/-- ITS FALSE NEIGHBOUR: 'it returns false'. Refute it at one input. -/
def ntpDecodesWrong : ChangeSpec := { name := "ntpDecodes", fn := fun _ => fun
  | [d1, d2, d3] => { results := [.lit (.bool false)], args := [d1, d2, d3] }
  | _ => none }
def NtpDecodesWrongFalsely : Prop := ntpDecodesRow.holds Try.pinned (OpenSpec.ofChange ntpDecodesWrong)

/-- 'epactlaw20.NtpFloors': WHATEVER THE INPUT: true; the input reads as it did. -/
def ntpFloorsSpec : ChangeSpec := { name := "ntpFloors", fn := fun _ => fun
  | [d1, d2] => { results := [.lit (.bool true)], args := [d1, d2] }
  | _ => none }
def ntpFloorsRow : OpenClaim := { program := "ytnjipdicfbkfdaa", sum := "23ab9d02d5ecb90a73bf5d648ff5ff6dc229c3f3daa2f98f98adc7482b05d825", func := "epact/epactlaw20.NtpFloors", spec := "ntpFloors", inPlace := ["math/bits.Sub64", "math/bits.Add64"], named := ["math/bits.divideError", "math/bits.overflowError"], apart := false }
def NtpFloorsSaid : Prop := ntpFloorsRow.holds Try.pinned (OpenSpec.ofChange ntpFloorsSpec)

/-- ITS FALSE NEIGHBOUR: 'it returns false'. Refute it at one input. -/
def ntpFloorsWrong : ChangeSpec := { name := "ntpFloors", fn := fun _ => fun
  | [d1, d2] => { results := [.lit (.bool false)], args := [d1, d2] }
  | _ => none }
def NtpFloorsWrongFalsely : Prop := ntpFloorsRow.holds Try.pinned (OpenSpec.ofChange ntpFloorsWrong)

/-- 'epactlaw20.NtpSame': WHATEVER THE INPUT: true; the input reads as it did. -/
def ntpSameSpec : ChangeSpec := { name := "ntpSame", fn := fun _ => fun
  | [d1, d2, d3] => { results := [.lit (.bool true)], args := [d1, d2, d3] }
  | _ => none }
def ntpSameRow : OpenClaim := { program := "ytnjipdicfbkfdaa", sum := "23ab9d02d5ecb90a73bf5d648ff5ff6dc229c3f3daa2f98f98adc7482b05d825", func := "epact/epactlaw20.NtpSame", spec := "ntpSame", inPlace := ["math/bits.Sub64", "math/bits.Add64"], named := ["math/bits.divideError", "math/bits.overflowError"], apart := false }
def NtpSameSaid : Prop := ntpSameRow.holds Try.pinned (OpenSpec.ofChange ntpSameSpec)

/-- ITS FALSE NEIGHBOUR: 'it returns false'. Refute it at one input. -/
def ntpSameWrong : ChangeSpec := { name := "ntpSame", fn := fun _ => fun
  | [d1, d2, d3] => { results := [.lit (.bool false)], args := [d1, d2, d3] }
  | _ => none }
def NtpSameWrongFalsely : Prop := ntpSameRow.holds Try.pinned (OpenSpec.ofChange ntpSameWrong)

/-- 'epactlaw22.CucEncodes': WHATEVER THE INPUT: true; the input reads as it did. -/
def cucEncodesSpec : ChangeSpec := { name := "cucEncodes", fn := fun _ => fun
  | [d1, d2, d3] => { results := [.lit (.bool true)], args := [d1, d2, d3] }
  | _ => none }
def cucEncodesRow : OpenClaim := { program := "ytnjipdicfbkfdaa", sum := "23ab9d02d5ecb90a73bf5d648ff5ff6dc229c3f3daa2f98f98adc7482b05d825", func := "epact/epactlaw22.CucEncodes", spec := "cucEncodes", inPlace := ["math/bits.Sub64", "math/bits.Add64"], named := ["math/bits.divideError", "math/bits.overflowError"], apart := false }
def CucEncodesSaid : Prop := cucEncodesRow.holds Try.pinned (OpenSpec.ofChange cucEncodesSpec)

/-- ITS FALSE NEIGHBOUR: 'it returns false'. Refute it at one input. -/
def cucEncodesWrong : ChangeSpec := { name := "cucEncodes", fn := fun _ => fun
  | [d1, d2, d3] => { results := [.lit (.bool false)], args := [d1, d2, d3] }
  | _ => none }
def CucEncodesWrongFalsely : Prop := cucEncodesRow.holds Try.pinned (OpenSpec.ofChange cucEncodesWrong)

/-- 'epactlaw22.CucDecodes': WHATEVER THE INPUT: true; the input reads as it did. -/
def cucDecodesSpec : ChangeSpec := { name := "cucDecodes", fn := fun _ => fun
  | [d1, d2] => { results := [.lit (.bool true)], args := [d1, d2] }
  | _ => none }
def cucDecodesRow : OpenClaim := { program := "ytnjipdicfbkfdaa", sum := "23ab9d02d5ecb90a73bf5d648ff5ff6dc229c3f3daa2f98f98adc7482b05d825", func := "epact/epactlaw22.CucDecodes", spec := "cucDecodes", inPlace := ["math/bits.Sub64", "math/bits.Add64"], named := ["math/bits.divideError", "math/bits.overflowError"], apart := false }
def CucDecodesSaid : Prop := cucDecodesRow.holds Try.pinned (OpenSpec.ofChange cucDecodesSpec)

/-- ITS FALSE NEIGHBOUR: 'it returns false'. Refute it at one input. -/
def cucDecodesWrong : ChangeSpec := { name := "cucDecodes", fn := fun _ => fun
  | [d1, d2] => { results := [.lit (.bool false)], args := [d1, d2] }
  | _ => none }
def CucDecodesWrongFalsely : Prop := cucDecodesRow.holds Try.pinned (OpenSpec.ofChange cucDecodesWrong)

/-- 'epactlaw22.CucFloors': WHATEVER THE INPUT: true; the input reads as it did. -/
def cucFloorsSpec : ChangeSpec := { name := "cucFloors", fn := fun _ => fun
  | [d1, d2, d3] => { results := [.lit (.bool true)], args := [d1, d2, d3] }
  | _ => none }
def cucFloorsRow : OpenClaim := { program := "ytnjipdicfbkfdaa", sum := "23ab9d02d5ecb90a73bf5d648ff5ff6dc229c3f3daa2f98f98adc7482b05d825", func := "epact/epactlaw22.CucFloors", spec := "cucFloors", inPlace := ["math/bits.Sub64", "math/bits.Add64"], named := ["math/bits.divideError", "math/bits.overflowError"], apart := false }
def CucFloorsSaid : Prop := cucFloorsRow.holds Try.pinned (OpenSpec.ofChange cucFloorsSpec)

/-- ITS FALSE NEIGHBOUR: 'it returns false'. Refute it at one input. -/
def cucFloorsWrong : ChangeSpec := { name := "cucFloors", fn := fun _ => fun
  | [d1, d2, d3] => { results := [.lit (.bool false)], args := [d1, d2, d3] }
  | _ => none }
def CucFloorsWrongFalsely : Prop := cucFloorsRow.holds Try.pinned (OpenSpec.ofChange cucFloorsWrong)

/-- 'epactlaw22.CucSame': WHATEVER THE INPUT: true; the input reads as it did. -/
def cucSameSpec : ChangeSpec := { name := "cucSame", fn := fun _ => fun
  | [d1, d2] => { results := [.lit (.bool true)], args := [d1, d2] }
  | _ => none }
def cucSameRow : OpenClaim := { program := "ytnjipdicfbkfdaa", sum := "23ab9d02d5ecb90a73bf5d648ff5ff6dc229c3f3daa2f98f98adc7482b05d825", func := "epact/epactlaw22.CucSame", spec := "cucSame", inPlace := ["math/bits.Sub64", "math/bits.Add64"], named := ["math/bits.divideError", "math/bits.overflowError"], apart := false }
def CucSameSaid : Prop := cucSameRow.holds Try.pinned (OpenSpec.ofChange cucSameSpec)

/-- ITS FALSE NEIGHBOUR: 'it returns false'. Refute it at one input. -/
def cucSameWrong : ChangeSpec := { name := "cucSame", fn := fun _ => fun
  | [d1, d2] => { results := [.lit (.bool false)], args := [d1, d2] }
  | _ => none }
def CucSameWrongFalsely : Prop := cucSameRow.holds Try.pinned (OpenSpec.ofChange cucSameWrong)

/- THE SECOND FORM. 'bulk': how many values and letters a reading holds, each counted each time it is reached (what is shared counts as often as it is met; a slice's spare places count too). A statement '..UptoSaid' is the law's where the arguments, and the package variables that the reading takes, are together of bulk at most 1048576: NARROWER than '..Said'. Prove '..Said' where nothing that the law and all that it calls make is longer than what came in: it says more and counts as full. Else prove '..UptoSaid'. A law counts once. -/
mutual
def uptoBulk {H : Type} : DataW H → Nat
  | .lit (.string bytes) => bytes.length + 1
  | .lit _ => 1
  | .nil => 1
  | .ptr d => uptoBulk d + 1
  | .slice elems spare => uptoBulkAll elems + uptoBulkAll spare + 1
  | .agg parts => uptoBulkAll parts + 1
  | .iface _ d => uptoBulk d + 1
  | .map entries => uptoBulkEntries entries + 1
  | .held _ => 1
def uptoBulkAll {H : Type} : List (DataW H) → Nat
  | [] => 0
  | d :: r => uptoBulk d + uptoBulkAll r
def uptoBulkEntries {H : Type} : List (Lit × DataW H) → Nat
  | [] => 0
  | x :: r => uptoBulkEntry x + uptoBulkEntries r
def uptoBulkEntry {H : Type} : Lit × DataW H → Nat
  | (.string bytes, d) => bytes.length + uptoBulk d + 1
  | (_, d) => uptoBulk d + 1
 end
def uptoSmall : (H : Type) → List (DataW H) → Bool := fun _ ds => decide (uptoBulkAll ds ≤ 1048576)
def OpenSpec.upto (s : _root_.Go.ChangeSpec) : _root_.Go.OpenSpec := { _root_.Go.OpenSpec.ofChange s with cond := some uptoSmall }

/-- 'epactlaw21.GpsWeeks', WHERE WHAT IT READS IS OF BULK AT MOST 1048576: true; the input reads as it did. -/
def gpsWeeksUptoRow : OpenClaim := { program := "ytnjipdicfbkfdaa", sum := "23ab9d02d5ecb90a73bf5d648ff5ff6dc229c3f3daa2f98f98adc7482b05d825", func := "epact/epactlaw21.GpsWeeks", spec := "gpsWeeks", inPlace := ["math/bits.Sub64", "math/bits.Add64"], named := ["math/bits.divideError", "math/bits.overflowError"], apart := false, narrowed := true }
def GpsWeeksUptoSaid : Prop := gpsWeeksUptoRow.holds Try.pinned (OpenSpec.upto gpsWeeksSpec)

/-- 'epactlaw21.GpsEncodes', WHERE WHAT IT READS IS OF BULK AT MOST 1048576: true; the input reads as it did. -/
def gpsEncodesUptoRow : OpenClaim := { program := "ytnjipdicfbkfdaa", sum := "23ab9d02d5ecb90a73bf5d648ff5ff6dc229c3f3daa2f98f98adc7482b05d825", func := "epact/epactlaw21.GpsEncodes", spec := "gpsEncodes", inPlace := ["math/bits.Sub64", "math/bits.Add64"], named := ["math/bits.divideError", "math/bits.overflowError"], apart := false, narrowed := true }
def GpsEncodesUptoSaid : Prop := gpsEncodesUptoRow.holds Try.pinned (OpenSpec.upto gpsEncodesSpec)

/-- 'epactlaw21.GpsDecodes', WHERE WHAT IT READS IS OF BULK AT MOST 1048576: true; the input reads as it did. -/
def gpsDecodesUptoRow : OpenClaim := { program := "ytnjipdicfbkfdaa", sum := "23ab9d02d5ecb90a73bf5d648ff5ff6dc229c3f3daa2f98f98adc7482b05d825", func := "epact/epactlaw21.GpsDecodes", spec := "gpsDecodes", inPlace := ["math/bits.Sub64", "math/bits.Add64"], named := ["math/bits.divideError", "math/bits.overflowError"], apart := false, narrowed := true }
def GpsDecodesUptoSaid : Prop := gpsDecodesUptoRow.holds Try.pinned (OpenSpec.upto gpsDecodesSpec)

/-- 'epactlaw21.GpsFloors', WHERE WHAT IT READS IS OF BULK AT MOST 1048576: true; the input reads as it did. -/
def gpsFloorsUptoRow : OpenClaim := { program := "ytnjipdicfbkfdaa", sum := "23ab9d02d5ecb90a73bf5d648ff5ff6dc229c3f3daa2f98f98adc7482b05d825", func := "epact/epactlaw21.GpsFloors", spec := "gpsFloors", inPlace := ["math/bits.Sub64", "math/bits.Add64"], named := ["math/bits.divideError", "math/bits.overflowError"], apart := false, narrowed := true }
def GpsFloorsUptoSaid : Prop := gpsFloorsUptoRow.holds Try.pinned (OpenSpec.upto gpsFloorsSpec)

/-- 'epactlaw21.GpsSame', WHERE WHAT IT READS IS OF BULK AT MOST 1048576: true; the input reads as it did. -/
def gpsSameUptoRow : OpenClaim := { program := "ytnjipdicfbkfdaa", sum := "23ab9d02d5ecb90a73bf5d648ff5ff6dc229c3f3daa2f98f98adc7482b05d825", func := "epact/epactlaw21.GpsSame", spec := "gpsSame", inPlace := ["math/bits.Sub64", "math/bits.Add64"], named := ["math/bits.divideError", "math/bits.overflowError"], apart := false, narrowed := true }
def GpsSameUptoSaid : Prop := gpsSameUptoRow.holds Try.pinned (OpenSpec.upto gpsSameSpec)

/-- 'epactlaw23.CdsEncodes', WHERE WHAT IT READS IS OF BULK AT MOST 1048576: true; the input reads as it did. -/
def cdsEncodesUptoRow : OpenClaim := { program := "ytnjipdicfbkfdaa", sum := "23ab9d02d5ecb90a73bf5d648ff5ff6dc229c3f3daa2f98f98adc7482b05d825", func := "epact/epactlaw23.CdsEncodes", spec := "cdsEncodes", inPlace := ["math/bits.Sub64", "math/bits.Add64"], named := ["math/bits.divideError", "math/bits.overflowError"], apart := false, narrowed := true }
def CdsEncodesUptoSaid : Prop := cdsEncodesUptoRow.holds Try.pinned (OpenSpec.upto cdsEncodesSpec)

/-- 'epactlaw23.CdsDecodes', WHERE WHAT IT READS IS OF BULK AT MOST 1048576: true; the input reads as it did. -/
def cdsDecodesUptoRow : OpenClaim := { program := "ytnjipdicfbkfdaa", sum := "23ab9d02d5ecb90a73bf5d648ff5ff6dc229c3f3daa2f98f98adc7482b05d825", func := "epact/epactlaw23.CdsDecodes", spec := "cdsDecodes", inPlace := ["math/bits.Sub64", "math/bits.Add64"], named := ["math/bits.divideError", "math/bits.overflowError"], apart := false, narrowed := true }
def CdsDecodesUptoSaid : Prop := cdsDecodesUptoRow.holds Try.pinned (OpenSpec.upto cdsDecodesSpec)

/-- 'epactlaw23.CdsFloors', WHERE WHAT IT READS IS OF BULK AT MOST 1048576: true; the input reads as it did. -/
def cdsFloorsUptoRow : OpenClaim := { program := "ytnjipdicfbkfdaa", sum := "23ab9d02d5ecb90a73bf5d648ff5ff6dc229c3f3daa2f98f98adc7482b05d825", func := "epact/epactlaw23.CdsFloors", spec := "cdsFloors", inPlace := ["math/bits.Sub64", "math/bits.Add64"], named := ["math/bits.divideError", "math/bits.overflowError"], apart := false, narrowed := true }
def CdsFloorsUptoSaid : Prop := cdsFloorsUptoRow.holds Try.pinned (OpenSpec.upto cdsFloorsSpec)

/-- 'epactlaw23.CdsSame', WHERE WHAT IT READS IS OF BULK AT MOST 1048576: true; the input reads as it did. -/
def cdsSameUptoRow : OpenClaim := { program := "ytnjipdicfbkfdaa", sum := "23ab9d02d5ecb90a73bf5d648ff5ff6dc229c3f3daa2f98f98adc7482b05d825", func := "epact/epactlaw23.CdsSame", spec := "cdsSame", inPlace := ["math/bits.Sub64", "math/bits.Add64"], named := ["math/bits.divideError", "math/bits.overflowError"], apart := false, narrowed := true }
def CdsSameUptoSaid : Prop := cdsSameUptoRow.holds Try.pinned (OpenSpec.upto cdsSameSpec)

/-- 'epactlaw20.NtpEncodes', WHERE WHAT IT READS IS OF BULK AT MOST 1048576: true; the input reads as it did. -/
def ntpEncodesUptoRow : OpenClaim := { program := "ytnjipdicfbkfdaa", sum := "23ab9d02d5ecb90a73bf5d648ff5ff6dc229c3f3daa2f98f98adc7482b05d825", func := "epact/epactlaw20.NtpEncodes", spec := "ntpEncodes", inPlace := ["math/bits.Sub64", "math/bits.Add64"], named := ["math/bits.divideError", "math/bits.overflowError"], apart := false, narrowed := true }
def NtpEncodesUptoSaid : Prop := ntpEncodesUptoRow.holds Try.pinned (OpenSpec.upto ntpEncodesSpec)

/-- 'epactlaw20.NtpDecodes', WHERE WHAT IT READS IS OF BULK AT MOST 1048576: true; the input reads as it did. -/
def ntpDecodesUptoRow : OpenClaim := { program := "ytnjipdicfbkfdaa", sum := "23ab9d02d5ecb90a73bf5d648ff5ff6dc229c3f3daa2f98f98adc7482b05d825", func := "epact/epactlaw20.NtpDecodes", spec := "ntpDecodes", inPlace := ["math/bits.Sub64", "math/bits.Add64"], named := ["math/bits.divideError", "math/bits.overflowError"], apart := false, narrowed := true }
def NtpDecodesUptoSaid : Prop := ntpDecodesUptoRow.holds Try.pinned (OpenSpec.upto ntpDecodesSpec)

/-- 'epactlaw20.NtpFloors', WHERE WHAT IT READS IS OF BULK AT MOST 1048576: true; the input reads as it did. -/
def ntpFloorsUptoRow : OpenClaim := { program := "ytnjipdicfbkfdaa", sum := "23ab9d02d5ecb90a73bf5d648ff5ff6dc229c3f3daa2f98f98adc7482b05d825", func := "epact/epactlaw20.NtpFloors", spec := "ntpFloors", inPlace := ["math/bits.Sub64", "math/bits.Add64"], named := ["math/bits.divideError", "math/bits.overflowError"], apart := false, narrowed := true }
def NtpFloorsUptoSaid : Prop := ntpFloorsUptoRow.holds Try.pinned (OpenSpec.upto ntpFloorsSpec)

/-- 'epactlaw20.NtpSame', WHERE WHAT IT READS IS OF BULK AT MOST 1048576: true; the input reads as it did. -/
def ntpSameUptoRow : OpenClaim := { program := "ytnjipdicfbkfdaa", sum := "23ab9d02d5ecb90a73bf5d648ff5ff6dc229c3f3daa2f98f98adc7482b05d825", func := "epact/epactlaw20.NtpSame", spec := "ntpSame", inPlace := ["math/bits.Sub64", "math/bits.Add64"], named := ["math/bits.divideError", "math/bits.overflowError"], apart := false, narrowed := true }
def NtpSameUptoSaid : Prop := ntpSameUptoRow.holds Try.pinned (OpenSpec.upto ntpSameSpec)

/-- 'epactlaw22.CucEncodes', WHERE WHAT IT READS IS OF BULK AT MOST 1048576: true; the input reads as it did. -/
def cucEncodesUptoRow : OpenClaim := { program := "ytnjipdicfbkfdaa", sum := "23ab9d02d5ecb90a73bf5d648ff5ff6dc229c3f3daa2f98f98adc7482b05d825", func := "epact/epactlaw22.CucEncodes", spec := "cucEncodes", inPlace := ["math/bits.Sub64", "math/bits.Add64"], named := ["math/bits.divideError", "math/bits.overflowError"], apart := false, narrowed := true }
def CucEncodesUptoSaid : Prop := cucEncodesUptoRow.holds Try.pinned (OpenSpec.upto cucEncodesSpec)

/-- 'epactlaw22.CucDecodes', WHERE WHAT IT READS IS OF BULK AT MOST 1048576: true; the input reads as it did. -/
def cucDecodesUptoRow : OpenClaim := { program := "ytnjipdicfbkfdaa", sum := "23ab9d02d5ecb90a73bf5d648ff5ff6dc229c3f3daa2f98f98adc7482b05d825", func := "epact/epactlaw22.CucDecodes", spec := "cucDecodes", inPlace := ["math/bits.Sub64", "math/bits.Add64"], named := ["math/bits.divideError", "math/bits.overflowError"], apart := false, narrowed := true }
def CucDecodesUptoSaid : Prop := cucDecodesUptoRow.holds Try.pinned (OpenSpec.upto cucDecodesSpec)

/-- 'epactlaw22.CucFloors', WHERE WHAT IT READS IS OF BULK AT MOST 1048576: true; the input reads as it did. -/
def cucFloorsUptoRow : OpenClaim := { program := "ytnjipdicfbkfdaa", sum := "23ab9d02d5ecb90a73bf5d648ff5ff6dc229c3f3daa2f98f98adc7482b05d825", func := "epact/epactlaw22.CucFloors", spec := "cucFloors", inPlace := ["math/bits.Sub64", "math/bits.Add64"], named := ["math/bits.divideError", "math/bits.overflowError"], apart := false, narrowed := true }
def CucFloorsUptoSaid : Prop := cucFloorsUptoRow.holds Try.pinned (OpenSpec.upto cucFloorsSpec)

/-- 'epactlaw22.CucSame', WHERE WHAT IT READS IS OF BULK AT MOST 1048576: true; the input reads as it did. -/
def cucSameUptoRow : OpenClaim := { program := "ytnjipdicfbkfdaa", sum := "23ab9d02d5ecb90a73bf5d648ff5ff6dc229c3f3daa2f98f98adc7482b05d825", func := "epact/epactlaw22.CucSame", spec := "cucSame", inPlace := ["math/bits.Sub64", "math/bits.Add64"], named := ["math/bits.divideError", "math/bits.overflowError"], apart := false, narrowed := true }
def CucSameUptoSaid : Prop := cucSameUptoRow.holds Try.pinned (OpenSpec.upto cucSameSpec)

end Rows
end Go.Proofs.Ytnjipdicfbkfdaa

/-
  No cell of these rows narrows 'for every input' (looked for: loops, veiled, ifaces, maps, wideKeys, modest, calm, conditions, laid).
  DERIVED. THE GIVEN ROWS OF THIS SEAT. 19 by the template 'for every input the law returns true; each argument reads behind the call as it read before'; 0 by the template 'total and deterministic' (their statements: YtanolecbepjkcaaTotals.lean).
  GIVEN WITH THE SEED: the statements are not yours to turn. If you find one false, say at which input.
  Laid BY PROGRAM, IN A SANDBOX (cutbox-rows.mjs): the forced cells as the released guide's own fill.sh prints them over the translation 5c1814e43ff43ff6… (all of the seat's roots in one cut). By AI agents, Wed Nov 11 2026. No macro, syntax, notation, axiom, sorry.
-/
import Derived.Test.YtanolecbepjkcaaChecked
import GoSem.Claim
import GoSem.ClaimJoined
import GoSem.ClaimMapViews
import Derived.JoinedTies
import Derived.KernelRfl
namespace Go.Proofs.Ytanolecbepjkcaa
/- THE CELL 'sum', in the pinned program and in every row, IS THE sha256 OF THE DUMP (.gsa) THAT YtanolecbepjkcaaProg.lean LOADS. Nothing in Lean hashes anything: it is a label: what it is worth is what the hold of that sum in a sandbox is worth. -/
noncomputable def Try.pinned : Pinned := { name := "ytanolecbepjkcaa", sum := "5c1814e43ff43ff62d911d184a4b3722add6de11baaf93b9a75e76af743e9c3c", checked := Try.checked }
namespace Rows
def none {H : Type} : Left H := { results := [], args := [] }

/-- 'epactlaw03.RatioMakes': WHATEVER THE INPUT: true; the input reads as it did. -/
def ratioMakesSpec : ChangeSpec := { name := "ratioMakes", fn := fun _ => fun
  | [d1, d2] => { results := [.lit (.bool true)], args := [d1, d2] }
  | _ => none }
def ratioMakesRow : OpenClaim := { program := "ytanolecbepjkcaa", sum := "5c1814e43ff43ff62d911d184a4b3722add6de11baaf93b9a75e76af743e9c3c", func := "epact/epactlaw03.RatioMakes", spec := "ratioMakes", inPlace := ["math/bits.Sub64", "math/bits.Add64"], named := ["math/bits.divideError", "math/bits.overflowError"], apart := false }
def RatioMakesSaid : Prop := ratioMakesRow.holds Try.pinned (OpenSpec.ofChange ratioMakesSpec)

/-- ITS FALSE NEIGHBOUR: 'it returns false'. Refute it at one input. -/
def ratioMakesWrong : ChangeSpec := { name := "ratioMakes", fn := fun _ => fun
  | [d1, d2] => { results := [.lit (.bool false)], args := [d1, d2] }
  | _ => none }
def RatioMakesWrongFalsely : Prop := ratioMakesRow.holds Try.pinned (OpenSpec.ofChange ratioMakesWrong)

/-- 'epactlaw03.RatioWhole': WHATEVER THE INPUT: true; the input reads as it did. -/
def ratioWholeSpec : ChangeSpec := { name := "ratioWhole", fn := fun _ => fun
  | [d] => { results := [.lit (.bool true)], args := [d] }
  | _ => none }
def ratioWholeRow : OpenClaim := { program := "ytanolecbepjkcaa", sum := "5c1814e43ff43ff62d911d184a4b3722add6de11baaf93b9a75e76af743e9c3c", func := "epact/epactlaw03.RatioWhole", spec := "ratioWhole", inPlace := ["math/bits.Sub64", "math/bits.Add64"], named := ["math/bits.divideError", "math/bits.overflowError"], apart := false }
def RatioWholeSaid : Prop := ratioWholeRow.holds Try.pinned (OpenSpec.ofChange ratioWholeSpec)

/-- ITS FALSE NEIGHBOUR: 'it returns false'. Refute it at one input. -/
def ratioWholeWrong : ChangeSpec := { name := "ratioWhole", fn := fun _ => fun
  | [d] => { results := [.lit (.bool false)], args := [d] }
  | _ => none }
def RatioWholeWrongFalsely : Prop := ratioWholeRow.holds Try.pinned (OpenSpec.ofChange ratioWholeWrong)

/-- 'epactlaw03.RatioCmps': WHATEVER THE INPUT: true; the input reads as it did. -/
def ratioCmpsSpec : ChangeSpec := { name := "ratioCmps", fn := fun _ => fun
  | [d1, d2] => { results := [.lit (.bool true)], args := [d1, d2] }
  | _ => none }
def ratioCmpsRow : OpenClaim := { program := "ytanolecbepjkcaa", sum := "5c1814e43ff43ff62d911d184a4b3722add6de11baaf93b9a75e76af743e9c3c", func := "epact/epactlaw03.RatioCmps", spec := "ratioCmps", inPlace := ["math/bits.Sub64", "math/bits.Add64"], named := ["math/bits.divideError", "math/bits.overflowError"], apart := false }
def RatioCmpsSaid : Prop := ratioCmpsRow.holds Try.pinned (OpenSpec.ofChange ratioCmpsSpec)

/-- ITS FALSE NEIGHBOUR: 'it returns false'. Refute it at one input. -/
def ratioCmpsWrong : ChangeSpec := { name := "ratioCmps", fn := fun _ => fun
  | [d1, d2] => { results := [.lit (.bool false)], args := [d1, d2] }
  | _ => none }
def RatioCmpsWrongFalsely : Prop := ratioCmpsRow.holds Try.pinned (OpenSpec.ofChange ratioCmpsWrong)

/-- 'epactlaw07.DayJoins': WHATEVER THE INPUT: true; the input reads as it did. -/
def dayJoinsSpec : ChangeSpec := { name := "dayJoins", fn := fun _ => fun
  | [d] => { results := [.lit (.bool true)], args := [d] }
  | _ => none }
def dayJoinsRow : OpenClaim := { program := "ytanolecbepjkcaa", sum := "5c1814e43ff43ff62d911d184a4b3722add6de11baaf93b9a75e76af743e9c3c", func := "epact/epactlaw07.DayJoins", spec := "dayJoins", inPlace := ["math/bits.Sub64", "math/bits.Add64"], named := ["math/bits.divideError", "math/bits.overflowError"], apart := false }
def DayJoinsSaid : Prop := dayJoinsRow.holds Try.pinned (OpenSpec.ofChange dayJoinsSpec)

/-- ITS FALSE NEIGHBOUR: 'it returns false'. Refute it at one input. -/
def dayJoinsWrong : ChangeSpec := { name := "dayJoins", fn := fun _ => fun
  | [d] => { results := [.lit (.bool false)], args := [d] }
  | _ => none }
def DayJoinsWrongFalsely : Prop := dayJoinsRow.holds Try.pinned (OpenSpec.ofChange dayJoinsWrong)

/-- 'epactlaw07.DaySplits': WHATEVER THE INPUT: true; the input reads as it did. -/
def daySplitsSpec : ChangeSpec := { name := "daySplits", fn := fun _ => fun
  | [d] => { results := [.lit (.bool true)], args := [d] }
  | _ => none }
def daySplitsRow : OpenClaim := { program := "ytanolecbepjkcaa", sum := "5c1814e43ff43ff62d911d184a4b3722add6de11baaf93b9a75e76af743e9c3c", func := "epact/epactlaw07.DaySplits", spec := "daySplits", inPlace := ["math/bits.Sub64", "math/bits.Add64"], named := ["math/bits.divideError", "math/bits.overflowError"], apart := false }
def DaySplitsSaid : Prop := daySplitsRow.holds Try.pinned (OpenSpec.ofChange daySplitsSpec)

/-- ITS FALSE NEIGHBOUR: 'it returns false'. Refute it at one input. -/
def daySplitsWrong : ChangeSpec := { name := "daySplits", fn := fun _ => fun
  | [d] => { results := [.lit (.bool false)], args := [d] }
  | _ => none }
def DaySplitsWrongFalsely : Prop := daySplitsRow.holds Try.pinned (OpenSpec.ofChange daySplitsWrong)

/-- 'epactlaw03.RatioAdds': WHATEVER THE INPUT: true; the input reads as it did. -/
def ratioAddsSpec : ChangeSpec := { name := "ratioAdds", fn := fun _ => fun
  | [d1, d2] => { results := [.lit (.bool true)], args := [d1, d2] }
  | _ => none }
def ratioAddsRow : OpenClaim := { program := "ytanolecbepjkcaa", sum := "5c1814e43ff43ff62d911d184a4b3722add6de11baaf93b9a75e76af743e9c3c", func := "epact/epactlaw03.RatioAdds", spec := "ratioAdds", inPlace := ["math/bits.Sub64", "math/bits.Add64"], named := ["math/bits.divideError", "math/bits.overflowError"], apart := false }
def RatioAddsSaid : Prop := ratioAddsRow.holds Try.pinned (OpenSpec.ofChange ratioAddsSpec)

/-- ITS FALSE NEIGHBOUR: 'it returns false'. Refute it at one input. -/
def ratioAddsWrong : ChangeSpec := { name := "ratioAdds", fn := fun _ => fun
  | [d1, d2] => { results := [.lit (.bool false)], args := [d1, d2] }
  | _ => none }
def RatioAddsWrongFalsely : Prop := ratioAddsRow.holds Try.pinned (OpenSpec.ofChange ratioAddsWrong)

/-- 'epactlaw07.DayJulian': WHATEVER THE INPUT: true; the input reads as it did. -/
def dayJulianSpec : ChangeSpec := { name := "dayJulian", fn := fun _ => fun
  | [d] => { results := [.lit (.bool true)], args := [d] }
  | _ => none }
def dayJulianRow : OpenClaim := { program := "ytanolecbepjkcaa", sum := "5c1814e43ff43ff62d911d184a4b3722add6de11baaf93b9a75e76af743e9c3c", func := "epact/epactlaw07.DayJulian", spec := "dayJulian", inPlace := ["math/bits.Sub64", "math/bits.Add64"], named := ["math/bits.divideError", "math/bits.overflowError"], apart := false }
def DayJulianSaid : Prop := dayJulianRow.holds Try.pinned (OpenSpec.ofChange dayJulianSpec)

/-- ITS FALSE NEIGHBOUR: 'it returns false'. Refute it at one input. -/
def dayJulianWrong : ChangeSpec := { name := "dayJulian", fn := fun _ => fun
  | [d] => { results := [.lit (.bool false)], args := [d] }
  | _ => none }
def DayJulianWrongFalsely : Prop := dayJulianRow.holds Try.pinned (OpenSpec.ofChange dayJulianWrong)

/-- 'epactlaw07.DayCivil': WHATEVER THE INPUT: true; the input reads as it did. -/
def dayCivilSpec : ChangeSpec := { name := "dayCivil", fn := fun _ => fun
  | [d] => { results := [.lit (.bool true)], args := [d] }
  | _ => none }
def dayCivilRow : OpenClaim := { program := "ytanolecbepjkcaa", sum := "5c1814e43ff43ff62d911d184a4b3722add6de11baaf93b9a75e76af743e9c3c", func := "epact/epactlaw07.DayCivil", spec := "dayCivil", inPlace := ["math/bits.Sub64", "math/bits.Add64"], named := ["math/bits.divideError", "math/bits.overflowError"], apart := false }
def DayCivilSaid : Prop := dayCivilRow.holds Try.pinned (OpenSpec.ofChange dayCivilSpec)

/-- ITS FALSE NEIGHBOUR: 'it returns false'. Refute it at one input. -/
def dayCivilWrong : ChangeSpec := { name := "dayCivil", fn := fun _ => fun
  | [d] => { results := [.lit (.bool false)], args := [d] }
  | _ => none }
def DayCivilWrongFalsely : Prop := dayCivilRow.holds Try.pinned (OpenSpec.ofChange dayCivilWrong)

/-- 'epactlaw19.FracEncodes': WHATEVER THE INPUT: true; the input reads as it did. -/
def fracEncodesSpec : ChangeSpec := { name := "fracEncodes", fn := fun _ => fun
  | [d1, d2] => { results := [.lit (.bool true)], args := [d1, d2] }
  | _ => none }
def fracEncodesRow : OpenClaim := { program := "ytanolecbepjkcaa", sum := "5c1814e43ff43ff62d911d184a4b3722add6de11baaf93b9a75e76af743e9c3c", func := "epact/epactlaw19.FracEncodes", spec := "fracEncodes", inPlace := ["math/bits.Sub64", "math/bits.Add64"], named := ["math/bits.divideError", "math/bits.overflowError"], apart := false }
def FracEncodesSaid : Prop := fracEncodesRow.holds Try.pinned (OpenSpec.ofChange fracEncodesSpec)

/-- ITS FALSE NEIGHBOUR: 'it returns false'. Refute it at one input. -/
def fracEncodesWrong : ChangeSpec := { name := "fracEncodes", fn := fun _ => fun
  | [d1, d2] => { results := [.lit (.bool false)], args := [d1, d2] }
  | _ => none }
def FracEncodesWrongFalsely : Prop := fracEncodesRow.holds Try.pinned (OpenSpec.ofChange fracEncodesWrong)

/-- 'epactlaw19.FracDecodes': WHATEVER THE INPUT: true; the input reads as it did. -/
def fracDecodesSpec : ChangeSpec := { name := "fracDecodes", fn := fun _ => fun
  | [d1, d2] => { results := [.lit (.bool true)], args := [d1, d2] }
  | _ => none }
def fracDecodesRow : OpenClaim := { program := "ytanolecbepjkcaa", sum := "5c1814e43ff43ff62d911d184a4b3722add6de11baaf93b9a75e76af743e9c3c", func := "epact/epactlaw19.FracDecodes", spec := "fracDecodes", inPlace := ["math/bits.Sub64", "math/bits.Add64"], named := ["math/bits.divideError", "math/bits.overflowError"], apart := false }
def FracDecodesSaid : Prop := fracDecodesRow.holds Try.pinned (OpenSpec.ofChange fracDecodesSpec)

/-- ITS FALSE NEIGHBOUR: 'it returns false'. Refute it at one input. -/
def fracDecodesWrong : ChangeSpec := { name := "fracDecodes", fn := fun _ => fun
  | [d1, d2] => { results := [.lit (.bool false)], args := [d1, d2] }
  | _ => none }
def FracDecodesWrongFalsely : Prop := fracDecodesRow.holds Try.pinned (OpenSpec.ofChange fracDecodesWrong)

/-- 'epactlaw19.FracFloors': WHATEVER THE INPUT: true; the input reads as it did. -/
def fracFloorsSpec : ChangeSpec := { name := "fracFloors", fn := fun _ => fun
  | [d1, d2, d3] => { results := [.lit (.bool true)], args := [d1, d2, d3] }
  | _ => none }
def fracFloorsRow : OpenClaim := { program := "ytanolecbepjkcaa", sum := "5c1814e43ff43ff62d911d184a4b3722add6de11baaf93b9a75e76af743e9c3c", func := "epact/epactlaw19.FracFloors", spec := "fracFloors", inPlace := ["math/bits.Sub64", "math/bits.Add64"], named := ["math/bits.divideError", "math/bits.overflowError"], apart := false }
def FracFloorsSaid : Prop := fracFloorsRow.holds Try.pinned (OpenSpec.ofChange fracFloorsSpec)

/-- ITS FALSE NEIGHBOUR: 'it returns false'. Refute it at one input. -/
def fracFloorsWrong : ChangeSpec := { name := "fracFloors", fn := fun _ => fun
  | [d1, d2, d3] => { results := [.lit (.bool false)], args := [d1, d2, d3] }
  | _ => none }
def FracFloorsWrongFalsely : Prop := fracFloorsRow.holds Try.pinned (OpenSpec.ofChange fracFloorsWrong)

/-- 'epactlaw19.FracPuts': WHATEVER THE INPUT: true; the input reads as it did. -/
def fracPutsSpec : ChangeSpec := { name := "fracPuts", fn := fun _ => fun
  | [d1, d2] => { results := [.lit (.bool true)], args := [d1, d2] }
  | _ => none }
def fracPutsRow : OpenClaim := { program := "ytanolecbepjkcaa", sum := "5c1814e43ff43ff62d911d184a4b3722add6de11baaf93b9a75e76af743e9c3c", func := "epact/epactlaw19.FracPuts", spec := "fracPuts", inPlace := ["math/bits.Sub64", "math/bits.Add64"], named := ["math/bits.divideError", "math/bits.overflowError"], apart := false }
def FracPutsSaid : Prop := fracPutsRow.holds Try.pinned (OpenSpec.ofChange fracPutsSpec)

/-- ITS FALSE NEIGHBOUR: 'it returns false'. Refute it at one input. -/
def fracPutsWrong : ChangeSpec := { name := "fracPuts", fn := fun _ => fun
  | [d1, d2] => { results := [.lit (.bool false)], args := [d1, d2] }
  | _ => none }
def FracPutsWrongFalsely : Prop := fracPutsRow.holds Try.pinned (OpenSpec.ofChange fracPutsWrong)

/-- 'epactlaw19.FracGets': WHATEVER THE INPUT: true; the input reads as it did. -/
def fracGetsSpec : ChangeSpec := { name := "fracGets", fn := fun _ => fun
  | [d] => { results := [.lit (.bool true)], args := [d] }
  | _ => none }
def fracGetsRow : OpenClaim := { program := "ytanolecbepjkcaa", sum := "5c1814e43ff43ff62d911d184a4b3722add6de11baaf93b9a75e76af743e9c3c", func := "epact/epactlaw19.FracGets", spec := "fracGets", inPlace := ["math/bits.Sub64", "math/bits.Add64"], named := ["math/bits.divideError", "math/bits.overflowError"], apart := false }
def FracGetsSaid : Prop := fracGetsRow.holds Try.pinned (OpenSpec.ofChange fracGetsSpec)

/-- ITS FALSE NEIGHBOUR: 'it returns false'. Refute it at one input. -/
def fracGetsWrong : ChangeSpec := { name := "fracGets", fn := fun _ => fun
  | [d] => { results := [.lit (.bool false)], args := [d] }
  | _ => none }
def FracGetsWrongFalsely : Prop := fracGetsRow.holds Try.pinned (OpenSpec.ofChange fracGetsWrong)

/-- 'epactlaw16.ScaleTo': WHATEVER THE INPUT: true; the input reads as it did. -/
def scaleToSpec : ChangeSpec := { name := "scaleTo", fn := fun _ => fun
  | [d1, d2] => { results := [.lit (.bool true)], args := [d1, d2] }
  | _ => none }
def scaleToRow : OpenClaim := { program := "ytanolecbepjkcaa", sum := "5c1814e43ff43ff62d911d184a4b3722add6de11baaf93b9a75e76af743e9c3c", func := "epact/epactlaw16.ScaleTo", spec := "scaleTo", inPlace := ["math/bits.Sub64", "math/bits.Add64"], named := ["math/bits.divideError", "math/bits.overflowError"], apart := false }
def ScaleToSaid : Prop := scaleToRow.holds Try.pinned (OpenSpec.ofChange scaleToSpec)

/-- ITS FALSE NEIGHBOUR: 'it returns false'. Refute it at one input. -/
def scaleToWrong : ChangeSpec := { name := "scaleTo", fn := fun _ => fun
  | [d1, d2] => { results := [.lit (.bool false)], args := [d1, d2] }
  | _ => none }
def ScaleToWrongFalsely : Prop := scaleToRow.holds Try.pinned (OpenSpec.ofChange scaleToWrong)

/-- 'epactlaw16.ScaleFrom': WHATEVER THE INPUT: true; the input reads as it did. -/
def scaleFromSpec : ChangeSpec := { name := "scaleFrom", fn := fun _ => fun
  | [d1, d2] => { results := [.lit (.bool true)], args := [d1, d2] }
  | _ => none }
def scaleFromRow : OpenClaim := { program := "ytanolecbepjkcaa", sum := "5c1814e43ff43ff62d911d184a4b3722add6de11baaf93b9a75e76af743e9c3c", func := "epact/epactlaw16.ScaleFrom", spec := "scaleFrom", inPlace := ["math/bits.Sub64", "math/bits.Add64"], named := ["math/bits.divideError", "math/bits.overflowError"], apart := false }
def ScaleFromSaid : Prop := scaleFromRow.holds Try.pinned (OpenSpec.ofChange scaleFromSpec)

/-- ITS FALSE NEIGHBOUR: 'it returns false'. Refute it at one input. -/
def scaleFromWrong : ChangeSpec := { name := "scaleFrom", fn := fun _ => fun
  | [d1, d2] => { results := [.lit (.bool false)], args := [d1, d2] }
  | _ => none }
def ScaleFromWrongFalsely : Prop := scaleFromRow.holds Try.pinned (OpenSpec.ofChange scaleFromWrong)

/-- 'epactlaw16.ScaleBack': WHATEVER THE INPUT: true; the input reads as it did. -/
def scaleBackSpec : ChangeSpec := { name := "scaleBack", fn := fun _ => fun
  | [d1, d2] => { results := [.lit (.bool true)], args := [d1, d2] }
  | _ => none }
def scaleBackRow : OpenClaim := { program := "ytanolecbepjkcaa", sum := "5c1814e43ff43ff62d911d184a4b3722add6de11baaf93b9a75e76af743e9c3c", func := "epact/epactlaw16.ScaleBack", spec := "scaleBack", inPlace := ["math/bits.Sub64", "math/bits.Add64"], named := ["math/bits.divideError", "math/bits.overflowError"], apart := false }
def ScaleBackSaid : Prop := scaleBackRow.holds Try.pinned (OpenSpec.ofChange scaleBackSpec)

/-- ITS FALSE NEIGHBOUR: 'it returns false'. Refute it at one input. -/
def scaleBackWrong : ChangeSpec := { name := "scaleBack", fn := fun _ => fun
  | [d1, d2] => { results := [.lit (.bool false)], args := [d1, d2] }
  | _ => none }
def ScaleBackWrongFalsely : Prop := scaleBackRow.holds Try.pinned (OpenSpec.ofChange scaleBackWrong)

/-- 'epactlaw24.PtpEncodes': WHATEVER THE INPUT: true; the input reads as it did. -/
def ptpEncodesSpec : ChangeSpec := { name := "ptpEncodes", fn := fun _ => fun
  | [d] => { results := [.lit (.bool true)], args := [d] }
  | _ => none }
def ptpEncodesRow : OpenClaim := { program := "ytanolecbepjkcaa", sum := "5c1814e43ff43ff62d911d184a4b3722add6de11baaf93b9a75e76af743e9c3c", func := "epact/epactlaw24.PtpEncodes", spec := "ptpEncodes", inPlace := ["math/bits.Sub64", "math/bits.Add64"], named := ["math/bits.divideError", "math/bits.overflowError"], apart := false }
def PtpEncodesSaid : Prop := ptpEncodesRow.holds Try.pinned (OpenSpec.ofChange ptpEncodesSpec)

/-- ITS FALSE NEIGHBOUR: 'it returns false'. Refute it at one input. -/
def ptpEncodesWrong : ChangeSpec := { name := "ptpEncodes", fn := fun _ => fun
  | [d] => { results := [.lit (.bool false)], args := [d] }
  | _ => none }
def PtpEncodesWrongFalsely : Prop := ptpEncodesRow.holds Try.pinned (OpenSpec.ofChange ptpEncodesWrong)

/-- 'epactlaw24.PtpDecodes': WHATEVER THE INPUT: true; the input reads as it did. -/
def ptpDecodesSpec : ChangeSpec := { name := "ptpDecodes", fn := fun _ => fun
  | [d] => { results := [.lit (.bool true)], args := [d] }
  | _ => none }
def ptpDecodesRow : OpenClaim := { program := "ytanolecbepjkcaa", sum := "5c1814e43ff43ff62d911d184a4b3722add6de11baaf93b9a75e76af743e9c3c", func := "epact/epactlaw24.PtpDecodes", spec := "ptpDecodes", inPlace := ["math/bits.Sub64", "math/bits.Add64"], named := ["math/bits.divideError", "math/bits.overflowError"], apart := false }
def PtpDecodesSaid : Prop := ptpDecodesRow.holds Try.pinned (OpenSpec.ofChange ptpDecodesSpec)

/-- ITS FALSE NEIGHBOUR: 'it returns false'. Refute it at one input. -/
def ptpDecodesWrong : ChangeSpec := { name := "ptpDecodes", fn := fun _ => fun
  | [d] => { results := [.lit (.bool false)], args := [d] }
  | _ => none }
def PtpDecodesWrongFalsely : Prop := ptpDecodesRow.holds Try.pinned (OpenSpec.ofChange ptpDecodesWrong)

/-- 'epactlaw24.PtpFloors': WHATEVER THE INPUT: true; the input reads as it did. -/
def ptpFloorsSpec : ChangeSpec := { name := "ptpFloors", fn := fun _ => fun
  | [d] => { results := [.lit (.bool true)], args := [d] }
  | _ => none }
def ptpFloorsRow : OpenClaim := { program := "ytanolecbepjkcaa", sum := "5c1814e43ff43ff62d911d184a4b3722add6de11baaf93b9a75e76af743e9c3c", func := "epact/epactlaw24.PtpFloors", spec := "ptpFloors", inPlace := ["math/bits.Sub64", "math/bits.Add64"], named := ["math/bits.divideError", "math/bits.overflowError"], apart := false }
def PtpFloorsSaid : Prop := ptpFloorsRow.holds Try.pinned (OpenSpec.ofChange ptpFloorsSpec)

/-- ITS FALSE NEIGHBOUR: 'it returns false'. Refute it at one input. -/
def ptpFloorsWrong : ChangeSpec := { name := "ptpFloors", fn := fun _ => fun
  | [d] => { results := [.lit (.bool false)], args := [d] }
  | _ => none }
def PtpFloorsWrongFalsely : Prop := ptpFloorsRow.holds Try.pinned (OpenSpec.ofChange ptpFloorsWrong)

/- THE SECOND FORM. 'bulk': how many values and letters a reading holds, each counted each time it is reached (what is shared counts as often as it is met; a slice's spare places count too). A statement '..UptoSaid' is the law's where the arguments, and the package variables that the reading takes, are together of bulk at most 1048576: NARROWER than '..Said'. Prove '..Said' where nothing that the law and all that it calls make is longer than what came in: it says more and counts as full. Else prove '..UptoSaid'. A law counts once. -/
mutual
def uptoBulk {H : Type} : DataW H → Nat
  | .lit (.string bytes) => bytes.length + 1
  | .lit _ => 1
  | .nil => 1
  | .ptr d => uptoBulk d + 1
  | .slice elems spare => uptoBulkAll elems + uptoBulkAll spare + 1
  | .agg parts => uptoBulkAll parts + 1
  | .iface _ d => uptoBulk d + 1
  | .map entries => uptoBulkEntries entries + 1
  | .held _ => 1
def uptoBulkAll {H : Type} : List (DataW H) → Nat
  | [] => 0
  | d :: r => uptoBulk d + uptoBulkAll r
def uptoBulkEntries {H : Type} : List (Lit × DataW H) → Nat
  | [] => 0
  | x :: r => uptoBulkEntry x + uptoBulkEntries r
def uptoBulkEntry {H : Type} : Lit × DataW H → Nat
  | (.string bytes, d) => bytes.length + uptoBulk d + 1
  | (_, d) => uptoBulk d + 1
 end
def uptoSmall : (H : Type) → List (DataW H) → Bool := fun _ ds => decide (uptoBulkAll ds ≤ 1048576)
def OpenSpec.upto (s : _root_.Go.ChangeSpec) : _root_.Go.OpenSpec := { _root_.Go.OpenSpec.ofChange s with cond := some uptoSmall }

/-- 'epactlaw03.RatioMakes', WHERE WHAT IT READS IS OF BULK AT MOST 1048576: true; the input reads as it did. -/
def ratioMakesUptoRow : OpenClaim := { program := "ytanolecbepjkcaa", sum := "5c1814e43ff43ff62d911d184a4b3722add6de11baaf93b9a75e76af743e9c3c", func := "epact/epactlaw03.RatioMakes", spec := "ratioMakes", inPlace := ["math/bits.Sub64", "math/bits.Add64"], named := ["math/bits.divideError", "math/bits.overflowError"], apart := false, narrowed := true }
def RatioMakesUptoSaid : Prop := ratioMakesUptoRow.holds Try.pinned (OpenSpec.upto ratioMakesSpec)

/-- 'epactlaw03.RatioWhole', WHERE WHAT IT READS IS OF BULK AT MOST 1048576: true; the input reads as it did. -/
def ratioWholeUptoRow : OpenClaim := { program := "ytanolecbepjkcaa", sum := "5c1814e43ff43ff62d911d184a4b3722add6de11baaf93b9a75e76af743e9c3c", func := "epact/epactlaw03.RatioWhole", spec := "ratioWhole", inPlace := ["math/bits.Sub64", "math/bits.Add64"], named := ["math/bits.divideError", "math/bits.overflowError"], apart := false, narrowed := true }
def RatioWholeUptoSaid : Prop := ratioWholeUptoRow.holds Try.pinned (OpenSpec.upto ratioWholeSpec)

/-- 'epactlaw03.RatioCmps', WHERE WHAT IT READS IS OF BULK AT MOST 1048576: true; the input reads as it did. -/
def ratioCmpsUptoRow : OpenClaim := { program := "ytanolecbepjkcaa", sum := "5c1814e43ff43ff62d911d184a4b3722add6de11baaf93b9a75e76af743e9c3c", func := "epact/epactlaw03.RatioCmps", spec := "ratioCmps", inPlace := ["math/bits.Sub64", "math/bits.Add64"], named := ["math/bits.divideError", "math/bits.overflowError"], apart := false, narrowed := true }
def RatioCmpsUptoSaid : Prop := ratioCmpsUptoRow.holds Try.pinned (OpenSpec.upto ratioCmpsSpec)

/-- 'epactlaw07.DayJoins', WHERE WHAT IT READS IS OF BULK AT MOST 1048576: true; the input reads as it did. -/
def dayJoinsUptoRow : OpenClaim := { program := "ytanolecbepjkcaa", sum := "5c1814e43ff43ff62d911d184a4b3722add6de11baaf93b9a75e76af743e9c3c", func := "epact/epactlaw07.DayJoins", spec := "dayJoins", inPlace := ["math/bits.Sub64", "math/bits.Add64"], named := ["math/bits.divideError", "math/bits.overflowError"], apart := false, narrowed := true }
def DayJoinsUptoSaid : Prop := dayJoinsUptoRow.holds Try.pinned (OpenSpec.upto dayJoinsSpec)

/-- 'epactlaw07.DaySplits', WHERE WHAT IT READS IS OF BULK AT MOST 1048576: true; the input reads as it did. -/
def daySplitsUptoRow : OpenClaim := { program := "ytanolecbepjkcaa", sum := "5c1814e43ff43ff62d911d184a4b3722add6de11baaf93b9a75e76af743e9c3c", func := "epact/epactlaw07.DaySplits", spec := "daySplits", inPlace := ["math/bits.Sub64", "math/bits.Add64"], named := ["math/bits.divideError", "math/bits.overflowError"], apart := false, narrowed := true }
def DaySplitsUptoSaid : Prop := daySplitsUptoRow.holds Try.pinned (OpenSpec.upto daySplitsSpec)

/-- 'epactlaw03.RatioAdds', WHERE WHAT IT READS IS OF BULK AT MOST 1048576: true; the input reads as it did. -/
def ratioAddsUptoRow : OpenClaim := { program := "ytanolecbepjkcaa", sum := "5c1814e43ff43ff62d911d184a4b3722add6de11baaf93b9a75e76af743e9c3c", func := "epact/epactlaw03.RatioAdds", spec := "ratioAdds", inPlace := ["math/bits.Sub64", "math/bits.Add64"], named := ["math/bits.divideError", "math/bits.overflowError"], apart := false, narrowed := true }
def RatioAddsUptoSaid : Prop := ratioAddsUptoRow.holds Try.pinned (OpenSpec.upto ratioAddsSpec)

/-- 'epactlaw07.DayJulian', WHERE WHAT IT READS IS OF BULK AT MOST 1048576: true; the input reads as it did. -/
def dayJulianUptoRow : OpenClaim := { program := "ytanolecbepjkcaa", sum := "5c1814e43ff43ff62d911d184a4b3722add6de11baaf93b9a75e76af743e9c3c", func := "epact/epactlaw07.DayJulian", spec := "dayJulian", inPlace := ["math/bits.Sub64", "math/bits.Add64"], named := ["math/bits.divideError", "math/bits.overflowError"], apart := false, narrowed := true }
def DayJulianUptoSaid : Prop := dayJulianUptoRow.holds Try.pinned (OpenSpec.upto dayJulianSpec)

/-- 'epactlaw07.DayCivil', WHERE WHAT IT READS IS OF BULK AT MOST 1048576: true; the input reads as it did. -/
def dayCivilUptoRow : OpenClaim := { program := "ytanolecbepjkcaa", sum := "5c1814e43ff43ff62d911d184a4b3722add6de11baaf93b9a75e76af743e9c3c", func := "epact/epactlaw07.DayCivil", spec := "dayCivil", inPlace := ["math/bits.Sub64", "math/bits.Add64"], named := ["math/bits.divideError", "math/bits.overflowError"], apart := false, narrowed := true }
def DayCivilUptoSaid : Prop := dayCivilUptoRow.holds Try.pinned (OpenSpec.upto dayCivilSpec)

/-- 'epactlaw19.FracEncodes', WHERE WHAT IT READS IS OF BULK AT MOST 1048576: true; the input reads as it did. -/
def fracEncodesUptoRow : OpenClaim := { program := "ytanolecbepjkcaa", sum := "5c1814e43ff43ff62d911d184a4b3722add6de11baaf93b9a75e76af743e9c3c", func := "epact/epactlaw19.FracEncodes", spec := "fracEncodes", inPlace := ["math/bits.Sub64", "math/bits.Add64"], named := ["math/bits.divideError", "math/bits.overflowError"], apart := false, narrowed := true }
def FracEncodesUptoSaid : Prop := fracEncodesUptoRow.holds Try.pinned (OpenSpec.upto fracEncodesSpec)

/-- 'epactlaw19.FracDecodes', WHERE WHAT IT READS IS OF BULK AT MOST 1048576: true; the input reads as it did. -/
def fracDecodesUptoRow : OpenClaim := { program := "ytanolecbepjkcaa", sum := "5c1814e43ff43ff62d911d184a4b3722add6de11baaf93b9a75e76af743e9c3c", func := "epact/epactlaw19.FracDecodes", spec := "fracDecodes", inPlace := ["math/bits.Sub64", "math/bits.Add64"], named := ["math/bits.divideError", "math/bits.overflowError"], apart := false, narrowed := true }
def FracDecodesUptoSaid : Prop := fracDecodesUptoRow.holds Try.pinned (OpenSpec.upto fracDecodesSpec)

/-- 'epactlaw19.FracFloors', WHERE WHAT IT READS IS OF BULK AT MOST 1048576: true; the input reads as it did. -/
def fracFloorsUptoRow : OpenClaim := { program := "ytanolecbepjkcaa", sum := "5c1814e43ff43ff62d911d184a4b3722add6de11baaf93b9a75e76af743e9c3c", func := "epact/epactlaw19.FracFloors", spec := "fracFloors", inPlace := ["math/bits.Sub64", "math/bits.Add64"], named := ["math/bits.divideError", "math/bits.overflowError"], apart := false, narrowed := true }
def FracFloorsUptoSaid : Prop := fracFloorsUptoRow.holds Try.pinned (OpenSpec.upto fracFloorsSpec)

/-- 'epactlaw19.FracPuts', WHERE WHAT IT READS IS OF BULK AT MOST 1048576: true; the input reads as it did. -/
def fracPutsUptoRow : OpenClaim := { program := "ytanolecbepjkcaa", sum := "5c1814e43ff43ff62d911d184a4b3722add6de11baaf93b9a75e76af743e9c3c", func := "epact/epactlaw19.FracPuts", spec := "fracPuts", inPlace := ["math/bits.Sub64", "math/bits.Add64"], named := ["math/bits.divideError", "math/bits.overflowError"], apart := false, narrowed := true }
def FracPutsUptoSaid : Prop := fracPutsUptoRow.holds Try.pinned (OpenSpec.upto fracPutsSpec)

/-- 'epactlaw19.FracGets', WHERE WHAT IT READS IS OF BULK AT MOST 1048576: true; the input reads as it did. -/
def fracGetsUptoRow : OpenClaim := { program := "ytanolecbepjkcaa", sum := "5c1814e43ff43ff62d911d184a4b3722add6de11baaf93b9a75e76af743e9c3c", func := "epact/epactlaw19.FracGets", spec := "fracGets", inPlace := ["math/bits.Sub64", "math/bits.Add64"], named := ["math/bits.divideError", "math/bits.overflowError"], apart := false, narrowed := true }
def FracGetsUptoSaid : Prop := fracGetsUptoRow.holds Try.pinned (OpenSpec.upto fracGetsSpec)

/-- 'epactlaw16.ScaleTo', WHERE WHAT IT READS IS OF BULK AT MOST 1048576: true; the input reads as it did. -/
def scaleToUptoRow : OpenClaim := { program := "ytanolecbepjkcaa", sum := "5c1814e43ff43ff62d911d184a4b3722add6de11baaf93b9a75e76af743e9c3c", func := "epact/epactlaw16.ScaleTo", spec := "scaleTo", inPlace := ["math/bits.Sub64", "math/bits.Add64"], named := ["math/bits.divideError", "math/bits.overflowError"], apart := false, narrowed := true }
def ScaleToUptoSaid : Prop := scaleToUptoRow.holds Try.pinned (OpenSpec.upto scaleToSpec)

/-- 'epactlaw16.ScaleFrom', WHERE WHAT IT READS IS OF BULK AT MOST 1048576: true; the input reads as it did. -/
def scaleFromUptoRow : OpenClaim := { program := "ytanolecbepjkcaa", sum := "5c1814e43ff43ff62d911d184a4b3722add6de11baaf93b9a75e76af743e9c3c", func := "epact/epactlaw16.ScaleFrom", spec := "scaleFrom", inPlace := ["math/bits.Sub64", "math/bits.Add64"], named := ["math/bits.divideError", "math/bits.overflowError"], apart := false, narrowed := true }
def ScaleFromUptoSaid : Prop := scaleFromUptoRow.holds Try.pinned (OpenSpec.upto scaleFromSpec)

/-- 'epactlaw16.ScaleBack', WHERE WHAT IT READS IS OF BULK AT MOST 1048576: true; the input reads as it did. -/
def scaleBackUptoRow : OpenClaim := { program := "ytanolecbepjkcaa", sum := "5c1814e43ff43ff62d911d184a4b3722add6de11baaf93b9a75e76af743e9c3c", func := "epact/epactlaw16.ScaleBack", spec := "scaleBack", inPlace := ["math/bits.Sub64", "math/bits.Add64"], named := ["math/bits.divideError", "math/bits.overflowError"], apart := false, narrowed := true }
def ScaleBackUptoSaid : Prop := scaleBackUptoRow.holds Try.pinned (OpenSpec.upto scaleBackSpec)

/-- 'epactlaw24.PtpEncodes', WHERE WHAT IT READS IS OF BULK AT MOST 1048576: true; the input reads as it did. -/
def ptpEncodesUptoRow : OpenClaim := { program := "ytanolecbepjkcaa", sum := "5c1814e43ff43ff62d911d184a4b3722add6de11baaf93b9a75e76af743e9c3c", func := "epact/epactlaw24.PtpEncodes", spec := "ptpEncodes", inPlace := ["math/bits.Sub64", "math/bits.Add64"], named := ["math/bits.divideError", "math/bits.overflowError"], apart := false, narrowed := true }
def PtpEncodesUptoSaid : Prop := ptpEncodesUptoRow.holds Try.pinned (OpenSpec.upto ptpEncodesSpec)

/-- 'epactlaw24.PtpDecodes', WHERE WHAT IT READS IS OF BULK AT MOST 1048576: true; the input reads as it did. -/
def ptpDecodesUptoRow : OpenClaim := { program := "ytanolecbepjkcaa", sum := "5c1814e43ff43ff62d911d184a4b3722add6de11baaf93b9a75e76af743e9c3c", func := "epact/epactlaw24.PtpDecodes", spec := "ptpDecodes", inPlace := ["math/bits.Sub64", "math/bits.Add64"], named := ["math/bits.divideError", "math/bits.overflowError"], apart := false, narrowed := true }
def PtpDecodesUptoSaid : Prop := ptpDecodesUptoRow.holds Try.pinned (OpenSpec.upto ptpDecodesSpec)

/-- 'epactlaw24.PtpFloors', WHERE WHAT IT READS IS OF BULK AT MOST 1048576: true; the input reads as it did. -/
def ptpFloorsUptoRow : OpenClaim := { program := "ytanolecbepjkcaa", sum := "5c1814e43ff43ff62d911d184a4b3722add6de11baaf93b9a75e76af743e9c3c", func := "epact/epactlaw24.PtpFloors", spec := "ptpFloors", inPlace := ["math/bits.Sub64", "math/bits.Add64"], named := ["math/bits.divideError", "math/bits.overflowError"], apart := false, narrowed := true }
def PtpFloorsUptoSaid : Prop := ptpFloorsUptoRow.holds Try.pinned (OpenSpec.upto ptpFloorsSpec)

end Rows
end Go.Proofs.Ytanolecbepjkcaa

/-
  No cell of these rows narrows 'for every input' (looked for: loops, veiled, ifaces, maps, wideKeys, modest, calm, conditions, laid).
  DERIVED. THE GIVEN ROWS OF THIS SEAT. 27 by the template 'for every input the law returns true; each argument reads behind the call as it read before'; 0 by the template 'total and deterministic' (their statements: YtccbmjkhplmgnaaTotals.lean).
  GIVEN WITH THE SEED: the statements are not yours to turn. If you find one false, say at which input.
  Laid BY PROGRAM, IN A SANDBOX (cutbox-rows.mjs): the forced cells as the released guide's own fill.sh prints them over the translation 7cd5b2c90404172a… (all of the seat's roots in one cut). By AI agents, Wed Nov 11 2026. No macro, syntax, notation, axiom, sorry.
-/
import Derived.Test.YtccbmjkhplmgnaaChecked
import GoSem.Claim
import GoSem.ClaimJoined
import GoSem.ClaimMapViews
import Derived.JoinedTies
import Derived.KernelRfl
namespace Go.Proofs.Ytccbmjkhplmgnaa
/- THE CELL 'sum', in the pinned program and in every row, IS THE sha256 OF THE DUMP (.gsa) THAT YtccbmjkhplmgnaaProg.lean LOADS. Nothing in Lean hashes anything: it is a label: what it is worth is what the hold of that sum in a sandbox is worth. -/
noncomputable def Try.pinned : Pinned := { name := "ytccbmjkhplmgnaa", sum := "7cd5b2c90404172ac59202c56a3dc06600ed3f9c7e19ad7ff1d94c2fa275af44", checked := Try.checked }
namespace Rows
def none {H : Type} : Left H := { results := [], args := [] }

/-- 'hairlinelaw01.NatShifts': WHATEVER THE INPUT: true; the input reads as it did. -/
def natShiftsSpec : ChangeSpec := { name := "natShifts", fn := fun _ => fun
  | [d1, d2] => { results := [.lit (.bool true)], args := [d1, d2] }
  | _ => none }
def natShiftsRow : OpenClaim := { program := "ytccbmjkhplmgnaa", sum := "7cd5b2c90404172ac59202c56a3dc06600ed3f9c7e19ad7ff1d94c2fa275af44", func := "hairline/hairlinelaw01.NatShifts", spec := "natShifts", inPlace := ["math/bits.Add64", "math/bits.Sub64", "internal/abi.NoEscape"], named := ["math/bits.divideError", "math/bits.overflowError"], apart := false }
def NatShiftsSaid : Prop := natShiftsRow.holds Try.pinned (OpenSpec.ofChange natShiftsSpec)

/-- ITS FALSE NEIGHBOUR: 'it returns false'. Refute it at one input. -/
def natShiftsWrong : ChangeSpec := { name := "natShifts", fn := fun _ => fun
  | [d1, d2] => { results := [.lit (.bool false)], args := [d1, d2] }
  | _ => none }
def NatShiftsWrongFalsely : Prop := natShiftsRow.holds Try.pinned (OpenSpec.ofChange natShiftsWrong)

/-- 'hairlinelaw01.NatDivides': WHATEVER THE INPUT: true; the input reads as it did. -/
def natDividesSpec : ChangeSpec := { name := "natDivides", fn := fun _ => fun
  | [d1, d2] => { results := [.lit (.bool true)], args := [d1, d2] }
  | _ => none }
def natDividesRow : OpenClaim := { program := "ytccbmjkhplmgnaa", sum := "7cd5b2c90404172ac59202c56a3dc06600ed3f9c7e19ad7ff1d94c2fa275af44", func := "hairline/hairlinelaw01.NatDivides", spec := "natDivides", inPlace := ["math/bits.Add64", "math/bits.Sub64", "internal/abi.NoEscape"], named := ["math/bits.divideError", "math/bits.overflowError"], apart := false }
def NatDividesSaid : Prop := natDividesRow.holds Try.pinned (OpenSpec.ofChange natDividesSpec)

/-- ITS FALSE NEIGHBOUR: 'it returns false'. Refute it at one input. -/
def natDividesWrong : ChangeSpec := { name := "natDivides", fn := fun _ => fun
  | [d1, d2] => { results := [.lit (.bool false)], args := [d1, d2] }
  | _ => none }
def NatDividesWrongFalsely : Prop := natDividesRow.holds Try.pinned (OpenSpec.ofChange natDividesWrong)

/-- 'hairlinelaw01.NatGcds': WHATEVER THE INPUT: true; the input reads as it did. -/
def natGcdsSpec : ChangeSpec := { name := "natGcds", fn := fun _ => fun
  | [d1, d2] => { results := [.lit (.bool true)], args := [d1, d2] }
  | _ => none }
def natGcdsRow : OpenClaim := { program := "ytccbmjkhplmgnaa", sum := "7cd5b2c90404172ac59202c56a3dc06600ed3f9c7e19ad7ff1d94c2fa275af44", func := "hairline/hairlinelaw01.NatGcds", spec := "natGcds", inPlace := ["math/bits.Add64", "math/bits.Sub64", "internal/abi.NoEscape"], named := ["math/bits.divideError", "math/bits.overflowError"], apart := false }
def NatGcdsSaid : Prop := natGcdsRow.holds Try.pinned (OpenSpec.ofChange natGcdsSpec)

/-- ITS FALSE NEIGHBOUR: 'it returns false'. Refute it at one input. -/
def natGcdsWrong : ChangeSpec := { name := "natGcds", fn := fun _ => fun
  | [d1, d2] => { results := [.lit (.bool false)], args := [d1, d2] }
  | _ => none }
def NatGcdsWrongFalsely : Prop := natGcdsRow.holds Try.pinned (OpenSpec.ofChange natGcdsWrong)

/-- 'hairlinelaw01.NatStands': WHATEVER THE INPUT: true; the input reads as it did. -/
def natStandsSpec : ChangeSpec := { name := "natStands", fn := fun _ => fun
  | [d1, d2, d3] => { results := [.lit (.bool true)], args := [d1, d2, d3] }
  | _ => none }
def natStandsRow : OpenClaim := { program := "ytccbmjkhplmgnaa", sum := "7cd5b2c90404172ac59202c56a3dc06600ed3f9c7e19ad7ff1d94c2fa275af44", func := "hairline/hairlinelaw01.NatStands", spec := "natStands", inPlace := ["math/bits.Add64", "math/bits.Sub64", "internal/abi.NoEscape"], named := ["math/bits.divideError", "math/bits.overflowError"], apart := false }
def NatStandsSaid : Prop := natStandsRow.holds Try.pinned (OpenSpec.ofChange natStandsSpec)

/-- ITS FALSE NEIGHBOUR: 'it returns false'. Refute it at one input. -/
def natStandsWrong : ChangeSpec := { name := "natStands", fn := fun _ => fun
  | [d1, d2, d3] => { results := [.lit (.bool false)], args := [d1, d2, d3] }
  | _ => none }
def NatStandsWrongFalsely : Prop := natStandsRow.holds Try.pinned (OpenSpec.ofChange natStandsWrong)

/-- 'hairlinelaw01.NatPowers': WHATEVER THE INPUT: true; the input reads as it did. -/
def natPowersSpec : ChangeSpec := { name := "natPowers", fn := fun _ => fun
  | [d1, d2, d3] => { results := [.lit (.bool true)], args := [d1, d2, d3] }
  | _ => none }
def natPowersRow : OpenClaim := { program := "ytccbmjkhplmgnaa", sum := "7cd5b2c90404172ac59202c56a3dc06600ed3f9c7e19ad7ff1d94c2fa275af44", func := "hairline/hairlinelaw01.NatPowers", spec := "natPowers", inPlace := ["math/bits.Add64", "math/bits.Sub64", "internal/abi.NoEscape"], named := ["math/bits.divideError", "math/bits.overflowError"], apart := false }
def NatPowersSaid : Prop := natPowersRow.holds Try.pinned (OpenSpec.ofChange natPowersSpec)

/-- ITS FALSE NEIGHBOUR: 'it returns false'. Refute it at one input. -/
def natPowersWrong : ChangeSpec := { name := "natPowers", fn := fun _ => fun
  | [d1, d2, d3] => { results := [.lit (.bool false)], args := [d1, d2, d3] }
  | _ => none }
def NatPowersWrongFalsely : Prop := natPowersRow.holds Try.pinned (OpenSpec.ofChange natPowersWrong)

/-- 'hairlinelaw01.NatSums': WHATEVER THE INPUT: true; the input reads as it did. -/
def natSumsSpec : ChangeSpec := { name := "natSums", fn := fun _ => fun
  | [d1, d2] => { results := [.lit (.bool true)], args := [d1, d2] }
  | _ => none }
def natSumsRow : OpenClaim := { program := "ytccbmjkhplmgnaa", sum := "7cd5b2c90404172ac59202c56a3dc06600ed3f9c7e19ad7ff1d94c2fa275af44", func := "hairline/hairlinelaw01.NatSums", spec := "natSums", inPlace := ["math/bits.Add64", "math/bits.Sub64", "internal/abi.NoEscape"], named := ["math/bits.divideError", "math/bits.overflowError"], apart := false }
def NatSumsSaid : Prop := natSumsRow.holds Try.pinned (OpenSpec.ofChange natSumsSpec)

/-- ITS FALSE NEIGHBOUR: 'it returns false'. Refute it at one input. -/
def natSumsWrong : ChangeSpec := { name := "natSums", fn := fun _ => fun
  | [d1, d2] => { results := [.lit (.bool false)], args := [d1, d2] }
  | _ => none }
def NatSumsWrongFalsely : Prop := natSumsRow.holds Try.pinned (OpenSpec.ofChange natSumsWrong)

/-- 'hairlinelaw01.NatUndoes': WHATEVER THE INPUT: true; the input reads as it did. -/
def natUndoesSpec : ChangeSpec := { name := "natUndoes", fn := fun _ => fun
  | [d1, d2, d3] => { results := [.lit (.bool true)], args := [d1, d2, d3] }
  | _ => none }
def natUndoesRow : OpenClaim := { program := "ytccbmjkhplmgnaa", sum := "7cd5b2c90404172ac59202c56a3dc06600ed3f9c7e19ad7ff1d94c2fa275af44", func := "hairline/hairlinelaw01.NatUndoes", spec := "natUndoes", inPlace := ["math/bits.Add64", "math/bits.Sub64", "internal/abi.NoEscape"], named := ["math/bits.divideError", "math/bits.overflowError"], apart := false }
def NatUndoesSaid : Prop := natUndoesRow.holds Try.pinned (OpenSpec.ofChange natUndoesSpec)

/-- ITS FALSE NEIGHBOUR: 'it returns false'. Refute it at one input. -/
def natUndoesWrong : ChangeSpec := { name := "natUndoes", fn := fun _ => fun
  | [d1, d2, d3] => { results := [.lit (.bool false)], args := [d1, d2, d3] }
  | _ => none }
def NatUndoesWrongFalsely : Prop := natUndoesRow.holds Try.pinned (OpenSpec.ofChange natUndoesWrong)

/-- 'hairlinelaw01.NatRing': WHATEVER THE INPUT: true; the input reads as it did. -/
def natRingSpec : ChangeSpec := { name := "natRing", fn := fun _ => fun
  | [d1, d2, d3] => { results := [.lit (.bool true)], args := [d1, d2, d3] }
  | _ => none }
def natRingRow : OpenClaim := { program := "ytccbmjkhplmgnaa", sum := "7cd5b2c90404172ac59202c56a3dc06600ed3f9c7e19ad7ff1d94c2fa275af44", func := "hairline/hairlinelaw01.NatRing", spec := "natRing", inPlace := ["math/bits.Add64", "math/bits.Sub64", "internal/abi.NoEscape"], named := ["math/bits.divideError", "math/bits.overflowError"], apart := false }
def NatRingSaid : Prop := natRingRow.holds Try.pinned (OpenSpec.ofChange natRingSpec)

/-- ITS FALSE NEIGHBOUR: 'it returns false'. Refute it at one input. -/
def natRingWrong : ChangeSpec := { name := "natRing", fn := fun _ => fun
  | [d1, d2, d3] => { results := [.lit (.bool false)], args := [d1, d2, d3] }
  | _ => none }
def NatRingWrongFalsely : Prop := natRingRow.holds Try.pinned (OpenSpec.ofChange natRingWrong)

/-- 'hairlinelaw01.NatCommon': WHATEVER THE INPUT: true; the input reads as it did. -/
def natCommonSpec : ChangeSpec := { name := "natCommon", fn := fun _ => fun
  | [d1, d2, d3] => { results := [.lit (.bool true)], args := [d1, d2, d3] }
  | _ => none }
def natCommonRow : OpenClaim := { program := "ytccbmjkhplmgnaa", sum := "7cd5b2c90404172ac59202c56a3dc06600ed3f9c7e19ad7ff1d94c2fa275af44", func := "hairline/hairlinelaw01.NatCommon", spec := "natCommon", inPlace := ["math/bits.Add64", "math/bits.Sub64", "internal/abi.NoEscape"], named := ["math/bits.divideError", "math/bits.overflowError"], apart := false }
def NatCommonSaid : Prop := natCommonRow.holds Try.pinned (OpenSpec.ofChange natCommonSpec)

/-- ITS FALSE NEIGHBOUR: 'it returns false'. Refute it at one input. -/
def natCommonWrong : ChangeSpec := { name := "natCommon", fn := fun _ => fun
  | [d1, d2, d3] => { results := [.lit (.bool false)], args := [d1, d2, d3] }
  | _ => none }
def NatCommonWrongFalsely : Prop := natCommonRow.holds Try.pinned (OpenSpec.ofChange natCommonWrong)

/-- 'hairlinelaw01.NatTexts': WHATEVER THE INPUT: true; the input reads as it did. -/
def natTextsSpec : ChangeSpec := { name := "natTexts", fn := fun _ => fun
  | [d1, d2] => { results := [.lit (.bool true)], args := [d1, d2] }
  | _ => none }
def natTextsRow : OpenClaim := { program := "ytccbmjkhplmgnaa", sum := "7cd5b2c90404172ac59202c56a3dc06600ed3f9c7e19ad7ff1d94c2fa275af44", func := "hairline/hairlinelaw01.NatTexts", spec := "natTexts", inPlace := ["math/bits.Add64", "math/bits.Sub64", "internal/abi.NoEscape", "internal/bytealg.IndexByteString"], named := ["math/bits.divideError", "math/bits.overflowError"], apart := false }
def NatTextsSaid : Prop := natTextsRow.holds Try.pinned (OpenSpec.ofChange natTextsSpec)

/-- ITS FALSE NEIGHBOUR: 'it returns false'. Refute it at one input. -/
def natTextsWrong : ChangeSpec := { name := "natTexts", fn := fun _ => fun
  | [d1, d2] => { results := [.lit (.bool false)], args := [d1, d2] }
  | _ => none }
def NatTextsWrongFalsely : Prop := natTextsRow.holds Try.pinned (OpenSpec.ofChange natTextsWrong)

/-- 'hairlinelaw01.NatBack': WHATEVER THE INPUT: true; the input reads as it did. -/
def natBackSpec : ChangeSpec := { name := "natBack", fn := fun _ => fun
  | [d1, d2] => { results := [.lit (.bool true)], args := [d1, d2] }
  | _ => none }
def natBackRow : OpenClaim := { program := "ytccbmjkhplmgnaa", sum := "7cd5b2c90404172ac59202c56a3dc06600ed3f9c7e19ad7ff1d94c2fa275af44", func := "hairline/hairlinelaw01.NatBack", spec := "natBack", inPlace := ["math/bits.Add64", "math/bits.Sub64", "internal/abi.NoEscape", "internal/bytealg.IndexByteString"], named := ["math/bits.divideError", "math/bits.overflowError"], apart := false }
def NatBackSaid : Prop := natBackRow.holds Try.pinned (OpenSpec.ofChange natBackSpec)

/-- ITS FALSE NEIGHBOUR: 'it returns false'. Refute it at one input. -/
def natBackWrong : ChangeSpec := { name := "natBack", fn := fun _ => fun
  | [d1, d2] => { results := [.lit (.bool false)], args := [d1, d2] }
  | _ => none }
def NatBackWrongFalsely : Prop := natBackRow.holds Try.pinned (OpenSpec.ofChange natBackWrong)

/-- 'hairlinelaw02.ZedSmalls': WHATEVER THE INPUT: true; the input reads as it did. -/
def zedSmallsSpec : ChangeSpec := { name := "zedSmalls", fn := fun _ => fun
  | [d] => { results := [.lit (.bool true)], args := [d] }
  | _ => none }
def zedSmallsRow : OpenClaim := { program := "ytccbmjkhplmgnaa", sum := "7cd5b2c90404172ac59202c56a3dc06600ed3f9c7e19ad7ff1d94c2fa275af44", func := "hairline/hairlinelaw02.ZedSmalls", spec := "zedSmalls", inPlace := ["math/bits.Add64", "math/bits.Sub64"], named := ["math/bits.divideError", "math/bits.overflowError"], apart := false }
def ZedSmallsSaid : Prop := zedSmallsRow.holds Try.pinned (OpenSpec.ofChange zedSmallsSpec)

/-- ITS FALSE NEIGHBOUR: 'it returns false'. Refute it at one input. -/
def zedSmallsWrong : ChangeSpec := { name := "zedSmalls", fn := fun _ => fun
  | [d] => { results := [.lit (.bool false)], args := [d] }
  | _ => none }
def ZedSmallsWrongFalsely : Prop := zedSmallsRow.holds Try.pinned (OpenSpec.ofChange zedSmallsWrong)

/-- 'hairlinelaw02.ZedShifts': WHATEVER THE INPUT: true; the input reads as it did. -/
def zedShiftsSpec : ChangeSpec := { name := "zedShifts", fn := fun _ => fun
  | [d1, d2] => { results := [.lit (.bool true)], args := [d1, d2] }
  | _ => none }
def zedShiftsRow : OpenClaim := { program := "ytccbmjkhplmgnaa", sum := "7cd5b2c90404172ac59202c56a3dc06600ed3f9c7e19ad7ff1d94c2fa275af44", func := "hairline/hairlinelaw02.ZedShifts", spec := "zedShifts", inPlace := ["math/bits.Add64", "math/bits.Sub64"], named := ["math/bits.divideError", "math/bits.overflowError"], apart := false }
def ZedShiftsSaid : Prop := zedShiftsRow.holds Try.pinned (OpenSpec.ofChange zedShiftsSpec)

/-- ITS FALSE NEIGHBOUR: 'it returns false'. Refute it at one input. -/
def zedShiftsWrong : ChangeSpec := { name := "zedShifts", fn := fun _ => fun
  | [d1, d2] => { results := [.lit (.bool false)], args := [d1, d2] }
  | _ => none }
def ZedShiftsWrongFalsely : Prop := zedShiftsRow.holds Try.pinned (OpenSpec.ofChange zedShiftsWrong)

/-- 'hairlinelaw02.ZedDivides': WHATEVER THE INPUT: true; the input reads as it did. -/
def zedDividesSpec : ChangeSpec := { name := "zedDivides", fn := fun _ => fun
  | [d1, d2] => { results := [.lit (.bool true)], args := [d1, d2] }
  | _ => none }
def zedDividesRow : OpenClaim := { program := "ytccbmjkhplmgnaa", sum := "7cd5b2c90404172ac59202c56a3dc06600ed3f9c7e19ad7ff1d94c2fa275af44", func := "hairline/hairlinelaw02.ZedDivides", spec := "zedDivides", inPlace := ["math/bits.Add64", "math/bits.Sub64"], named := ["math/bits.divideError", "math/bits.overflowError"], apart := false }
def ZedDividesSaid : Prop := zedDividesRow.holds Try.pinned (OpenSpec.ofChange zedDividesSpec)

/-- ITS FALSE NEIGHBOUR: 'it returns false'. Refute it at one input. -/
def zedDividesWrong : ChangeSpec := { name := "zedDivides", fn := fun _ => fun
  | [d1, d2] => { results := [.lit (.bool false)], args := [d1, d2] }
  | _ => none }
def ZedDividesWrongFalsely : Prop := zedDividesRow.holds Try.pinned (OpenSpec.ofChange zedDividesWrong)

/-- 'hairlinelaw02.ZedSums': WHATEVER THE INPUT: true; the input reads as it did. -/
def zedSumsSpec : ChangeSpec := { name := "zedSums", fn := fun _ => fun
  | [d1, d2] => { results := [.lit (.bool true)], args := [d1, d2] }
  | _ => none }
def zedSumsRow : OpenClaim := { program := "ytccbmjkhplmgnaa", sum := "7cd5b2c90404172ac59202c56a3dc06600ed3f9c7e19ad7ff1d94c2fa275af44", func := "hairline/hairlinelaw02.ZedSums", spec := "zedSums", inPlace := ["math/bits.Add64", "math/bits.Sub64"], named := ["math/bits.divideError", "math/bits.overflowError"], apart := false }
def ZedSumsSaid : Prop := zedSumsRow.holds Try.pinned (OpenSpec.ofChange zedSumsSpec)

/-- ITS FALSE NEIGHBOUR: 'it returns false'. Refute it at one input. -/
def zedSumsWrong : ChangeSpec := { name := "zedSums", fn := fun _ => fun
  | [d1, d2] => { results := [.lit (.bool false)], args := [d1, d2] }
  | _ => none }
def ZedSumsWrongFalsely : Prop := zedSumsRow.holds Try.pinned (OpenSpec.ofChange zedSumsWrong)

/-- 'hairlinelaw02.ZedStands': WHATEVER THE INPUT: true; the input reads as it did. -/
def zedStandsSpec : ChangeSpec := { name := "zedStands", fn := fun _ => fun
  | [d1, d2] => { results := [.lit (.bool true)], args := [d1, d2] }
  | _ => none }
def zedStandsRow : OpenClaim := { program := "ytccbmjkhplmgnaa", sum := "7cd5b2c90404172ac59202c56a3dc06600ed3f9c7e19ad7ff1d94c2fa275af44", func := "hairline/hairlinelaw02.ZedStands", spec := "zedStands", inPlace := ["math/bits.Add64", "math/bits.Sub64"], named := ["math/bits.divideError", "math/bits.overflowError"], apart := false }
def ZedStandsSaid : Prop := zedStandsRow.holds Try.pinned (OpenSpec.ofChange zedStandsSpec)

/-- ITS FALSE NEIGHBOUR: 'it returns false'. Refute it at one input. -/
def zedStandsWrong : ChangeSpec := { name := "zedStands", fn := fun _ => fun
  | [d1, d2] => { results := [.lit (.bool false)], args := [d1, d2] }
  | _ => none }
def ZedStandsWrongFalsely : Prop := zedStandsRow.holds Try.pinned (OpenSpec.ofChange zedStandsWrong)

/-- 'hairlinelaw02.ZedHalves': WHATEVER THE INPUT: true; the input reads as it did. -/
def zedHalvesSpec : ChangeSpec := { name := "zedHalves", fn := fun _ => fun
  | [d1, d2] => { results := [.lit (.bool true)], args := [d1, d2] }
  | _ => none }
def zedHalvesRow : OpenClaim := { program := "ytccbmjkhplmgnaa", sum := "7cd5b2c90404172ac59202c56a3dc06600ed3f9c7e19ad7ff1d94c2fa275af44", func := "hairline/hairlinelaw02.ZedHalves", spec := "zedHalves", inPlace := ["math/bits.Add64", "math/bits.Sub64"], named := ["math/bits.divideError", "math/bits.overflowError"], apart := false }
def ZedHalvesSaid : Prop := zedHalvesRow.holds Try.pinned (OpenSpec.ofChange zedHalvesSpec)

/-- ITS FALSE NEIGHBOUR: 'it returns false'. Refute it at one input. -/
def zedHalvesWrong : ChangeSpec := { name := "zedHalves", fn := fun _ => fun
  | [d1, d2] => { results := [.lit (.bool false)], args := [d1, d2] }
  | _ => none }
def ZedHalvesWrongFalsely : Prop := zedHalvesRow.holds Try.pinned (OpenSpec.ofChange zedHalvesWrong)

/-- 'hairlinelaw02.ZedRing': WHATEVER THE INPUT: true; the input reads as it did. -/
def zedRingSpec : ChangeSpec := { name := "zedRing", fn := fun _ => fun
  | [d1, d2, d3] => { results := [.lit (.bool true)], args := [d1, d2, d3] }
  | _ => none }
def zedRingRow : OpenClaim := { program := "ytccbmjkhplmgnaa", sum := "7cd5b2c90404172ac59202c56a3dc06600ed3f9c7e19ad7ff1d94c2fa275af44", func := "hairline/hairlinelaw02.ZedRing", spec := "zedRing", inPlace := ["math/bits.Add64", "math/bits.Sub64"], named := ["math/bits.divideError", "math/bits.overflowError"], apart := false }
def ZedRingSaid : Prop := zedRingRow.holds Try.pinned (OpenSpec.ofChange zedRingSpec)

/-- ITS FALSE NEIGHBOUR: 'it returns false'. Refute it at one input. -/
def zedRingWrong : ChangeSpec := { name := "zedRing", fn := fun _ => fun
  | [d1, d2, d3] => { results := [.lit (.bool false)], args := [d1, d2, d3] }
  | _ => none }
def ZedRingWrongFalsely : Prop := zedRingRow.holds Try.pinned (OpenSpec.ofChange zedRingWrong)

/-- 'hairlinelaw02.ZedRests': WHATEVER THE INPUT: true; the input reads as it did. -/
def zedRestsSpec : ChangeSpec := { name := "zedRests", fn := fun _ => fun
  | [d1, d2] => { results := [.lit (.bool true)], args := [d1, d2] }
  | _ => none }
def zedRestsRow : OpenClaim := { program := "ytccbmjkhplmgnaa", sum := "7cd5b2c90404172ac59202c56a3dc06600ed3f9c7e19ad7ff1d94c2fa275af44", func := "hairline/hairlinelaw02.ZedRests", spec := "zedRests", inPlace := ["math/bits.Add64", "math/bits.Sub64"], named := ["math/bits.divideError", "math/bits.overflowError"], apart := false }
def ZedRestsSaid : Prop := zedRestsRow.holds Try.pinned (OpenSpec.ofChange zedRestsSpec)

/-- ITS FALSE NEIGHBOUR: 'it returns false'. Refute it at one input. -/
def zedRestsWrong : ChangeSpec := { name := "zedRests", fn := fun _ => fun
  | [d1, d2] => { results := [.lit (.bool false)], args := [d1, d2] }
  | _ => none }
def ZedRestsWrongFalsely : Prop := zedRestsRow.holds Try.pinned (OpenSpec.ofChange zedRestsWrong)

/-- 'hairlinelaw15.LefevreFirsts': WHATEVER THE INPUT: true; the input reads as it did. -/
def lefevreFirstsSpec : ChangeSpec := { name := "lefevreFirsts", fn := fun _ => fun
  | [d1, d2, d3] => { results := [.lit (.bool true)], args := [d1, d2, d3] }
  | _ => none }
def lefevreFirstsRow : OpenClaim := { program := "ytccbmjkhplmgnaa", sum := "7cd5b2c90404172ac59202c56a3dc06600ed3f9c7e19ad7ff1d94c2fa275af44", func := "hairline/hairlinelaw15.LefevreFirsts", spec := "lefevreFirsts", inPlace := ["math/bits.Add64", "math/bits.Sub64"], unfollowed := true, recurses := true, named := ["math/bits.divideError", "math/bits.overflowError"], apart := false }
def LefevreFirstsSaid : Prop := lefevreFirstsRow.holds Try.pinned (OpenSpec.ofChange lefevreFirstsSpec)

/-- ITS FALSE NEIGHBOUR: 'it returns false'. Refute it at one input. -/
def lefevreFirstsWrong : ChangeSpec := { name := "lefevreFirsts", fn := fun _ => fun
  | [d1, d2, d3] => { results := [.lit (.bool false)], args := [d1, d2, d3] }
  | _ => none }
def LefevreFirstsWrongFalsely : Prop := lefevreFirstsRow.holds Try.pinned (OpenSpec.ofChange lefevreFirstsWrong)

/-- 'hairlinelaw15.LefevreArcs': WHATEVER THE INPUT: true; the input reads as it did. -/
def lefevreArcsSpec : ChangeSpec := { name := "lefevreArcs", fn := fun _ => fun
  | [d] => { results := [.lit (.bool true)], args := [d] }
  | _ => none }
def lefevreArcsRow : OpenClaim := { program := "ytccbmjkhplmgnaa", sum := "7cd5b2c90404172ac59202c56a3dc06600ed3f9c7e19ad7ff1d94c2fa275af44", func := "hairline/hairlinelaw15.LefevreArcs", spec := "lefevreArcs", inPlace := ["math/bits.Add64", "math/bits.Sub64"], unfollowed := true, recurses := true, named := ["math/bits.divideError", "math/bits.overflowError"], apart := false }
def LefevreArcsSaid : Prop := lefevreArcsRow.holds Try.pinned (OpenSpec.ofChange lefevreArcsSpec)

/-- ITS FALSE NEIGHBOUR: 'it returns false'. Refute it at one input. -/
def lefevreArcsWrong : ChangeSpec := { name := "lefevreArcs", fn := fun _ => fun
  | [d] => { results := [.lit (.bool false)], args := [d] }
  | _ => none }
def LefevreArcsWrongFalsely : Prop := lefevreArcsRow.holds Try.pinned (OpenSpec.ofChange lefevreArcsWrong)

/-- 'hairlinelaw15.LefevreTries': WHATEVER THE INPUT: true; the input reads as it did. -/
def lefevreTriesSpec : ChangeSpec := { name := "lefevreTries", fn := fun _ => fun
  | [d1, d2, d3] => { results := [.lit (.bool true)], args := [d1, d2, d3] }
  | _ => none }
def lefevreTriesRow : OpenClaim := { program := "ytccbmjkhplmgnaa", sum := "7cd5b2c90404172ac59202c56a3dc06600ed3f9c7e19ad7ff1d94c2fa275af44", func := "hairline/hairlinelaw15.LefevreTries", spec := "lefevreTries", inPlace := ["math/bits.Add64", "math/bits.Sub64"], unfollowed := true, recurses := true, named := ["math/bits.divideError", "math/bits.overflowError"], apart := false }
def LefevreTriesSaid : Prop := lefevreTriesRow.holds Try.pinned (OpenSpec.ofChange lefevreTriesSpec)

/-- ITS FALSE NEIGHBOUR: 'it returns false'. Refute it at one input. -/
def lefevreTriesWrong : ChangeSpec := { name := "lefevreTries", fn := fun _ => fun
  | [d1, d2, d3] => { results := [.lit (.bool false)], args := [d1, d2, d3] }
  | _ => none }
def LefevreTriesWrongFalsely : Prop := lefevreTriesRow.holds Try.pinned (OpenSpec.ofChange lefevreTriesWrong)

/-- 'hairlinelaw15.LefevreThree': WHATEVER THE INPUT: true; the input reads as it did. -/
def lefevreThreeSpec : ChangeSpec := { name := "lefevreThree", fn := fun _ => fun
  | [d] => { results := [.lit (.bool true)], args := [d] }
  | _ => none }
def lefevreThreeRow : OpenClaim := { program := "ytccbmjkhplmgnaa", sum := "7cd5b2c90404172ac59202c56a3dc06600ed3f9c7e19ad7ff1d94c2fa275af44", func := "hairline/hairlinelaw15.LefevreThree", spec := "lefevreThree", inPlace := ["math/bits.Add64", "math/bits.Sub64"], unfollowed := true, recurses := true, named := ["math/bits.divideError", "math/bits.overflowError"], apart := false }
def LefevreThreeSaid : Prop := lefevreThreeRow.holds Try.pinned (OpenSpec.ofChange lefevreThreeSpec)

/-- ITS FALSE NEIGHBOUR: 'it returns false'. Refute it at one input. -/
def lefevreThreeWrong : ChangeSpec := { name := "lefevreThree", fn := fun _ => fun
  | [d] => { results := [.lit (.bool false)], args := [d] }
  | _ => none }
def LefevreThreeWrongFalsely : Prop := lefevreThreeRow.holds Try.pinned (OpenSpec.ofChange lefevreThreeWrong)

/-- 'hairlinelaw15.LefevreTurns': WHATEVER THE INPUT: true; the input reads as it did. -/
def lefevreTurnsSpec : ChangeSpec := { name := "lefevreTurns", fn := fun _ => fun
  | [d1, d2, d3, d4, d5] => { results := [.lit (.bool true)], args := [d1, d2, d3, d4, d5] }
  | _ => none }
def lefevreTurnsRow : OpenClaim := { program := "ytccbmjkhplmgnaa", sum := "7cd5b2c90404172ac59202c56a3dc06600ed3f9c7e19ad7ff1d94c2fa275af44", func := "hairline/hairlinelaw15.LefevreTurns", spec := "lefevreTurns", inPlace := ["math/bits.Add64", "math/bits.Sub64"], unfollowed := true, recurses := true, named := ["math/bits.divideError", "math/bits.overflowError"], apart := false }
def LefevreTurnsSaid : Prop := lefevreTurnsRow.holds Try.pinned (OpenSpec.ofChange lefevreTurnsSpec)

/-- ITS FALSE NEIGHBOUR: 'it returns false'. Refute it at one input. -/
def lefevreTurnsWrong : ChangeSpec := { name := "lefevreTurns", fn := fun _ => fun
  | [d1, d2, d3, d4, d5] => { results := [.lit (.bool false)], args := [d1, d2, d3, d4, d5] }
  | _ => none }
def LefevreTurnsWrongFalsely : Prop := lefevreTurnsRow.holds Try.pinned (OpenSpec.ofChange lefevreTurnsWrong)

/-- 'hairlinelaw15.LefevreSplits': WHATEVER THE INPUT: true; the input reads as it did. -/
def lefevreSplitsSpec : ChangeSpec := { name := "lefevreSplits", fn := fun _ => fun
  | [d1, d2, d3] => { results := [.lit (.bool true)], args := [d1, d2, d3] }
  | _ => none }
def lefevreSplitsRow : OpenClaim := { program := "ytccbmjkhplmgnaa", sum := "7cd5b2c90404172ac59202c56a3dc06600ed3f9c7e19ad7ff1d94c2fa275af44", func := "hairline/hairlinelaw15.LefevreSplits", spec := "lefevreSplits", inPlace := ["math/bits.Add64", "math/bits.Sub64"], unfollowed := true, recurses := true, named := ["math/bits.divideError", "math/bits.overflowError"], apart := false }
def LefevreSplitsSaid : Prop := lefevreSplitsRow.holds Try.pinned (OpenSpec.ofChange lefevreSplitsSpec)

/-- ITS FALSE NEIGHBOUR: 'it returns false'. Refute it at one input. -/
def lefevreSplitsWrong : ChangeSpec := { name := "lefevreSplits", fn := fun _ => fun
  | [d1, d2, d3] => { results := [.lit (.bool false)], args := [d1, d2, d3] }
  | _ => none }
def LefevreSplitsWrongFalsely : Prop := lefevreSplitsRow.holds Try.pinned (OpenSpec.ofChange lefevreSplitsWrong)

/-- 'hairlinelaw15.LefevreSides': WHATEVER THE INPUT: true; the input reads as it did. -/
def lefevreSidesSpec : ChangeSpec := { name := "lefevreSides", fn := fun _ => fun
  | [d] => { results := [.lit (.bool true)], args := [d] }
  | _ => none }
def lefevreSidesRow : OpenClaim := { program := "ytccbmjkhplmgnaa", sum := "7cd5b2c90404172ac59202c56a3dc06600ed3f9c7e19ad7ff1d94c2fa275af44", func := "hairline/hairlinelaw15.LefevreSides", spec := "lefevreSides", inPlace := ["math/bits.Add64", "math/bits.Sub64"], unfollowed := true, recurses := true, named := ["math/bits.divideError", "math/bits.overflowError"], apart := false }
def LefevreSidesSaid : Prop := lefevreSidesRow.holds Try.pinned (OpenSpec.ofChange lefevreSidesSpec)

/-- ITS FALSE NEIGHBOUR: 'it returns false'. Refute it at one input. -/
def lefevreSidesWrong : ChangeSpec := { name := "lefevreSides", fn := fun _ => fun
  | [d] => { results := [.lit (.bool false)], args := [d] }
  | _ => none }
def LefevreSidesWrongFalsely : Prop := lefevreSidesRow.holds Try.pinned (OpenSpec.ofChange lefevreSidesWrong)

/-- 'hairlinelaw15.LefevreDirichlet': WHATEVER THE INPUT: true; the input reads as it did. -/
def lefevreDirichletSpec : ChangeSpec := { name := "lefevreDirichlet", fn := fun _ => fun
  | [d] => { results := [.lit (.bool true)], args := [d] }
  | _ => none }
def lefevreDirichletRow : OpenClaim := { program := "ytccbmjkhplmgnaa", sum := "7cd5b2c90404172ac59202c56a3dc06600ed3f9c7e19ad7ff1d94c2fa275af44", func := "hairline/hairlinelaw15.LefevreDirichlet", spec := "lefevreDirichlet", inPlace := ["math/bits.Add64", "math/bits.Sub64"], unfollowed := true, recurses := true, named := ["math/bits.divideError", "math/bits.overflowError"], apart := false }
def LefevreDirichletSaid : Prop := lefevreDirichletRow.holds Try.pinned (OpenSpec.ofChange lefevreDirichletSpec)

/-- ITS FALSE NEIGHBOUR: 'it returns false'. Refute it at one input. -/
def lefevreDirichletWrong : ChangeSpec := { name := "lefevreDirichlet", fn := fun _ => fun
  | [d] => { results := [.lit (.bool false)], args := [d] }
  | _ => none }
def LefevreDirichletWrongFalsely : Prop := lefevreDirichletRow.holds Try.pinned (OpenSpec.ofChange lefevreDirichletWrong)

/- THE SECOND FORM. 'bulk': how many values and letters a reading holds, each counted each time it is reached (what is shared counts as often as it is met; a slice's spare places count too). A statement '..UptoSaid' is the law's where the arguments, and the package variables that the reading takes, are together of bulk at most 1048576: NARROWER than '..Said'. Prove '..Said' where nothing that the law and all that it calls make is longer than what came in: it says more and counts as full. Else prove '..UptoSaid'. A law counts once. -/
mutual
def uptoBulk {H : Type} : DataW H → Nat
  | .lit (.string bytes) => bytes.length + 1
  | .lit _ => 1
  | .nil => 1
  | .ptr d => uptoBulk d + 1
  | .slice elems spare => uptoBulkAll elems + uptoBulkAll spare + 1
  | .agg parts => uptoBulkAll parts + 1
  | .iface _ d => uptoBulk d + 1
  | .map entries => uptoBulkEntries entries + 1
  | .held _ => 1
def uptoBulkAll {H : Type} : List (DataW H) → Nat
  | [] => 0
  | d :: r => uptoBulk d + uptoBulkAll r
def uptoBulkEntries {H : Type} : List (Lit × DataW H) → Nat
  | [] => 0
  | x :: r => uptoBulkEntry x + uptoBulkEntries r
def uptoBulkEntry {H : Type} : Lit × DataW H → Nat
  | (.string bytes, d) => bytes.length + uptoBulk d + 1
  | (_, d) => uptoBulk d + 1
 end
def uptoSmall : (H : Type) → List (DataW H) → Bool := fun _ ds => decide (uptoBulkAll ds ≤ 1048576)
def OpenSpec.upto (s : _root_.Go.ChangeSpec) : _root_.Go.OpenSpec := { _root_.Go.OpenSpec.ofChange s with cond := some uptoSmall }

/-- 'hairlinelaw01.NatShifts', WHERE WHAT IT READS IS OF BULK AT MOST 1048576: true; the input reads as it did. -/
def natShiftsUptoRow : OpenClaim := { program := "ytccbmjkhplmgnaa", sum := "7cd5b2c90404172ac59202c56a3dc06600ed3f9c7e19ad7ff1d94c2fa275af44", func := "hairline/hairlinelaw01.NatShifts", spec := "natShifts", inPlace := ["math/bits.Add64", "math/bits.Sub64", "internal/abi.NoEscape"], named := ["math/bits.divideError", "math/bits.overflowError"], apart := false, narrowed := true }
def NatShiftsUptoSaid : Prop := natShiftsUptoRow.holds Try.pinned (OpenSpec.upto natShiftsSpec)

/-- 'hairlinelaw01.NatDivides', WHERE WHAT IT READS IS OF BULK AT MOST 1048576: true; the input reads as it did. -/
def natDividesUptoRow : OpenClaim := { program := "ytccbmjkhplmgnaa", sum := "7cd5b2c90404172ac59202c56a3dc06600ed3f9c7e19ad7ff1d94c2fa275af44", func := "hairline/hairlinelaw01.NatDivides", spec := "natDivides", inPlace := ["math/bits.Add64", "math/bits.Sub64", "internal/abi.NoEscape"], named := ["math/bits.divideError", "math/bits.overflowError"], apart := false, narrowed := true }
def NatDividesUptoSaid : Prop := natDividesUptoRow.holds Try.pinned (OpenSpec.upto natDividesSpec)

/-- 'hairlinelaw01.NatGcds', WHERE WHAT IT READS IS OF BULK AT MOST 1048576: true; the input reads as it did. -/
def natGcdsUptoRow : OpenClaim := { program := "ytccbmjkhplmgnaa", sum := "7cd5b2c90404172ac59202c56a3dc06600ed3f9c7e19ad7ff1d94c2fa275af44", func := "hairline/hairlinelaw01.NatGcds", spec := "natGcds", inPlace := ["math/bits.Add64", "math/bits.Sub64", "internal/abi.NoEscape"], named := ["math/bits.divideError", "math/bits.overflowError"], apart := false, narrowed := true }
def NatGcdsUptoSaid : Prop := natGcdsUptoRow.holds Try.pinned (OpenSpec.upto natGcdsSpec)

/-- 'hairlinelaw01.NatStands', WHERE WHAT IT READS IS OF BULK AT MOST 1048576: true; the input reads as it did. -/
def natStandsUptoRow : OpenClaim := { program := "ytccbmjkhplmgnaa", sum := "7cd5b2c90404172ac59202c56a3dc06600ed3f9c7e19ad7ff1d94c2fa275af44", func := "hairline/hairlinelaw01.NatStands", spec := "natStands", inPlace := ["math/bits.Add64", "math/bits.Sub64", "internal/abi.NoEscape"], named := ["math/bits.divideError", "math/bits.overflowError"], apart := false, narrowed := true }
def NatStandsUptoSaid : Prop := natStandsUptoRow.holds Try.pinned (OpenSpec.upto natStandsSpec)

/-- 'hairlinelaw01.NatPowers', WHERE WHAT IT READS IS OF BULK AT MOST 1048576: true; the input reads as it did. -/
def natPowersUptoRow : OpenClaim := { program := "ytccbmjkhplmgnaa", sum := "7cd5b2c90404172ac59202c56a3dc06600ed3f9c7e19ad7ff1d94c2fa275af44", func := "hairline/hairlinelaw01.NatPowers", spec := "natPowers", inPlace := ["math/bits.Add64", "math/bits.Sub64", "internal/abi.NoEscape"], named := ["math/bits.divideError", "math/bits.overflowError"], apart := false, narrowed := true }
def NatPowersUptoSaid : Prop := natPowersUptoRow.holds Try.pinned (OpenSpec.upto natPowersSpec)

/-- 'hairlinelaw01.NatSums', WHERE WHAT IT READS IS OF BULK AT MOST 1048576: true; the input reads as it did. -/
def natSumsUptoRow : OpenClaim := { program := "ytccbmjkhplmgnaa", sum := "7cd5b2c90404172ac59202c56a3dc06600ed3f9c7e19ad7ff1d94c2fa275af44", func := "hairline/hairlinelaw01.NatSums", spec := "natSums", inPlace := ["math/bits.Add64", "math/bits.Sub64", "internal/abi.NoEscape"], named := ["math/bits.divideError", "math/bits.overflowError"], apart := false, narrowed := true }
def NatSumsUptoSaid : Prop := natSumsUptoRow.holds Try.pinned (OpenSpec.upto natSumsSpec)

/-- 'hairlinelaw01.NatUndoes', WHERE WHAT IT READS IS OF BULK AT MOST 1048576: true; the input reads as it did. -/
def natUndoesUptoRow : OpenClaim := { program := "ytccbmjkhplmgnaa", sum := "7cd5b2c90404172ac59202c56a3dc06600ed3f9c7e19ad7ff1d94c2fa275af44", func := "hairline/hairlinelaw01.NatUndoes", spec := "natUndoes", inPlace := ["math/bits.Add64", "math/bits.Sub64", "internal/abi.NoEscape"], named := ["math/bits.divideError", "math/bits.overflowError"], apart := false, narrowed := true }
def NatUndoesUptoSaid : Prop := natUndoesUptoRow.holds Try.pinned (OpenSpec.upto natUndoesSpec)

/-- 'hairlinelaw01.NatRing', WHERE WHAT IT READS IS OF BULK AT MOST 1048576: true; the input reads as it did. -/
def natRingUptoRow : OpenClaim := { program := "ytccbmjkhplmgnaa", sum := "7cd5b2c90404172ac59202c56a3dc06600ed3f9c7e19ad7ff1d94c2fa275af44", func := "hairline/hairlinelaw01.NatRing", spec := "natRing", inPlace := ["math/bits.Add64", "math/bits.Sub64", "internal/abi.NoEscape"], named := ["math/bits.divideError", "math/bits.overflowError"], apart := false, narrowed := true }
def NatRingUptoSaid : Prop := natRingUptoRow.holds Try.pinned (OpenSpec.upto natRingSpec)

/-- 'hairlinelaw01.NatCommon', WHERE WHAT IT READS IS OF BULK AT MOST 1048576: true; the input reads as it did. -/
def natCommonUptoRow : OpenClaim := { program := "ytccbmjkhplmgnaa", sum := "7cd5b2c90404172ac59202c56a3dc06600ed3f9c7e19ad7ff1d94c2fa275af44", func := "hairline/hairlinelaw01.NatCommon", spec := "natCommon", inPlace := ["math/bits.Add64", "math/bits.Sub64", "internal/abi.NoEscape"], named := ["math/bits.divideError", "math/bits.overflowError"], apart := false, narrowed := true }
def NatCommonUptoSaid : Prop := natCommonUptoRow.holds Try.pinned (OpenSpec.upto natCommonSpec)

/-- 'hairlinelaw01.NatTexts', WHERE WHAT IT READS IS OF BULK AT MOST 1048576: true; the input reads as it did. -/
def natTextsUptoRow : OpenClaim := { program := "ytccbmjkhplmgnaa", sum := "7cd5b2c90404172ac59202c56a3dc06600ed3f9c7e19ad7ff1d94c2fa275af44", func := "hairline/hairlinelaw01.NatTexts", spec := "natTexts", inPlace := ["math/bits.Add64", "math/bits.Sub64", "internal/abi.NoEscape", "internal/bytealg.IndexByteString"], named := ["math/bits.divideError", "math/bits.overflowError"], apart := false, narrowed := true }
def NatTextsUptoSaid : Prop := natTextsUptoRow.holds Try.pinned (OpenSpec.upto natTextsSpec)

/-- 'hairlinelaw01.NatBack', WHERE WHAT IT READS IS OF BULK AT MOST 1048576: true; the input reads as it did. -/
def natBackUptoRow : OpenClaim := { program := "ytccbmjkhplmgnaa", sum := "7cd5b2c90404172ac59202c56a3dc06600ed3f9c7e19ad7ff1d94c2fa275af44", func := "hairline/hairlinelaw01.NatBack", spec := "natBack", inPlace := ["math/bits.Add64", "math/bits.Sub64", "internal/abi.NoEscape", "internal/bytealg.IndexByteString"], named := ["math/bits.divideError", "math/bits.overflowError"], apart := false, narrowed := true }
def NatBackUptoSaid : Prop := natBackUptoRow.holds Try.pinned (OpenSpec.upto natBackSpec)

/-- 'hairlinelaw02.ZedSmalls', WHERE WHAT IT READS IS OF BULK AT MOST 1048576: true; the input reads as it did. -/
def zedSmallsUptoRow : OpenClaim := { program := "ytccbmjkhplmgnaa", sum := "7cd5b2c90404172ac59202c56a3dc06600ed3f9c7e19ad7ff1d94c2fa275af44", func := "hairline/hairlinelaw02.ZedSmalls", spec := "zedSmalls", inPlace := ["math/bits.Add64", "math/bits.Sub64"], named := ["math/bits.divideError", "math/bits.overflowError"], apart := false, narrowed := true }
def ZedSmallsUptoSaid : Prop := zedSmallsUptoRow.holds Try.pinned (OpenSpec.upto zedSmallsSpec)

/-- 'hairlinelaw02.ZedShifts', WHERE WHAT IT READS IS OF BULK AT MOST 1048576: true; the input reads as it did. -/
def zedShiftsUptoRow : OpenClaim := { program := "ytccbmjkhplmgnaa", sum := "7cd5b2c90404172ac59202c56a3dc06600ed3f9c7e19ad7ff1d94c2fa275af44", func := "hairline/hairlinelaw02.ZedShifts", spec := "zedShifts", inPlace := ["math/bits.Add64", "math/bits.Sub64"], named := ["math/bits.divideError", "math/bits.overflowError"], apart := false, narrowed := true }
def ZedShiftsUptoSaid : Prop := zedShiftsUptoRow.holds Try.pinned (OpenSpec.upto zedShiftsSpec)

/-- 'hairlinelaw02.ZedDivides', WHERE WHAT IT READS IS OF BULK AT MOST 1048576: true; the input reads as it did. -/
def zedDividesUptoRow : OpenClaim := { program := "ytccbmjkhplmgnaa", sum := "7cd5b2c90404172ac59202c56a3dc06600ed3f9c7e19ad7ff1d94c2fa275af44", func := "hairline/hairlinelaw02.ZedDivides", spec := "zedDivides", inPlace := ["math/bits.Add64", "math/bits.Sub64"], named := ["math/bits.divideError", "math/bits.overflowError"], apart := false, narrowed := true }
def ZedDividesUptoSaid : Prop := zedDividesUptoRow.holds Try.pinned (OpenSpec.upto zedDividesSpec)

/-- 'hairlinelaw02.ZedSums', WHERE WHAT IT READS IS OF BULK AT MOST 1048576: true; the input reads as it did. -/
def zedSumsUptoRow : OpenClaim := { program := "ytccbmjkhplmgnaa", sum := "7cd5b2c90404172ac59202c56a3dc06600ed3f9c7e19ad7ff1d94c2fa275af44", func := "hairline/hairlinelaw02.ZedSums", spec := "zedSums", inPlace := ["math/bits.Add64", "math/bits.Sub64"], named := ["math/bits.divideError", "math/bits.overflowError"], apart := false, narrowed := true }
def ZedSumsUptoSaid : Prop := zedSumsUptoRow.holds Try.pinned (OpenSpec.upto zedSumsSpec)

/-- 'hairlinelaw02.ZedStands', WHERE WHAT IT READS IS OF BULK AT MOST 1048576: true; the input reads as it did. -/
def zedStandsUptoRow : OpenClaim := { program := "ytccbmjkhplmgnaa", sum := "7cd5b2c90404172ac59202c56a3dc06600ed3f9c7e19ad7ff1d94c2fa275af44", func := "hairline/hairlinelaw02.ZedStands", spec := "zedStands", inPlace := ["math/bits.Add64", "math/bits.Sub64"], named := ["math/bits.divideError", "math/bits.overflowError"], apart := false, narrowed := true }
def ZedStandsUptoSaid : Prop := zedStandsUptoRow.holds Try.pinned (OpenSpec.upto zedStandsSpec)

/-- 'hairlinelaw02.ZedHalves', WHERE WHAT IT READS IS OF BULK AT MOST 1048576: true; the input reads as it did. -/
def zedHalvesUptoRow : OpenClaim := { program := "ytccbmjkhplmgnaa", sum := "7cd5b2c90404172ac59202c56a3dc06600ed3f9c7e19ad7ff1d94c2fa275af44", func := "hairline/hairlinelaw02.ZedHalves", spec := "zedHalves", inPlace := ["math/bits.Add64", "math/bits.Sub64"], named := ["math/bits.divideError", "math/bits.overflowError"], apart := false, narrowed := true }
def ZedHalvesUptoSaid : Prop := zedHalvesUptoRow.holds Try.pinned (OpenSpec.upto zedHalvesSpec)

/-- 'hairlinelaw02.ZedRing', WHERE WHAT IT READS IS OF BULK AT MOST 1048576: true; the input reads as it did. -/
def zedRingUptoRow : OpenClaim := { program := "ytccbmjkhplmgnaa", sum := "7cd5b2c90404172ac59202c56a3dc06600ed3f9c7e19ad7ff1d94c2fa275af44", func := "hairline/hairlinelaw02.ZedRing", spec := "zedRing", inPlace := ["math/bits.Add64", "math/bits.Sub64"], named := ["math/bits.divideError", "math/bits.overflowError"], apart := false, narrowed := true }
def ZedRingUptoSaid : Prop := zedRingUptoRow.holds Try.pinned (OpenSpec.upto zedRingSpec)

/-- 'hairlinelaw02.ZedRests', WHERE WHAT IT READS IS OF BULK AT MOST 1048576: true; the input reads as it did. -/
def zedRestsUptoRow : OpenClaim := { program := "ytccbmjkhplmgnaa", sum := "7cd5b2c90404172ac59202c56a3dc06600ed3f9c7e19ad7ff1d94c2fa275af44", func := "hairline/hairlinelaw02.ZedRests", spec := "zedRests", inPlace := ["math/bits.Add64", "math/bits.Sub64"], named := ["math/bits.divideError", "math/bits.overflowError"], apart := false, narrowed := true }
def ZedRestsUptoSaid : Prop := zedRestsUptoRow.holds Try.pinned (OpenSpec.upto zedRestsSpec)

/-- 'hairlinelaw15.LefevreFirsts', WHERE WHAT IT READS IS OF BULK AT MOST 1048576: true; the input reads as it did. -/
def lefevreFirstsUptoRow : OpenClaim := { program := "ytccbmjkhplmgnaa", sum := "7cd5b2c90404172ac59202c56a3dc06600ed3f9c7e19ad7ff1d94c2fa275af44", func := "hairline/hairlinelaw15.LefevreFirsts", spec := "lefevreFirsts", inPlace := ["math/bits.Add64", "math/bits.Sub64"], unfollowed := true, recurses := true, named := ["math/bits.divideError", "math/bits.overflowError"], apart := false, narrowed := true }
def LefevreFirstsUptoSaid : Prop := lefevreFirstsUptoRow.holds Try.pinned (OpenSpec.upto lefevreFirstsSpec)

/-- 'hairlinelaw15.LefevreArcs', WHERE WHAT IT READS IS OF BULK AT MOST 1048576: true; the input reads as it did. -/
def lefevreArcsUptoRow : OpenClaim := { program := "ytccbmjkhplmgnaa", sum := "7cd5b2c90404172ac59202c56a3dc06600ed3f9c7e19ad7ff1d94c2fa275af44", func := "hairline/hairlinelaw15.LefevreArcs", spec := "lefevreArcs", inPlace := ["math/bits.Add64", "math/bits.Sub64"], unfollowed := true, recurses := true, named := ["math/bits.divideError", "math/bits.overflowError"], apart := false, narrowed := true }
def LefevreArcsUptoSaid : Prop := lefevreArcsUptoRow.holds Try.pinned (OpenSpec.upto lefevreArcsSpec)

/-- 'hairlinelaw15.LefevreTries', WHERE WHAT IT READS IS OF BULK AT MOST 1048576: true; the input reads as it did. -/
def lefevreTriesUptoRow : OpenClaim := { program := "ytccbmjkhplmgnaa", sum := "7cd5b2c90404172ac59202c56a3dc06600ed3f9c7e19ad7ff1d94c2fa275af44", func := "hairline/hairlinelaw15.LefevreTries", spec := "lefevreTries", inPlace := ["math/bits.Add64", "math/bits.Sub64"], unfollowed := true, recurses := true, named := ["math/bits.divideError", "math/bits.overflowError"], apart := false, narrowed := true }
def LefevreTriesUptoSaid : Prop := lefevreTriesUptoRow.holds Try.pinned (OpenSpec.upto lefevreTriesSpec)

/-- 'hairlinelaw15.LefevreThree', WHERE WHAT IT READS IS OF BULK AT MOST 1048576: true; the input reads as it did. -/
def lefevreThreeUptoRow : OpenClaim := { program := "ytccbmjkhplmgnaa", sum := "7cd5b2c90404172ac59202c56a3dc06600ed3f9c7e19ad7ff1d94c2fa275af44", func := "hairline/hairlinelaw15.LefevreThree", spec := "lefevreThree", inPlace := ["math/bits.Add64", "math/bits.Sub64"], unfollowed := true, recurses := true, named := ["math/bits.divideError", "math/bits.overflowError"], apart := false, narrowed := true }
def LefevreThreeUptoSaid : Prop := lefevreThreeUptoRow.holds Try.pinned (OpenSpec.upto lefevreThreeSpec)

/-- 'hairlinelaw15.LefevreTurns', WHERE WHAT IT READS IS OF BULK AT MOST 1048576: true; the input reads as it did. -/
def lefevreTurnsUptoRow : OpenClaim := { program := "ytccbmjkhplmgnaa", sum := "7cd5b2c90404172ac59202c56a3dc06600ed3f9c7e19ad7ff1d94c2fa275af44", func := "hairline/hairlinelaw15.LefevreTurns", spec := "lefevreTurns", inPlace := ["math/bits.Add64", "math/bits.Sub64"], unfollowed := true, recurses := true, named := ["math/bits.divideError", "math/bits.overflowError"], apart := false, narrowed := true }
def LefevreTurnsUptoSaid : Prop := lefevreTurnsUptoRow.holds Try.pinned (OpenSpec.upto lefevreTurnsSpec)

/-- 'hairlinelaw15.LefevreSplits', WHERE WHAT IT READS IS OF BULK AT MOST 1048576: true; the input reads as it did. -/
def lefevreSplitsUptoRow : OpenClaim := { program := "ytccbmjkhplmgnaa", sum := "7cd5b2c90404172ac59202c56a3dc06600ed3f9c7e19ad7ff1d94c2fa275af44", func := "hairline/hairlinelaw15.LefevreSplits", spec := "lefevreSplits", inPlace := ["math/bits.Add64", "math/bits.Sub64"], unfollowed := true, recurses := true, named := ["math/bits.divideError", "math/bits.overflowError"], apart := false, narrowed := true }
def LefevreSplitsUptoSaid : Prop := lefevreSplitsUptoRow.holds Try.pinned (OpenSpec.upto lefevreSplitsSpec)

/-- 'hairlinelaw15.LefevreSides', WHERE WHAT IT READS IS OF BULK AT MOST 1048576: true; the input reads as it did. -/
def lefevreSidesUptoRow : OpenClaim := { program := "ytccbmjkhplmgnaa", sum := "7cd5b2c90404172ac59202c56a3dc06600ed3f9c7e19ad7ff1d94c2fa275af44", func := "hairline/hairlinelaw15.LefevreSides", spec := "lefevreSides", inPlace := ["math/bits.Add64", "math/bits.Sub64"], unfollowed := true, recurses := true, named := ["math/bits.divideError", "math/bits.overflowError"], apart := false, narrowed := true }
def LefevreSidesUptoSaid : Prop := lefevreSidesUptoRow.holds Try.pinned (OpenSpec.upto lefevreSidesSpec)

/-- 'hairlinelaw15.LefevreDirichlet', WHERE WHAT IT READS IS OF BULK AT MOST 1048576: true; the input reads as it did. -/
def lefevreDirichletUptoRow : OpenClaim := { program := "ytccbmjkhplmgnaa", sum := "7cd5b2c90404172ac59202c56a3dc06600ed3f9c7e19ad7ff1d94c2fa275af44", func := "hairline/hairlinelaw15.LefevreDirichlet", spec := "lefevreDirichlet", inPlace := ["math/bits.Add64", "math/bits.Sub64"], unfollowed := true, recurses := true, named := ["math/bits.divideError", "math/bits.overflowError"], apart := false, narrowed := true }
def LefevreDirichletUptoSaid : Prop := lefevreDirichletUptoRow.holds Try.pinned (OpenSpec.upto lefevreDirichletSpec)

end Rows
end Go.Proofs.Ytccbmjkhplmgnaa

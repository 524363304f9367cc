/-
  No cell of these rows narrows 'for every input' (looked for: loops, veiled, ifaces, maps, wideKeys, modest, calm, conditions, laid).
  DERIVED. THE GIVEN ROWS OF THIS SEAT. 2 by the template 'for every input the law returns true; each argument reads behind the call as it read before'; 0 by the template 'total and deterministic' (their statements: YtccbmjkhplmgnaaGreatTotals.lean).
  GIVEN WITH THE SEED: the statements are not yours to turn. If you find one false, say at which input.
  Laid BY PROGRAM, IN A SANDBOX (cutbox-rows.mjs): the forced cells as the released guide's own fill.sh prints them over the translation 345c2566b5b156c8… (all of the seat's roots in one cut). By AI agents, Wed Nov 11 2026. No macro, syntax, notation, axiom, sorry.
-/
import Derived.Test.YtccbmjkhplmgnaaGreatChecked
import GoSem.Claim
import GoSem.ClaimJoined
import GoSem.ClaimMapViews
import Derived.JoinedTies
import Derived.KernelRfl
namespace Go.Proofs.YtccbmjkhplmgnaaGreat
/- THE CELL 'sum', in the pinned program and in every row, IS THE sha256 OF THE DUMP (.gsa) THAT YtccbmjkhplmgnaaGreatProg.lean LOADS. Nothing in Lean hashes anything: it is a label: what it is worth is what the hold of that sum in a sandbox is worth. -/
noncomputable def Tryz.pinned : Pinned := { name := "ytccbmjkhplmgnaagreat", sum := "345c2566b5b156c8877d0629ace19f0008291024e3c3d05b0751ce3bd3cb8d0d", checked := Tryz.checked }
namespace Rows
def none {H : Type} : Left H := { results := [], args := [] }

/-- 'hairlinelaw15.LefevreLeasts': WHATEVER THE INPUT: true; the input reads as it did. -/
def lefevreLeastsSpec : ChangeSpec := { name := "lefevreLeasts", fn := fun _ => fun
  | [d] => { results := [.lit (.bool true)], args := [d] }
  | _ => none }
def lefevreLeastsRow : OpenClaim := { program := "ytccbmjkhplmgnaagreat", sum := "345c2566b5b156c8877d0629ace19f0008291024e3c3d05b0751ce3bd3cb8d0d", func := "hairline/hairlinelaw15.LefevreLeasts", spec := "lefevreLeasts", inPlace := ["math/bits.Add64", "math/bits.Sub64"], unfollowed := true, recurses := true, named := ["math/bits.divideError", "math/bits.overflowError"], apart := false }
def LefevreLeastsSaid : Prop := lefevreLeastsRow.holds Tryz.pinned (OpenSpec.ofChange lefevreLeastsSpec)

/-- ITS FALSE NEIGHBOUR: 'it returns false'. Refute it at one input. -/
def lefevreLeastsWrong : ChangeSpec := { name := "lefevreLeasts", fn := fun _ => fun
  | [d] => { results := [.lit (.bool false)], args := [d] }
  | _ => none }
def LefevreLeastsWrongFalsely : Prop := lefevreLeastsRow.holds Tryz.pinned (OpenSpec.ofChange lefevreLeastsWrong)

/-- 'hairlinelaw15.LefevreCounts': WHATEVER THE INPUT: true; the input reads as it did. -/
def lefevreCountsSpec : ChangeSpec := { name := "lefevreCounts", fn := fun _ => fun
  | [d1, d2, d3] => { results := [.lit (.bool true)], args := [d1, d2, d3] }
  | _ => none }
def lefevreCountsRow : OpenClaim := { program := "ytccbmjkhplmgnaagreat", sum := "345c2566b5b156c8877d0629ace19f0008291024e3c3d05b0751ce3bd3cb8d0d", func := "hairline/hairlinelaw15.LefevreCounts", spec := "lefevreCounts", inPlace := ["math/bits.Add64", "math/bits.Sub64"], unfollowed := true, recurses := true, named := ["math/bits.divideError", "math/bits.overflowError"], apart := false }
def LefevreCountsSaid : Prop := lefevreCountsRow.holds Tryz.pinned (OpenSpec.ofChange lefevreCountsSpec)

/-- ITS FALSE NEIGHBOUR: 'it returns false'. Refute it at one input. -/
def lefevreCountsWrong : ChangeSpec := { name := "lefevreCounts", fn := fun _ => fun
  | [d1, d2, d3] => { results := [.lit (.bool false)], args := [d1, d2, d3] }
  | _ => none }
def LefevreCountsWrongFalsely : Prop := lefevreCountsRow.holds Tryz.pinned (OpenSpec.ofChange lefevreCountsWrong)

/- THE SECOND FORM. 'bulk': how many values and letters a reading holds, each counted each time it is reached (what is shared counts as often as it is met; a slice's spare places count too). A statement '..UptoSaid' is the law's where the arguments, and the package variables that the reading takes, are together of bulk at most 1048576: NARROWER than '..Said'. Prove '..Said' where nothing that the law and all that it calls make is longer than what came in: it says more and counts as full. Else prove '..UptoSaid'. A law counts once. -/
mutual
def uptoBulk {H : Type} : DataW H → Nat
  | .lit (.string bytes) => bytes.length + 1
  | .lit _ => 1
  | .nil => 1
  | .ptr d => uptoBulk d + 1
  | .slice elems spare => uptoBulkAll elems + uptoBulkAll spare + 1
  | .agg parts => uptoBulkAll parts + 1
  | .iface _ d => uptoBulk d + 1
  | .map entries => uptoBulkEntries entries + 1
  | .held _ => 1
def uptoBulkAll {H : Type} : List (DataW H) → Nat
  | [] => 0
  | d :: r => uptoBulk d + uptoBulkAll r
def uptoBulkEntries {H : Type} : List (Lit × DataW H) → Nat
  | [] => 0
  | x :: r => uptoBulkEntry x + uptoBulkEntries r
def uptoBulkEntry {H : Type} : Lit × DataW H → Nat
  | (.string bytes, d) => bytes.length + uptoBulk d + 1
  | (_, d) => uptoBulk d + 1
 end
def uptoSmall : (H : Type) → List (DataW H) → Bool := fun _ ds => decide (uptoBulkAll ds ≤ 1048576)
def OpenSpec.upto (s : _root_.Go.ChangeSpec) : _root_.Go.OpenSpec := { _root_.Go.OpenSpec.ofChange s with cond := some uptoSmall }

/-- 'hairlinelaw15.LefevreLeasts', WHERE WHAT IT READS IS OF BULK AT MOST 1048576: true; the input reads as it did. -/
def lefevreLeastsUptoRow : OpenClaim := { program := "ytccbmjkhplmgnaagreat", sum := "345c2566b5b156c8877d0629ace19f0008291024e3c3d05b0751ce3bd3cb8d0d", func := "hairline/hairlinelaw15.LefevreLeasts", spec := "lefevreLeasts", inPlace := ["math/bits.Add64", "math/bits.Sub64"], unfollowed := true, recurses := true, named := ["math/bits.divideError", "math/bits.overflowError"], apart := false, narrowed := true }
def LefevreLeastsUptoSaid : Prop := lefevreLeastsUptoRow.holds Tryz.pinned (OpenSpec.upto lefevreLeastsSpec)

/-- 'hairlinelaw15.LefevreCounts', WHERE WHAT IT READS IS OF BULK AT MOST 1048576: true; the input reads as it did. -/
def lefevreCountsUptoRow : OpenClaim := { program := "ytccbmjkhplmgnaagreat", sum := "345c2566b5b156c8877d0629ace19f0008291024e3c3d05b0751ce3bd3cb8d0d", func := "hairline/hairlinelaw15.LefevreCounts", spec := "lefevreCounts", inPlace := ["math/bits.Add64", "math/bits.Sub64"], unfollowed := true, recurses := true, named := ["math/bits.divideError", "math/bits.overflowError"], apart := false, narrowed := true }
def LefevreCountsUptoSaid : Prop := lefevreCountsUptoRow.holds Tryz.pinned (OpenSpec.upto lefevreCountsSpec)

end Rows
end Go.Proofs.YtccbmjkhplmgnaaGreat

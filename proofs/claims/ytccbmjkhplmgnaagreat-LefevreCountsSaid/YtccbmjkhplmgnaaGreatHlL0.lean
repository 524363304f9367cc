/- Contracts without parameters. -/
import Derived.Test.YtccbmjkhplmgnaaGreatHlF
set_option linter.unusedVariables false
set_option linter.unusedSimpArgs false
namespace Go.Hl
open Go Go.RowKit
@[push_cast] def sp0 (k : Nat) (r : AV) : Sp where
  kind := k
  pre | [] => True
      | _ => False
  res | [] => r
      | _ => .any
theorem SpOK.O {P : Program} {f : FuncId} {r : AV} (h : ACall P f [] r) : SpOK P f (sp0 0 r) := by
  refine SpOK.zero rfl fun args hp => ?_
  simp only [sp0] at hp ⊢
  split at hp
  · exact h
  · exact hp.elim
end Go.Hl

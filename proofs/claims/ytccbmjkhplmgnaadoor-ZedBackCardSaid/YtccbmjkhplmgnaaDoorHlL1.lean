/- hairlinelaw01: shown, cut -/
import Derived.Test.YtccbmjkhplmgnaaDoorHlPe
import Derived.Test.YtccbmjkhplmgnaaDoorHlRa
import Derived.Test.YtccbmjkhplmgnaaDoorHlPa
set_option linter.unusedVariables false
set_option linter.unusedSimpArgs false
namespace Go.Hl
open Go Go.RowKit Go.Proofs
set_option maxHeartbeats 4000000

@[push_cast] def sp0 (k : Nat) (r : AV) : Sp where
  kind := k
  pre | [] => True
      | _ => False
  res | [] => r
      | _ => .any
theorem SpOK.O {P : Program} {f : FuncId} {r : AV} (h : ACall P f [] r) : SpOK P f (sp0 0 r) := by
  refine SpOK.zero rfl fun args hp => ?_
  simp only [sp0] at hp ⊢
  split at hp
  · exact h
  · exact hp.elim

@[push_cast] def spShown : Sp := sp0 0 (.raw (.bool true))

theorem dg_of {n : Nat} {xs : List Int} (h : Lim B64 xs) (ht : Top xs) (e : nb xs = n) : dg n = xs := by
  rw [← e]; exact (eq_digs (by decide) h ht).symm
theorem lim1 {x : Int} (h : 0 ≤ x ∧ x < 18446744073709551616) : Lim B64 [x] := Lim.cons (by rw [hB64]; exact h) Lim.nil

end Go.Hl

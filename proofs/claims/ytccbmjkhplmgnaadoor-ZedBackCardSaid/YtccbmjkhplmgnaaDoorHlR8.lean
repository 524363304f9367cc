/- hairlineref01: Shr -/
import Derived.Test.YtccbmjkhplmgnaaDoorHlRc
import Derived.Test.YtccbmjkhplmgnaaDoorHlM
set_option linter.unusedVariables false
set_option linter.unusedSimpArgs false
namespace Go.Hl
open Go Go.RowKit Go.Proofs
set_option maxHeartbeats 4000000

@[push_cast] def spRShr : Sp := spNI 0 (fun xs _ => Lm xs ∧ xs.length < 100000000) (fun xs n => .ns .u64 (dg (nb xs / 2 ^ sh n)))

theorem getD_take {D Q : List Int} {m n : Nat} (h : Q.take (m + 1) = D.take (m + 1)) (hn : n = m) : Q.getD n 0 = D.getD n 0 := by
  subst hn
  have : (Q.take (n + 1)).getD n 0 = (D.take (n + 1)).getD n 0 := by rw [h]
  simpa [List.getD_eq_getElem?_getD, List.getElem?_take] using this
theorem take_set_lt {Q : List Int} {m : Nat} {v : Int} : (Q.set m v).take m = Q.take m := by
  rw [List.take_set, List.set_eq_of_length_le (by rw [List.length_take]; omega)]

end Go.Hl

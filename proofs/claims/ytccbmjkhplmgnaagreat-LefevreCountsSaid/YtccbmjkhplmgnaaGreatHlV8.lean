/- LefevreSplits -/
import Derived.Test.YtccbmjkhplmgnaaGreatHlVa
set_option linter.unusedVariables false
set_option linter.unusedSimpArgs false
namespace Go.Hl
open Go Go.RowKit Go.Proofs
set_option maxHeartbeats 8000000
set_option maxRecDepth 100000
theorem fit_of {z : Int} {k : Nat} (hk : k < 900) (h : z.natAbs < B64 ^ k) : Lm (dg z.natAbs) ∧ (dg z.natAbs).length < 1000 := by
  obtain ⟨f1, _, f2⟩ := dgl h (by omega)
  exact ⟨f1, by omega⟩
theorem i64_lt {n : Int} (n1 : -9223372036854775808 ≤ n) (n2 : n < 9223372036854775808) : n.natAbs < B64 ^ 1 := by rw [Nat.pow_one]; unfold B64; omega
theorem pow64_le {z : Nat} {j k : Nat} (h : z < B64 ^ j) (hjk : j ≤ k) : z < B64 ^ k := Nat.lt_of_lt_of_le h (Nat.pow_le_pow_right (by decide) hjk)
end Go.Hl

/- NatSums -/
import Derived.Test.YtccbmjkhplmgnaaHlL3
import Derived.Test.YtccbmjkhplmgnaaHlRb
set_option linter.unusedVariables false
set_option linter.unusedSimpArgs false
namespace Go.Hl
open Go Go.RowKit Go.Proofs
set_option maxHeartbeats 4000000

theorem natSums_ok {xs ys : List Int} (hx : Lim B64 xs) (hy : Lim B64 ys) : ACall Try.prog 8 [.ns .u64 xs, .ns .u64 ys] (.raw (.bool true)) := by
  have hE := env (SOK.cons shown_ok (SOK.cons cut_ok (SOK.cons add_ok (SOK.cons radd_ok (SOK.cons mul_ok (SOK.cons rmul_ok (SOK.cons sub_ok (SOK.cons rsub_ok (SOK.cons same_ok (SOK.nil (P := Try.prog)))))))))))
  obtain ⟨hA, hAl⟩ := lm_take hx (n := 40) (by decide)
  obtain ⟨hB, hBl⟩ := lm_take hy (n := 40) (by decide)
  have bA := nb_take_pow hx 40
  have bB := nb_take_pow hy 40
  obtain ⟨A, eA⟩ : ∃ A, xs.take 40 = A := ⟨_, rfl⟩
  obtain ⟨B, eB⟩ : ∃ B, ys.take 40 = B := ⟨_, rfl⟩
  rw [eA] at hA hAl bA
  rw [eB] at hB hBl bB
  obtain ⟨a, ea⟩ : ∃ a, nb A = a := ⟨_, rfl⟩
  obtain ⟨b, eb⟩ : ∃ b, nb B = b := ⟨_, rfl⟩
  rw [ea] at bA
  rw [eb] at bB
  obtain ⟨q1, q1l⟩ := lmd (pow_add_lt bA bB) (by decide)
  obtain ⟨q2, q2l⟩ := lmd (pow_mul_lt bA bB) (by decide)
  obtain ⟨q3, q3l⟩ := lmd (Nat.lt_of_le_of_lt (Nat.sub_le a b) bA) (by decide)
  refine ACall.body hE Try.func8 Try.ntmps8 Try.results8 ?_
  refine wk hE (And.intro eA (And.intro eB (And.intro ea eb))) ?_
  exact PostL.mk trivial rfl
end Go.Hl

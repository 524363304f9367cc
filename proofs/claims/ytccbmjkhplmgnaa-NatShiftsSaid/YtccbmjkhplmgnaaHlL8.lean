/- NatShifts -/
import Derived.Test.YtccbmjkhplmgnaaHlL4
import Derived.Test.YtccbmjkhplmgnaaHlR8
set_option linter.unusedVariables false
set_option linter.unusedSimpArgs false
namespace Go.Hl
open Go Go.RowKit Go.Proofs
set_option maxHeartbeats 4000000

theorem natShifts_ok {xs : List Int} (hx : Lim B64 xs) {n : Int} (_hn : (Lit.int .i64 n).wf = true) : ACall Try.prog 3 [.ns .u64 xs, .raw (.int .i64 n)] (.raw (.bool true)) := by
  have hE := env (SOK.cons shown_ok (SOK.cons cut_ok (SOK.cons shl_ok (SOK.cons rshl_ok (SOK.cons shr_ok (SOK.cons rshr_ok (SOK.cons same_ok (SOK.nil (P := Try.prog)))))))))
  obtain ⟨hA, hAl⟩ := lm_take hx (n := 40) (by decide)
  have bA := nb_take_pow hx 40
  obtain ⟨A, eA⟩ : ∃ A, xs.take 40 = A := ⟨_, rfl⟩
  rw [eA] at hA hAl bA
  obtain ⟨a, ea⟩ : ∃ a, nb A = a := ⟨_, rfl⟩
  rw [ea] at bA
  have hs := sh_le n
  have hp : 2 ^ sh n < B64 ^ 129 := two_pow_lt (by omega)
  obtain ⟨q1, q1l⟩ := lmd (pow_mul_lt bA hp) (by decide)
  obtain ⟨q2, q2l⟩ := lmd (Nat.lt_of_le_of_lt (Nat.div_le_self a (2 ^ sh n)) bA) (by decide)
  refine ACall.body hE Try.func3 Try.ntmps3 Try.results3 ?_
  refine wk hE (And.intro eA ea) ?_
  exact PostL.mk trivial rfl
end Go.Hl

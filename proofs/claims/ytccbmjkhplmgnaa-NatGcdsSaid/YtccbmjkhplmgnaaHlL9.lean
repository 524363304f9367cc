/- NatDivides, NatGcds -/
import Derived.Test.YtccbmjkhplmgnaaHlL5
import Derived.Test.YtccbmjkhplmgnaaHlR9
set_option linter.unusedVariables false
set_option linter.unusedSimpArgs false
namespace Go.Hl
open Go Go.RowKit Go.Proofs
set_option maxHeartbeats 4000000

theorem rm_le (a b : Nat) : rm a b ≤ a := by unfold rm; split; omega; exact Nat.mod_le _ _
theorem natDivides_ok {xs ys : List Int} (hx : Lim B64 xs) (hy : Lim B64 ys) : ACall Try.prog 4 [.ns .u64 xs, .ns .u64 ys] (.raw (.bool true)) := by
  have hE := env (SOK.cons shown_ok (SOK.cons cut_ok (SOK.cons divmod_ok (SOK.cons rdivmod_ok (SOK.cons same_ok (SOK.nil (P := Try.prog)))))))
  obtain ⟨hA, hAl⟩ := lm_take hx (n := 24) (by decide)
  obtain ⟨hB, hBl⟩ := lm_take hy (n := 16) (by decide)
  have bA := nb_take_pow hx 24
  obtain ⟨A, eA⟩ : ∃ A, xs.take 24 = A := ⟨_, rfl⟩
  obtain ⟨B, eB⟩ : ∃ B, ys.take 16 = B := ⟨_, rfl⟩
  rw [eA] at hA hAl bA
  rw [eB] at hB hBl
  obtain ⟨a, ea⟩ : ∃ a, nb A = a := ⟨_, rfl⟩
  obtain ⟨b, eb⟩ : ∃ b, nb B = b := ⟨_, rfl⟩
  rw [ea] at bA
  obtain ⟨q1, q1l⟩ := lmd (Nat.lt_of_le_of_lt (Nat.div_le_self a b) bA) (by decide)
  obtain ⟨q2, q2l⟩ := lmd (Nat.lt_of_le_of_lt (rm_le a b) bA) (by decide)
  refine ACall.body hE Try.func4 Try.ntmps4 Try.results4 ?_
  refine wk hE (And.intro eA (And.intro eB (And.intro ea eb))) ?_
  exact PostL.mk trivial rfl

theorem natGcds_ok {xs ys : List Int} (hx : Lim B64 xs) (hy : Lim B64 ys) : ACall Try.prog 5 [.ns .u64 xs, .ns .u64 ys] (.raw (.bool true)) := by
  have hE := env (SOK.cons shown_ok (SOK.cons cut_ok (SOK.cons gcd_ok (SOK.cons rgcd_ok (SOK.cons same_ok (SOK.nil (P := Try.prog)))))))
  obtain ⟨hA, hAl⟩ := lm_take hx (n := 4) (by decide)
  obtain ⟨hB, hBl⟩ := lm_take hy (n := 4) (by decide)
  have bA := nb_take_pow hx 4
  have bB := nb_take_pow hy 4
  obtain ⟨A, eA⟩ : ∃ A, xs.take 4 = A := ⟨_, rfl⟩
  obtain ⟨B, eB⟩ : ∃ B, ys.take 4 = B := ⟨_, rfl⟩
  rw [eA] at hA hAl bA
  rw [eB] at hB hBl bB
  obtain ⟨a, ea⟩ : ∃ a, nb A = a := ⟨_, rfl⟩
  obtain ⟨b, eb⟩ : ∃ b, nb B = b := ⟨_, rfl⟩
  rw [ea] at bA
  rw [eb] at bB
  have hgl : Nat.gcd a b < B64 ^ 4 := by
    by_cases h : a = 0
    · rw [h, Nat.gcd_zero_left]; exact bB
    · exact Nat.lt_of_le_of_lt (Nat.gcd_le_left b (by omega)) bA
  obtain ⟨q1, q1l⟩ := lmd hgl (by decide)
  refine ACall.body hE Try.func5 Try.ntmps5 Try.results5 ?_
  refine wk hE (And.intro eA (And.intro eB (And.intro ea eb))) ?_
  exact PostL.mk trivial rfl
end Go.Hl

/- NatUndoes -/
import Derived.Test.YtccbmjkhplmgnaaHlL2
set_option linter.unusedVariables false
set_option linter.unusedSimpArgs false
namespace Go.Hl
open Go Go.RowKit Go.Proofs
set_option maxHeartbeats 4000000

theorem pow_mul_lt {x y i j : Nat} (hx : x < B64 ^ i) (hy : y < B64 ^ j) : x * y < B64 ^ (i + j) := by rw [Nat.pow_add]; exact Nat.mul_lt_mul'' hx hy
theorem pow_add_lt {x y i : Nat} (hx : x < B64 ^ i) (hy : y < B64 ^ i) : x + y < B64 ^ (i + 1) := by
  rw [Nat.pow_succ]
  have : B64 ^ i * 2 ≤ B64 ^ i * B64 := Nat.mul_le_mul_left _ (by decide)
  omega

theorem natUndoes_ok {xs ys zs : List Int} (hx : Lim B64 xs) (hy : Lim B64 ys) (hz : Lim B64 zs) : ACall Try.prog 9 [.ns .u64 xs, .ns .u64 ys, .ns .u64 zs] (.raw (.bool true)) := by
  have hE := env (SOK.cons shown_ok (SOK.cons cut_ok (SOK.cons norm_ok (SOK.cons add_ok (SOK.cons mul_ok (SOK.cons sub_ok (SOK.cons cmp_ok (SOK.cons divmod_ok (SOK.cons same_ok (SOK.nil (P := Try.prog)))))))))))
  obtain ⟨hA, hAl⟩ := lm_take hx (n := 16) (by decide)
  obtain ⟨hB, hBl⟩ := lm_take hy (n := 16) (by decide)
  obtain ⟨hC, hCl⟩ := lm_take hz (n := 16) (by decide)
  have bA := nb_take_pow hx 16
  have bB := nb_take_pow hy 16
  have bC := nb_take_pow hz 16
  obtain ⟨a, ea⟩ : ∃ a, nb (xs.take 16) = a := ⟨_, rfl⟩
  obtain ⟨b, eb⟩ : ∃ b, nb (ys.take 16) = b := ⟨_, rfl⟩
  obtain ⟨c, ec⟩ : ∃ c, nb (zs.take 16) = c := ⟨_, rfl⟩
  rw [ea] at bA
  rw [eb] at bB
  rw [ec] at bC
  obtain ⟨q1, q1l⟩ := lmd bA (by decide)
  obtain ⟨q2, q2l⟩ := lmd bB (by decide)
  obtain ⟨q3, q3l⟩ := lmd bC (by decide)
  obtain ⟨q4, q4l⟩ := lmd (pow_add_lt bA bB) (by decide)
  obtain ⟨q5, q5l⟩ := lmd (pow_mul_lt bA bB) (by decide)
  have e1 : a + b - b = a := Nat.add_sub_cancel _ _
  have e2 : b + a = a + b := Nat.add_comm b a
  have e3 : b ≤ a + b := Nat.le_add_left b a
  refine ACall.body hE Try.func9 Try.ntmps9 Try.results9 ?_
  by_cases hcb : c < b
  · have c1 : cmpI c b = -1 := by unfold cmpI; rw [if_pos hcb]
    have e4 : (a * b + c) / b = a := by rw [Nat.mul_comm, Nat.mul_add_div (by omega), Nat.div_eq_of_lt hcb]; omega
    have e5 : rm (a * b + c) b = c := by unfold rm; rw [if_neg (by omega), Nat.mul_comm, Nat.mul_add_mod, Nat.mod_eq_of_lt hcb]
    have e6 : decide (b ≠ 0) = true := decide_eq_true (by omega)
    obtain ⟨q6, q6l⟩ := lmd (pow_add_lt (pow_mul_lt bA bB) (Nat.lt_of_lt_of_le bC (Nat.pow_le_pow_right (by decide) (by decide)))) (by decide)
    refine wk hE (And.intro ea (And.intro eb (And.intro ec (And.intro e1 (And.intro e2 (And.intro e3 (And.intro c1 (And.intro e4 (And.intro e5 e6))))))))) ?_
    exact PostL.mk trivial rfl
  · have c1 : ¬ cmpI c b < 0 := by unfold cmpI; rw [if_neg hcb]; split <;> decide
    have c2 : 0 ≤ cmpI c b := by omega
    refine wk hE (And.intro ea (And.intro eb (And.intro ec (And.intro e1 (And.intro e2 (And.intro e3 c2)))))) ?_
    exact PostL.mk trivial rfl
end Go.Hl

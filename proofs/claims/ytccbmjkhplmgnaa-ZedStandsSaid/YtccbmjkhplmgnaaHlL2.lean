/- NatRing -/
import Derived.Test.YtccbmjkhplmgnaaHlL1
set_option linter.unusedVariables false
set_option linter.unusedSimpArgs false
namespace Go.Hl
open Go Go.RowKit Go.Proofs
set_option maxHeartbeats 4000000

theorem lm_take {xs : List Int} (h : Lim B64 xs) {n : Nat} (hn : n ≤ 1000) : Lm (xs.take n) ∧ (xs.take n).length ≤ n :=
  ⟨⟨h.take n, by rw [List.length_take]; omega⟩, by rw [List.length_take]; omega⟩
theorem dg_len_le {n k : Nat} : (dg n).length ≤ k ↔ n < B64 ^ k := digs_length_le (by decide) n k
theorem lmd {n k : Nat} (h : n < B64 ^ k) (hk : k ≤ 1000) : Lm (dg n) ∧ (dg n).length ≤ k := ⟨lm_dg (by have := dg_len_le.2 h; omega), dg_len_le.2 h⟩
theorem nb_take_pow {xs : List Int} (h : Lim B64 xs) (n : Nat) : nb (xs.take n) < B64 ^ n := nb_take_lt h n

theorem natRing_ok {xs ys zs : List Int} (hx : Lim B64 xs) (hy : Lim B64 ys) (hz : Lim B64 zs) : ACall Try.prog 10 [.ns .u64 xs, .ns .u64 ys, .ns .u64 zs] (.raw (.bool true)) := by
  have hE := env (SOK.cons shown_ok (SOK.cons cut_ok (SOK.cons add_ok (SOK.cons mul_ok (SOK.cons same_ok (SOK.nil (P := Try.prog)))))))
  obtain ⟨hA, hAl⟩ := lm_take hx (n := 12) (by decide)
  obtain ⟨hB, hBl⟩ := lm_take hy (n := 12) (by decide)
  obtain ⟨hC, hCl⟩ := lm_take hz (n := 12) (by decide)
  have bA := nb_take_pow hx 12
  have bB := nb_take_pow hy 12
  have bC := nb_take_pow hz 12
  obtain ⟨A, eA⟩ : ∃ A, xs.take 12 = A := ⟨_, rfl⟩
  obtain ⟨B, eB⟩ : ∃ B, ys.take 12 = B := ⟨_, rfl⟩
  obtain ⟨C, eC⟩ : ∃ C, zs.take 12 = C := ⟨_, rfl⟩
  rw [eA] at hA hAl bA
  rw [eB] at hB hBl bB
  rw [eC] at hC hCl bC
  obtain ⟨a, ea⟩ : ∃ a, nb A = a := ⟨_, rfl⟩
  obtain ⟨b, eb⟩ : ∃ b, nb B = b := ⟨_, rfl⟩
  obtain ⟨c, ec⟩ : ∃ c, nb C = c := ⟨_, rfl⟩
  rw [ea] at bA
  rw [eb] at bB
  rw [ec] at bC
  have p1 : ∀ {x y i j : Nat}, x < B64 ^ i → y < B64 ^ j → x * y < B64 ^ (i + j) := fun hx hy => by rw [Nat.pow_add]; exact Nat.mul_lt_mul'' hx hy
  have p2 : ∀ {x y i : Nat}, x < B64 ^ i → y < B64 ^ i → x + y < B64 ^ (i + 1) := fun {x y i} hx hy => by
    rw [Nat.pow_succ]
    have : B64 ^ i * 2 ≤ B64 ^ i * B64 := Nat.mul_le_mul_left _ (by decide)
    omega
  obtain ⟨q1, q1l⟩ := lmd (p2 bA bB) (by decide)
  obtain ⟨q2, q2l⟩ := lmd (p1 (p2 bA bB) bC) (by decide)
  obtain ⟨q3, q3l⟩ := lmd (p1 bA bC) (by decide)
  obtain ⟨q4, q4l⟩ := lmd (p1 bB bC) (by decide)
  obtain ⟨q5, q5l⟩ := lmd (p2 (p1 bA bC) (p1 bB bC)) (by decide)
  obtain ⟨q6, q6l⟩ := lmd (p1 bA (p1 bB bC)) (by decide)
  obtain ⟨q7, q7l⟩ := lmd (p1 bA bB) (by decide)
  obtain ⟨q8, q8l⟩ := lmd (p1 (p1 bA bB) bC) (by decide)
  obtain ⟨q9, q9l⟩ := lmd (p1 bB bA) (by decide)
  have e1 : (a + b) * c = a * c + b * c := Nat.add_mul a b c
  have e2 : a * (b * c) = a * b * c := (Nat.mul_assoc a b c).symm
  have e3 : b * a = a * b := Nat.mul_comm b a
  refine ACall.body hE Try.func10 Try.ntmps10 Try.results10 ?_
  refine wk hE (And.intro eA (And.intro eB (And.intro eC (And.intro ea (And.intro eb (And.intro ec (And.intro e1 (And.intro e2 e3)))))))) ?_
  exact PostL.mk trivial rfl
end Go.Hl

/- NatCommon -/
import Derived.Test.YtccbmjkhplmgnaaHlL3
set_option linter.unusedVariables false
set_option linter.unusedSimpArgs false
namespace Go.Hl
open Go Go.RowKit Go.Proofs
set_option maxHeartbeats 4000000

theorem natCommon_ok {xs ys zs : List Int} (hx : Lim B64 xs) (hy : Lim B64 ys) (hz : Lim B64 zs) : ACall Try.prog 11 [.ns .u64 xs, .ns .u64 ys, .ns .u64 zs] (.raw (.bool true)) := by
  have hE := env (SOK.cons shown_ok (SOK.cons cut_ok (SOK.cons norm_ok (SOK.cons mul_ok (SOK.cons gcd_ok (SOK.cons divmod_ok (SOK.cons same_ok (SOK.nil (P := Try.prog)))))))))
  obtain ⟨hA, hAl⟩ := lm_take hx (n := 2) (by decide)
  obtain ⟨hB, hBl⟩ := lm_take hy (n := 2) (by decide)
  obtain ⟨hC, hCl⟩ := lm_take hz (n := 2) (by decide)
  have bA := nb_take_pow hx 2
  have bB := nb_take_pow hy 2
  have bC := nb_take_pow hz 2
  obtain ⟨A, eA⟩ : ∃ A, xs.take 2 = A := ⟨_, rfl⟩
  obtain ⟨B, eB⟩ : ∃ B, ys.take 2 = B := ⟨_, rfl⟩
  obtain ⟨C, eC⟩ : ∃ C, zs.take 2 = C := ⟨_, rfl⟩
  rw [eA] at hA hAl bA
  rw [eB] at hB hBl bB
  rw [eC] at hC hCl bC
  obtain ⟨a, ea⟩ : ∃ a, nb A = a := ⟨_, rfl⟩
  obtain ⟨b, eb⟩ : ∃ b, nb B = b := ⟨_, rfl⟩
  obtain ⟨c, ec⟩ : ∃ c, nb C = c := ⟨_, rfl⟩
  rw [ea] at bA
  rw [eb] at bB
  rw [ec] at bC
  obtain ⟨g, eg⟩ : ∃ g, Nat.gcd a b = g := ⟨_, rfl⟩
  have hgl : g < B64 ^ 2 := by
    rw [← eg]
    by_cases h : a = 0
    · rw [h, Nat.gcd_zero_left]; exact bB
    · exact Nat.lt_of_le_of_lt (Nat.gcd_le_left b (by omega)) bA
  obtain ⟨q1, q1l⟩ := lmd (pow_mul_lt bA bC) (by decide)
  obtain ⟨q2, q2l⟩ := lmd (pow_mul_lt bB bC) (by decide)
  obtain ⟨q3, q3l⟩ := lmd hgl (by decide)
  obtain ⟨q4, q4l⟩ := lmd (pow_mul_lt hgl bC) (by decide)
  have e1 : Nat.gcd (a * c) (b * c) = g * c := by rw [Nat.gcd_mul_right, eg]
  refine ACall.body hE Try.func11 Try.ntmps11 Try.results11 ?_
  by_cases hg : g = 0
  · have ha : a = 0 := Nat.eq_zero_of_gcd_eq_zero_left (eg.trans hg)
    have hb : b = 0 := Nat.eq_zero_of_gcd_eq_zero_right (eg.trans hg)
    have z1 : (((dg g).length : Int) == 0) = true := by rw [hg, dg_zero]; rfl
    have z2 : (((dg a).length : Int) == 0) = true := by rw [ha, dg_zero]; rfl
    have z3 : (((dg b).length : Int) == 0) = true := by rw [hb, dg_zero]; rfl
    refine wk hE (And.intro eA (And.intro eB (And.intro eC (And.intro ea (And.intro eb (And.intro ec (And.intro eg (And.intro e1 (And.intro z1 (And.intro z2 z3)))))))))) ?_
    exact PostL.mk trivial rfl
  · have z1 : (((dg g).length : Int) == 0) = false := by
      have := List.length_pos_iff.2 (fun h => hg (dg_nil.1 h))
      rw [beq_eq_false_iff_ne]; omega
    have r1 : dg (rm a g) = [] := by
      have : g ∣ a := by rw [← eg]; exact Nat.gcd_dvd_left a b
      unfold rm; rw [if_neg hg, Nat.mod_eq_zero_of_dvd this, dg_zero]
    have r2 : dg (rm b g) = [] := by
      have : g ∣ b := by rw [← eg]; exact Nat.gcd_dvd_right a b
      unfold rm; rw [if_neg hg, Nat.mod_eq_zero_of_dvd this, dg_zero]
    refine wk hE (And.intro eA (And.intro eB (And.intro eC (And.intro ea (And.intro eb (And.intro ec (And.intro eg (And.intro e1 (And.intro z1 (And.intro r1 r2)))))))))) ?_
    exact PostL.mk trivial rfl
end Go.Hl

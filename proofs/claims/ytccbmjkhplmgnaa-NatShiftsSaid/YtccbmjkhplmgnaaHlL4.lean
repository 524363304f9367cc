/- NatPowers -/
import Derived.Test.YtccbmjkhplmgnaaHlL3
import Derived.Test.YtccbmjkhplmgnaaHlMa
import Derived.Test.YtccbmjkhplmgnaaHlPb
import Derived.Test.YtccbmjkhplmgnaaHlPa
set_option linter.unusedVariables false
set_option linter.unusedSimpArgs false
namespace Go.Hl
open Go Go.RowKit Go.Proofs
set_option maxHeartbeats 4000000

theorem two_pow_lt {m k : Nat} (h : m < 64 * k) : 2 ^ m < B64 ^ k := by
  have e : B64 ^ k = 2 ^ (64 * k) := by rw [Nat.pow_mul]
  rw [e]
  exact Nat.pow_lt_pow_right (by decide) h
theorem blen_bd {a k : Nat} (h : a < B64 ^ k) : blen a ≤ 64 * k := (blen_le _ _).2 (by rw [Nat.pow_mul]; exact h)

theorem bitN_shl (a n i : Nat) : bitN (a * 2 ^ n) ((i : Int) + n) = bitN a i := by
  unfold bitN
  have h1 : ((i : Int) + n).toNat = n + i := by omega
  have h2 : (a * 2 ^ n) / 2 ^ (n + i) = a / 2 ^ i := by
    rw [Nat.pow_add, ← Nat.div_div_eq_div_mul, Nat.mul_div_cancel _ (Nat.two_pow_pos n)]
  rw [h1, h2, Int.toNat_natCast]
  congr 1
  apply propext
  constructor <;> (rintro ⟨_, h⟩; exact ⟨by omega, h⟩)

theorem natPowers_ok {xs : List Int} (hx : Lim B64 xs) {n i : Int} (hn : (Lit.int .i64 n).wf = true) (hi : (Lit.int .i64 i).wf = true) : ACall Try.prog 7 [.ns .u64 xs, .raw (.int .i64 n), .raw (.int .i64 i)] (.raw (.bool true)) := by
  have hE := env (SOK.cons shown_ok (SOK.cons cut_ok (SOK.cons norm_ok (SOK.cons shl_ok (SOK.cons shr_ok (SOK.cons sub_ok (SOK.cons bitlen_ok (SOK.cons bit_ok (SOK.cons same_ok (SOK.nil (P := Try.prog)))))))))))
  obtain ⟨hA, hAl⟩ := lm_take hx (n := 20) (by decide)
  have bA := nb_take_pow hx 20
  obtain ⟨a, ea⟩ : ∃ a, nb (xs.take 20) = a := ⟨_, rfl⟩
  rw [ea] at bA
  obtain ⟨q1, q1l⟩ := lmd bA (by decide)
  obtain ⟨m, hm⟩ : ∃ m : Nat, n % 2048 = m := Int.eq_ofNat_of_zero_le (Int.emod_nonneg _ (by decide))
  obtain ⟨j, hj⟩ : ∃ j : Nat, i % 4096 = j := Int.eq_ofNat_of_zero_le (Int.emod_nonneg _ (by decide))
  have hm2 : m < 2048 := by omega
  have hj2 : j < 4096 := by omega
  clear hn hi
  have hsh : sh (m : Int) = m := by unfold sh; split <;> split <;> omega
  have hp : 2 ^ m < B64 ^ 33 := two_pow_lt (by omega)
  have hup : a * 2 ^ m < B64 ^ (20 + 33) := pow_mul_lt bA hp
  obtain ⟨q2, q2l⟩ := lmd hup (by decide)
  have hdn : a / 2 ^ m < B64 ^ 20 := Nat.lt_of_le_of_lt (Nat.div_le_self _ _) bA
  obtain ⟨q3, q3l⟩ := lmd hdn (by decide)
  have hle : a / 2 ^ m * 2 ^ m ≤ a := Nat.div_mul_le_self _ _
  obtain ⟨q4, q4l⟩ := lmd (Nat.lt_of_le_of_lt hle bA) (by decide)
  have hr : a - a / 2 ^ m * 2 ^ m = a % 2 ^ m := by
    have := Nat.div_add_mod a (2 ^ m)
    rw [Nat.mul_comm] at this
    omega
  have hrl : a % 2 ^ m < 2 ^ m := Nat.mod_lt _ (Nat.two_pow_pos m)
  obtain ⟨q5, q5l⟩ := lmd (Nat.lt_of_le_of_lt (Nat.mod_le a (2 ^ m)) bA) (by decide)
  have e1 : a * 2 ^ m / 2 ^ m = a := Nat.mul_div_cancel _ (Nat.two_pow_pos m)
  have hb : blen (a % 2 ^ m) ≤ m := (blen_le _ _).2 hrl
  have hbit := bitN_shl a m j
  have hbl : blen a ≤ 64 * 20 := blen_bd bA
  refine ACall.body hE Try.func7 Try.ntmps7 Try.results7 ?_
  have hbi : (blen (a % 2 ^ m) : Int) ≤ m := by omega
  by_cases ha : a = 0
  · have hz : (((dg a).length : Int) == 0) = true := by rw [ha, dg_zero]; rfl
    refine wk hE (And.intro ea (And.intro hm (And.intro hj (And.intro hsh (And.intro e1 (And.intro hle (And.intro hr (And.intro hbit (And.intro hz hbi))))))))) ?_
    exact PostL.mk trivial rfl
  · have hz : (((dg a).length : Int) == 0) = false := by
      have := List.length_pos_iff.2 (fun h => ha (dg_nil.1 h))
      rw [beq_eq_false_iff_ne]; omega
    have hbl2 : blen (a * 2 ^ m) = blen a + m := by
      have : 2 ^ m ≤ a * 2 ^ m := Nat.le_mul_of_pos_left _ (by omega)
      rw [blen_div this, e1]; omega
    refine wk hE (And.intro ea (And.intro hm (And.intro hj (And.intro hsh (And.intro e1 (And.intro hle (And.intro hr (And.intro hbit (And.intro hz (And.intro hbl2 hbi)))))))))) ?_
    exact PostL.mk trivial rfl
end Go.Hl

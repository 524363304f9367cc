/- ZedSums -/
import Derived.Test.YtccbmjkhplmgnaaHlY1
import Derived.Test.YtccbmjkhplmgnaaHlL11
set_option linter.unusedVariables false
set_option linter.unusedSimpArgs false
namespace Go.Hl
open Go Go.RowKit Go.Proofs
set_option maxHeartbeats 8000000

theorem dec_self (a : List Int) : decide (a = a) = true := decide_eq_true rfl
theorem zedSums_ok {b c : Bool} {xs ys : List Int} (hx : Lim B64 xs) (hy : Lim B64 ys) :
    ACall Try.prog 17 [.agg [.raw (.bool b), .ns .u64 xs], .agg [.raw (.bool c), .ns .u64 ys]] (.raw (.bool true)) := by
  have hE := env (SOK.cons shown2_ok (SOK.cons zcut_ok (SOK.cons zadd_ok (SOK.cons rzadd_ok (SOK.cons zsub_ok (SOK.cons rzsub_ok (SOK.cons zmul_ok (SOK.cons rzmul_ok (SOK.cons zneg_ok (SOK.cons rzneg_ok (SOK.cons zabs_ok (SOK.cons rzabs_ok (SOK.cons equal_ok (SOK.nil (P := Try.prog)))))))))))))))
  obtain ⟨hA, hAl⟩ := lm_take hx (n := 40) (by decide)
  obtain ⟨hB, hBl⟩ := lm_take hy (n := 40) (by decide)
  have bX := zv_abs_lt (b := b) hA hAl
  have bY := zv_abs_lt (b := c) hB hBl
  obtain ⟨A, eA⟩ : ∃ A, xs.take 40 = A := ⟨_, rfl⟩
  obtain ⟨B, eB⟩ : ∃ B, ys.take 40 = B := ⟨_, rfl⟩
  rw [eA] at hA hAl bX
  rw [eB] at hB hBl bY
  obtain ⟨X, eX⟩ : ∃ X, zv b A = X := ⟨_, rfl⟩
  obtain ⟨Y, eY⟩ : ∃ Y, zv c B = Y := ⟨_, rfl⟩
  rw [eX] at bX
  rw [eY] at bY
  obtain ⟨f1, f1'⟩ := nat_abs_lt (abs_add_lt bX bY) (by omega)
  obtain ⟨f2, f2'⟩ := nat_abs_lt (abs_sub_lt bX bY) (by omega)
  obtain ⟨f3, f3'⟩ := nat_abs_lt (abs_mul_lt bX bY) (by omega)
  obtain ⟨f4, f4'⟩ := nat_abs_lt (abs_neg_lt bX) (by omega)
  obtain ⟨f5, f5'⟩ := nat_abs_lt (z := ((X.natAbs : Nat) : Int)) (l := 40) (by rw [Int.natAbs_natCast]; exact bX) (by omega)
  clear bX bY hx hy
  refine ACall.body hE Try.func17 Try.ntmps17 Try.results17 ?_
  refine wk hE (And.intro eA (And.intro eB (And.intro eX (And.intro eY dec_self)))) ?_
  exact PostL.mk trivial rfl
end Go.Hl

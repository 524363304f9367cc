/- ZedRing -/
import Derived.Test.YtccbmjkhplmgnaaHlZ9
import Derived.Test.YtccbmjkhplmgnaaHlL2
set_option linter.unusedVariables false
set_option linter.unusedSimpArgs false
namespace Go.Hl
open Go Go.RowKit Go.Proofs
set_option maxHeartbeats 8000000

theorem cmpZ_neg (x y : Int) : IntKind.i64.wrap (0 - cmpZ y x) = cmpZ x y := by
  unfold cmpZ
  rcases Int.lt_trichotomy x y with h | h | h
  · rw [if_neg (by omega), if_pos h, if_pos h]; rfl
  · subst h; rw [if_neg (by omega), if_neg (by omega)]; rfl
  · rw [if_pos h, if_neg (by omega), if_pos h]; rfl
theorem sign_wrap (x y : Int) : IntKind.i64.wrap (x.sign * y.sign) = (x * y).sign := by
  rw [Int.sign_mul]
  rcases sign_cases x with ⟨_, h⟩ | ⟨_, h⟩ | ⟨_, h⟩ <;> rcases sign_cases y with ⟨_, k⟩ | ⟨_, k⟩ | ⟨_, k⟩ <;> rw [h, k] <;> rfl

theorem zedRing_ok {b c d : Bool} {xs ys zs : List Int} (hx : Lim B64 xs) (hy : Lim B64 ys) (hz : Lim B64 zs) :
    ACall Try.prog 20 [.agg [.raw (.bool b), .ns .u64 xs], .agg [.raw (.bool c), .ns .u64 ys], .agg [.raw (.bool d), .ns .u64 zs]] (.raw (.bool true)) := by
  have hE := env (SOK.cons shown2_ok (SOK.cons zcut_ok (SOK.cons zadd_ok (SOK.cons zmul_ok (SOK.cons zsub_ok (SOK.cons zneg_ok (SOK.cons zsame_ok (SOK.cons sign_ok (SOK.cons zcmp_ok (SOK.nil (P := Try.prog)))))))))))
  obtain ⟨hA, hAl⟩ := lm_take hx (n := 10) (by decide)
  obtain ⟨hB, hBl⟩ := lm_take hy (n := 10) (by decide)
  obtain ⟨hC, hCl⟩ := lm_take hz (n := 10) (by decide)
  have bX := zv_abs_lt (b := b) hA hAl
  have bY := zv_abs_lt (b := c) hB hBl
  have bZ := zv_abs_lt (b := d) hC hCl
  obtain ⟨A, eA⟩ : ∃ A, xs.take 10 = A := ⟨_, rfl⟩
  obtain ⟨B, eB⟩ : ∃ B, ys.take 10 = B := ⟨_, rfl⟩
  obtain ⟨C, eC⟩ : ∃ C, zs.take 10 = C := ⟨_, rfl⟩
  rw [eA] at hA hAl bX
  rw [eB] at hB hBl bY
  rw [eC] at hC hCl bZ
  obtain ⟨X, eX⟩ : ∃ X, zv b A = X := ⟨_, rfl⟩
  obtain ⟨Y, eY⟩ : ∃ Y, zv c B = Y := ⟨_, rfl⟩
  obtain ⟨Z, eZ⟩ : ∃ Z, zv d C = Z := ⟨_, rfl⟩
  rw [eX] at bX
  rw [eY] at bY
  rw [eZ] at bZ
  obtain ⟨f1, f1'⟩ := nat_abs_lt (abs_add_lt bX bY) (by omega)
  obtain ⟨f2, f2'⟩ := nat_abs_lt (abs_mul_lt (abs_add_lt bX bY) bZ) (by omega)
  obtain ⟨f3, f3'⟩ := nat_abs_lt (abs_mul_lt bX bZ) (by omega)
  obtain ⟨f4, f4'⟩ := nat_abs_lt (abs_mul_lt bY bZ) (by omega)
  obtain ⟨f5, f5'⟩ := nat_abs_lt (abs_add_lt (abs_mul_lt bX bZ) (abs_mul_lt bY bZ)) (by omega)
  obtain ⟨f6, f6'⟩ := nat_abs_lt (abs_sub_lt bX bY) (by omega)
  obtain ⟨f7, f7'⟩ := nat_abs_lt (abs_sub_lt bY bX) (by omega)
  obtain ⟨f8, f8'⟩ := nat_abs_lt (abs_neg_lt (abs_sub_lt bY bX)) (by omega)
  obtain ⟨f9, f9'⟩ := nat_abs_lt (abs_mul_lt bX (abs_mul_lt bY bZ)) (by omega)
  obtain ⟨f10, f10'⟩ := nat_abs_lt (abs_mul_lt bX bY) (by omega)
  obtain ⟨f11, f11'⟩ := nat_abs_lt (abs_mul_lt (abs_mul_lt bX bY) bZ) (by omega)
  have g1 : decide ((X + Y) * Z = X * Z + Y * Z) = true := decide_eq_true (Int.add_mul X Y Z)
  have g2 : decide (X - Y = -(Y - X)) = true := decide_eq_true (by omega)
  have g3 : decide (X * (Y * Z) = X * Y * Z) = true := decide_eq_true (Int.mul_assoc X Y Z).symm
  have g4 := sign_wrap X Y
  have g5 := cmpZ_neg X Y
  clear bX bY bZ
  refine ACall.body hE Try.func20 Try.ntmps20 Try.results20 ?_
  refine wk hE (And.intro eA (And.intro eB (And.intro eC (And.intro eX (And.intro eY (And.intro eZ (And.intro g1 (And.intro g2 (And.intro g3 (And.intro g4 g5)))))))))) ?_
  exact PostL.mk trivial rfl
end Go.Hl

/- ZedRests -/
import Derived.Test.YtccbmjkhplmgnaaHlL12
set_option linter.unusedVariables false
set_option linter.unusedSimpArgs false
namespace Go.Hl
open Go Go.RowKit Go.Proofs
set_option maxHeartbeats 8000000

theorem fdiv_spec (a b : Int) : (0 < b → 0 ≤ a - a.fdiv b * b ∧ a - a.fdiv b * b < b) ∧ (b < 0 → b < a - a.fdiv b * b ∧ a - a.fdiv b * b ≤ 0) := by
  constructor
  · intro h
    rw [Int.fdiv_eq_ediv_of_nonneg _ (by omega)]
    have e : a - a / b * b = a % b := by rw [Int.emod_def, Int.mul_comm b]
    rw [e]
    exact ⟨Int.emod_nonneg _ (by omega), Int.emod_lt_of_pos _ h⟩
  · intro h
    have e0 : a.fdiv b = (-a) / (-b) := by rw [← Int.fdiv_eq_ediv_of_nonneg _ (by omega), Int.neg_fdiv_neg]
    have e : a - a.fdiv b * b = -((-a) % (-b)) := by
      rw [e0, Int.emod_def, Int.neg_mul, Int.mul_comm b]; omega
    rw [e]
    have h1 := Int.emod_nonneg (-a) (b := -b) (by omega)
    have h2 := Int.emod_lt_of_pos (-a) (b := -b) (by omega)
    omega
theorem cmpZ_lt {a b : Int} (h : a < b) : cmpZ a b < 0 := by unfold cmpZ; rw [if_pos h]; omega
theorem cmpZ_le {a b : Int} (h : a ≤ b) : cmpZ a b ≤ 0 := by unfold cmpZ; split; omega; split <;> omega
theorem sign_nn {a : Int} (h : 0 ≤ a) : 0 ≤ a.sign := by rcases sign_cases a with h | h | h <;> omega

theorem zedRests_ok {b c : Bool} {xs ys : List Int} (hx : Lim B64 xs) (hy : Lim B64 ys) :
    ACall Try.prog 21 [.agg [.raw (.bool b), .ns .u64 xs], .agg [.raw (.bool c), .ns .u64 ys]] (.raw (.bool true)) := by
  have hE := env (SOK.cons shown2_ok (SOK.cons zcut_ok (SOK.cons zdivmod_ok (SOK.cons sign_ok (SOK.cons round_ok (SOK.cons up_ok (SOK.cons zabs_ok (SOK.cons zmul_ok (SOK.cons zsub_ok (SOK.cons zshl_ok (SOK.cons zneg_ok (SOK.cons zadd_ok (SOK.cons zsame_ok (SOK.cons zcmp_ok (SOK.nil (P := Try.prog))))))))))))))))
  obtain ⟨hA, hAl⟩ := lm_take hx (n := 10) (by decide)
  obtain ⟨hB, hBl⟩ := lm_take hy (n := 10) (by decide)
  have bX := zv_abs_lt (b := b) hA hAl
  have bY := zv_abs_lt (b := c) hB hBl
  obtain ⟨A, eA⟩ : ∃ A, xs.take 10 = A := ⟨_, rfl⟩
  obtain ⟨B, eB⟩ : ∃ B, ys.take 10 = B := ⟨_, rfl⟩
  rw [eA] at hA hAl bX
  rw [eB] at hB hBl bY
  obtain ⟨X, eX⟩ : ∃ X, zv b A = X := ⟨_, rfl⟩
  obtain ⟨Y, eY⟩ : ∃ Y, zv c B = Y := ⟨_, rfl⟩
  rw [eX] at bX
  rw [eY] at bY
  refine ACall.body hE Try.func21 Try.ntmps21 Try.results21 ?_
  by_cases hY : Y = 0
  · have d1 : decide (Y ≠ 0) = false := by rw [hY]; rfl
    have d2 : X / Y = 0 := by rw [hY, Int.ediv_zero]
    have d3 : rz X Y = 0 := if_pos hY
    have d4 : (Y.sign == 0) = true := by rw [hY]; rfl
    have d5 : zv false (dg (Int.natAbs 0)) = 0 := zv_lit _ rfl
    have d6 : Lm (dg (Int.natAbs 0)) := by rw [Int.natAbs_zero, dg_zero]; exact ⟨Lim.nil, by simp⟩
    have d7 : Int.sign 0 = 0 := rfl
    refine wk hE (And.intro eA (And.intro eB (And.intro eX (And.intro eY (And.intro d1 (And.intro d2 (And.intro d3 (And.intro d4 (And.intro d5 d7))))))))) ?_
    exact PostL.mk trivial rfl
  have d1 : decide (Y ≠ 0) = true := decide_eq_true hY
  have d4 : (Y.sign == 0) = false := by rw [beq_eq_false_iff_ne]; rcases sign_cases Y with h | h | h <;> omega
  obtain ⟨W, eW⟩ : ∃ W : Int, (Y.natAbs : Int) = W := ⟨_, rfl⟩
  have bW : W.natAbs < B64 ^ 10 := by rw [← eW]; exact bY
  have hQR : X / Y * Y + rz X Y = X := by unfold rz; rw [if_neg hY, Int.mul_comm]; exact Int.mul_ediv_add_emod X Y
  have hR0 : 0 ≤ rz X Y := by unfold rz; rw [if_neg hY]; exact Int.emod_nonneg _ hY
  have hRW : rz X Y < W := by unfold rz; rw [if_neg hY, ← eW]; exact Int.emod_lt X hY
  have bQ := ediv_abs_lt (w := Y) bX
  have bR : (rz X Y).natAbs < B64 ^ 10 := by omega
  obtain ⟨Q, eQ⟩ : ∃ Q, X / Y = Q := ⟨_, rfl⟩
  obtain ⟨R, eR⟩ : ∃ R, rz X Y = R := ⟨_, rfl⟩
  rw [eQ] at hQR bQ
  rw [eR] at hQR hR0 hRW bR
  have hN := fdiv_spec (X * 2 + Y) (Y * 2)
  have hU := fdiv_spec (-X) Y
  have bN : ((X * 2 + Y).fdiv (Y * 2)).natAbs < B64 ^ 12 := Nat.lt_of_le_of_lt (fdiv_abs _ _) (abs_add_lt (abs_two_lt bX) (abs_up bY (show 10 ≤ 10 + 1 by omega)))
  have bU : (-((-X).fdiv Y)).natAbs < B64 ^ 10 := abs_neg_lt (Nat.lt_of_le_of_lt (fdiv_abs _ _) (abs_neg_lt bX))
  obtain ⟨N, eN⟩ : ∃ N, (X * 2 + Y).fdiv (Y * 2) = N := ⟨_, rfl⟩
  obtain ⟨U, eU⟩ : ∃ U, -((-X).fdiv Y) = U := ⟨_, rfl⟩
  have eU' : (-X).fdiv Y = -U := by omega
  rw [eN] at hN bN
  rw [eU'] at hU
  rw [eU] at bU
  have hN2 : N * (Y * 2) = N * Y * 2 := (Int.mul_assoc N Y 2).symm
  have hU2 : -U * Y = -(U * Y) := Int.neg_mul U Y
  rw [hN2] at hN
  rw [hU2] at hU
  obtain ⟨f1, f1'⟩ := nat_abs_lt bX (by omega)
  obtain ⟨f2, f2'⟩ := nat_abs_lt bY (by omega)
  obtain ⟨f3, f3'⟩ := nat_abs_lt bW (by omega)
  obtain ⟨f4, f4'⟩ := nat_abs_lt bQ (by omega)
  obtain ⟨f5, f5'⟩ := nat_abs_lt bR (by omega)
  obtain ⟨f6, f6'⟩ := nat_abs_lt bN (by omega)
  obtain ⟨f7, f7'⟩ := nat_abs_lt bU (by omega)
  obtain ⟨f8, f8'⟩ := nat_abs_lt (abs_mul_lt bQ bY) (by omega)
  obtain ⟨f9, f9'⟩ := nat_abs_lt (abs_mul_lt bN bY) (by omega)
  have bD := abs_sub_lt (abs_up bX (show 10 ≤ 12 + 10 by omega)) (abs_mul_lt bN bY)
  obtain ⟨f10, f10'⟩ := nat_abs_lt bD (by omega)
  have bE := abs_sub_lt (abs_mul_lt bU bY) (abs_up bX (show 10 ≤ 10 + 10 by omega))
  obtain ⟨f11, f11'⟩ := nat_abs_lt (abs_mul_lt bU bY) (by omega)
  obtain ⟨f12, f12'⟩ := nat_abs_lt bE (by omega)
  obtain ⟨f13, f13'⟩ := nat_abs_lt (abs_neg_lt bE) (by omega)
  have bD2 : (((X - N * Y).natAbs : Int)).natAbs < B64 ^ (12 + 10 + 1) := by rw [Int.natAbs_natCast]; exact bD
  obtain ⟨f14, f14'⟩ := nat_abs_lt bD2 (by omega)
  obtain ⟨f15, f15'⟩ := nat_abs_lt (abs_two_lt bD2) (by omega)
  have hD : ((X - N * Y).natAbs : Int) * 2 ≤ W := by omega
  have e2 : (2 : Int) ^ sh 1 = 2 := by rw [sh_one]; rfl
  have g1 : decide (X = X) = true := decide_eq_true rfl
  have g2 := sign_nn hR0
  have g3 := cmpZ_lt hRW
  have g4 := cmpZ_le hD
  clear bX bY bW bQ bR bN bU bD bE bD2
  by_cases hneg : Y < 0
  · have s1 : Y.sign < 0 := by rcases sign_cases Y with h | h | h <;> omega
    have g5 : 0 ≤ (-(U * Y - X)).sign := sign_nn (by omega)
    have g6 : cmpZ (-(U * Y - X)) W < 0 := cmpZ_lt (by omega)
    clear hN hU hD hR0 hRW hN2 hU2 eU' hneg hY hx hy
    refine wk hE (And.intro eA (And.intro eB (And.intro eX (And.intro eY (And.intro d1 (And.intro d4 (And.intro eW (And.intro eQ (And.intro eR (And.intro eN (And.intro eU (And.intro e2 (And.intro hQR (And.intro g1 (And.intro g2 (And.intro g3 (And.intro g4 (And.intro g5 (And.intro g6 s1))))))))))))))))))) ?_
    exact PostL.mk trivial rfl
  · have s1 : ¬ Y.sign < 0 := by rcases sign_cases Y with h | h | h <;> omega
    have g5 : 0 ≤ (U * Y - X).sign := sign_nn (by omega)
    have g6 : cmpZ (U * Y - X) W < 0 := cmpZ_lt (by omega)
    clear hN hU hD hR0 hRW hN2 hU2 eU' hneg hY hx hy
    refine wk hE (And.intro eA (And.intro eB (And.intro eX (And.intro eY (And.intro d1 (And.intro d4 (And.intro eW (And.intro eQ (And.intro eR (And.intro eN (And.intro eU (And.intro e2 (And.intro hQR (And.intro g1 (And.intro g2 (And.intro g3 (And.intro g4 (And.intro g5 (And.intro g6 s1))))))))))))))))))) ?_
    exact PostL.mk trivial rfl
end Go.Hl

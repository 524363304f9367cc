/- ref02: floor, Round, Up -/
import Derived.Test.YtccbmjkhplmgnaaHlY3
set_option linter.unusedVariables false
set_option linter.unusedSimpArgs false
namespace Go.Hl
open Go Go.RowKit Go.Proofs
set_option maxHeartbeats 8000000

@[push_cast] def spFloor : Sp := spZZ 0 (fun _ x _ y => Lm x ∧ x.length < 10000000 ∧ Lm y ∧ y.length < 10000000) (fun b x c y => zi ((zv b x).fdiv (zv c y)))
theorem floor_ok : SpOK Try.prog 139 spFloor := by
  refine SpOK.ZZ fun b x c y ⟨hx, hxl, hy, hyl⟩ => ?_
  have hE := env (SOK.cons rzsign_ok (SOK.cons rzneg_ok (SOK.cons rzdivmod_ok (SOK.nil (P := Try.prog)))))
  obtain ⟨l, hl⟩ : ∃ l, l + 1 = 10000000 := ⟨_, rfl⟩
  have bX := zv_abs_lt (b := b) hx (l := l) (by omega)
  have bY := zv_abs_lt (b := c) hy (l := l) (by omega)
  obtain ⟨X, eX⟩ : ∃ X, zv b x = X := ⟨_, rfl⟩
  obtain ⟨Y, eY⟩ : ∃ Y, zv c y = Y := ⟨_, rfl⟩
  rw [eX] at bX ⊢
  rw [eY] at bY ⊢
  obtain ⟨f1, f1'⟩ := nat_abs_lt (abs_neg_lt bX) (by omega)
  obtain ⟨f2, f2'⟩ := nat_abs_lt (abs_neg_lt bY) (by omega)
  clear bX bY
  obtain ⟨F, eF⟩ : ∃ F, X.fdiv Y = F := ⟨_, rfl⟩
  refine ACall.body hE Try.func139 Try.ntmps139 Try.results139 ?_
  rw [eF]
  by_cases hn : Y < 0
  · have s1 : Y.sign < 0 := by rcases sign_cases Y with h | h | h <;> omega
    have e1 : (-X) / (-Y) = F := by
      rw [← eF, ← Int.fdiv_eq_ediv_of_nonneg _ (by omega), Int.neg_fdiv_neg]
    clear eF
    refine wk hE (And.intro eX (And.intro eY (And.intro s1 e1))) ?_
    exact PostL.mk trivial rfl
  · have s1 : ¬ Y.sign < 0 := by rcases sign_cases Y with h | h | h <;> omega
    have e1 : X / Y = F := by
      rw [← eF, ← Int.fdiv_eq_ediv_of_nonneg _ (by omega)]
    clear eF
    refine wk hE (And.intro eX (And.intro eY (And.intro s1 e1))) ?_
    exact PostL.mk trivial rfl

theorem rzround_ok : SpOK Try.prog 72 spRound := by
  refine SpOK.ZZ fun b x c y ⟨hx, hxl, hy, hyl⟩ => ?_
  have hE := env (SOK.cons rzsign_ok (SOK.cons rzadd_ok (SOK.cons floor_ok (SOK.nil (P := Try.prog)))))
  obtain ⟨l, hl⟩ : ∃ l, l = 1000000 := ⟨_, rfl⟩
  have bX := zv_abs_lt (b := b) hx (l := l) (by omega)
  have bY := zv_abs_lt (b := c) hy (l := l) (by omega)
  obtain ⟨X, eX⟩ : ∃ X, zv b x = X := ⟨_, rfl⟩
  obtain ⟨Y, eY⟩ : ∃ Y, zv c y = Y := ⟨_, rfl⟩
  rw [eX] at bX ⊢
  rw [eY] at bY ⊢
  refine ACall.body hE Try.func72 Try.ntmps72 Try.results72 ?_
  by_cases h0 : Y = 0
  · have d1 : (Y.sign == 0) = true := by rw [h0]; rfl
    refine wk hE (And.intro eX (And.intro eY d1)) ?_
    refine PostL.mk trivial ?_
    rw [h0, zi_zero, Int.zero_mul, Int.fdiv_zero]
    rfl
  have d1 : (Y.sign == 0) = false := by rw [beq_eq_false_iff_ne]; rcases sign_cases Y with h | h | h <;> omega
  have e1 : (X + X + Y).fdiv (Y + Y) = (X * 2 + Y).fdiv (Y * 2) := by
    have a : X + X = X * 2 := by omega
    have b : Y + Y = Y * 2 := by omega
    rw [a, b]
  obtain ⟨f1, f1'⟩ := nat_abs_lt (abs_add_lt bX bX) (by omega)
  obtain ⟨f2, f2'⟩ := nat_abs_lt (abs_add_lt (abs_add_lt bX bX) (abs_up bY (Nat.le_succ l))) (by omega)
  obtain ⟨f3, f3'⟩ := nat_abs_lt (abs_add_lt bY bY) (by omega)
  have d2 : decide (Y * 2 ≠ 0) = true := decide_eq_true (by omega)
  clear bX bY
  refine wk hE (And.intro eX (And.intro eY (And.intro d1 e1))) ?_
  refine PostL.mk trivial ?_
  rw [d2]
  rfl

theorem rzup_ok : SpOK Try.prog 74 spUp := by
  refine SpOK.ZZ fun b x c y ⟨hx, hxl, hy, hyl⟩ => ?_
  have hE := env (SOK.cons rzsign_ok (SOK.cons rzneg_ok (SOK.cons floor_ok (SOK.nil (P := Try.prog)))))
  obtain ⟨l, hl⟩ : ∃ l, l = 1000000 := ⟨_, rfl⟩
  have bX := zv_abs_lt (b := b) hx (l := l) (by omega)
  have bY := zv_abs_lt (b := c) hy (l := l) (by omega)
  obtain ⟨X, eX⟩ : ∃ X, zv b x = X := ⟨_, rfl⟩
  obtain ⟨Y, eY⟩ : ∃ Y, zv c y = Y := ⟨_, rfl⟩
  rw [eX] at bX ⊢
  rw [eY] at bY ⊢
  refine ACall.body hE Try.func74 Try.ntmps74 Try.results74 ?_
  by_cases h0 : Y = 0
  · have d1 : (Y.sign == 0) = true := by rw [h0]; rfl
    refine wk hE (And.intro eX (And.intro eY d1)) ?_
    refine PostL.mk trivial ?_
    rw [h0, zi_zero, Int.fdiv_zero]
    rfl
  have d1 : (Y.sign == 0) = false := by rw [beq_eq_false_iff_ne]; rcases sign_cases Y with h | h | h <;> omega
  obtain ⟨f1, f1'⟩ := nat_abs_lt (abs_neg_lt bX) (by omega)
  obtain ⟨f2, f2'⟩ := nat_abs_lt (z := (-X).fdiv Y) (Nat.lt_of_le_of_lt (fdiv_abs (-X) Y) (abs_neg_lt bX)) (by omega)
  have d2 : decide (Y ≠ 0) = true := decide_eq_true h0
  clear bX bY
  refine wk hE (And.intro eX (And.intro eY d1)) ?_
  refine PostL.mk trivial ?_
  rw [d2]
  rfl
end Go.Hl

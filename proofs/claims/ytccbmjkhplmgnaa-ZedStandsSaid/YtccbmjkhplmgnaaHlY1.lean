/- ref02: Norm, Abs, Neg, Sign, BitLen, Add, Sub, Mul, Shl, Gcd -/
import Derived.Test.YtccbmjkhplmgnaaHlZ9
import Derived.Test.YtccbmjkhplmgnaaHlRb
import Derived.Test.YtccbmjkhplmgnaaHlRc
import Derived.Test.YtccbmjkhplmgnaaHlR8
import Derived.Test.YtccbmjkhplmgnaaHlR9
import Derived.Test.YtccbmjkhplmgnaaHlRa
set_option linter.unusedVariables false
set_option linter.unusedSimpArgs false
namespace Go.Hl
open Go Go.RowKit Go.Proofs
set_option maxHeartbeats 8000000

theorem rznorm_ok : SpOK Try.prog 88 spZNorm := by
  refine SpOK.Z fun b x ⟨hx, hl⟩ => ?_
  have hE := env (SOK.cons rmade_ok (SOK.nil (P := Try.prog)))
  refine ACall.body hE Try.func88 Try.ntmps88 Try.results88 ?_
  refine wk hE trivial ?_
  exact PostL.mk trivial rfl
theorem rzneg_ok : SpOK Try.prog 84 spZNeg := by
  refine SpOK.Z fun b x ⟨hx, hxl⟩ => ?_
  have hE := env (SOK.cons rmade_ok (SOK.nil (P := Try.prog)))
  refine ACall.body hE Try.func84 Try.ntmps84 Try.results84 ?_
  refine wk hE trivial ?_
  refine PostL.mk trivial ?_
  exact congrArg zi (zs_not b _)
theorem rzabs_ok : SpOK Try.prog 86 spZAbs := by
  refine SpOK.Z fun b x ⟨hx, hxl⟩ => ?_
  have hE := env (SOK.cons rmade_ok (SOK.nil (P := Try.prog)))
  refine ACall.body hE Try.func86 Try.ntmps86 Try.results86 ?_
  refine wk hE trivial ?_
  refine PostL.mk trivial ?_
  refine congrArg zi ?_
  unfold zv
  rw [zs_abs]; rfl
theorem rzmul_ok : SpOK Try.prog 82 spZMul := by
  refine SpOK.ZZ fun b x c y ⟨hx, hxl, hy, hyl⟩ => ?_
  have hE := env (SOK.cons rmul_ok (SOK.cons rmade_ok (SOK.nil (P := Try.prog))))
  refine ACall.body hE Try.func82 Try.ntmps82 Try.results82 ?_
  obtain ⟨l, hl⟩ : ∃ l, l = 10000000 := ⟨_, rfl⟩
  have bA := nbl hx (l := l) (by omega)
  have bB := nbl hy (l := l) (by omega)
  obtain ⟨s1, s2, s3⟩ := dgl (powM bA bB) (by omega)
  refine wk hE trivial ?_
  refine PostL.mk trivial ?_
  refine congrArg zi ?_
  unfold zv
  rw [← zs_mul]
  cases b <;> cases c <;> rfl
theorem rzshl_ok : SpOK Try.prog 66 spZShl := by
  refine SpOK.ZI fun b x n ⟨hx, hxl⟩ => ?_
  have hE := env (SOK.cons rshl_ok (SOK.cons rmade_ok (SOK.nil (P := Try.prog))))
  refine ACall.body hE Try.func66 Try.ntmps66 Try.results66 ?_
  obtain ⟨l, hl⟩ : ∃ l, l = 10000000 := ⟨_, rfl⟩
  obtain ⟨s1, s2, s3⟩ := dgl (powM (nbl hx (l := l) (by omega)) (sh_pow_lt n)) (by omega)
  refine wk hE trivial ?_
  refine PostL.mk trivial ?_
  refine congrArg zi ?_
  unfold zv zs
  split
  · rw [Int.natCast_mul, Int.natCast_pow, Int.neg_mul]; rfl
  · rw [Int.natCast_mul, Int.natCast_pow]; simp
theorem rzgcd_ok : SpOK Try.prog 76 spZGcd := by
  refine SpOK.ZZ fun b x c y ⟨hx, hxl, hy, hyl⟩ => ?_
  have hE := env (SOK.cons rgcd_ok (SOK.cons rmade_ok (SOK.nil (P := Try.prog))))
  obtain ⟨l, hl⟩ : ∃ l, l = 1000000 := ⟨_, rfl⟩
  obtain ⟨a1, a2, a3⟩ := dgl (gcd_lt (nbl hx (l := l) (by omega)) (nbl hy (l := l) (by omega))) (by omega)
  refine ACall.body hE Try.func76 Try.ntmps76 Try.results76 ?_
  unfold zv
  rw [zs_abs, zs_abs]
  refine wk hE trivial ?_
  refine PostL.mk trivial ?_
  rfl
theorem rzadd_ok : SpOK Try.prog 78 spZAdd := by
  refine SpOK.ZZ fun b x c y ⟨hx, hxl, hy, hyl⟩ => ?_
  have hE := env (SOK.cons rznorm_ok (SOK.cons radd_ok (SOK.cons rsub_ok (SOK.cons rmade_ok (SOK.nil (P := Try.prog))))))
  refine ACall.body hE Try.func78 Try.ntmps78 Try.results78 ?_
  obtain ⟨l, hl⟩ : ∃ l, l = 10000000 := ⟨_, rfl⟩
  have bX := zv_abs_lt (b := b) hx (l := l) (by omega)
  have bY := zv_abs_lt (b := c) hy (l := l) (by omega)
  obtain ⟨X, eX⟩ : ∃ X, zv b x = X := ⟨_, rfl⟩
  obtain ⟨Y, eY⟩ : ∃ Y, zv c y = Y := ⟨_, rfl⟩
  rw [eX] at bX ⊢
  rw [eY] at bY ⊢
  obtain ⟨h1, h1'⟩ : Lm (dg X.natAbs) ∧ (dg X.natAbs).length < 100000000 := by obtain ⟨a, _, c⟩ := dgl bX (by omega); exact ⟨a, by omega⟩
  obtain ⟨h2, h2'⟩ : Lm (dg Y.natAbs) ∧ (dg Y.natAbs).length < 100000000 := by obtain ⟨a, _, c⟩ := dgl bY (by omega); exact ⟨a, by omega⟩
  obtain ⟨s1, s2, s3⟩ := dgl (powA bX bY) (by omega)
  obtain ⟨t1, t2, t3⟩ := dgl (n := X.natAbs - Y.natAbs) (Nat.lt_of_le_of_lt (Nat.sub_le _ _) bX) (by omega)
  obtain ⟨u1, u2, u3⟩ := dgl (n := Y.natAbs - X.natAbs) (Nat.lt_of_le_of_lt (Nat.sub_le _ _) bY) (by omega)
  have n1 : nb (dg X.natAbs) = X.natAbs := nb_dg _
  have n2 : nb (dg Y.natAbs) = Y.natAbs := nb_dg _
  clear bX bY
  by_cases hbc : decide (X < 0) = decide (Y < 0)
  · have hb : (decide (X < 0) == decide (Y < 0)) = true := by rw [hbc]; exact beq_self_eq_true _
    refine wk hE (And.intro eX (And.intro eY (And.intro hb (And.intro n1 n2)))) ?_
    refine PostL.mk trivial ?_
    refine congrArg zi ?_
    have hbc := decide_eq_decide.1 hbc
    unfold zs
    split <;> (rename_i h; simp at h; omega)
  · have hb : (decide (X < 0) == decide (Y < 0)) = false := by rw [beq_eq_false_iff_ne]; exact hbc
    have hbc : ¬ (X < 0 ↔ Y < 0) := fun h => hbc (decide_eq_decide.2 h)
    by_cases hle : Y.natAbs ≤ X.natAbs
    · have hd : decide (Y.natAbs ≤ X.natAbs) = true := decide_eq_true hle
      refine wk hE (And.intro eX (And.intro eY (And.intro hb (And.intro n1 (And.intro n2 hd))))) ?_
      refine PostL.mk trivial ?_
      refine congrArg zi ?_
      unfold zs
      split <;> (rename_i h; simp at h; omega)
    · have hd : decide (Y.natAbs ≤ X.natAbs) = false := decide_eq_false hle
      refine wk hE (And.intro eX (And.intro eY (And.intro hb (And.intro n1 (And.intro n2 hd))))) ?_
      refine PostL.mk trivial ?_
      refine congrArg zi ?_
      unfold zs
      split <;> (rename_i h; simp at h; omega)
theorem rzsub_ok : SpOK Try.prog 80 spZSub := by
  refine SpOK.ZZ fun b x c y ⟨hx, hxl, hy, hyl⟩ => ?_
  have hE := env (SOK.cons rzadd_ok (SOK.cons rzneg_ok (SOK.nil (P := Try.prog))))
  obtain ⟨l, hl⟩ : ∃ l, l + 1 = 10000000 := ⟨_, rfl⟩
  have hY2 : (-zv c y).natAbs = nb y := by rw [Int.natAbs_neg]; exact zs_abs c _
  have h1 : Lm (dg (-zv c y).natAbs) ∧ (dg (-zv c y).natAbs).length < 10000000 := by
    rw [hY2]
    have := dg_len_lt hy hyl
    exact ⟨lm_dg (by omega), this⟩
  obtain ⟨h1, h1'⟩ := h1
  refine ACall.body hE Try.func80 Try.ntmps80 Try.results80 ?_
  refine wk hE trivial ?_
  refine PostL.mk trivial ?_
  exact congrArg zi (Int.sub_eq_add_neg).symm
end Go.Hl

/- ZedDivides -/
import Derived.Test.YtccbmjkhplmgnaaHlY4
import Derived.Test.YtccbmjkhplmgnaaHlL14
import Derived.Test.YtccbmjkhplmgnaaHlL12
set_option linter.unusedVariables false
set_option linter.unusedSimpArgs false
namespace Go.Hl
open Go Go.RowKit Go.Proofs
set_option maxHeartbeats 8000000

set_option maxRecDepth 20000 in
theorem zedDivides_ok {b c : Bool} {xs ys : List Int} (hx : Lim B64 xs) (hy : Lim B64 ys) :
    ACall Try.prog 16 [.agg [.raw (.bool b), .ns .u64 xs], .agg [.raw (.bool c), .ns .u64 ys]] (.raw (.bool true)) := by
  have hE := env (SOK.cons shown2_ok (SOK.cons zcut_ok (SOK.cons zdivmod_ok (SOK.cons rzdivmod_ok (SOK.cons round_ok (SOK.cons rzround_ok (SOK.cons up_ok (SOK.cons rzup_ok (SOK.cons zgcd_ok (SOK.cons rzgcd_ok (SOK.cons equal_ok (SOK.nil (P := Try.prog)))))))))))))
  obtain ⟨hA, hAl⟩ := lm_take hx (n := 16) (by decide)
  obtain ⟨hB, hBl⟩ := lm_take hy (n := 8) (by decide)
  obtain ⟨hC, hCl⟩ := lm_take (xs := xs.take 16) hA.1 (n := 3) (by decide)
  obtain ⟨hD, hDl⟩ := lm_take (xs := ys.take 8) hB.1 (n := 3) (by decide)
  have bX := zv_abs_lt (b := b) hA hAl
  have bY := zv_abs_lt (b := c) hB hBl
  have bZ := zv_abs_lt (b := b) hC hCl
  have bW := zv_abs_lt (b := c) hD hDl
  obtain ⟨A, eA⟩ : ∃ A, xs.take 16 = A := ⟨_, rfl⟩
  obtain ⟨B, eB⟩ : ∃ B, ys.take 8 = B := ⟨_, rfl⟩
  rw [eA] at hA hAl bX bZ hC hCl
  rw [eB] at hB hBl bY bW hD hDl
  obtain ⟨C, eC⟩ : ∃ C, A.take 3 = C := ⟨_, rfl⟩
  obtain ⟨D, eD⟩ : ∃ D, B.take 3 = D := ⟨_, rfl⟩
  rw [eC] at bZ hC hCl
  rw [eD] at bW hD hDl
  obtain ⟨X, eX⟩ : ∃ X, zv b A = X := ⟨_, rfl⟩
  obtain ⟨Y, eY⟩ : ∃ Y, zv c B = Y := ⟨_, rfl⟩
  obtain ⟨Z, eZ⟩ : ∃ Z, zv b C = Z := ⟨_, rfl⟩
  obtain ⟨W, eW⟩ : ∃ W, zv c D = W := ⟨_, rfl⟩
  rw [eX] at bX
  rw [eY] at bY
  rw [eZ] at bZ
  rw [eW] at bW
  have bR : (rz X Y).natAbs < B64 ^ 16 := by
    unfold rz
    split
    · simp; exact Nat.pow_pos (by decide)
    · rename_i h
      have h1 := Int.emod_nonneg X h
      have h2 := Int.emod_lt X h
      have h3 : Y.natAbs < B64 ^ 16 := abs_up bY (by omega)
      omega
  have bN : ((X * 2 + Y).fdiv (Y * 2)).natAbs < B64 ^ 18 := Nat.lt_of_le_of_lt (fdiv_abs _ _) (abs_add_lt (abs_two_lt bX) (abs_up bY (show 8 ≤ 16 + 1 by omega)))
  have bU : (-((-X).fdiv Y)).natAbs < B64 ^ 16 := abs_neg_lt (Nat.lt_of_le_of_lt (fdiv_abs _ _) (abs_neg_lt bX))
  have bG : ((Nat.gcd Z.natAbs W.natAbs : Nat) : Int).natAbs < B64 ^ 3 := by rw [Int.natAbs_natCast]; exact gcd_lt bZ bW
  obtain ⟨f1, f1'⟩ := nat_abs_lt (ediv_abs_lt (w := Y) bX) (by omega)
  obtain ⟨f2, f2'⟩ := nat_abs_lt bR (by omega)
  obtain ⟨f3, f3'⟩ := nat_abs_lt bN (by omega)
  obtain ⟨f4, f4'⟩ := nat_abs_lt bU (by omega)
  obtain ⟨f5, f5'⟩ := nat_abs_lt bG (by omega)
  obtain ⟨Q, eQ⟩ : ∃ Q, X / Y = Q := ⟨_, rfl⟩
  obtain ⟨R, eR⟩ : ∃ R, rz X Y = R := ⟨_, rfl⟩
  obtain ⟨N, eN⟩ : ∃ N, (X * 2 + Y).fdiv (Y * 2) = N := ⟨_, rfl⟩
  obtain ⟨U, eU⟩ : ∃ U, -((-X).fdiv Y) = U := ⟨_, rfl⟩
  obtain ⟨G, eG⟩ : ∃ G : Int, ((Nat.gcd Z.natAbs W.natAbs : Nat) : Int) = G := ⟨_, rfl⟩
  rw [eQ] at f1 f1'
  rw [eR] at f2 f2'
  rw [eN] at f3 f3'
  rw [eU] at f4 f4'
  rw [eG] at f5 f5'
  obtain ⟨p, ep⟩ : ∃ p, decide (Y ≠ 0) = p := ⟨_, rfl⟩
  obtain ⟨q, eq⟩ : ∃ p, decide (Y * 2 ≠ 0) = p := ⟨_, rfl⟩
  clear bX bY bZ bW bR bN bU bG hx hy
  refine ACall.body hE Try.func16 Try.ntmps16 Try.results16 ?_
  refine wk hE (And.intro eA (And.intro eB (And.intro eC (And.intro eD (And.intro eX (And.intro eY (And.intro eZ (And.intro eW (And.intro eQ (And.intro eR (And.intro eN (And.intro eU (And.intro eG (And.intro ep (And.intro eq dec_self))))))))))))))) ?_
  exact PostL.mk trivial rfl
end Go.Hl

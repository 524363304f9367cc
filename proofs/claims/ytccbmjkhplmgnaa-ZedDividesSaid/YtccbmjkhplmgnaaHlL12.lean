/- ZedHalves -/
import Derived.Test.YtccbmjkhplmgnaaHlL11
import Derived.Test.YtccbmjkhplmgnaaHlMa
set_option linter.unusedVariables false
set_option linter.unusedSimpArgs false
namespace Go.Hl
open Go Go.RowKit Go.Proofs
set_option maxHeartbeats 8000000

theorem ediv_abs_lt {z w : Int} {l : Nat} (hz : z.natAbs < B64 ^ l) : (z / w).natAbs < B64 ^ l := Nat.lt_of_le_of_lt (abs_ediv_le z w) hz

theorem zedHalves_ok {b : Bool} {xs : List Int} (hx : Lim B64 xs) {n : Int} (hn : (Lit.int .i64 n).wf = true) :
    ACall Try.prog 19 [.agg [.raw (.bool b), .ns .u64 xs], .raw (.int .i64 n)] (.raw (.bool true)) := by
  have hE := env (SOK.cons shown2_ok (SOK.cons zcut_ok (SOK.cons zshr_ok (SOK.cons zshl_ok (SOK.cons zsub_ok (SOK.cons sign_ok (SOK.cons zbitlen_ok (SOK.cons zsame_ok (SOK.nil (P := Try.prog))))))))))
  obtain ⟨hA, hAl⟩ := lm_take hx (n := 10) (by decide)
  have bX := zv_abs_lt (b := b) hA hAl
  obtain ⟨A, eA⟩ : ∃ A, xs.take 10 = A := ⟨_, rfl⟩
  rw [eA] at hA hAl bX
  obtain ⟨X, eX⟩ : ∃ X, zv b A = X := ⟨_, rfl⟩
  rw [eX] at bX
  obtain ⟨m, hm⟩ : ∃ m : Nat, n % 1024 = m := Int.eq_ofNat_of_zero_le (Int.emod_nonneg _ (by decide))
  have hm2 : m < 1024 := by omega
  have hsh : sh (m : Int) = m := by unfold sh; split <;> split <;> omega
  obtain ⟨P, eP⟩ : ∃ P : Int, (2 : Int) ^ m = P := ⟨_, rfl⟩
  have hP0 : 0 < P := by rw [← eP]; exact Int.pow_pos (by decide)
  have hPn : P.natAbs = 2 ^ m := by rw [← eP, Int.natAbs_pow]; rfl
  have bP : P.natAbs < B64 ^ 17 := by rw [hPn]; exact tpl (by omega)
  have hW : X - X / P * P = X % P := by rw [Int.emod_def, Int.mul_comm P]
  have hW0 : 0 ≤ X % P := Int.emod_nonneg _ (by omega)
  have hWP : X % P < P := Int.emod_lt_of_pos _ hP0
  have hbl : (blen (X % P).natAbs : Int) ≤ m := by
    have := (blen_le (X % P).natAbs m).2 (by rw [← hPn]; omega)
    omega
  have hsg : 0 ≤ (X % P).sign := by rcases sign_cases (X % P) with h | h | h <;> omega
  obtain ⟨f1, f1'⟩ := nat_abs_lt (ediv_abs_lt (w := P) bX) (by omega)
  obtain ⟨f2, f2'⟩ := nat_abs_lt (abs_mul_lt (ediv_abs_lt (w := P) bX) bP) (by omega)
  obtain ⟨f3, f3'⟩ := nat_abs_lt (abs_mul_lt bX bP) (by omega)
  have f4 : Lm (dg (X % P).natAbs) := by
    rw [← hW]
    exact (nat_abs_lt (abs_sub_lt (abs_up bX (show 10 ≤ 10 + 17 by omega)) (abs_mul_lt (ediv_abs_lt (w := P) bX) bP)) (by omega)).1
  obtain ⟨f5, f5'⟩ := nat_abs_lt bX (by omega)
  have g1 : X * P / P = X := Int.mul_ediv_cancel _ (by omega)
  have g2 : decide (X = X) = true := decide_eq_true rfl
  clear bX bP hn hPn hW0 hWP
  refine ACall.body hE Try.func19 Try.ntmps19 Try.results19 ?_
  refine wk hE (And.intro eA (And.intro eX (And.intro hm (And.intro hsh (And.intro eP (And.intro hW (And.intro g1 (And.intro g2 (And.intro hsg hbl))))))))) ?_
  exact PostL.mk trivial rfl
end Go.Hl

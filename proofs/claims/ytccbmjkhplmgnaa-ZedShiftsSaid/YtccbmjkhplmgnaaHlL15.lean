/- ZedShifts -/
import Derived.Test.YtccbmjkhplmgnaaHlY2
import Derived.Test.YtccbmjkhplmgnaaHlL14
set_option linter.unusedVariables false
set_option linter.unusedSimpArgs false
namespace Go.Hl
open Go Go.RowKit Go.Proofs
set_option maxHeartbeats 8000000

theorem zedShifts_ok {b : Bool} {xs : List Int} (hx : Lim B64 xs) {n : Int} (_hn : (Lit.int .i64 n).wf = true) :
    ACall Try.prog 15 [.agg [.raw (.bool b), .ns .u64 xs], .raw (.int .i64 n)] (.raw (.bool true)) := by
  have hE := env (SOK.cons shown2_ok (SOK.cons zcut_ok (SOK.cons zshl_ok (SOK.cons rzshl_ok (SOK.cons zshr_ok (SOK.cons rzshr_ok (SOK.cons equal_ok (SOK.nil (P := Try.prog)))))))))
  obtain ⟨hA, hAl⟩ := lm_take hx (n := 20) (by decide)
  have bX := zv_abs_lt (b := b) hA hAl
  obtain ⟨A, eA⟩ : ∃ A, xs.take 20 = A := ⟨_, rfl⟩
  rw [eA] at hA hAl bX
  obtain ⟨X, eX⟩ : ∃ X, zv b A = X := ⟨_, rfl⟩
  rw [eX] at bX
  have bP : ((2 : Int) ^ sh n).natAbs < B64 ^ 129 := by
    rw [Int.natAbs_pow]; exact sh_pow_lt n
  obtain ⟨P, eP⟩ : ∃ P : Int, (2 : Int) ^ sh n = P := ⟨_, rfl⟩
  rw [eP] at bP
  obtain ⟨f1, f1'⟩ := nat_abs_lt (abs_mul_lt bX bP) (by omega)
  obtain ⟨f2, f2'⟩ := nat_abs_lt (z := X / P) (l := 20) (Nat.lt_of_le_of_lt (abs_ediv_le X P) bX) (by omega)
  clear bX bP hx
  refine ACall.body hE Try.func15 Try.ntmps15 Try.results15 ?_
  refine wk hE (And.intro eA (And.intro eX (And.intro eP dec_self))) ?_
  exact PostL.mk trivial rfl
end Go.Hl

/- hairlinelaw02: equal; ref02: Make, Of, Norm; the law of small ones -/
import Derived.Test.YtccbmjkhplmgnaaDoorHlZ7
import Derived.Test.YtccbmjkhplmgnaaDoorHlRa
set_option linter.unusedVariables false
set_option linter.unusedSimpArgs false
namespace Go.Hl
open Go Go.RowKit Go.Proofs
set_option maxHeartbeats 8000000

@[push_cast] def spZEqual : Sp := spZZ 0 (fun _ x _ y => x.length < 1000000000 ∧ y.length < 1000000000) (fun b x c y => .raw (.bool (decide (x = y) && (b == c))))
theorem zequal_ok : SpOK Tryd.prog 29 spZEqual := by
  refine SpOK.ZZ fun b x c y ⟨hx, hy⟩ => ?_
  have hE := env (SOK.cons same_ok (SOK.nil (P := Tryd.prog)))
  refine ACall.body hE Tryd.func29 Tryd.ntmps29 Tryd.results29 ?_
  by_cases h : x = y
  · have hd : decide (x = y) = true := decide_eq_true h
    refine wk hE hd ?_
    refine PostL.mk trivial ?_
    rw [hd]; rfl
  · have hd : decide (x = y) = false := decide_eq_false h
    refine wk hE hd ?_
    refine PostL.mk trivial ?_
    rw [hd]; rfl
theorem equal_ok : SpOK Tryd.prog 9 spZEqual := by
  refine SpOK.ZZ fun b x c y ⟨hx, hy⟩ => ?_
  have hE := env (SOK.cons zequal_ok (SOK.nil (P := Tryd.prog)))
  refine ACall.body hE Tryd.func9 Tryd.ntmps9 Tryd.results9 ?_
  refine wk hE trivial ?_
  refine PostL.mk trivial ?_
  rfl

@[push_cast] def spRMade : Sp := spBN 0 (fun _ m => Lm m ∧ m.length < 400000000) (fun b m => zi (zs b (nb m)))
theorem rmade_ok : SpOK Tryd.prog 28 spRMade := by
  refine SpOK.BN fun b m ⟨hm, hl⟩ => ?_
  have hE := env (SOK.cons rnorm_ok (SOK.nil (P := Tryd.prog)))
  obtain ⟨n, hn⟩ : ∃ n, nb m = n := ⟨_, rfl⟩
  refine ACall.body hE Tryd.func28 Tryd.ntmps28 Tryd.results28 ?_
  rw [hn, ← zi_zs]
  have hp := nat_pos (dg n).length
  cases b
  · refine wk hE hn ?_
    exact PostL.mk trivial rfl
  · refine wk hE (And.intro hn hp) ?_
    exact PostL.mk trivial rfl

theorem rng64 {n : Int} (h : (Lit.int .i64 n).wf = true) : -9223372036854775808 ≤ n ∧ n < 9223372036854775808 := by
  have h : (decide (IntKind.i64.min ≤ n) && decide (n ≤ IntKind.i64.max)) = true := h
  rw [Bool.and_eq_true, decide_eq_true_iff, decide_eq_true_iff, show IntKind.i64.min = -9223372036854775808 from rfl, show IntKind.i64.max = 9223372036854775807 from rfl] at h
  omega
end Go.Hl

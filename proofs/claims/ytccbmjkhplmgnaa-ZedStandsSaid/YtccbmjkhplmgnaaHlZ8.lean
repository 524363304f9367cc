/- hairlinelaw02: equal; ref02: Make, Of, Norm; the law of small ones -/
import Derived.Test.YtccbmjkhplmgnaaHlZ7
import Derived.Test.YtccbmjkhplmgnaaHlRa
set_option linter.unusedVariables false
set_option linter.unusedSimpArgs false
namespace Go.Hl
open Go Go.RowKit Go.Proofs
set_option maxHeartbeats 8000000

@[push_cast] def spZEqual : Sp := spZZ 0 (fun _ x _ y => x.length < 1000000000 ∧ y.length < 1000000000) (fun b x c y => .raw (.bool (decide (x = y) && (b == c))))
theorem zequal_ok : SpOK Try.prog 136 spZEqual := by
  refine SpOK.ZZ fun b x c y ⟨hx, hy⟩ => ?_
  have hE := env (SOK.cons same_ok (SOK.nil (P := Try.prog)))
  refine ACall.body hE Try.func136 Try.ntmps136 Try.results136 ?_
  by_cases h : x = y
  · have hd : decide (x = y) = true := decide_eq_true h
    refine wk hE hd ?_
    refine PostL.mk trivial ?_
    rw [hd]; rfl
  · have hd : decide (x = y) = false := decide_eq_false h
    refine wk hE hd ?_
    refine PostL.mk trivial ?_
    rw [hd]; rfl
theorem equal_ok : SpOK Try.prog 62 spZEqual := by
  refine SpOK.ZZ fun b x c y ⟨hx, hy⟩ => ?_
  have hE := env (SOK.cons zequal_ok (SOK.nil (P := Try.prog)))
  refine ACall.body hE Try.func62 Try.ntmps62 Try.results62 ?_
  refine wk hE trivial ?_
  refine PostL.mk trivial ?_
  rfl

@[push_cast] def spRMade : Sp := spBN 0 (fun _ m => Lm m ∧ m.length < 400000000) (fun b m => zi (zs b (nb m)))
theorem rmade_ok : SpOK Try.prog 137 spRMade := by
  refine SpOK.BN fun b m ⟨hm, hl⟩ => ?_
  have hE := env (SOK.cons rnorm_ok (SOK.nil (P := Try.prog)))
  obtain ⟨n, hn⟩ : ∃ n, nb m = n := ⟨_, rfl⟩
  refine ACall.body hE Try.func137 Try.ntmps137 Try.results137 ?_
  rw [hn, ← zi_zs]
  have hp := nat_pos (dg n).length
  cases b
  · refine wk hE hn ?_
    exact PostL.mk trivial rfl
  · refine wk hE (And.intro hn hp) ?_
    exact PostL.mk trivial rfl

theorem rzof_ok : SpOK Try.prog 63 spOf := by
  refine SpOK.I fun n ⟨h1, h2⟩ => ?_
  have hE := env (SOK.cons rmade_ok (SOK.nil (P := Try.prog)))
  refine ACall.body hE Try.func63 Try.ntmps63 Try.results63 ?_
  obtain ⟨k, hk⟩ : ∃ k, n.natAbs = k := ⟨_, rfl⟩
  have hn1 := nb_one k
  have hlm : Lm [(k : Int)] := ⟨Lim.cons (by rw [hB64]; omega) Lim.nil, by simp⟩
  by_cases h0 : n < 0
  · obtain ⟨m, hm⟩ : ∃ m, n + 1 = m := ⟨_, rfl⟩
    obtain ⟨q, hq⟩ : ∃ q, 0 - m = q := ⟨_, rfl⟩
    have hqk : q + 1 = (k : Int) := by omega
    have hz : zs true k = n := by unfold zs; simp; omega
    have hg : ¬ 0 ≤ n := by omega
    refine wk hE (And.intro hg (And.intro hm (And.intro hq (And.intro hqk hn1)))) ?_
    refine PostL.mk trivial ?_
    exact congrArg zi hz
  · have e1 : IntKind.u64.wrap n = (k : Int) := by rw [IntKind.wrap_u64]; omega
    have hz : zs false k = n := by unfold zs; simp; omega
    have hg : 0 ≤ n := by omega
    refine wk hE (And.intro hg (And.intro e1 hn1)) ?_
    refine PostL.mk trivial ?_
    exact congrArg zi hz

theorem rng64 {n : Int} (h : (Lit.int .i64 n).wf = true) : -9223372036854775808 ≤ n ∧ n < 9223372036854775808 := by
  have h : (decide (IntKind.i64.min ≤ n) && decide (n ≤ IntKind.i64.max)) = true := h
  rw [Bool.and_eq_true, decide_eq_true_iff, decide_eq_true_iff, show IntKind.i64.min = -9223372036854775808 from rfl, show IntKind.i64.max = 9223372036854775807 from rfl] at h
  omega
theorem zedSmalls_ok {n : Int} (hn : (Lit.int .i64 n).wf = true) : ACall Try.prog 14 [.raw (.int .i64 n)] (.raw (.bool true)) := by
  have h1 : -9223372036854775808 ≤ n ∧ n < 9223372036854775808 := rng64 hn
  obtain ⟨h1, h2⟩ := h1
  have hE := env (SOK.cons shown2_ok (SOK.cons of_ok (SOK.cons small_ok (SOK.cons rzof_ok (SOK.cons equal_ok (SOK.nil (P := Try.prog)))))))
  refine ACall.body hE Try.func14 Try.ntmps14 Try.results14 ?_
  have hf : fits64 n = true := decide_eq_true ⟨h1, h2⟩
  have hd := dg_one (n := n.natAbs) (by omega)
  have hl := lm_dg (n := n.natAbs) (by omega)
  have hbb : (decide (n < 0) == decide (n < 0)) = true := beq_self_eq_true _
  have hb2 : decide (dg n.natAbs = dg n.natAbs) = true := decide_eq_true rfl
  refine wk hE (And.intro hf (And.intro hbb hb2)) ?_
  refine PostL.mk trivial ?_
  rfl
end Go.Hl

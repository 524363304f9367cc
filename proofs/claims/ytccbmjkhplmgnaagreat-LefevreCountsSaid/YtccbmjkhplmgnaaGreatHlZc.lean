/- zed.Small; hairlinelaw02: shown hairlinelaw02: equal; ref02: Make, Of, Norm; the law of small ones -/
import Derived.Test.YtccbmjkhplmgnaaGreatHlZa
import Derived.Test.YtccbmjkhplmgnaaGreatHlPf
import Derived.Test.YtccbmjkhplmgnaaGreatHlRa
import Derived.Test.YtccbmjkhplmgnaaGreatHlPa
set_option linter.unusedVariables false
set_option linter.unusedSimpArgs false
namespace Go.Hl
open Go Go.RowKit Go.Proofs
set_option maxHeartbeats 8000000
theorem dg_getD {r : Nat} (h : r < 18446744073709551616) : (dg r).getD 0 0 = (r : Int) := by
  by_cases h0 : r = 0
  · subst h0; rw [dg_zero]; rfl
  · unfold dg
    rw [digs_pos (by decide) h0, List.getD_cons_zero, Nat.mod_eq_of_lt h]
def fits64 (z : Int) : Bool := decide (-9223372036854775808 ≤ z ∧ z < 9223372036854775808)
@[push_cast] def spSmall : Sp := spZ 0 (fun _ x => Lm x ∧ x.length < 10000000) (fun b x => .tup [.raw (.int .i64 (if fits64 (zv b x) = true then zv b x else 0)), .raw (.bool (fits64 (zv b x)))])
theorem wrap_top {n : Int} (h1 : 9223372036854775808 ≤ n) (h2 : n < 18446744073709551616) : IntKind.i64.wrap n = n - 18446744073709551616 := by
  rw [IntKind.wrap_i64]; omega
theorem small_ok : SpOK Tryz.prog 38 spSmall := by
  refine SpOK.Z fun b x ⟨hx, hxl⟩ => ?_
  have hE := env (SOK.cons norm0_ok (SOK.nil (P := Tryz.prog)))
  have hd := dg_len_lt hx hxl
  refine ACall.body hE Tryz.func38 Tryz.ntmps38 Tryz.results38 ?_
  unfold zv
  obtain ⟨N, hN⟩ : ∃ N, nb x = N := ⟨_, rfl⟩
  rw [hN] at hd ⊢
  by_cases h0 : N = 0
  · have hz : (((dg N).length : Int) == 0) = true := by rw [h0, dg_zero]; rfl
    refine wk hE (And.intro hN hz) ?_
    refine PostL.mk trivial ?_
    rw [(zs_zero b N).2 h0]; rfl
  have hz : (((dg N).length : Int) == 0) = false := by
    have := List.length_pos_iff.2 (fun h => h0 (dg_nil.1 h))
    rw [beq_eq_false_iff_ne]; omega
  have hl0 : 0 < (dg N).length := List.length_pos_iff.2 (fun h => h0 (dg_nil.1 h))
  by_cases h1 : N < 18446744073709551616
  · have hl1 : (dg N).length = 1 := by
      have := dg_one h1; omega
    have hgd := dg_getD h1
    have hl2 : ¬ (1 : Int) < (dg N).length := by omega
    cases b
    · have hzs : zs false N = (N : Int) := rfl
      by_cases h2 : N < 9223372036854775808
      · have hf : fits64 (zs false N) = true := by rw [hzs]; exact decide_eq_true (by omega)
        have e1 : IntKind.i64.wrap (N : Int) = N := w64 (by omega) (by omega)
        refine wk hE (And.intro hN (And.intro hz (And.intro hgd (And.intro e1 (And.intro hl2 (show ¬ (N : Int) < 0 by omega)))))) ?_
        refine PostL.mk trivial ?_
        rw [hf]; rfl
      · have hf : fits64 (zs false N) = false := by rw [hzs]; exact decide_eq_false (by omega)
        obtain ⟨v, hv⟩ : ∃ v, IntKind.i64.wrap (N : Int) = v := ⟨_, rfl⟩
        have hv0 : v < 0 := by rw [← hv, IntKind.wrap_i64]; omega
        refine wk hE (And.intro hN (And.intro hz (And.intro hgd (And.intro hv (And.intro hl2 hv0))))) ?_
        refine PostL.mk trivial ?_
        rw [hf]; rfl
    · have hzs : zs true N = -(N : Int) := rfl
      obtain ⟨v, hv⟩ : ∃ v, IntKind.i64.wrap (N : Int) = v := ⟨_, rfl⟩
      obtain ⟨u, hu⟩ : ∃ u, IntKind.i64.wrap (0 - v) = u := ⟨_, rfl⟩
      by_cases h2 : N ≤ 9223372036854775808
      · have hf : fits64 (zs true N) = true := by rw [hzs]; exact decide_eq_true (by omega)
        have hu0 : u = -(N : Int) := by
          rcases Nat.lt_or_ge N 9223372036854775808 with h3 | h3
          · rw [w64 (by omega) (by omega)] at hv
            rw [← hv, w64 (by omega) (by omega)] at hu
            omega
          · rw [wrap_top (by omega) (by omega)] at hv
            have h4 : (0 : Int) - v = 9223372036854775808 := by omega
            rw [h4, wrap_top (by omega) (by omega)] at hu
            omega
        subst hu0
        refine wk hE (And.intro hN (And.intro hz (And.intro hgd (And.intro hv (And.intro hu (And.intro hl2 (show -(N : Int) < 0 by omega))))))) ?_
        refine PostL.mk trivial ?_
        rw [hf]; rfl
      · have hf : fits64 (zs true N) = false := by rw [hzs]; exact decide_eq_false (by omega)
        have hu0 : ¬ u < 0 := by
          rw [wrap_top (by omega) (by omega)] at hv
          rw [w64 (by omega) (by omega)] at hu
          omega
        refine wk hE (And.intro hN (And.intro hz (And.intro hgd (And.intro hv (And.intro hu (And.intro hl2 hu0)))))) ?_
        refine PostL.mk trivial ?_
        rw [hf]; rfl
  · have hl2 : (1 : Int) < (dg N).length := by
      have : ¬ (dg N).length ≤ 1 := fun h => h1 (by have := (digs_length_le (B := B64) (by decide) N 1).1 h; rwa [Nat.pow_one] at this)
      omega
    have hgd := lim64 (lim_digs (B := B64) (by decide) N) 0
    have hf : fits64 (zs b N) = false := by
      refine decide_eq_false ?_
      unfold zs; split <;> omega
    obtain ⟨v, hv⟩ : ∃ v, (dg N).getD 0 0 = v := ⟨_, rfl⟩
    cases b
    · refine wk hE (And.intro hN (And.intro hz (And.intro hv hl2))) ?_
      refine PostL.mk trivial ?_
      rw [hf]; rfl
    · refine wk hE (And.intro hN (And.intro hz (And.intro hv hl2))) ?_
      refine PostL.mk trivial ?_
      rw [hf]; rfl
theorem zv_lit (z : Int) {b : Bool} {n : Nat} (h : zs b n = z) : zv b (dg n) = z := by rw [zv_dg, h]
end Go.Hl

namespace Go.Hl
open Go Go.RowKit Go.Proofs
set_option maxHeartbeats 8000000
@[push_cast] def spZEqual : Sp := spZZ 0 (fun _ x _ y => x.length < 1000000000 ∧ y.length < 1000000000) (fun b x c y => .raw (.bool (decide (x = y) && (b == c))))
@[push_cast] def spRMade : Sp := spBN 0 (fun _ m => Lm m ∧ m.length < 400000000) (fun b m => zi (zs b (nb m)))
theorem rmade_ok : SpOK Tryz.prog 55 spRMade := by
  refine SpOK.BN fun b m ⟨hm, hl⟩ => ?_
  have hE := env (SOK.cons rnorm_ok (SOK.nil (P := Tryz.prog)))
  obtain ⟨n, hn⟩ : ∃ n, nb m = n := ⟨_, rfl⟩
  refine ACall.body hE Tryz.func55 Tryz.ntmps55 Tryz.results55 ?_
  rw [hn, ← zi_zs]
  have hp := nat_pos (dg n).length
  cases b
  · refine wk hE hn ?_
    exact PostL.mk trivial rfl
  · refine wk hE (And.intro hn hp) ?_
    exact PostL.mk trivial rfl
theorem rzof_ok : SpOK Tryz.prog 40 spOf := by
  refine SpOK.I fun n ⟨h1, h2⟩ => ?_
  have hE := env (SOK.cons rmade_ok (SOK.nil (P := Tryz.prog)))
  refine ACall.body hE Tryz.func40 Tryz.ntmps40 Tryz.results40 ?_
  obtain ⟨k, hk⟩ : ∃ k, n.natAbs = k := ⟨_, rfl⟩
  have hn1 := nb_one k
  have hlm : Lm [(k : Int)] := ⟨Lim.cons (by rw [hB64]; omega) Lim.nil, by simp⟩
  by_cases h0 : n < 0
  · obtain ⟨m, hm⟩ : ∃ m, n + 1 = m := ⟨_, rfl⟩
    obtain ⟨q, hq⟩ : ∃ q, 0 - m = q := ⟨_, rfl⟩
    have hqk : q + 1 = (k : Int) := by omega
    have hz : zs true k = n := by unfold zs; simp; omega
    have hg : ¬ 0 ≤ n := by omega
    refine wk hE (And.intro hg (And.intro hm (And.intro hq (And.intro hqk hn1)))) ?_
    refine PostL.mk trivial ?_
    exact congrArg zi hz
  · have e1 : IntKind.u64.wrap n = (k : Int) := by rw [IntKind.wrap_u64]; omega
    have hz : zs false k = n := by unfold zs; simp; omega
    have hg : 0 ≤ n := by omega
    refine wk hE (And.intro hg (And.intro e1 hn1)) ?_
    refine PostL.mk trivial ?_
    exact congrArg zi hz
theorem rng64 {n : Int} (h : (Lit.int .i64 n).wf = true) : -9223372036854775808 ≤ n ∧ n < 9223372036854775808 := by
  have h : (decide (IntKind.i64.min ≤ n) && decide (n ≤ IntKind.i64.max)) = true := h
  rw [Bool.and_eq_true, decide_eq_true_iff, decide_eq_true_iff, show IntKind.i64.min = -9223372036854775808 from rfl, show IntKind.i64.max = 9223372036854775807 from rfl] at h
  omega
theorem lim1 {x : Int} (h : 0 ≤ x ∧ x < 18446744073709551616) : Lim B64 [x] := Lim.cons (by rw [hB64]; exact h) Lim.nil
end Go.Hl

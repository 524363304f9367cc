/- NatStands -/
import Derived.Test.YtccbmjkhplmgnaaHlL3
import Derived.Test.YtccbmjkhplmgnaaHlAv28
import Derived.Test.YtccbmjkhplmgnaaHlRa
set_option linter.unusedVariables false
set_option linter.unusedSimpArgs false
namespace Go.Hl
open Go Go.RowKit Go.Proofs
set_option maxHeartbeats 4000000

theorem wf_i64 {n : Int} (h : (Lit.int .i64 n).wf = true) : -9223372036854775808 ≤ n ∧ n < 9223372036854775808 := by
  simp [Lit.wf, IntKind.min, IntKind.max, IntKind.signed, IntKind.bits] at h
  omega

theorem natStands_ok {xs ys : List Int} (hx : Lim B64 xs) (hy : Lim B64 ys) {i : Int} (hi : (Lit.int .i64 i).wf = true) : ACall Try.prog 6 [.ns .u64 xs, .ns .u64 ys, .raw (.int .i64 i)] (.raw (.bool true)) := by
  have hE := env (SOK.cons shown_ok (SOK.cons cut_ok (SOK.cons norm_ok (SOK.cons rnorm_ok (SOK.cons cmp_ok (SOK.cons rcmp_ok (SOK.cons bitlen_ok (SOK.cons rbitlen_ok (SOK.cons bit_ok (SOK.cons rbit_ok (SOK.cons same_ok (SOK.nil (P := Try.prog)))))))))))))
  obtain ⟨hi1, hi2⟩ := wf_i64 hi
  obtain ⟨hA, hAl⟩ := lm_take hx (n := 40) (by decide)
  obtain ⟨hB, hBl⟩ := lm_take hy (n := 40) (by decide)
  have bA := nb_take_pow hx 40
  obtain ⟨A, eA⟩ : ∃ A, xs.take 40 = A := ⟨_, rfl⟩
  obtain ⟨B, eB⟩ : ∃ B, ys.take 40 = B := ⟨_, rfl⟩
  rw [eA] at hA hAl bA
  rw [eB] at hB hBl
  obtain ⟨a, ea⟩ : ∃ a, nb A = a := ⟨_, rfl⟩
  obtain ⟨b, eb⟩ : ∃ b, nb B = b := ⟨_, rfl⟩
  rw [ea] at bA
  obtain ⟨q1, q1l⟩ := lmd bA (by decide)
  obtain ⟨D, hD⟩ : ∃ D, dg a = D := ⟨_, rfl⟩
  rw [hD] at q1 q1l
  refine ACall.body hE Try.func6 Try.ntmps6 Try.results6 ?_
  refine wkR hE trivial ?_
  refine wkR hE trivial ?_
  refine wkR hE eA ?_
  refine wkR hE eB ?_
  refine wkR hE trivial ?_
  refine wkR hE (And.intro ea hD) ?_
  refine AWp.weak (σ' := ⟨[(9, .os 22 1 0 D.length), (8, .os 20 1 0 A.length), (0, .ns .u64 A), (1, .ns .u64 B), (2, .raw (.int .i64 i)), (7, .raw (.bool true))], [(22, ⟨true, .n .u64 D⟩), (20, ⟨false, .n .u64 A⟩)]⟩) (Le.mk trivial) ?_
  refine AWp.seq (AWp.peek hE.hT hE.hS (K := fun σ2 => lk σ2.fr 10 = some (.raw (.bool true))) (σv := [(9, .ns .u64 D), (8, .ns .u64 A), (0, .ns .u64 A), (1, .ns .u64 B), (2, .raw (.int .i64 i)), (7, .raw (.bool true))]) [(10, .bool true)] (by simp [vwL, vw, lk]) (wk hE (And.intro ea hD) ?_) ?_ ?_)
  · rfl
  · intro σ2 k2 p hp
    simp only [List.mem_singleton] at hp
    subst hp
    exact k2
  refine AWp.weak (σ' := ⟨[(9, .os 22 1 0 D.length), (8, .os 20 1 0 A.length), (0, .ns .u64 A), (1, .ns .u64 B), (2, .raw (.int .i64 i)), (7, .raw (.bool true)), (10, .raw (.bool true))], [(22, ⟨true, .n .u64 D⟩), (20, ⟨false, .n .u64 A⟩)]⟩) (Le.mk trivial) ?_
  refine wk hE trivial ?_
  refine AWp.loop (ι := {p : Nat × List Int // p.1 ≤ D.length ∧ p.2.length = D.length}) (fun p => ⟨[(9, .os 22 1 0 D.length), (8, .os 20 1 0 A.length), (0, .ns .u64 A), (1, .ns .u64 B), (2, .raw (.int .i64 i)), (7, .raw (.bool true)), (10, .raw (.bool true)), (11, .raw (.int .i64 (p.1.1 : Nat)))], [(22, ⟨true, .n .u64 p.1.2⟩), (20, ⟨false, .n .u64 A⟩)]⟩)
    (fun p => D.length - p.1.1) ⟨(0, D), Nat.zero_le _, rfl⟩ (Le.mk trivial) ?_
  rintro ⟨⟨k, zs⟩, hk, hz⟩
  dsimp only at hk hz ⊢
  by_cases h : k < D.length
  · refine wk hE (show (k : Int) < D.length by omega) ?_
    exact ⟨⟨(k + 1, zs.set k 7), h, by dsimp only; rw [List.length_set]; exact hz⟩, Le.mk trivial, by dsimp only; omega⟩
  · refine wk hE (And.intro (show ¬ (k : Int) < D.length by omega) (And.intro ea eb)) ?_
    exact PostL.mk trivial rfl
end Go.Hl

/- LefevreSplits -/
import Derived.Test.YtccbmjkhplmgnaaHlVa
set_option linter.unusedVariables false
set_option linter.unusedSimpArgs false
namespace Go.Hl
open Go Go.RowKit Go.Proofs
set_option maxHeartbeats 8000000
set_option maxRecDepth 100000
theorem fit_of {z : Int} {k : Nat} (hk : k < 900) (h : z.natAbs < B64 ^ k) : Lm (dg z.natAbs) ∧ (dg z.natAbs).length < 1000 := by
  obtain ⟨f1, _, f2⟩ := dgl h (by omega)
  exact ⟨f1, by omega⟩
theorem i64_lt {n : Int} (n1 : -9223372036854775808 ≤ n) (n2 : n < 9223372036854775808) : n.natAbs < B64 ^ 1 := by rw [Nat.pow_one]; unfold B64; omega
theorem pow64_le {z : Nat} {j k : Nat} (h : z < B64 ^ j) (hjk : j ≤ k) : z < B64 ^ k := Nat.lt_of_lt_of_le h (Nat.pow_le_pow_right (by decide) hjk)
theorem splits_t {b0 b1 b2 b3 : Bool} {x0 x1 x2 x3 : List Int} {N n A B M C P S T : Int} (m0 : Lm x0) (m1 : Lm x1) (m2 : Lm x2) (m3 : Lm x3) (l0 : x0.length ≤ 1) (l1 : x1.length ≤ 1) (l2 : x2.length ≤ 1) (l3 : x3.length ≤ 1)
    (eA : zv b0 x0 = A) (eB : zv b1 x1 = B) (eM : zv b2 x2 = M) (eC : zv b3 x3 = C) (hM : 0 < M) (hC : 0 ≤ C) (hCM : C ≤ M) (N0 : 0 ≤ N) (n0 : 0 ≤ n) (N1 : N ≤ 2305843009213693952) (n1 : n ≤ 2305843009213693952) (eP : A * N = P) (eS : B + P = S) (eT : N + n = T)
    {K1 K2 K3 : Int} (r1 : 0 ≤ K1 ∧ K1 ≤ N) (r2 : 0 ≤ K2 ∧ K2 ≤ n) (k1 : wK A B M C N = K1) (k2 : wK A S M C n = K2) (k3 : wK A B M C T = K3) (eK : K1 + K2 = K3) (eE1 : wE M C N = 0) (eE2 : wE M C n = 0) (eE3 : wE M C T = 0)
    (kf : Nat.gcd A.natAbs M.natAbs = 1 → M < 9223372036854775808 → wK A B M C M = C ∧ wE M C M = 0)
    (oN1 : Lm (dg N.natAbs)) (oN2 : (dg N.natAbs).length < 1000) (oP1 : Lm (dg P.natAbs)) (oP2 : (dg P.natAbs).length < 1000) (oS1 : Lm (dg S.natAbs)) (oS2 : (dg S.natAbs).length < 1000) (oC1 : Lm (dg C.natAbs)) (oC2 : (dg C.natAbs).length < 1000) (oG1 : Lm (dg (Nat.gcd A.natAbs M.natAbs))) (oG2 : (dg (Nat.gcd A.natAbs M.natAbs)).length < 1000) :
    AWp Try.prog (tab false) 172 (tl 3 (Try.f27.body.getD .skip)) (PostL (tab false) [.tmp 6] [4] (.raw (.bool true))) ⟨[(2, .raw (.int .i64 n)), (3, .ptr 3 0), (4, .ptr 4 0), (7, .raw (.bool true))], [(3, ⟨true, .c [.raw (.bool b0), .ns .u64 x0, .raw (.bool b1), .ns .u64 x1, .raw (.bool b2), .ns .u64 x2, .raw (.int .i64 N)]⟩), (4, ⟨true, .c [.raw (.bool b3), .ns .u64 x3]⟩)]⟩ := by
  have hE := env (SOK.cons many_ok (SOK.cons num_ok (SOK.cons rzmul_ok (SOK.cons rzadd_ok (SOK.cons rzsmall_ok (SOK.cons rzgcd_ok (SOK.cons rzcmp_ok (SOK.cons rznorm_ok (SOK.cons exact_ok (SOK.nil (P := Try.prog)))))))))))
  change AWp _ _ _ (.seq _ _) _ _
  have e0 : (K3 != K3) = false := by simp
  refine wkR hE (And.intro eA (And.intro eB (And.intro eM (And.intro eC (And.intro k1 eE1))))) ?_
  refine AWp.seqJ (ι := Unit) (fun _ => ⟨[(2, .raw (.int .i64 n)), (3, .ptr 3 0), (4, .ptr 4 0), (7, .raw (.bool true)), (8, .raw (.int .i64 K1)), (9, .raw (.int .i64 0)), (10, .raw (.int .i64 K2)), (11, .raw (.int .i64 0))], [(3, ⟨true, .c [.raw (.bool b0), .ns .u64 x0, .raw (.bool b1), .ns .u64 x1, .raw (.bool b2), .ns .u64 x2, .raw (.int .i64 N)]⟩), (4, ⟨true, .c [.raw (.bool b3), .ns .u64 x3]⟩)]⟩) ?_ (fun _ => ?_)
  · refine wk hE (And.intro eA (And.intro eM (And.intro eC (And.intro eB (And.intro eP (And.intro eS (And.intro k2 eE2))))))) ?_
    exact ⟨(), Le.mk trivial⟩
  refine wkR hE (And.intro eA (And.intro eB (And.intro eM (And.intro eC (And.intro eT (And.intro k3 eE3)))))) ?_
  refine AWp.seqJ (ι := Unit) (fun _ => ⟨[(3, .ptr 3 0), (4, .ptr 4 0), (7, .raw (.bool true))], [(3, ⟨true, .c [.raw (.bool b0), .ns .u64 x0, .raw (.bool b1), .ns .u64 x1, .raw (.bool b2), .ns .u64 x2, .raw (.int .i64 N)]⟩), (4, ⟨true, .c [.raw (.bool b3), .ns .u64 x3]⟩)]⟩) ?_ (fun _ => ?_)
  · refine wk hE (And.intro eK e0) ?_
    exact ⟨(), Le.mk trivial⟩
  obtain ⟨W, eW⟩ : ∃ W, fits64 M = W := ⟨_, rfl⟩
  cases W
  · refine wk hE (And.intro eM eW) ?_
    exact PostL.mk trivial rfl
  have hMs : M < 9223372036854775808 := by
    have := of_decide_eq_true (show decide (-9223372036854775808 ≤ M ∧ M < 9223372036854775808) = true from eW)
    omega
  obtain ⟨G, eG⟩ : ∃ G : Int, ((Nat.gcd A.natAbs M.natAbs : Nat) : Int) = G := ⟨_, rfl⟩
  have eGn : Nat.gcd A.natAbs M.natAbs = G.natAbs := by omega
  rw [eGn] at oG1 oG2
  have hone : zv false (dg (Int.natAbs 1)) = 1 := zv_zi 1
  obtain ⟨c1, c1'⟩ := fit_of (z := 1) (k := 1) (by decide) (by decide)
  by_cases hg : G = 1
  · subst hg
    obtain ⟨kf1, kf2⟩ := kf (by omega) hMs
    have hc : (cmpZ 1 1 != 0) = false := by decide
    have dC : decide (dg C.natAbs = dg C.natAbs) = true := decide_eq_true rfl
    have bC : (decide (C < 0) == decide (C < 0)) = true := beq_self_eq_true _
    refine wk hE (And.intro eA (And.intro eB (And.intro eM (And.intro eC (And.intro eW (And.intro eG (And.intro hone (And.intro hc (And.intro kf1 (And.intro kf2 (And.intro dC bC))))))))))) ?_
    exact PostL.mk trivial rfl
  · have hc : (cmpZ G 1 != 0) = true := by
      rw [bne_iff_ne]; unfold cmpZ; split; decide; split; decide; omega
    refine wk hE (And.intro eA (And.intro eB (And.intro eM (And.intro eC (And.intro eW (And.intro eG (And.intro hone hc))))))) ?_
    exact PostL.mk trivial rfl
theorem lefevreSplits_ok {b0 b1 b2 b3 : Bool} {x0 x1 x2 x3 : List Int} {N n : Int} (h0 : Lim B64 x0) (h1 : Lim B64 x1) (h2 : Lim B64 x2) (hN : (Lit.int .i64 N).wf = true) (h3 : Lim B64 x3) (hn : (Lit.int .i64 n).wf = true) :
    ACall Try.prog 27 [.agg [.raw (.bool b0), .ns .u64 x0, .raw (.bool b1), .ns .u64 x1, .raw (.bool b2), .ns .u64 x2, .raw (.int .i64 N)], .agg [.raw (.bool b3), .ns .u64 x3], .raw (.int .i64 n)] (.raw (.bool true)) := by
  obtain ⟨N1, N2⟩ := rng64 hN
  obtain ⟨n1, n2⟩ := rng64 hn
  have hE := env (SOK.cons shown15_ok (SOK.cons fits_ok (SOK.cons rzsign_ok (SOK.cons rzcmp_ok (SOK.nil (P := Try.prog))))))
  refine ACall.body hE Try.func27 Try.ntmps27 Try.results27 ?_
  obtain ⟨F, eF⟩ : ∃ F, fitB x0 x1 x2 1 = F := ⟨_, rfl⟩
  cases F
  · refine wk hE eF ?_
    exact PostL.mk trivial rfl
  obtain ⟨l0, l1, l2⟩ := fit_true eF
  have m0 := lm_of h0 (k := 1) (by omega) (by decide)
  have m1 := lm_of h1 (k := 1) (by omega) (by decide)
  have m2 := lm_of h2 (k := 1) (by omega) (by decide)
  by_cases hl3 : 1 < (x3.length : Int)
  · refine wk hE (And.intro eF hl3) ?_
    exact PostL.mk trivial rfl
  have m3 := lm_of h3 (k := 1) (by omega) (by decide)
  obtain ⟨A, eA⟩ : ∃ A, zv b0 x0 = A := ⟨_, rfl⟩
  obtain ⟨B, eB⟩ : ∃ B, zv b1 x1 = B := ⟨_, rfl⟩
  obtain ⟨M, eM⟩ : ∃ M, zv b2 x2 = M := ⟨_, rfl⟩
  obtain ⟨C, eC⟩ : ∃ C, zv b3 x3 = C := ⟨_, rfl⟩
  by_cases hs : M.sign < 1
  · refine wk hE (And.intro eF (And.intro hl3 (And.intro eM hs))) ?_
    exact PostL.mk trivial rfl
  by_cases hc0 : C.sign < 0
  · refine wk hE (And.intro eF (And.intro hl3 (And.intro eM (And.intro eC (And.intro hs hc0))))) ?_
    exact PostL.mk trivial rfl
  by_cases hc1 : 0 < cmpZ C M
  · refine wk hE (And.intro eF (And.intro hl3 (And.intro eM (And.intro eC (And.intro hs (And.intro hc0 hc1)))))) ?_
    exact PostL.mk trivial rfl
  by_cases hN0 : N < 0
  · refine wk hE (And.intro eF (And.intro hl3 (And.intro eM (And.intro eC (And.intro hs (And.intro hc0 (And.intro hc1 hN0))))))) ?_
    exact PostL.mk trivial rfl
  by_cases hn0 : n < 0
  · refine wk hE (And.intro eF (And.intro hl3 (And.intro eM (And.intro eC (And.intro hs (And.intro hc0 (And.intro hc1 (And.intro hN0 hn0)))))))) ?_
    exact PostL.mk trivial rfl
  by_cases hN1 : 2305843009213693952 < N
  · refine wk hE (And.intro eF (And.intro hl3 (And.intro eM (And.intro eC (And.intro hs (And.intro hc0 (And.intro hc1 (And.intro hN0 (And.intro hn0 hN1))))))))) ?_
    exact PostL.mk trivial rfl
  by_cases hn1 : 2305843009213693952 < n
  · refine wk hE (And.intro eF (And.intro hl3 (And.intro eM (And.intro eC (And.intro hs (And.intro hc0 (And.intro hc1 (And.intro hN0 (And.intro hn0 (And.intro hN1 hn1)))))))))) ?_
    exact PostL.mk trivial rfl
  refine wk hE (And.intro eF (And.intro hl3 (And.intro eM (And.intro eC (And.intro hs (And.intro hc0 (And.intro hc1 (And.intro hN0 (And.intro hn0 hN1))))))))) ?_
  refine AWp.test trivial (fun hc => absurd (of_decide_eq_true hc) hn1) (fun _ => ?_)
  refine AWp.skip ?_
  refine AWp.weak (σ' := ⟨[(2, .raw (.int .i64 n)), (3, .ptr 3 0), (4, .ptr 4 0), (7, .raw (.bool true))], [(3, ⟨true, .c [.raw (.bool b0), .ns .u64 x0, .raw (.bool b1), .ns .u64 x1, .raw (.bool b2), .ns .u64 x2, .raw (.int .i64 N)]⟩), (4, ⟨true, .c [.raw (.bool b3), .ns .u64 x3]⟩)]⟩) (Le.mk trivial) ?_
  change AWp Try.prog (tab false) 172 (tl 3 (Try.f27.body.getD .skip)) (PostL (tab false) [.tmp 6] [4] (.raw (.bool true))) _
  clear hE
  have hM : 0 < M := by have := @sign_lt1 M; omega
  have hC : 0 ≤ C := by have := @sign_lt0 C; omega
  have hCM : C ≤ M := by have := @cmp_gt0 C M; omega
  have bA := zv_abs_lt (b := b0) m0 (l := 1) (by omega)
  have bB := zv_abs_lt (b := b1) m1 (l := 1) (by omega)
  have bM := zv_abs_lt (b := b2) m2 (l := 1) (by omega)
  have bC := zv_abs_lt (b := b3) m3 (l := 1) (by omega)
  rw [eA] at bA
  rw [eB] at bB
  rw [eM] at bM
  rw [eC] at bC
  have bN := i64_lt N1 N2
  have bP : (A * N).natAbs < B64 ^ 2 := abs_mul_lt (k := 1) (l := 1) bA bN
  have bS : (B + A * N).natAbs < B64 ^ 3 := abs_add_lt (l := 2) (pow64_le bB (by decide)) bP
  have bG : Nat.gcd A.natAbs M.natAbs < B64 ^ 1 := gcd_lt bA bM
  have nb1 : ¬ badM M C N := by unfold badM; omega
  have nb2 : ¬ badM M C n := by unfold badM; omega
  have nb3 : ¬ badM M C (N + n) := by unfold badM; omega
  have r1 := cI_rng (a := A) (b := B) (m := M) (w := C) (n := N) (by omega)
  have r2 := cI_rng (a := A) (b := B + A * N) (m := M) (w := C) (n := n) (by omega)
  have hsp := cI_split (a := A) (b := B) (m := M) (w := C) (n := N) (k := n) (by omega) (by omega)
  obtain ⟨oN1, oN2⟩ := fit_of (by decide) bN
  obtain ⟨oP1, oP2⟩ := fit_of (by decide) bP
  obtain ⟨oS1, oS2⟩ := fit_of (by decide) bS
  obtain ⟨oC1, oC2⟩ := fit_of (by decide) bC
  obtain ⟨oG1, oG2⟩ := fit_of (z := (Nat.gcd A.natAbs M.natAbs : Nat)) (k := 1) (by decide) (by rw [Int.natAbs_natCast]; exact bG)
  rw [Int.natAbs_natCast] at oG1 oG2
  exact splits_t m0 m1 m2 m3 (by omega) (by omega) (by omega) (by omega) eA eB eM eC hM hC hCM (by omega) (by omega) (by omega) (by omega) rfl rfl rfl r1 r2 (wK_good nb1) (wK_good nb2) (wK_good nb3) hsp (wE_good nb1) (wE_good nb2) (wE_good nb3)
    (fun hg hs => ⟨(wK_good (by unfold badM; omega)).trans (cI_full hM hg hC hCM), wE_good (by unfold badM; omega)⟩) oN1 oN2 oP1 oP2 oS1 oS2 oC1 oC2 oG1 oG2
end Go.Hl

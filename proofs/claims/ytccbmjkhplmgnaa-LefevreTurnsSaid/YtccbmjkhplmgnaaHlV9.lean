/- LefevreTurns -/
import Derived.Test.YtccbmjkhplmgnaaHlV8
set_option linter.unusedVariables false
set_option linter.unusedSimpArgs false
namespace Go.Hl
open Go Go.RowKit Go.Proofs
set_option maxHeartbeats 8000000
set_option maxRecDepth 100000
theorem turns_t {b0 b1 b2 b3 b4 b5 b6 : Bool} {x0 x1 x2 x3 x4 x5 x6 : List Int} {N A B M L H C D P Q A' B' : Int} (m0 : Lm x0) (m1 : Lm x1) (m2 : Lm x2) (m3 : Lm x3) (m4 : Lm x4) (m5 : Lm x5) (m6 : Lm x6) (l0 : x0.length ≤ 1) (l1 : x1.length ≤ 1) (l2 : x2.length ≤ 1) (l3 : x3.length ≤ 1) (l4 : x4.length ≤ 1) (l5 : x5.length ≤ 1) (l6 : x6.length ≤ 1)
    (eA : zv b0 x0 = A) (eB : zv b1 x1 = B) (eM : zv b2 x2 = M) (eL : zv b3 x3 = L) (eH : zv b4 x4 = H) (eC : zv b5 x5 = C) (eD : zv b6 x6 = D) (N1 : 2 ≤ N) (N2 : N < 9223372036854775808)
    (eP : C * M = P) (eA' : A + P = A') (eQ : D * M = Q) (eB' : B + Q = B')
    {k e l v f x o p N' B2 : Int} (f1 : fK A B M L H N = k) (f2 : fE A B M L H N = e) (f3 : fK A' B' M L H N = k) (f4 : fE A' B' M L H N = e) (g1 : lK A B M N = l) (g2 : lV A B M N = v) (g3 : lE M N = f) (g4 : lK A' B' M N = l) (g5 : lV A' B' M N = v)
    (w1 : wK A B M H N = x) (w2 : wE M H N = 0) (w3 : wK A' B' M H N = x) (eB2 : B + A = B2) (eN' : N - 1 = N') (h1 : fK A B2 M L H N' = o) (h2 : fE A B2 M L H N' = p)
    (hc : (e = 8 ∧ p = 8) ∨ (e = 0 ∧ k = 0) ∨ (e = 0 ∧ 0 < k ∧ p = 0 ∧ o = k - 1)) (k2 : k < 9223372036854775808) (v0 : 0 ≤ v)
    (oP1 : Lm (dg P.natAbs)) (oP2 : (dg P.natAbs).length < 1000) (oQ1 : Lm (dg Q.natAbs)) (oQ2 : (dg Q.natAbs).length < 1000) (oA1 : Lm (dg A'.natAbs)) (oA2 : (dg A'.natAbs).length < 1000) (oB1 : Lm (dg B'.natAbs)) (oB2 : (dg B'.natAbs).length < 1000) (oC1 : Lm (dg B2.natAbs)) (oC2 : (dg B2.natAbs).length < 1000) (ov1 : Lm (dg v.natAbs)) (ov2 : (dg v.natAbs).length < 1000) :
    AWp Try.prog (tab false) 258 (tl 3 (Try.f26.body.getD .skip)) (PostL (tab false) [.tmp 10] [4] (.raw (.bool true))) ⟨[(5, .ptr 5 0), (6, .ptr 6 0), (7, .ptr 7 0), (8, .ptr 8 0), (9, .ptr 9 0), (11, .raw (.bool true))], [(5, ⟨true, .c [.raw (.bool b0), .ns .u64 x0, .raw (.bool b1), .ns .u64 x1, .raw (.bool b2), .ns .u64 x2, .raw (.int .i64 N)]⟩), (6, ⟨true, .c [.raw (.bool b3), .ns .u64 x3]⟩), (7, ⟨true, .c [.raw (.bool b4), .ns .u64 x4]⟩), (8, ⟨true, .c [.raw (.bool b5), .ns .u64 x5]⟩), (9, ⟨true, .c [.raw (.bool b6), .ns .u64 x6]⟩)]⟩ := by
  have hE := env (SOK.cons rzmul_ok (SOK.cons rzadd_ok (SOK.cons firstX_ok (SOK.cons leastX_ok (SOK.cons many_ok (SOK.cons exact_ok (SOK.nil (P := Try.prog))))))))
  change AWp _ _ _ (.seq _ (.seq _ _)) _ _
  refine AWp.seqJ (ι := Unit) (fun _ => ⟨[(5, .ptr 5 0), (6, .ptr 6 0), (7, .ptr 7 0), (8, .ptr 8 0), (9, .ptr 9 0), (11, .raw (.bool true)), (12, .ptr 12 0)], [(5, ⟨true, .c [.raw (.bool b0), .ns .u64 x0, .raw (.bool b1), .ns .u64 x1, .raw (.bool b2), .ns .u64 x2, .raw (.int .i64 N)]⟩), (6, ⟨true, .c [.raw (.bool b3), .ns .u64 x3]⟩), (7, ⟨true, .c [.raw (.bool b4), .ns .u64 x4]⟩), (8, ⟨true, .c [.raw (.bool b5), .ns .u64 x5]⟩), (9, ⟨true, .c [.raw (.bool b6), .ns .u64 x6]⟩), (12, ⟨true, .c [.raw (.bool (decide (A' < 0))), .ns .u64 (dg A'.natAbs)]⟩)]⟩) ?_ (fun _ => ?_)
  · refine AWp.regionA [(5, 5), (8, 8)] [(12, 7)] hE.hT hE.hS hE.hm ?_ (wk hE (And.intro eA (And.intro eM (And.intro eC (And.intro eP eA')))) ?_)
    · intro p i h
      simp only [lk] at h
      split at h
      · rename_i e; cases h; subst e; exact ⟨0, rfl⟩
      split at h
      · rename_i e; cases h; subst e; exact ⟨0, rfl⟩
      · cases h
    exact ⟨(), Le.mk trivial⟩
  refine AWp.seqJ (ι := Unit) (fun _ => ⟨[(5, .ptr 5 0), (6, .ptr 6 0), (7, .ptr 7 0), (11, .raw (.bool true)), (12, .ptr 12 0), (13, .ptr 13 0)], [(5, ⟨true, .c [.raw (.bool b0), .ns .u64 x0, .raw (.bool b1), .ns .u64 x1, .raw (.bool b2), .ns .u64 x2, .raw (.int .i64 N)]⟩), (6, ⟨true, .c [.raw (.bool b3), .ns .u64 x3]⟩), (7, ⟨true, .c [.raw (.bool b4), .ns .u64 x4]⟩), (12, ⟨true, .c [.raw (.bool (decide (A' < 0))), .ns .u64 (dg A'.natAbs)]⟩), (13, ⟨true, .c [.raw (.bool (decide (B' < 0))), .ns .u64 (dg B'.natAbs)]⟩)]⟩) ?_ (fun _ => ?_)
  · refine AWp.regionA [(5, 5), (9, 9)] [(13, 7)] hE.hT hE.hS hE.hm ?_ (wk hE (And.intro eB (And.intro eM (And.intro eD (And.intro eQ eB')))) ?_)
    · intro p i h
      simp only [lk] at h
      split at h
      · rename_i e; cases h; subst e; exact ⟨0, rfl⟩
      split at h
      · rename_i e; cases h; subst e; exact ⟨0, rfl⟩
      · cases h
    exact ⟨(), Le.mk trivial⟩
  have c1 : (k != k) = false := by simp
  have c2 : (e != e) = false := by simp
  have c3 : (l != l) = false := by simp
  have c4 : (f != f) = false := by simp
  have bV : (decide (v < 0) == decide (v < 0)) = true := beq_self_eq_true _
  have dV : decide (dg v.natAbs = dg v.natAbs) = true := decide_eq_true rfl
  have xx : (x == x) = true := beq_self_eq_true _
  rcases hc with ⟨he, hp⟩ | ⟨he, hk⟩ | ⟨he, hk, hp, ho⟩
  · subst he; subst hp
    refine wk hE (And.intro eA (And.intro eB (And.intro eM (And.intro eL (And.intro eH (And.intro f1 (And.intro f2 (And.intro f3 (And.intro f4 (And.intro g1 (And.intro g2 (And.intro g3 (And.intro g4 (And.intro g5 (And.intro w1 (And.intro w2 (And.intro w3 (And.intro eB2 (And.intro eN' (And.intro h1 (And.intro h2 (And.intro c1 (And.intro c3 (And.intro c4 (And.intro bV (And.intro dV xx)))))))))))))))))))))))))) ?_
    exact PostL.mk trivial rfl
  · subst he; subst hk
    refine wk hE (And.intro eA (And.intro eB (And.intro eM (And.intro eL (And.intro eH (And.intro f1 (And.intro f2 (And.intro f3 (And.intro f4 (And.intro g1 (And.intro g2 (And.intro g3 (And.intro g4 (And.intro g5 (And.intro w1 (And.intro w2 (And.intro w3 (And.intro eB2 (And.intro eN' (And.intro h1 (And.intro h2 (And.intro c3 (And.intro c4 (And.intro bV (And.intro dV xx))))))))))))))))))))))))) ?_
    exact PostL.mk trivial rfl
  · subst he; subst hp
    have ho' : (o != k - 1) = false := by rw [ho]; simp
    refine wk hE (And.intro eA (And.intro eB (And.intro eM (And.intro eL (And.intro eH (And.intro f1 (And.intro f2 (And.intro f3 (And.intro f4 (And.intro g1 (And.intro g2 (And.intro g3 (And.intro g4 (And.intro g5 (And.intro w1 (And.intro w2 (And.intro w3 (And.intro eB2 (And.intro eN' (And.intro h1 (And.intro h2 (And.intro c1 (And.intro c3 (And.intro c4 (And.intro bV (And.intro dV (And.intro xx (And.intro hk ho')))))))))))))))))))))))))))) ?_
    exact PostL.mk trivial rfl
theorem lefevreTurns_ok {b0 b1 b2 b3 b4 b5 b6 : Bool} {x0 x1 x2 x3 x4 x5 x6 : List Int} {N : Int} (h0 : Lim B64 x0) (h1 : Lim B64 x1) (h2 : Lim B64 x2) (hN : (Lit.int .i64 N).wf = true) (h3 : Lim B64 x3) (h4 : Lim B64 x4) (h5 : Lim B64 x5) (h6 : Lim B64 x6) :
    ACall Try.prog 26 [.agg [.raw (.bool b0), .ns .u64 x0, .raw (.bool b1), .ns .u64 x1, .raw (.bool b2), .ns .u64 x2, .raw (.int .i64 N)], .agg [.raw (.bool b3), .ns .u64 x3], .agg [.raw (.bool b4), .ns .u64 x4], .agg [.raw (.bool b5), .ns .u64 x5], .agg [.raw (.bool b6), .ns .u64 x6]] (.raw (.bool true)) := by
  obtain ⟨N1, N2⟩ := rng64 hN
  have hE := env (SOK.cons shown15_ok (SOK.cons fits_ok (SOK.cons rzsign_ok (SOK.cons rzcmp_ok (SOK.nil (P := Try.prog))))))
  refine ACall.body hE Try.func26 Try.ntmps26 Try.results26 ?_
  obtain ⟨F, eF⟩ : ∃ F, fitB x0 x1 x2 1 = F := ⟨_, rfl⟩
  cases F
  · refine wk hE eF ?_
    exact PostL.mk trivial rfl
  obtain ⟨l0, l1, l2⟩ := fit_true eF
  have m0 := lm_of h0 (k := 1) (by omega) (by decide)
  have m1 := lm_of h1 (k := 1) (by omega) (by decide)
  have m2 := lm_of h2 (k := 1) (by omega) (by decide)
  by_cases hl3 : 1 < (x3.length : Int)
  · refine wk hE (And.intro eF hl3) ?_
    exact PostL.mk trivial rfl
  by_cases hl4 : 1 < (x4.length : Int)
  · refine wk hE (And.intro eF (And.intro hl3 hl4)) ?_
    exact PostL.mk trivial rfl
  by_cases hl5 : 1 < (x5.length : Int)
  · refine wk hE (And.intro eF (And.intro hl3 (And.intro hl4 hl5))) ?_
    exact PostL.mk trivial rfl
  by_cases hl6 : 1 < (x6.length : Int)
  · refine wk hE (And.intro eF (And.intro hl3 (And.intro hl4 (And.intro hl5 hl6)))) ?_
    exact PostL.mk trivial rfl
  have m3 := lm_of h3 (k := 1) (by omega) (by decide)
  have m4 := lm_of h4 (k := 1) (by omega) (by decide)
  have m5 := lm_of h5 (k := 1) (by omega) (by decide)
  have m6 := lm_of h6 (k := 1) (by omega) (by decide)
  obtain ⟨A, eA⟩ : ∃ A, zv b0 x0 = A := ⟨_, rfl⟩
  obtain ⟨B, eB⟩ : ∃ B, zv b1 x1 = B := ⟨_, rfl⟩
  obtain ⟨M, eM⟩ : ∃ M, zv b2 x2 = M := ⟨_, rfl⟩
  obtain ⟨L, eL⟩ : ∃ L, zv b3 x3 = L := ⟨_, rfl⟩
  obtain ⟨H, eH⟩ : ∃ H, zv b4 x4 = H := ⟨_, rfl⟩
  obtain ⟨C, eC⟩ : ∃ C, zv b5 x5 = C := ⟨_, rfl⟩
  obtain ⟨D, eD⟩ : ∃ D, zv b6 x6 = D := ⟨_, rfl⟩
  by_cases hs : M.sign < 1
  · refine wk hE (And.intro eF (And.intro hl3 (And.intro hl4 (And.intro hl5 (And.intro hl6 (And.intro eM (And.intro eL (And.intro eH hs)))))))) ?_
    exact PostL.mk trivial rfl
  by_cases hn : N < 2
  · refine wk hE (And.intro eF (And.intro hl3 (And.intro hl4 (And.intro hl5 (And.intro hl6 (And.intro eM (And.intro eL (And.intro eH (And.intro hs hn))))))))) ?_
    exact PostL.mk trivial rfl
  by_cases ha : L.sign < 0
  · refine wk hE (And.intro eF (And.intro hl3 (And.intro hl4 (And.intro hl5 (And.intro hl6 (And.intro eM (And.intro eL (And.intro eH (And.intro hs (And.intro hn ha)))))))))) ?_
    exact PostL.mk trivial rfl
  by_cases hb : 0 < cmpZ L H
  · refine wk hE (And.intro eF (And.intro hl3 (And.intro hl4 (And.intro hl5 (And.intro hl6 (And.intro eM (And.intro eL (And.intro eH (And.intro hs (And.intro hn (And.intro ha hb))))))))))) ?_
    exact PostL.mk trivial rfl
  by_cases hc : 0 ≤ cmpZ H M
  · refine wk hE (And.intro eF (And.intro hl3 (And.intro hl4 (And.intro hl5 (And.intro hl6 (And.intro eM (And.intro eL (And.intro eH (And.intro hs (And.intro hn (And.intro ha (And.intro hb hc)))))))))))) ?_
    exact PostL.mk trivial rfl
  refine wk hE (And.intro eF (And.intro hl3 (And.intro hl4 (And.intro hl5 (And.intro hl6 (And.intro eM (And.intro eL (And.intro eH (And.intro hs (And.intro hn (And.intro ha hb))))))))))) ?_
  refine AWp.test trivial (fun h => absurd (of_decide_eq_true h) hc) (fun _ => ?_)
  refine AWp.skip ?_
  refine AWp.weak (σ' := ⟨[(5, .ptr 5 0), (6, .ptr 6 0), (7, .ptr 7 0), (8, .ptr 8 0), (9, .ptr 9 0), (11, .raw (.bool true))], [(5, ⟨true, .c [.raw (.bool b0), .ns .u64 x0, .raw (.bool b1), .ns .u64 x1, .raw (.bool b2), .ns .u64 x2, .raw (.int .i64 N)]⟩), (6, ⟨true, .c [.raw (.bool b3), .ns .u64 x3]⟩), (7, ⟨true, .c [.raw (.bool b4), .ns .u64 x4]⟩), (8, ⟨true, .c [.raw (.bool b5), .ns .u64 x5]⟩), (9, ⟨true, .c [.raw (.bool b6), .ns .u64 x6]⟩)]⟩) (Le.mk trivial) ?_
  change AWp Try.prog (tab false) 258 (tl 3 (Try.f26.body.getD .skip)) (PostL (tab false) [.tmp 10] [4] (.raw (.bool true))) _
  clear hE
  have hM : 0 < M := by have := @sign_lt1 M; omega
  have hL : 0 ≤ L := by have := @sign_lt0 L; omega
  have hLH : L ≤ H := by have := @cmp_gt0 L H; omega
  have hHM : H < M := by have := @cmp_ge0 H M; omega
  have bA := zv_abs_lt (b := b0) m0 (l := 1) (by omega)
  rw [eA] at bA
  have bB := zv_abs_lt (b := b1) m1 (l := 1) (by omega)
  rw [eB] at bB
  have bM := zv_abs_lt (b := b2) m2 (l := 1) (by omega)
  rw [eM] at bM
  have bL := zv_abs_lt (b := b3) m3 (l := 1) (by omega)
  rw [eL] at bL
  have bH := zv_abs_lt (b := b4) m4 (l := 1) (by omega)
  rw [eH] at bH
  have bC := zv_abs_lt (b := b5) m5 (l := 1) (by omega)
  rw [eC] at bC
  have bD := zv_abs_lt (b := b6) m6 (l := 1) (by omega)
  rw [eD] at bD
  have bP : (C * M).natAbs < B64 ^ 2 := abs_mul_lt (k := 1) (l := 1) bC bM
  have bQ : (D * M).natAbs < B64 ^ 2 := abs_mul_lt (k := 1) (l := 1) bD bM
  have bA' : (A + C * M).natAbs < B64 ^ 3 := abs_add_lt (l := 2) (pow64_le bA (by decide)) bP
  have bB' : (B + D * M).natAbs < B64 ^ 3 := abs_add_lt (l := 2) (pow64_le bB (by decide)) bQ
  have bC' : (B + A).natAbs < B64 ^ 2 := abs_add_lt (l := 1) bB bA
  have bv := mV_bd (a := A) (b := B) (n := N) hM (by omega)
  have eV : lV A B M N = mV A B M N := by unfold lV; rw [if_neg (by unfold badL; omega)]
  have bv' : (lV A B M N).natAbs < B64 ^ 1 := by rw [eV]; omega
  obtain ⟨oP1, oP2⟩ := fit_of (by decide) bP
  obtain ⟨oQ1, oQ2⟩ := fit_of (by decide) bQ
  obtain ⟨oA1, oA2⟩ := fit_of (by decide) bA'
  obtain ⟨oB1, oB2⟩ := fit_of (by decide) bB'
  obtain ⟨oC1, oC2⟩ := fit_of (by decide) bC'
  obtain ⟨ov1, ov2⟩ := fit_of (by decide) bv'
  have hV := Vk_turn A B M C D
  have hfr := fst_rng (a := A) (b := B) (n := N) hL hLH hHM
  have hnx := fst_next (a := A) (b := B) (n := N) hL hLH hHM (by omega)
  have nb : ¬ badF M L H N := by unfold badF; omega
  have nb' : ¬ badF M L H (N - 1) := by unfold badF; omega
  have hk2 : fst' A B M L H N < N ∧ -1 ≤ fst' A B M L H N := by
    rcases hfr with ⟨h, _⟩ | ⟨h, _⟩ <;> omega
  have hcase : (fE A B M L H N = 8 ∧ fE A (B + A) M L H (N - 1) = 8) ∨ (fE A B M L H N = 0 ∧ fK A B M L H N = 0) ∨ (fE A B M L H N = 0 ∧ 0 < fK A B M L H N ∧ fE A (B + A) M L H (N - 1) = 0 ∧ fK A (B + A) M L H (N - 1) = fK A B M L H N - 1) := by
    unfold fE fK
    rw [if_neg nb, if_neg nb', if_neg nb, if_neg nb']
    rcases Int.lt_trichotomy (fst' A B M L H N) 0 with h | h | h
    · exact .inl ⟨if_pos h, if_pos (hnx.1 h)⟩
    · exact .inr (.inl ⟨if_neg (by omega), by rw [if_neg (by omega)]; exact h⟩)
    · have := hnx.2 h
      refine .inr (.inr ⟨if_neg (by omega), ?_, if_neg (by omega), ?_⟩)
      · rw [if_neg (by omega)]; exact h
      · rw [if_neg (by omega), if_neg (by omega)]; exact this
  have hfk : fK A B M L H N < 9223372036854775808 := by
    unfold fK; rw [if_neg nb]; split <;> omega
  have nw : ¬ badM M H N := by unfold badM; omega
  exact turns_t m0 m1 m2 m3 m4 m5 m6 (by omega) (by omega) (by omega) (by omega) (by omega) (by omega) (by omega) eA eB eM eL eH eC eD (by omega) N2 rfl rfl rfl rfl rfl rfl (fK_congr hV) (fE_congr hV) rfl rfl rfl (lK_congr hV) (lV_congr hV) rfl (wE_good nw) (wK_congr hV) rfl rfl rfl rfl hcase hfk (by omega) oP1 oP2 oQ1 oQ2 oA1 oA2 oB1 oB2 oC1 oC2 ov1 ov2
end Go.Hl

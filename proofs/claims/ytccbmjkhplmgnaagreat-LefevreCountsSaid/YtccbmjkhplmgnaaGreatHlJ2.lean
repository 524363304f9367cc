/- ref15 (seat .Z): Least, Near, Many, Hits -/
import Derived.Test.YtccbmjkhplmgnaaGreatHlJ1
import Derived.Test.YtccbmjkhplmgnaaGreatHlFb
import Derived.Test.YtccbmjkhplmgnaaGreatHlGb
import Derived.Test.YtccbmjkhplmgnaaGreatHlAx
set_option linter.unusedVariables false
set_option linter.unusedSimpArgs false
namespace Go.Hl
open Go Go.RowKit Go.Proofs
set_option maxHeartbeats 8000000
set_option maxRecDepth 100000
@[push_cast] noncomputable def spRLeastX : Sp := spZZZI 0 (fun _ x0 _ x1 _ x2 n => (Lm x0 ∧ x0.length < 390) ∧ (Lm x1 ∧ x1.length < 390) ∧ (Lm x2 ∧ x2.length < 390) ∧ -9223372036854775808 ≤ n ∧ n < 9223372036854775808)
  (fun b0 x0 b1 x1 b2 x2 n => .tup [.raw (.int .i64 (lK (zv b0 x0) (zv b1 x1) (zv b2 x2) n)), zi (lV (zv b0 x0) (zv b1 x1) (zv b2 x2) n), .raw (.int .i64 (lE (zv b2 x2) n))])
theorem rleastX_ok : SpOK Tryz.prog 8 spRLeastX := by
  refine SpOK.ZZZI fun b0 x0 b1 x1 b2 x2 n ⟨⟨h0, h0l⟩, ⟨h1, h1l⟩, ⟨h2, h2l⟩, hn1, hn2⟩ => ?_
  have hE := env (SOK.cons rzsign_ok (SOK.cons rleast_ok (SOK.nil (P := Tryz.prog))))
  obtain ⟨A, eA⟩ : ∃ A, zv b0 x0 = A := ⟨_, rfl⟩
  obtain ⟨B, eB⟩ : ∃ B, zv b1 x1 = B := ⟨_, rfl⟩
  obtain ⟨M, eM⟩ : ∃ M, zv b2 x2 = M := ⟨_, rfl⟩
  rw [eA, eB, eM]
  refine ACall.body hE Tryz.func8 Tryz.ntmps8 Tryz.results8 ?_
  have bad : badL M n → AV.tup [.raw (.int .i64 0), .agg [.raw (.bool false), .ns .u64 []], .raw (.int .i64 1)] = AV.tup [.raw (.int .i64 (lK A B M n)), zi (lV A B M n), .raw (.int .i64 (lE M n))] := fun h => by
    unfold lK lV lE; rw [if_pos h, if_pos h, if_pos h]; unfold zi; rw [show Int.natAbs 0 = 0 from rfl, dg_zero]; rfl
  by_cases c1 : M < 1
  · refine wk hE (And.intro eM (sign_lt1.2 c1)) ?_
    refine PostL.mk trivial ?_
    exact bad (.inl c1)
  have d1 : ¬ M.sign < 1 := fun h => c1 (sign_lt1.1 h)
  by_cases c2 : n < 1
  · refine wk hE (And.intro eM (And.intro d1 c2)) ?_
    refine PostL.mk trivial ?_
    exact bad (.inr c2)
  have nb : ¬ badL M n := by unfold badL; omega
  have h1 : lK A B M n = mK A B M n := if_neg nb
  have h2 : lV A B M n = mV A B M n := if_neg nb
  have h3 : lE M n = 0 := if_neg nb
  rw [h1, h2, h3]
  obtain ⟨k, ek⟩ : ∃ k, mK A B M n = k := ⟨_, rfl⟩
  obtain ⟨v, ev⟩ : ∃ v, mV A B M n = v := ⟨_, rfl⟩
  rw [ek, ev]
  clear bad nb h1 h2 h3
  refine wkR hE trivial ?_
  refine AWp.seqJ (ι := Unit) (fun _ => ⟨[(3, .raw (.int .i64 n)), (4, .ptr 4 0), (5, .ptr 5 0), (6, .ptr 6 0), (9, .ptr 9 0)], [(4, ⟨true, .c [.raw (.bool b0), .ns .u64 x0]⟩), (5, ⟨true, .c [.raw (.bool b1), .ns .u64 x1]⟩), (6, ⟨true, .c [.raw (.bool b2), .ns .u64 x2]⟩), (9, ⟨true, .c [.raw (.bool false), .ns .u64 []]⟩)]⟩) ?_ (fun _ => ?_)
  · refine wk hE (And.intro eM (And.intro d1 c2)) ?_
    exact ⟨(), Le.mk trivial⟩
  refine wkR hE (And.intro eA (And.intro eB (And.intro eM (And.intro ek ev)))) ?_
  refine AWp.seqJ (ι := Unit) (fun _ => ⟨[(8, .raw (.int .i64 k)), (10, .raw (.int .i64 0)), (9, .ptr 9 0)], [(9, ⟨true, .c [.raw (.bool (decide (v < 0))), .ns .u64 (dg v.natAbs)]⟩)]⟩) ?_ (fun _ => ?_)
  · refine AWp.regionA [(12, 12), (9, 9)] [] hE.hT hE.hS hE.hm ?_ (wk hE trivial ?_)
    · intro p i h
      simp only [lk] at h
      split at h
      · rename_i e; cases h; subst e; exact ⟨0, rfl⟩
      split at h
      · rename_i e; cases h; subst e; exact ⟨0, rfl⟩
      · cases h
    exact ⟨(), Le.mk trivial⟩
  refine wk hE trivial ?_
  exact PostL.mk trivial rfl
@[push_cast] noncomputable def spRNear : Sp := spZZZI 0 (fun _ x0 _ x1 _ x2 n => (Lm x0 ∧ x0.length < 390) ∧ (Lm x1 ∧ x1.length < 390) ∧ (Lm x2 ∧ x2.length < 390) ∧ -9223372036854775808 ≤ n ∧ n < 9223372036854775808)
  (fun b0 x0 b1 x1 b2 x2 n => .tup [.raw (.int .i64 (nK (zv b0 x0) (zv b1 x1) (zv b2 x2) n)), zi (nV (zv b0 x0) (zv b1 x1) (zv b2 x2) n), .raw (.int .i64 (lE (zv b2 x2) n))])
theorem rnear_ok : SpOK Tryz.prog 10 spRNear := by
  refine SpOK.ZZZI fun b0 x0 b1 x1 b2 x2 n ⟨⟨h0, h0l⟩, ⟨h1, h1l⟩, ⟨h2, h2l⟩, hn1, hn2⟩ => ?_
  have hE := env (SOK.cons rzsign_ok (SOK.cons rleast_ok (SOK.cons rzneg_ok (SOK.cons rzcmp_ok (SOK.nil (P := Tryz.prog))))))
  have bA := zv_abs_lt (b := b0) h0 (l := 389) (by omega)
  have bB := zv_abs_lt (b := b1) h1 (l := 389) (by omega)
  have bM := zv_abs_lt (b := b2) h2 (l := 389) (by omega)
  obtain ⟨A, eA⟩ : ∃ A, zv b0 x0 = A := ⟨_, rfl⟩
  obtain ⟨B, eB⟩ : ∃ B, zv b1 x1 = B := ⟨_, rfl⟩
  obtain ⟨M, eM⟩ : ∃ M, zv b2 x2 = M := ⟨_, rfl⟩
  rw [eA] at bA
  rw [eB] at bB
  rw [eM] at bM
  rw [eA, eB, eM]
  refine ACall.body hE Tryz.func10 Tryz.ntmps10 Tryz.results10 ?_
  have bad : badL M n → AV.tup [.raw (.int .i64 0), .agg [.raw (.bool false), .ns .u64 []], .raw (.int .i64 1)] = AV.tup [.raw (.int .i64 (nK A B M n)), zi (nV A B M n), .raw (.int .i64 (lE M n))] := fun h => by
    unfold nK nV lE; rw [if_pos h, if_pos h, if_pos h]; unfold zi; rw [show Int.natAbs 0 = 0 from rfl, dg_zero]; rfl
  by_cases c1 : M < 1
  · refine wk hE (And.intro eM (sign_lt1.2 c1)) ?_
    refine PostL.mk trivial ?_
    exact bad (.inl c1)
  have d1 : ¬ M.sign < 1 := fun h => c1 (sign_lt1.1 h)
  by_cases c2 : n < 1
  · refine wk hE (And.intro eM (And.intro d1 c2)) ?_
    refine PostL.mk trivial ?_
    exact bad (.inr c2)
  have nb : ¬ badL M n := by unfold badL; omega
  have h3 : lE M n = 0 := if_neg nb
  have hv1 := mV_bd (a := A) (b := B) (n := n) (m := M) (by omega) (by omega)
  have hv2 := mV_bd (a := -A) (b := -B) (n := n) (m := M) (by omega) (by omega)
  have hk : nK A B M n = _ := if_neg nb
  have hv : nV A B M n = _ := if_neg nb
  rw [hk, hv, h3]
  obtain ⟨na, ena⟩ : ∃ x, -A = x := ⟨_, rfl⟩
  obtain ⟨nb', enb⟩ : ∃ x, -B = x := ⟨_, rfl⟩
  have bA' : (na).natAbs < B64 ^ 389 := by rw [← ena, Int.natAbs_neg]; exact bA
  have bB' : (nb').natAbs < B64 ^ 389 := by rw [← enb, Int.natAbs_neg]; exact bB
  obtain ⟨oa1, _, oa2⟩ := dgl bA' (by omega)
  obtain ⟨ob1, _, ob2⟩ := dgl bB' (by omega)
  rw [ena, enb] at hv2 ⊢
  have fitM : ∀ z : Int, 0 ≤ z → z < M → Lm (dg z.natAbs) ∧ (dg z.natAbs).length < 390 := fun z hz hzM => by
    have : z.natAbs < B64 ^ 389 := by omega
    obtain ⟨f1, _, f2⟩ := dgl this (by omega)
    exact ⟨f1, by omega⟩
  obtain ⟨k, ek⟩ : ∃ k, mK A B M n = k := ⟨_, rfl⟩
  obtain ⟨v, ev⟩ : ∃ v, mV A B M n = v := ⟨_, rfl⟩
  obtain ⟨l, el⟩ : ∃ k, mK na nb' M n = k := ⟨_, rfl⟩
  obtain ⟨w, ew⟩ : ∃ v, mV na nb' M n = v := ⟨_, rfl⟩
  rw [ek, ev, el, ew]
  rw [ev] at hv1
  rw [ew] at hv2
  obtain ⟨ov1, ov2⟩ := fitM v hv1.1 hv1.2
  obtain ⟨ow1, ow2⟩ := fitM w hv2.1 hv2.2
  have hm0 : 0 < M := by omega
  clear bad nb hk hv h3 bA bB bA' bB' bM fitM
  refine wkR hE trivial ?_
  refine AWp.seqJ (ι := Unit) (fun _ => ⟨[(3, .raw (.int .i64 n)), (4, .ptr 4 0), (5, .ptr 5 0), (6, .ptr 6 0), (9, .ptr 9 0)], [(4, ⟨true, .c [.raw (.bool b0), .ns .u64 x0]⟩), (5, ⟨true, .c [.raw (.bool b1), .ns .u64 x1]⟩), (6, ⟨true, .c [.raw (.bool b2), .ns .u64 x2]⟩), (9, ⟨true, .c [.raw (.bool false), .ns .u64 []]⟩)]⟩) ?_ (fun _ => ?_)
  · refine wk hE (And.intro eM (And.intro d1 c2)) ?_
    exact ⟨(), Le.mk trivial⟩
  refine wkR hE (And.intro eA (And.intro eB (And.intro eM (And.intro ek ev)))) ?_
  refine AWp.seqJ (ι := Unit) (fun _ => ⟨[(11, .raw (.int .i64 k)), (13, .raw (.int .i64 l)), (9, .ptr 9 0), (12, .ptr 12 0), (14, .ptr 14 0)], [(9, ⟨true, .c [.raw (.bool false), .ns .u64 []]⟩), (12, ⟨true, .c [.raw (.bool (decide (v < 0))), .ns .u64 (dg v.natAbs)]⟩), (14, ⟨true, .c [.raw (.bool (decide (w < 0))), .ns .u64 (dg w.natAbs)]⟩)]⟩) ?_ (fun _ => ?_)
  · refine AWp.regionA [(4, 4), (5, 5), (6, 6)] [(14, 10)] hE.hT hE.hS hE.hm ?_ (wk hE (And.intro eA (And.intro eB (And.intro eM (And.intro ena (And.intro enb (And.intro el ew)))))) ?_)
    · intro p i h
      simp only [lk] at h
      split at h
      · rename_i e; cases h; subst e; exact ⟨0, rfl⟩
      split at h
      · rename_i e; cases h; subst e; exact ⟨0, rfl⟩
      split at h
      · rename_i e; cases h; subst e; exact ⟨0, rfl⟩
      · cases h
    exact ⟨(), Le.mk trivial⟩
  refine wkR hE trivial ?_
  by_cases hc : w < v
  · rw [if_neg (show ¬ v < w by omega), if_pos hc, if_pos hc]
    have hc1 := cmp_gt0.2 hc
    refine AWp.seq ?_
    refine wkR hE hc1 ?_
    refine AWp.condT rfl ?_
    refine AWp.seqJ (ι := Unit) (fun _ => ⟨[(8, .raw (.int .i64 l)), (10, .raw (.int .i64 0)), (9, .ptr 9 0)], [(9, ⟨true, .c [.raw (.bool (decide (w < 0))), .ns .u64 (dg w.natAbs)]⟩)]⟩) ?_ (fun _ => ?_)
    · refine AWp.regionA [(14, 14), (9, 9)] [] hE.hT hE.hS hE.hm ?_ (wk hE trivial ?_)
      · intro p i h
        simp only [lk] at h
        split at h
        · rename_i e; cases h; subst e; exact ⟨0, rfl⟩
        split at h
        · rename_i e; cases h; subst e; exact ⟨0, rfl⟩
        · cases h
      exact ⟨(), Le.mk trivial⟩
    refine wk hE trivial ?_
    exact PostL.mk trivial rfl
  by_cases hc' : v < w
  · rw [if_pos hc', if_neg hc]
    have hc1 : ¬ 0 < cmpZ v w := fun h => hc (cmp_gt0.1 h)
    have hc2 : (cmpZ v w == 0) = false := by rw [beq_eq_false_iff_ne]; unfold cmpZ; rw [if_pos hc']; decide
    refine AWp.seqJ (ι := Unit) (fun _ => ⟨[(11, .raw (.int .i64 k)), (13, .raw (.int .i64 l)), (15, .raw (.int .i64 (cmpZ v w))), (9, .ptr 9 0), (12, .ptr 12 0), (14, .ptr 14 0)], [(9, ⟨true, .c [.raw (.bool false), .ns .u64 []]⟩), (12, ⟨true, .c [.raw (.bool (decide (v < 0))), .ns .u64 (dg v.natAbs)]⟩), (14, ⟨true, .c [.raw (.bool (decide (w < 0))), .ns .u64 (dg w.natAbs)]⟩)]⟩) ?_ (fun _ => ?_)
    · refine wk hE (And.intro hc1 hc2) ?_
      exact ⟨(), Le.mk trivial⟩
    refine AWp.seqJ (ι := Unit) (fun _ => ⟨[(8, .raw (.int .i64 k)), (10, .raw (.int .i64 0)), (9, .ptr 9 0)], [(9, ⟨true, .c [.raw (.bool (decide (v < 0))), .ns .u64 (dg v.natAbs)]⟩)]⟩) ?_ (fun _ => ?_)
    · refine AWp.regionA [(12, 12), (9, 9)] [] hE.hT hE.hS hE.hm ?_ (wk hE trivial ?_)
      · intro p i h
        simp only [lk] at h
        split at h
        · rename_i e; cases h; subst e; exact ⟨0, rfl⟩
        split at h
        · rename_i e; cases h; subst e; exact ⟨0, rfl⟩
        · cases h
      exact ⟨(), Le.mk trivial⟩
    refine wk hE trivial ?_
    exact PostL.mk trivial rfl
  obtain rfl : v = w := by omega
  rw [if_neg hc, if_neg hc, if_neg hc]
  have hc1 : ¬ 0 < cmpZ v v := fun h => hc (cmp_gt0.1 h)
  have hc2 : (cmpZ v v == 0) = true := by unfold cmpZ; rw [if_neg hc, if_neg hc]; rfl
  by_cases hkl : l < k
  · rw [if_pos hkl]
    refine AWp.seq ?_
    refine wkR hE (And.intro hc1 (And.intro hc2 hkl)) ?_
    refine AWp.condT rfl ?_
    refine AWp.seqJ (ι := Unit) (fun _ => ⟨[(8, .raw (.int .i64 l)), (10, .raw (.int .i64 0)), (9, .ptr 9 0)], [(9, ⟨true, .c [.raw (.bool (decide (v < 0))), .ns .u64 (dg v.natAbs)]⟩)]⟩) ?_ (fun _ => ?_)
    · refine AWp.regionA [(14, 14), (9, 9)] [] hE.hT hE.hS hE.hm ?_ (wk hE trivial ?_)
      · intro p i h
        simp only [lk] at h
        split at h
        · rename_i e; cases h; subst e; exact ⟨0, rfl⟩
        split at h
        · rename_i e; cases h; subst e; exact ⟨0, rfl⟩
        · cases h
      exact ⟨(), Le.mk trivial⟩
    refine wk hE trivial ?_
    exact PostL.mk trivial rfl
  · rw [if_neg hkl]
    refine AWp.seqJ (ι := Unit) (fun _ => ⟨[(11, .raw (.int .i64 k)), (13, .raw (.int .i64 l)), (15, .raw (.int .i64 (cmpZ v v))), (9, .ptr 9 0), (12, .ptr 12 0), (14, .ptr 14 0)], [(9, ⟨true, .c [.raw (.bool false), .ns .u64 []]⟩), (12, ⟨true, .c [.raw (.bool (decide (v < 0))), .ns .u64 (dg v.natAbs)]⟩), (14, ⟨true, .c [.raw (.bool (decide (v < 0))), .ns .u64 (dg v.natAbs)]⟩)]⟩) ?_ (fun _ => ?_)
    · refine wk hE (And.intro hc1 (And.intro hc2 hkl)) ?_
      exact ⟨(), Le.mk trivial⟩
    refine AWp.seqJ (ι := Unit) (fun _ => ⟨[(8, .raw (.int .i64 k)), (10, .raw (.int .i64 0)), (9, .ptr 9 0)], [(9, ⟨true, .c [.raw (.bool (decide (v < 0))), .ns .u64 (dg v.natAbs)]⟩)]⟩) ?_ (fun _ => ?_)
    · refine AWp.regionA [(12, 12), (9, 9)] [] hE.hT hE.hS hE.hm ?_ (wk hE trivial ?_)
      · intro p i h
        simp only [lk] at h
        split at h
        · rename_i e; cases h; subst e; exact ⟨0, rfl⟩
        split at h
        · rename_i e; cases h; subst e; exact ⟨0, rfl⟩
        · cases h
      exact ⟨(), Le.mk trivial⟩
    refine wk hE trivial ?_
    exact PostL.mk trivial rfl
@[push_cast] noncomputable def spRMany : Sp := spZZZZI 0 (fun _ x0 _ x1 _ x2 _ x3 n => (Lm x0 ∧ x0.length < 390) ∧ (Lm x1 ∧ x1.length < 390) ∧ (Lm x2 ∧ x2.length < 390) ∧ (Lm x3 ∧ x3.length < 390) ∧ -9223372036854775808 ≤ n ∧ n < 9223372036854775808)
  (fun b0 x0 b1 x1 b2 x2 b3 x3 n => .tup [.raw (.int .i64 (wK (zv b0 x0) (zv b1 x1) (zv b2 x2) (zv b3 x3) n)), .raw (.int .i64 (wE (zv b2 x2) (zv b3 x3) n))])
theorem rmany_ok : SpOK Tryz.prog 14 spRMany := by
  refine SpOK.ZZZZI fun b0 x0 b1 x1 b2 x2 b3 x3 n ⟨⟨h0, h0l⟩, ⟨h1, h1l⟩, ⟨h2, h2l⟩, ⟨h3, h3l⟩, hn1, hn2⟩ => ?_
  have hE := env (SOK.cons rzsign_ok (SOK.cons rzcmp_ok (SOK.cons rbelow_ok (SOK.nil (P := Tryz.prog)))))
  obtain ⟨A, eA⟩ : ∃ A, zv b0 x0 = A := ⟨_, rfl⟩
  obtain ⟨B, eB⟩ : ∃ B, zv b1 x1 = B := ⟨_, rfl⟩
  obtain ⟨M, eM⟩ : ∃ M, zv b2 x2 = M := ⟨_, rfl⟩
  obtain ⟨W, eW⟩ : ∃ W, zv b3 x3 = W := ⟨_, rfl⟩
  rw [eA, eB, eM, eW]
  refine ACall.body hE Tryz.func14 Tryz.ntmps14 Tryz.results14 ?_
  have bad : badM M W n → AV.tup [.raw (.int .i64 0), .raw (.int .i64 1)] = AV.tup [.raw (.int .i64 (wK A B M W n)), .raw (.int .i64 (wE M W n))] := fun h => by
    unfold wK wE; rw [if_pos h, if_pos h]
  by_cases c1 : M < 1
  · refine wk hE (And.intro eM (sign_lt1.2 c1)) ?_
    refine PostL.mk trivial ?_
    exact bad (.inl c1)
  have d1 : ¬ M.sign < 1 := fun h => c1 (sign_lt1.1 h)
  by_cases c2 : W < 0
  · refine wk hE (And.intro eM (And.intro eW (And.intro d1 (sign_lt0.2 c2)))) ?_
    refine PostL.mk trivial ?_
    exact bad (.inr (.inl c2))
  have d2 : ¬ W.sign < 0 := fun h => c2 (sign_lt0.1 h)
  by_cases c3 : M < W
  · refine wk hE (And.intro eM (And.intro eW (And.intro d1 (And.intro d2 (cmp_gt0.2 c3))))) ?_
    refine PostL.mk trivial ?_
    exact bad (.inr (.inr (.inl c3)))
  have d3 : ¬ 0 < cmpZ W M := fun h => c3 (cmp_gt0.1 h)
  by_cases c4 : n < 0
  · refine wk hE (And.intro eM (And.intro eW (And.intro d1 (And.intro d2 (And.intro d3 c4))))) ?_
    refine PostL.mk trivial ?_
    exact bad (.inr (.inr (.inr c4)))
  have nb : ¬ badM M W n := by unfold badM; omega
  have e1 : wK A B M W n = cI A B M W n := if_neg nb
  have e2 : wE M W n = 0 := if_neg nb
  rw [e1, e2]
  obtain ⟨K, eK⟩ : ∃ K, cI A B M W n = K := ⟨_, rfl⟩
  rw [eK]
  clear bad nb e1 e2
  refine wk hE (And.intro eA (And.intro eB (And.intro eM (And.intro eW (And.intro d1 (And.intro d2 (And.intro d3 (And.intro c4 eK)))))))) ?_
  exact PostL.mk trivial rfl
end Go.Hl

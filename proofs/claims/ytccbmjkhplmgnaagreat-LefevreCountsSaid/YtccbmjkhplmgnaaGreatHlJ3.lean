/- ref15 (seat .Z): Hits -/
import Derived.Test.YtccbmjkhplmgnaaGreatHlJ1
import Derived.Test.YtccbmjkhplmgnaaGreatHlGb
import Derived.Test.YtccbmjkhplmgnaaGreatHlAx
set_option linter.unusedVariables false
set_option linter.unusedSimpArgs false
namespace Go.Hl
open Go Go.RowKit Go.Proofs
set_option maxHeartbeats 8000000
set_option maxRecDepth 100000
@[push_cast] noncomputable def spRHits : Sp := spZZZZII 0 (fun _ x0 _ x1 _ x2 _ x3 n most => (Lm x0 ∧ x0.length < 390) ∧ (Lm x1 ∧ x1.length < 390) ∧ (Lm x2 ∧ x2.length < 390) ∧ (Lm x3 ∧ x3.length < 390) ∧ -9223372036854775808 ≤ n ∧ n < 9223372036854775808 ∧ -9223372036854775808 ≤ most ∧ most < 1000000)
  (fun b0 x0 b1 x1 b2 x2 b3 x3 n most => .tup [.ns .i64 (hT (zv b0 x0) (zv b1 x1) (zv b2 x2) (zv b3 x3) n most), .raw (.bool (hM (zv b0 x0) (zv b1 x1) (zv b2 x2) (zv b3 x3) n most)), .raw (.int .i64 (hE (zv b2 x2) (zv b3 x3) n most))])
theorem rhits_ok : SpOK Tryz.prog 16 spRHits := by
  refine SpOK.ZZZZII fun b0 x0 b1 x1 b2 x2 b3 x3 n most ⟨⟨h0, h0l⟩, ⟨h1, h1l⟩, ⟨h2, h2l⟩, ⟨h3, h3l⟩, hn1, hn2, hm1, hm2⟩ => ?_
  have hEv := env (SOK.cons rzsign_ok (SOK.cons rzcmp_ok (SOK.cons rzof_ok (SOK.cons rzsub_ok (SOK.cons rv_ok (SOK.cons rfirst_ok (SOK.nil (P := Tryz.prog))))))))
  have bM := zv_abs_lt (b := b2) h2 (l := 389) (by omega)
  obtain ⟨A, eA⟩ : ∃ A, zv b0 x0 = A := ⟨_, rfl⟩
  obtain ⟨B, eB⟩ : ∃ B, zv b1 x1 = B := ⟨_, rfl⟩
  obtain ⟨M, eM⟩ : ∃ M, zv b2 x2 = M := ⟨_, rfl⟩
  obtain ⟨W, eW⟩ : ∃ W, zv b3 x3 = W := ⟨_, rfl⟩
  rw [eM] at bM
  rw [eA, eB, eM, eW]
  refine ACall.body hEv Tryz.func16 Tryz.ntmps16 Tryz.results16 ?_
  have bad : badH M W n most → AV.tup [.ns .i64 [], .raw (.bool false), .raw (.int .i64 1)] = AV.tup [.ns .i64 (hT A B M W n most), .raw (.bool (hM A B M W n most)), .raw (.int .i64 (hE M W n most))] := fun h => by
    unfold hT hM hE; rw [if_pos h, if_pos h, if_pos h]
  by_cases c1 : M < 1
  · refine wk hEv (And.intro eM (And.intro eW (sign_lt1.2 c1))) ?_
    refine PostL.mk trivial ?_
    exact bad (.inl c1)
  have d1 : ¬ M.sign < 1 := fun h => c1 (sign_lt1.1 h)
  by_cases c2 : W < 0
  · refine wk hEv (And.intro eM (And.intro eW (And.intro d1 (sign_lt0.2 c2)))) ?_
    refine PostL.mk trivial ?_
    exact bad (.inr (.inl c2))
  have d2 : ¬ W.sign < 0 := fun h => c2 (sign_lt0.1 h)
  by_cases c3 : M < W
  · refine wk hEv (And.intro eM (And.intro eW (And.intro d1 (And.intro d2 (cmp_gt0.2 c3))))) ?_
    refine PostL.mk trivial ?_
    exact bad (.inr (.inr (.inl c3)))
  have d3 : ¬ 0 < cmpZ W M := fun h => c3 (cmp_gt0.1 h)
  by_cases c4 : n < 0
  · refine wk hEv (And.intro eM (And.intro eW (And.intro d1 (And.intro d2 (And.intro d3 (c4)))))) ?_
    refine PostL.mk trivial ?_
    exact bad (.inr (.inr (.inr (.inl c4))))
  by_cases c5 : most < 0
  · refine wk hEv (And.intro eM (And.intro eW (And.intro d1 (And.intro d2 (And.intro d3 (And.intro c4 (c5))))))) ?_
    refine PostL.mk trivial ?_
    exact bad (.inr (.inr (.inr (.inr c5))))
  have nb : ¬ badH M W n most := by unfold badH; omega
  clear bad
  have hM0 : 0 < M := by omega
  refine wkR hEv trivial ?_
  refine AWp.seqJ (ι := Unit) (fun _ => ⟨[(4, .raw (.int .i64 n)), (5, .raw (.int .i64 most)), (6, .ptr 6 0), (7, .ptr 7 0), (8, .ptr 8 0), (9, .ptr 9 0)], [(6, ⟨true, .c [.raw (.bool b0), .ns .u64 x0]⟩), (7, ⟨true, .c [.raw (.bool b1), .ns .u64 x1]⟩), (8, ⟨true, .c [.raw (.bool b2), .ns .u64 x2]⟩), (9, ⟨true, .c [.raw (.bool b3), .ns .u64 x3]⟩)]⟩) ?_ (fun _ => ?_)
  · refine wk hEv (And.intro eM (And.intro eW (And.intro d1 (And.intro d2 (And.intro d3 (And.intro c4 c5)))))) ?_
    exact ⟨(), Le.mk trivial⟩
  refine wkR hEv trivial ?_
  by_cases c6 : W = 0
  · have hz : hl A B M W n.toNat 0 = [] := hl_none fun j _ _ h => by
      have : 0 ≤ Vk A B M (0 + j) := (mod_rng _ hM0).1
      omega
    obtain ⟨r1, r2, r3⟩ := hits_all (a := A) (b := B) nb (L := []) (by simp; omega) hz
    rw [r1, r2, r3]
    have hs : (W.sign == 0) = true := by rw [c6]; rfl
    refine wk hEv (And.intro eW hs) ?_
    exact PostL.mk trivial rfl
  have hs : (W.sign == 0) = false := by rw [beq_eq_false_iff_ne]; intro h; exact c6 (Int.sign_eq_zero_iff_zero.1 h)
  obtain ⟨W1, eW1⟩ : ∃ W1, W - 1 = W1 := ⟨_, rfl⟩
  have fitM : ∀ z : Int, 0 ≤ z → z < M → Lm (dg z.natAbs) ∧ (dg z.natAbs).length < 390 := fun z hz hzM => by
    have : z.natAbs < B64 ^ 389 := by omega
    obtain ⟨f1, _, f2⟩ := dgl this (by omega)
    exact ⟨f1, by omega⟩
  obtain ⟨ow1, ow2⟩ := fitM W1 (by omega) (by omega)
  obtain ⟨oc1, oc1'⟩ := fit_of (z := 1) (k := 1) (by decide) (by decide)
  have hone : zv false (dg (Int.natAbs 1)) = 1 := zv_zi 1
  have hz0 : zv false [] = 0 := rfl
  have lm0 : Lm [] := ⟨Lim.nil, by simp⟩
  refine AWp.mv 15 41 78 trivial ?_
  refine AWp.seqJ (ι := Unit) (fun _ => ⟨[(4, .raw (.int .i64 n)), (5, .raw (.int .i64 most)), (15, .os 78 1 0 0), (6, .ptr 6 0), (7, .ptr 7 0), (8, .ptr 8 0), (9, .ptr 9 0)], [(6, ⟨true, .c [.raw (.bool b0), .ns .u64 x0]⟩), (7, ⟨true, .c [.raw (.bool b1), .ns .u64 x1]⟩), (8, ⟨true, .c [.raw (.bool b2), .ns .u64 x2]⟩), (9, ⟨true, .c [.raw (.bool b3), .ns .u64 x3]⟩), (78, ⟨true, .n .i64 []⟩)]⟩) ?_ (fun _ => ?_)
  · refine wk hEv (And.intro eW hs) ?_
    exact ⟨(), Le.mk trivial⟩
  refine AWp.seqJ (ι := Unit) (fun _ => ⟨[(4, .raw (.int .i64 n)), (5, .raw (.int .i64 most)), (15, .os 78 1 0 0), (6, .ptr 6 0), (7, .ptr 7 0), (8, .ptr 8 0), (16, .ptr 16 0)], [(6, ⟨true, .c [.raw (.bool b0), .ns .u64 x0]⟩), (7, ⟨true, .c [.raw (.bool b1), .ns .u64 x1]⟩), (8, ⟨true, .c [.raw (.bool b2), .ns .u64 x2]⟩), (16, ⟨true, .c [.raw (.bool (decide (W1 < 0))), .ns .u64 (dg W1.natAbs)]⟩), (78, ⟨true, .n .i64 []⟩)]⟩) ?_ (fun _ => ?_)
  · refine AWp.regionA [(9, 9)] [(16, 3)] hEv.hT hEv.hS hEv.hm ?_ (wk hEv (And.intro eW (And.intro hone eW1)) ?_)
    · intro p i h
      simp only [lk] at h
      split at h
      · rename_i e; cases h; subst e; exact ⟨0, rfl⟩
      · cases h
    exact ⟨(), Le.mk trivial⟩
  refine wk hEv trivial ?_
  refine AWp.loop (ι := {p : Int × List Int // HInv A B M W n most p.1 p.2}) (fun p => ⟨[(4, .raw (.int .i64 n)), (5, .raw (.int .i64 most)), (15, .os 78 1 0 p.1.2.length), (17, .raw (.int .i64 p.1.1)), (6, .ptr 6 0), (7, .ptr 7 0), (8, .ptr 8 0), (16, .ptr 16 0)], [(6, ⟨true, .c [.raw (.bool b0), .ns .u64 x0]⟩), (7, ⟨true, .c [.raw (.bool b1), .ns .u64 x1]⟩), (8, ⟨true, .c [.raw (.bool b2), .ns .u64 x2]⟩), (16, ⟨true, .c [.raw (.bool (decide (W1 < 0))), .ns .u64 (dg W1.natAbs)]⟩), (78, ⟨true, .n .i64 p.1.2⟩)]⟩) (fun p => (n - p.1.1).toNat) ⟨(0, []), HInv.start (by omega) (by omega)⟩ (Le.mk trivial) ?_
  rintro ⟨⟨f, L⟩, hI⟩
  dsimp only at hI ⊢
  have hr := hI.rng
  have hle := hI.len
  refine wk hEv trivial ?_
  refine AWp.test trivial (fun hk => ?_) (fun hk => ?_)
  rotate_left
  · have hk := of_decide_eq_false hk
    obtain ⟨r1, r2, r3⟩ := hits_all nb hle (hI.end_ hk)
    rw [r1, r2, r3]
    refine wk hEv trivial ?_
    exact PostL.mk trivial rfl
  have hk := of_decide_eq_true hk
  have hV := mod_rng (A * f + B) hM0
  have hcs := HInv.cases (a := A) (b := B) hM0 hI rfl (fst_rng (by omega) (by omega) (by omega))
  obtain ⟨V, eV⟩ : ∃ V, Vk A B M f = V := ⟨_, rfl⟩
  have hV : 0 ≤ V ∧ V < M := by rw [← eV]; exact hV
  rw [eV, eW1] at hcs
  obtain ⟨d, ed⟩ : ∃ d, n - f = d := ⟨_, rfl⟩
  rw [ed] at hcs
  obtain ⟨k, ek⟩ : ∃ k, fst' A V M 0 W1 d = k := ⟨_, rfl⟩
  rw [ek] at hcs
  obtain ⟨ov1, ov2⟩ := fitM V hV.1 hV.2
  clear bM
  refine AWp.skip ?_
  change AWp _ _ _ (.block 1 _) _ _
  refine AWp.block ?_
  refine AWp.seqJ (ι := Unit) (fun _ => ⟨[(4, .raw (.int .i64 n)), (5, .raw (.int .i64 most)), (15, .os 78 1 0 L.length), (17, .raw (.int .i64 f)), (18, .raw (.int .i64 k)), (6, .ptr 6 0), (7, .ptr 7 0), (8, .ptr 8 0), (16, .ptr 16 0)], [(6, ⟨true, .c [.raw (.bool b0), .ns .u64 x0]⟩), (7, ⟨true, .c [.raw (.bool b1), .ns .u64 x1]⟩), (8, ⟨true, .c [.raw (.bool b2), .ns .u64 x2]⟩), (16, ⟨true, .c [.raw (.bool (decide (W1 < 0))), .ns .u64 (dg W1.natAbs)]⟩), (78, ⟨true, .n .i64 L⟩)]⟩) ?_ (fun _ => ?_)
  · refine AWp.regionA [(6, 6), (7, 7), (8, 8), (16, 16)] [] hEv.hT hEv.hS hEv.hm ?_ (wk hEv (And.intro eA (And.intro eB (And.intro eM (And.intro eV (And.intro hz0 (And.intro ed ek)))))) ?_)
    · intro p i h
      simp only [lk] at h
      split at h
      · rename_i e; cases h; subst e; exact ⟨0, rfl⟩
      split at h
      · rename_i e; cases h; subst e; exact ⟨0, rfl⟩
      split at h
      · rename_i e; cases h; subst e; exact ⟨0, rfl⟩
      split at h
      · rename_i e; cases h; subst e; exact ⟨0, rfl⟩
      · cases h
    exact ⟨(), Le.mk trivial⟩
  by_cases c7 : k < 0
  · obtain ⟨r1, r2, r3⟩ := hits_all nb hle (hcs.1 c7)
    rw [r1, r2, r3]
    refine wk hEv c7 ?_
    exact PostL.mk trivial rfl
  obtain ⟨hkr, hall⟩ := hcs.2 c7
  by_cases c8 : (L.length : Int) = most
  · obtain ⟨r1, r2, r3⟩ := hits_more nb c8 hall
    rw [r1, r2, r3]
    have hq : ((L.length : Int) == most) = true := beq_iff_eq.2 c8
    refine wk hEv (And.intro c7 hq) ?_
    exact PostL.mk trivial rfl
  have hq : ((L.length : Int) == most) = false := beq_eq_false_iff_ne.2 c8
  have hnx := hI.next (by omega) c8 hall
  obtain ⟨s, es⟩ : ∃ s, f + k = s := ⟨_, rfl⟩
  rw [es] at hnx
  have hlen : (L ++ [s]).length = L.length + 1 := by simp
  have hl6 : L.length < 1000000 := by omega
  clear hall hcs
  refine wk hEv (And.intro c7 (And.intro hq es)) ?_
  exact ⟨⟨(s + 1, L ++ [s]), hnx⟩, Le.mk hlen, by dsimp only; omega⟩
end Go.Hl

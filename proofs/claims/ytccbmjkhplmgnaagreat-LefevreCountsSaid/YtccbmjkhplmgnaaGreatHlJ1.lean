/- ref15 (seat .Z): Least, Near, Many -/
import Derived.Test.YtccbmjkhplmgnaaGreatHlK
import Derived.Test.YtccbmjkhplmgnaaGreatHlFc
set_option linter.unusedVariables false
set_option linter.unusedSimpArgs false
namespace Go.Hl
open Go Go.RowKit Go.Proofs
set_option maxHeartbeats 8000000
set_option maxRecDepth 100000
@[push_cast] noncomputable def spRLeast : Sp := spZZZI 0 (fun _ x0 _ x1 b2 x2 n => (Lm x0 ∧ x0.length < 390) ∧ (Lm x1 ∧ x1.length < 390) ∧ (Lm x2 ∧ x2.length < 390) ∧ 0 < zv b2 x2 ∧ 1 ≤ n ∧ n < 9223372036854775808)
  (fun b0 x0 b1 x1 b2 x2 n => .tup [.raw (.int .i64 (mK (zv b0 x0) (zv b1 x1) (zv b2 x2) n)), zi (mV (zv b0 x0) (zv b1 x1) (zv b2 x2) n)])
theorem rleast_ok : SpOK Tryz.prog 25 spRLeast := by
  refine SpOK.ZZZI fun b0 x0 b1 x1 b2 x2 n ⟨⟨h0, h0l⟩, ⟨h1, h1l⟩, ⟨h2, h2l⟩, hm, hn1, hn2⟩ => ?_
  have hE := env (SOK.cons rzof_ok (SOK.cons rzsub_ok (SOK.cons rzcmp_ok (SOK.cons rzadd_ok (SOK.cons rzshr_ok (SOK.cons rbelow_ok (SOK.cons rfirst_ok (SOK.nil (P := Tryz.prog)))))))))
  have bM := zv_abs_lt (b := b2) h2 (l := 390) (by omega)
  obtain ⟨A, eA⟩ : ∃ A, zv b0 x0 = A := ⟨_, rfl⟩
  obtain ⟨B, eB⟩ : ∃ B, zv b1 x1 = B := ⟨_, rfl⟩
  obtain ⟨M, eM⟩ : ∃ M, zv b2 x2 = M := ⟨_, rfl⟩
  rw [eM] at bM hm
  have fitM : ∀ z : Int, 0 ≤ z → z ≤ 2 * M → Lm (dg z.natAbs) ∧ (dg z.natAbs).length < 400 := fun z hz hzM => by
    have h1 := powA bM bM
    have : z.natAbs < B64 ^ (390 + 1) := by omega
    obtain ⟨f1, _, f2⟩ := dgl this (by omega)
    exact ⟨f1, by omega⟩
  rw [eA, eB, eM]
  refine ACall.body hE Tryz.func25 Tryz.ntmps25 Tryz.results25 ?_
  have hs := RInv2.start (a := A) (b := B) (n := n) hm hn1
  have hone : zv false (dg (Int.natAbs 1)) = 1 := zv_zi 1
  obtain ⟨c1, c1'⟩ := fit_of (z := 1) (k := 1) (by decide) (by decide)
  obtain ⟨v0, ev0⟩ : ∃ v, M - 1 = v := ⟨_, rfl⟩
  rw [ev0] at hs
  obtain ⟨ov1, ov2⟩ := fitM v0 (by have := hs.rng; omega) (by omega)
  refine wk hE (And.intro eM (And.intro hone ev0)) ?_
  obtain ⟨Z, eZ⟩ : ∃ Z, mV A B M n = Z := ⟨_, rfl⟩
  have rZ := mV_bd (a := A) (b := B) (m := M) (n := n) hm hn1
  rw [eZ] at rZ
  refine AWp.joinB (ι := Unit) (fun _ => ⟨[(3, .raw (.int .i64 n)), (4, .ptr 4 0), (5, .ptr 5 0), (6, .ptr 6 0), (9, .ptr 9 0), (11, .ptr 11 0)], [(4, ⟨true, .c [.raw (.bool b0), .ns .u64 x0]⟩), (5, ⟨true, .c [.raw (.bool b1), .ns .u64 x1]⟩), (6, ⟨true, .c [.raw (.bool b2), .ns .u64 x2]⟩), (9, ⟨true, .c [.raw (.bool false), .ns .u64 []]⟩), (11, ⟨true, .c [.raw (.bool (decide (Z < 0))), .ns .u64 (dg Z.natAbs)]⟩)]⟩) ?_ (fun _ => ?_)
  · refine AWp.loop (ι := {p : Int × Int // RInv2 A B M n p.1 p.2}) (fun p => ⟨[(3, .raw (.int .i64 n)), (4, .ptr 4 0), (5, .ptr 5 0), (6, .ptr 6 0), (8, .raw (.int .i64 0)), (9, .ptr 9 0), (10, .ptr 10 0), (11, .ptr 11 0), (12, .ptr 12 0)], [(4, ⟨true, .c [.raw (.bool b0), .ns .u64 x0]⟩), (5, ⟨true, .c [.raw (.bool b1), .ns .u64 x1]⟩), (6, ⟨true, .c [.raw (.bool b2), .ns .u64 x2]⟩), (9, ⟨true, .c [.raw (.bool false), .ns .u64 []]⟩), (10, ⟨true, .c [.raw (.bool false), .ns .u64 (dg (Int.natAbs 1))]⟩), (11, ⟨true, .c [.raw (.bool (decide (p.1.1 < 0))), .ns .u64 (dg p.1.1.natAbs)]⟩), (12, ⟨true, .c [.raw (.bool (decide (p.1.2 < 0))), .ns .u64 (dg p.1.2.natAbs)]⟩)]⟩)
      (fun p => (p.1.2 - p.1.1).toNat) ⟨(0, v0), hs⟩ (Le.mk (And.intro (show dg (Int.natAbs 0) = [] from dg_zero) (show decide ((0 : Int) < 0) = false from rfl))) ?_
    rintro ⟨⟨lo, hi⟩, hI⟩
    dsimp only at hI ⊢
    clear hs ov1 ov2
    have hr := hI.rng
    obtain ⟨ol1, ol2⟩ := fitM lo (by omega) (by omega)
    obtain ⟨oh1, oh2⟩ := fitM hi (by omega) (by omega)
    by_cases hlt : lo < hi
    · have hsm : lo ≤ (lo + hi) / 2 ∧ (lo + hi) / 2 < hi := by omega
      obtain ⟨S, eS⟩ : ∃ S, lo + hi = S := ⟨_, rfl⟩
      rw [eS] at hsm
      obtain ⟨mid, em⟩ : ∃ m, S / 2 ^ sh 1 = m := ⟨_, rfl⟩
      have em' : S / 2 = mid := em
      rw [em'] at hsm
      obtain ⟨m1, em1⟩ : ∃ m, mid + 1 = m := ⟨_, rfl⟩
      obtain ⟨oS1, oS2⟩ := fitM S (by omega) (by omega)
      obtain ⟨om1, om2⟩ := fitM mid (by omega) (by omega)
      obtain ⟨on1, on2⟩ := fitM m1 (by omega) (by omega)
      have hcr := cI_rng (a := A) (b := B) (m := M) (w := m1) (n := n) (by omega)
      obtain ⟨K, eK⟩ : ∃ K, cI A B M m1 n = K := ⟨_, rfl⟩
      rw [eK] at hcr
      clear fitM bM
      by_cases hK : 0 < K
      · have hnx := hI.down hsm.1 hsm.2 (by omega) (by rw [em1, eK]; omega)
        refine wk hE (And.intro (cmp_lt0.2 hlt) (And.intro eA (And.intro eB (And.intro eM (And.intro hone (And.intro eS (And.intro em (And.intro em1 (And.intro eK hK))))))))) ?_
        exact ⟨⟨(lo, mid), hnx⟩, Le.mk trivial, by dsimp only; omega⟩
      · have hnx := hI.up hsm.1 hsm.2 (by omega) (by rw [em1, eK]; omega)
        rw [em1] at hnx
        refine wk hE (And.intro (cmp_lt0.2 hlt) (And.intro eA (And.intro eB (And.intro eM (And.intro hone (And.intro eS (And.intro em (And.intro em1 (And.intro eK hK))))))))) ?_
        exact ⟨⟨(m1, hi), hnx⟩, Le.mk trivial, by dsimp only; omega⟩
    · have he : lo = hi := by omega
      subst he
      have hd := hI.done
      have hcm : ¬ cmpZ lo lo < 0 := fun h => by have := cmp_lt0.1 h; omega
      obtain rfl : lo = Z := by rw [← hd, eZ]
      refine wk hE hcm ?_
      exact ⟨(), Le.mk trivial⟩
  obtain ⟨oZ1, oZ2⟩ := fitM Z (by omega) (by omega)
  have hk : mK A B M n = fst' A B M Z Z n := by unfold mK; rw [eZ]
  obtain ⟨k, ek⟩ : ∃ k, fst' A B M Z Z n = k := ⟨_, rfl⟩
  rw [hk, ek, eZ]
  clear hk fitM bM hs ov1 ov2
  refine AWp.seqJ (ι := Unit) (fun _ => ⟨[(8, .raw (.int .i64 k)), (9, .ptr 9 0)], [(9, ⟨true, .c [.raw (.bool (decide (Z < 0))), .ns .u64 (dg Z.natAbs)]⟩)]⟩) ?_ (fun _ => ?_)
  · refine AWp.regionA [(4, 4), (5, 5), (6, 6), (11, 11), (9, 9)] [] hE.hT hE.hS hE.hm ?_ (wk hE (And.intro eA (And.intro eB (And.intro eM ek))) ?_)
    · intro p i h
      simp only [lk] at h
      split at h
      · rename_i e; cases h; subst e; exact ⟨0, rfl⟩
      split at h
      · rename_i e; cases h; subst e; exact ⟨0, rfl⟩
      split at h
      · rename_i e; cases h; subst e; exact ⟨0, rfl⟩
      split at h
      · rename_i e; cases h; subst e; exact ⟨0, rfl⟩
      split at h
      · rename_i e; cases h; subst e; exact ⟨0, rfl⟩
      · cases h
    exact ⟨(), Le.mk trivial⟩
  refine wk hE trivial ?_
  exact PostL.mk trivial rfl
end Go.Hl

/- LefevreSides -/
import Derived.Test.YtccbmjkhplmgnaaHlW
set_option linter.unusedVariables false
set_option linter.unusedSimpArgs false
namespace Go.Hl
open Go Go.RowKit Go.Proofs
set_option maxHeartbeats 8000000
theorem near_cases {a b m n : Int} (hm : 0 < m) (hn : 1 ≤ n) :
    (nK a b m n = mK a b m n ∨ nK a b m n = mK (-a) (-b) m n) ∧ (mV a b m n ≤ mV (-a) (-b) m n → nV a b m n = mV a b m n) ∧ (mV (-a) (-b) m n ≤ mV a b m n → nV a b m n = mV (-a) (-b) m n) := by
  have hb : ¬ badL m n := by unfold badL; omega
  unfold nK nV
  rw [if_neg hb, if_neg hb]
  refine ⟨?_, fun h => ?_, fun h => ?_⟩
  · split
    · exact .inl rfl
    · split
      · exact .inr rfl
      · split
        · exact .inr rfl
        · exact .inl rfl
  · rw [if_neg (by omega)]
  · split
    · rfl
    · omega
theorem least_none {a b m n : Int} (hm : 0 < m) (hn : 1 ≤ n) (hv : 0 < mV a b m n) : fE a b m 0 (mV a b m n - 1) n = 8 := by
  have hb := mV_bd (a := a) (b := b) hm hn
  have hr := mV_rng (a := a) (b := b) hm hn
  have hf : fst' a b m 0 (mV a b m n - 1) n = -1 := fst_eq (.inl ⟨rfl, fun j j0 j1 hj => by
    have := hr.2 j j0 j1
    have := hj.2
    omega⟩)
  unfold fE
  rw [if_neg (by unfold badF; omega), hf, if_pos (by decide)]
theorem least_at {a b m n : Int} (hm : 0 < m) (hn : 1 ≤ n) : rz (a * mK a b m n + b) m = mV a b m n ∧ 0 ≤ mK a b m n ∧ mK a b m n < n := by
  obtain ⟨h, h0, h1⟩ := mK_isF (a := a) (b := b) hm hn
  unfold rz
  rw [if_neg (by omega)]
  rcases h with ⟨h, _⟩ | ⟨_, h, _⟩
  · omega
  · refine ⟨?_, h0, h1⟩
    have h2 : Vk a b m (mK a b m n) = mV a b m n := by have := h.1; have := h.2; omega
    exact h2
theorem sides_a {b0 b1 b2 : Bool} {x0 x1 x2 : List Int} {n A B M A' B' K D L V L' W : Int} (m0 : Lm x0) (m1 : Lm x1) (m2 : Lm x2) (l0 : x0.length ≤ 1) (l1 : x1.length ≤ 1) (l2 : x2.length ≤ 1) (n1 : 1 ≤ n) (n2 : n < 9223372036854775808)
    (eA : zv b0 x0 = A) (eB : zv b1 x1 = B) (eM : zv b2 x2 = M) (eE : lE M n = 0) (eA' : -A = A') (eB' : -B = B') (eK : nK A B M n = K) (eD : nV A B M n = D) (eL : lK A B M n = L) (eV : lV A B M n = V) (eL' : lK A' B' M n = L') (eV' : lV A' B' M n = W)
    (oa1 : Lm (dg A'.natAbs)) (oa2 : (dg A'.natAbs).length < 1000) (ob1 : Lm (dg B'.natAbs)) (ob2 : (dg B'.natAbs).length < 1000)
    (hT : AWp Try.prog (tab false) 168 (tl 6 (Try.f28.body.getD .skip)) (PostL (tab false) [.tmp 2] [4] (.raw (.bool true))) ⟨[(1, .ptr 1 0), (3, .raw (.bool true)), (4, .raw (.int .i64 K)), (5, .ptr 5 0), (6, .raw (.int .i64 0)), (7, .raw (.int .i64 L)), (8, .ptr 8 0), (9, .raw (.int .i64 0)), (10, .raw (.int .i64 L')), (11, .ptr 11 0), (12, .raw (.int .i64 0))], [(1, ⟨true, .c [.raw (.bool b0), .ns .u64 x0, .raw (.bool b1), .ns .u64 x1, .raw (.bool b2), .ns .u64 x2, .raw (.int .i64 n)]⟩), (5, ⟨true, .c [.raw (.bool (decide (D < 0))), .ns .u64 (dg D.natAbs)]⟩), (8, ⟨true, .c [.raw (.bool (decide (V < 0))), .ns .u64 (dg V.natAbs)]⟩), (11, ⟨true, .c [.raw (.bool (decide (W < 0))), .ns .u64 (dg W.natAbs)]⟩)]⟩) :
    AWp Try.prog (tab false) 168 (tl 3 (Try.f28.body.getD .skip)) (PostL (tab false) [.tmp 2] [4] (.raw (.bool true))) ⟨[(1, .ptr 1 0), (3, .raw (.bool true))], [(1, ⟨true, .c [.raw (.bool b0), .ns .u64 x0, .raw (.bool b1), .ns .u64 x1, .raw (.bool b2), .ns .u64 x2, .raw (.int .i64 n)]⟩)]⟩ := by
  have hE := env (SOK.cons near_ok (SOK.cons leastX_ok (SOK.cons rzneg_ok (SOK.nil (P := Try.prog)))))
  change AWp _ _ _ (.seq _ (.seq _ (.seq _ _))) _ _
  refine wkR hE (And.intro eA (And.intro eB (And.intro eM (And.intro eK (And.intro eD eE))))) ?_
  refine wkR hE (And.intro eA (And.intro eB (And.intro eM (And.intro eL (And.intro eV eE))))) ?_
  refine AWp.seqJ (ι := Unit) (fun _ => ⟨[(1, .ptr 1 0), (3, .raw (.bool true)), (4, .raw (.int .i64 K)), (5, .ptr 5 0), (6, .raw (.int .i64 0)), (7, .raw (.int .i64 L)), (8, .ptr 8 0), (9, .raw (.int .i64 0)), (10, .raw (.int .i64 L')), (11, .ptr 11 0), (12, .raw (.int .i64 0))], [(1, ⟨true, .c [.raw (.bool b0), .ns .u64 x0, .raw (.bool b1), .ns .u64 x1, .raw (.bool b2), .ns .u64 x2, .raw (.int .i64 n)]⟩), (5, ⟨true, .c [.raw (.bool (decide (D < 0))), .ns .u64 (dg D.natAbs)]⟩), (8, ⟨true, .c [.raw (.bool (decide (V < 0))), .ns .u64 (dg V.natAbs)]⟩), (11, ⟨true, .c [.raw (.bool (decide (W < 0))), .ns .u64 (dg W.natAbs)]⟩)]⟩) ?_ (fun _ => hT)
  refine AWp.regionA [(1, 1)] [(11, 15)] hE.hT hE.hS hE.hm ?_ (wk hE (And.intro eA (And.intro eB (And.intro eM (And.intro eA' (And.intro eB' (And.intro eL' (And.intro eV' eE))))))) ?_)
  · intro p i h
    simp only [lk] at h
    split at h
    · rename_i e; cases h; subst e; exact ⟨0, rfl⟩
    · cases h
  exact ⟨(), Le.mk trivial⟩
theorem sides_b {b0 b1 b2 : Bool} {x0 x1 x2 : List Int} {n K D L V L' W : Int} (kc : K = L ∨ K = L') (kd1 : V ≤ W → D = V) (kd2 : W ≤ V → D = W)
    (oV1 : Lm (dg V.natAbs)) (oV2 : (dg V.natAbs).length < 1000) (oW1 : Lm (dg W.natAbs)) (oW2 : (dg W.natAbs).length < 1000)
    (hT : AWp Try.prog (tab false) 168 (tl 8 (Try.f28.body.getD .skip)) (PostL (tab false) [.tmp 2] [4] (.raw (.bool true))) ⟨[(1, .ptr 1 0), (3, .raw (.bool true)), (7, .raw (.int .i64 L)), (8, .ptr 8 0)], [(1, ⟨true, .c [.raw (.bool b0), .ns .u64 x0, .raw (.bool b1), .ns .u64 x1, .raw (.bool b2), .ns .u64 x2, .raw (.int .i64 n)]⟩), (8, ⟨true, .c [.raw (.bool (decide (V < 0))), .ns .u64 (dg V.natAbs)]⟩)]⟩) :
    AWp Try.prog (tab false) 168 (tl 6 (Try.f28.body.getD .skip)) (PostL (tab false) [.tmp 2] [4] (.raw (.bool true))) ⟨[(1, .ptr 1 0), (3, .raw (.bool true)), (4, .raw (.int .i64 K)), (5, .ptr 5 0), (6, .raw (.int .i64 0)), (7, .raw (.int .i64 L)), (8, .ptr 8 0), (9, .raw (.int .i64 0)), (10, .raw (.int .i64 L')), (11, .ptr 11 0), (12, .raw (.int .i64 0))], [(1, ⟨true, .c [.raw (.bool b0), .ns .u64 x0, .raw (.bool b1), .ns .u64 x1, .raw (.bool b2), .ns .u64 x2, .raw (.int .i64 n)]⟩), (5, ⟨true, .c [.raw (.bool (decide (D < 0))), .ns .u64 (dg D.natAbs)]⟩), (8, ⟨true, .c [.raw (.bool (decide (V < 0))), .ns .u64 (dg V.natAbs)]⟩), (11, ⟨true, .c [.raw (.bool (decide (W < 0))), .ns .u64 (dg W.natAbs)]⟩)]⟩ := by
  have hE := env (SOK.cons rzcmp_ok (SOK.cons exact_ok (SOK.nil (P := Try.prog))))
  change AWp _ _ _ (.seq _ (.seq _ _)) _ _
  refine AWp.seqJ (ι := Unit) (fun _ => ⟨[(1, .ptr 1 0), (3, .raw (.bool true)), (5, .ptr 5 0), (7, .raw (.int .i64 L)), (8, .ptr 8 0), (11, .ptr 11 0)], [(1, ⟨true, .c [.raw (.bool b0), .ns .u64 x0, .raw (.bool b1), .ns .u64 x1, .raw (.bool b2), .ns .u64 x2, .raw (.int .i64 n)]⟩), (5, ⟨true, .c [.raw (.bool (decide (D < 0))), .ns .u64 (dg D.natAbs)]⟩), (8, ⟨true, .c [.raw (.bool (decide (V < 0))), .ns .u64 (dg V.natAbs)]⟩), (11, ⟨true, .c [.raw (.bool (decide (W < 0))), .ns .u64 (dg W.natAbs)]⟩)]⟩) ?_ (fun _ => ?_)
  · rcases kc with h | h
    · subst h
      have e0 : (K != K) = false := by simp
      by_cases h2 : K < L'
      · have h3 : ¬ L' < K := by omega
        refine wk hE (And.intro e0 (And.intro h2 h3)) ?_
        exact ⟨(), Le.mk trivial⟩
      · refine wk hE (And.intro e0 (And.intro h2 (Int.lt_irrefl K))) ?_
        exact ⟨(), Le.mk trivial⟩
    · subst h
      have e0 : (K != K) = false := by simp
      by_cases h1 : K = L
      · subst h1
        refine wk hE (And.intro e0 (Int.lt_irrefl K)) ?_
        exact ⟨(), Le.mk trivial⟩
      · have e1 : (K != L) = true := by rw [bne_iff_ne]; exact h1
        by_cases h2 : L < K
        · refine wk hE (And.intro e0 (And.intro e1 (And.intro h2 (Int.lt_irrefl K)))) ?_
          exact ⟨(), Le.mk trivial⟩
        · have h3 : ¬ L < K := h2
          refine wk hE (And.intro e0 (And.intro e1 h3)) ?_
          exact ⟨(), Le.mk trivial⟩
  obtain ⟨C, eC⟩ : ∃ C, cmpZ V W = C := ⟨_, rfl⟩
  refine AWp.seqJ (ι := Unit) (fun _ => ⟨[(1, .ptr 1 0), (3, .raw (.bool true)), (7, .raw (.int .i64 L)), (8, .ptr 8 0)], [(1, ⟨true, .c [.raw (.bool b0), .ns .u64 x0, .raw (.bool b1), .ns .u64 x1, .raw (.bool b2), .ns .u64 x2, .raw (.int .i64 n)]⟩), (8, ⟨true, .c [.raw (.bool (decide (V < 0))), .ns .u64 (dg V.natAbs)]⟩)]⟩) ?_ (fun _ => hT)
  have bV : (decide (V < 0) == decide (V < 0)) = true := beq_self_eq_true _
  have dV : decide (dg V.natAbs = dg V.natAbs) = true := decide_eq_true rfl
  rcases Int.lt_trichotomy V W with h | h | h
  · have hD := kd1 (by omega)
    subst hD
    have c1 : C ≤ 0 := by rw [← eC]; exact cmp_le0.2 (by omega)
    have c2 : ¬ 0 ≤ C := fun h' => by rw [← eC] at h'; have := cmp_ge0.1 h'; omega
    refine wk hE (And.intro eC (And.intro bV (And.intro dV (And.intro c1 c2)))) ?_
    exact ⟨(), Le.mk trivial⟩
  · have hD := kd1 (by omega)
    subst hD
    subst h
    have c1 : C ≤ 0 := by rw [← eC]; exact cmp_le0.2 (by omega)
    have c2 : 0 ≤ C := by rw [← eC]; exact cmp_ge0.2 (by omega)
    refine wk hE (And.intro eC (And.intro bV (And.intro dV (And.intro c1 c2)))) ?_
    exact ⟨(), Le.mk trivial⟩
  · have hD := kd2 (by omega)
    subst hD
    have bW : (decide (D < 0) == decide (D < 0)) = true := beq_self_eq_true _
    have dW : decide (dg D.natAbs = dg D.natAbs) = true := decide_eq_true rfl
    have c1 : ¬ C ≤ 0 := fun h' => by rw [← eC] at h'; have := cmp_le0.1 h'; omega
    have c2 : 0 ≤ C := by rw [← eC]; exact cmp_ge0.2 (by omega)
    refine wk hE (And.intro eC (And.intro bW (And.intro dW (And.intro c1 c2)))) ?_
    exact ⟨(), Le.mk trivial⟩
theorem sides_c {b0 b1 b2 : Bool} {x0 x1 x2 : List Int} {n A B M L V : Int} (m0 : Lm x0) (m1 : Lm x1) (m2 : Lm x2) (l0 : x0.length ≤ 1) (l1 : x1.length ≤ 1) (l2 : x2.length ≤ 1) (hM : 0 < M) (n1 : 1 ≤ n) (n2 : n < 9223372036854775808)
    (eA : zv b0 x0 = A) (eB : zv b1 x1 = B) (eM : zv b2 x2 = M) {P S : Int} (eP : A * L = P) (eS : P + B = S) (eR : rz S M = V) (hL : 0 ≤ L ∧ L < n) (hV : 0 ≤ V) (hno : 0 < V → fE A B M 0 (V - 1) n = 8) {U : Int} (eU : V - 1 = U)
    (oL1 : Lm (dg L.natAbs)) (oL2 : (dg L.natAbs).length < 1000) (oP1 : Lm (dg P.natAbs)) (oP2 : (dg P.natAbs).length < 1000) (oS1 : Lm (dg S.natAbs)) (oS2 : (dg S.natAbs).length < 1000) (oV1 : Lm (dg V.natAbs)) (oV2 : (dg V.natAbs).length < 1000) (oU1 : Lm (dg U.natAbs)) (oU2 : (dg U.natAbs).length < 1000) :
    AWp Try.prog (tab false) 168 (tl 8 (Try.f28.body.getD .skip)) (PostL (tab false) [.tmp 2] [4] (.raw (.bool true))) ⟨[(1, .ptr 1 0), (3, .raw (.bool true)), (7, .raw (.int .i64 L)), (8, .ptr 8 0)], [(1, ⟨true, .c [.raw (.bool b0), .ns .u64 x0, .raw (.bool b1), .ns .u64 x1, .raw (.bool b2), .ns .u64 x2, .raw (.int .i64 n)]⟩), (8, ⟨true, .c [.raw (.bool (decide (V < 0))), .ns .u64 (dg V.natAbs)]⟩)]⟩ := by
  have hE := env (SOK.cons rzsign_ok (SOK.cons firstX_ok (SOK.cons num_ok (SOK.cons exact_ok (SOK.cons rzadd_ok (SOK.cons rzsub_ok (SOK.cons rzmul_ok (SOK.cons rzdivmod_ok (SOK.nil (P := Try.prog))))))))))
  change AWp _ _ _ (.seq _ (.seq _ _)) _ _
  obtain ⟨Q, eQ⟩ : ∃ Q, S / M = Q := ⟨_, rfl⟩
  have hne : decide (M ≠ 0) = true := decide_eq_true (by omega)
  obtain ⟨hL0, hL1⟩ := hL
  refine AWp.seqJ (ι := Unit) (fun _ => ⟨[(1, .ptr 1 0), (3, .raw (.bool true)), (8, .ptr 8 0), (15, .ptr 15 0)], [(1, ⟨true, .c [.raw (.bool b0), .ns .u64 x0, .raw (.bool b1), .ns .u64 x1, .raw (.bool b2), .ns .u64 x2, .raw (.int .i64 n)]⟩), (8, ⟨true, .c [.raw (.bool (decide (V < 0))), .ns .u64 (dg V.natAbs)]⟩), (15, ⟨true, .c [.raw (.bool (decide (V < 0))), .ns .u64 (dg V.natAbs)]⟩)]⟩) ?_ (fun _ => ?_)
  · refine AWp.regionA [(1, 1)] [(14, 15), (15, 16)] hE.hT hE.hS hE.hm ?_ (wk hE (And.intro eA (And.intro eB (And.intro eM (And.intro eP (And.intro eS (And.intro eQ (And.intro eR hne))))))) ?_)
    · intro p i h
      simp only [lk] at h
      split at h
      · rename_i e; cases h; subst e; exact ⟨0, rfl⟩
      · cases h
    exact ⟨(), Le.mk trivial⟩
  have bV : (decide (V < 0) == decide (V < 0)) = true := beq_self_eq_true _
  have dV : decide (dg V.natAbs = dg V.natAbs) = true := decide_eq_true rfl
  by_cases hz : V = 0
  · subst hz
    have hs : Int.sign 0 = 0 := rfl
    have dz : decide (dg (Int.natAbs 0) = dg (Int.natAbs 0)) = true := decide_eq_true rfl
    have hz0 : zv false (dg (Int.natAbs 0)) = 0 := zv_zi 0
    refine wk hE (And.intro hz0 (And.intro dz hs)) ?_
    exact PostL.mk trivial rfl
  have hs : V.sign = 1 := Int.sign_eq_one_of_pos (by omega)
  have hno := hno (by omega)
  rw [eU] at hno
  have hone : zv false (dg (Int.natAbs 1)) = 1 := zv_zi 1
  obtain ⟨c1, c1'⟩ := nat_abs_lt (z := 1) (l := 1) (by decide) (by omega)
  have hzz : zv false [] = 0 := rfl
  have lm0 : Lm [] := ⟨Lim.nil, by simp⟩
  refine wk hE (And.intro eA (And.intro eB (And.intro eM (And.intro bV (And.intro dV (And.intro hs (And.intro hone (And.intro eU (And.intro hzz hno))))))))) ?_
  exact PostL.mk trivial rfl
end Go.Hl

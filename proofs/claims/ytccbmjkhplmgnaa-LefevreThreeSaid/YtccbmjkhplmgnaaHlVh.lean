/- LefevreThree LefevreThree, joined -/
import Derived.Test.YtccbmjkhplmgnaaHlV8
import Derived.Test.YtccbmjkhplmgnaaHlGd
set_option linter.unusedVariables false
set_option linter.unusedSimpArgs false
namespace Go.Hl
open Go Go.RowKit Go.Proofs
set_option maxHeartbeats 8000000
set_option maxRecDepth 100000
def lnZ (z : Int) : Prop := Lm (dg z.natAbs) ∧ (dg z.natAbs).length < 1000
theorem three_1 {b0 b1 b2 : Bool} {x0 x1 x2 : List Int} {z0 c0 m0 A M N G Q R W : Int} (m_0 : Lm x0 ∧ x0.length ≤ 2) (m_2 : Lm x2 ∧ x2.length ≤ 2) (eA : zv b0 x0 = A) (eM : zv b2 x2 = M) (hM : 0 < M) (hN : 1 ≤ N) (hN2 : N < 9223372036854775808)
    (hz0 : 0 < z0) (hc0 : 1 ≤ c0 ∧ c0 < 9223372036854775808) (em0 : z0 * c0 = m0) (es0 : 0 + m0 = M) (ep0 : 0 + c0 = W)
    (oz0 : lnZ z0) (oc0 : lnZ c0) (om0 : lnZ m0) (os0 : lnZ M) (op0 : lnZ W)
    (eG : (Nat.gcd A.natAbs M.natAbs : Int) = G) (hG : 1 ≤ G) (eQ : M / G = Q) (eR : rz M G = R) (oG : lnZ G) (oQ : lnZ Q) (oN : lnZ N) (hW : (N < Q ∧ W = N) ∨ (Q ≤ N ∧ W = Q)) :
    AWp Try.prog (tab false) 178 (tl 5 (Try.f25.body.getD .skip)) (PostL (tab false) [.tmp 2] [4] (.raw (.bool true))) ⟨[(1, .ptr 1 0), (3, .raw (.bool true)), (4, .sl 2 1 [.raw (.bool (decide (z0 < 0))), .ns .u64 (dg z0.natAbs)]), (5, .ns .i64 [c0]), (6, .raw (.int .i64 0))], [(1, ⟨true, .c [.raw (.bool b0), .ns .u64 x0, .raw (.bool b1), .ns .u64 x1, .raw (.bool b2), .ns .u64 x2, .raw (.int .i64 N)]⟩)]⟩ := by
  have hE := env (SOK.cons rzsign_ok (SOK.cons rzcmp_ok (SOK.cons num_ok (SOK.cons rzmul_ok (SOK.cons rzadd_ok (SOK.cons rzgcd_ok (SOK.cons rzdivmod_ok (SOK.cons rznorm_ok (SOK.cons exact_ok (SOK.nil (P := Try.prog)))))))))))
  obtain ⟨m_0, m_0l⟩ := m_0
  obtain ⟨m_2, m_2l⟩ := m_2
  obtain ⟨oz0a, oz0b⟩ := oz0
  obtain ⟨oc0a, oc0b⟩ := oc0
  obtain ⟨om0a, om0b⟩ := om0
  obtain ⟨os0a, os0b⟩ := os0
  obtain ⟨op0a, op0b⟩ := op0
  obtain ⟨oGa, oGb⟩ := oG
  obtain ⟨oQa, oQb⟩ := oQ
  obtain ⟨oNa, oNb⟩ := oN
  have hzero : zv false (dg (Int.natAbs 0)) = 0 := zv_zi 0
  have o0a : Lm (dg (Int.natAbs 0)) := by rw [show Int.natAbs 0 = 0 from rfl, dg_zero]; exact ⟨Lim.nil, by simp⟩
  have o0b : (dg (Int.natAbs 0)).length < 1000 := by rw [show Int.natAbs 0 = 0 from rfl, dg_zero]; simp
  change AWp _ _ _ (.seq _ _) _ _
  refine wk hE trivial ?_
  refine AWp.loop (ι := {q : Nat × Int × Int // q = ((0 : Nat), (0 : Int), (0 : Int)) ∨ q = ((1 : Nat), (M : Int), (W : Int))}) (fun q => ⟨[(1, .ptr 1 0), (3, .raw (.bool true)), (4, .sl 2 1 [.raw (.bool (decide (z0 < 0))), .ns .u64 (dg z0.natAbs)]), (5, .ns .i64 [c0]), (7, .ptr 7 0), (8, .ptr 8 0), (9, .raw (.int .i64 (q.1.1 : Nat)))], [(1, ⟨true, .c [.raw (.bool b0), .ns .u64 x0, .raw (.bool b1), .ns .u64 x1, .raw (.bool b2), .ns .u64 x2, .raw (.int .i64 N)]⟩), (7, ⟨true, .c [.raw (.bool (decide (q.1.2.1 < 0))), .ns .u64 (dg (q.1.2.1).natAbs)]⟩), (8, ⟨true, .c [.raw (.bool (decide (q.1.2.2 < 0))), .ns .u64 (dg (q.1.2.2).natAbs)]⟩)]⟩) (fun q => 1 - q.1.1) ⟨(0, 0, 0), .inl rfl⟩ (Le.mk (And.intro (show dg (Int.natAbs 0) = [] from dg_zero) (show decide ((0 : Int) < 0) = false from rfl))) ?_
  rintro ⟨⟨i, s, c⟩, h⟩
  dsimp only at h ⊢
  rcases h with h | h
  · cases h
    have hs0 : ¬ z0.sign < 1 := fun h => by have := sign_lt1.1 h; omega
    have hn0 : ¬ c0 < 1 := by omega
    refine wk hE (And.intro hs0 (And.intro hn0 (And.intro hzero (And.intro em0 (And.intro es0 ep0))))) ?_
    exact ⟨⟨(1, M, W), .inr (rfl)⟩, Le.mk trivial, by dsimp only; omega⟩
  · cases h
    have hne : decide (G ≠ 0) = true := decide_eq_true (by omega)
    have dM : decide (dg M.natAbs = dg M.natAbs) = true := decide_eq_true rfl
    have bM : (decide (M < 0) == decide (M < 0)) = true := beq_self_eq_true _
    rcases hW with ⟨hq, rfl⟩ | ⟨hq, rfl⟩
    · have hcq : 0 < cmpZ Q W := cmp_gt0.2 hq
      have dW : decide (dg W.natAbs = dg W.natAbs) = true := decide_eq_true rfl
      have bW : (decide (W < 0) == decide (W < 0)) = true := beq_self_eq_true _
      refine wk hE (And.intro eA (And.intro eM (And.intro eG (And.intro eQ (And.intro eR (And.intro hne (And.intro hcq (And.intro dM (And.intro bM (And.intro dW bW)))))))))) ?_
      exact PostL.mk trivial rfl
    · have hcq : ¬ 0 < cmpZ W N := fun h => by have := cmp_gt0.1 h; omega
      have dW : decide (dg W.natAbs = dg W.natAbs) = true := decide_eq_true rfl
      have bW : (decide (W < 0) == decide (W < 0)) = true := beq_self_eq_true _
      refine wk hE (And.intro eA (And.intro eM (And.intro eG (And.intro eQ (And.intro eR (And.intro hne (And.intro hcq (And.intro dM (And.intro bM (And.intro dW bW)))))))))) ?_
      exact PostL.mk trivial rfl
theorem three_2 {b0 b1 b2 : Bool} {x0 x1 x2 : List Int} {z0 z1 c0 c1 m0 m1 s1 p1 A M N G Q R W : Int} (m_0 : Lm x0 ∧ x0.length ≤ 2) (m_2 : Lm x2 ∧ x2.length ≤ 2) (eA : zv b0 x0 = A) (eM : zv b2 x2 = M) (hM : 0 < M) (hN : 1 ≤ N) (hN2 : N < 9223372036854775808)
    (hz0 : 0 < z0) (hc0 : 1 ≤ c0 ∧ c0 < 9223372036854775808) (em0 : z0 * c0 = m0) (es0 : 0 + m0 = s1) (ep0 : 0 + c0 = p1)
    (oz0 : lnZ z0) (oc0 : lnZ c0) (om0 : lnZ m0) (os0 : lnZ s1) (op0 : lnZ p1)
    (hz1 : 0 < z1) (hc1 : 1 ≤ c1 ∧ c1 < 9223372036854775808) (em1 : z1 * c1 = m1) (es1 : s1 + m1 = M) (ep1 : p1 + c1 = W)
    (oz1 : lnZ z1) (oc1 : lnZ c1) (om1 : lnZ m1) (os1 : lnZ M) (op1 : lnZ W)
    (lt1 : z0 < z1)
    (eG : (Nat.gcd A.natAbs M.natAbs : Int) = G) (hG : 1 ≤ G) (eQ : M / G = Q) (eR : rz M G = R) (oG : lnZ G) (oQ : lnZ Q) (oN : lnZ N) (hW : (N < Q ∧ W = N) ∨ (Q ≤ N ∧ W = Q)) :
    AWp Try.prog (tab false) 178 (tl 5 (Try.f25.body.getD .skip)) (PostL (tab false) [.tmp 2] [4] (.raw (.bool true))) ⟨[(1, .ptr 1 0), (3, .raw (.bool true)), (4, .sl 2 2 [.raw (.bool (decide (z0 < 0))), .ns .u64 (dg z0.natAbs), .raw (.bool (decide (z1 < 0))), .ns .u64 (dg z1.natAbs)]), (5, .ns .i64 [c0, c1]), (6, .raw (.int .i64 0))], [(1, ⟨true, .c [.raw (.bool b0), .ns .u64 x0, .raw (.bool b1), .ns .u64 x1, .raw (.bool b2), .ns .u64 x2, .raw (.int .i64 N)]⟩)]⟩ := by
  have hE := env (SOK.cons rzsign_ok (SOK.cons rzcmp_ok (SOK.cons num_ok (SOK.cons rzmul_ok (SOK.cons rzadd_ok (SOK.cons rzgcd_ok (SOK.cons rzdivmod_ok (SOK.cons rznorm_ok (SOK.cons exact_ok (SOK.nil (P := Try.prog)))))))))))
  obtain ⟨m_0, m_0l⟩ := m_0
  obtain ⟨m_2, m_2l⟩ := m_2
  obtain ⟨oz0a, oz0b⟩ := oz0
  obtain ⟨oc0a, oc0b⟩ := oc0
  obtain ⟨om0a, om0b⟩ := om0
  obtain ⟨os0a, os0b⟩ := os0
  obtain ⟨op0a, op0b⟩ := op0
  obtain ⟨oz1a, oz1b⟩ := oz1
  obtain ⟨oc1a, oc1b⟩ := oc1
  obtain ⟨om1a, om1b⟩ := om1
  obtain ⟨os1a, os1b⟩ := os1
  obtain ⟨op1a, op1b⟩ := op1
  obtain ⟨oGa, oGb⟩ := oG
  obtain ⟨oQa, oQb⟩ := oQ
  obtain ⟨oNa, oNb⟩ := oN
  have hzero : zv false (dg (Int.natAbs 0)) = 0 := zv_zi 0
  have o0a : Lm (dg (Int.natAbs 0)) := by rw [show Int.natAbs 0 = 0 from rfl, dg_zero]; exact ⟨Lim.nil, by simp⟩
  have o0b : (dg (Int.natAbs 0)).length < 1000 := by rw [show Int.natAbs 0 = 0 from rfl, dg_zero]; simp
  change AWp _ _ _ (.seq _ _) _ _
  refine wk hE trivial ?_
  refine AWp.loop (ι := {q : Nat × Int × Int // q = ((0 : Nat), (0 : Int), (0 : Int)) ∨ q = ((1 : Nat), (s1 : Int), (p1 : Int)) ∨ q = ((2 : Nat), (M : Int), (W : Int))}) (fun q => ⟨[(1, .ptr 1 0), (3, .raw (.bool true)), (4, .sl 2 2 [.raw (.bool (decide (z0 < 0))), .ns .u64 (dg z0.natAbs), .raw (.bool (decide (z1 < 0))), .ns .u64 (dg z1.natAbs)]), (5, .ns .i64 [c0, c1]), (7, .ptr 7 0), (8, .ptr 8 0), (9, .raw (.int .i64 (q.1.1 : Nat)))], [(1, ⟨true, .c [.raw (.bool b0), .ns .u64 x0, .raw (.bool b1), .ns .u64 x1, .raw (.bool b2), .ns .u64 x2, .raw (.int .i64 N)]⟩), (7, ⟨true, .c [.raw (.bool (decide (q.1.2.1 < 0))), .ns .u64 (dg (q.1.2.1).natAbs)]⟩), (8, ⟨true, .c [.raw (.bool (decide (q.1.2.2 < 0))), .ns .u64 (dg (q.1.2.2).natAbs)]⟩)]⟩) (fun q => 2 - q.1.1) ⟨(0, 0, 0), .inl rfl⟩ (Le.mk (And.intro (show dg (Int.natAbs 0) = [] from dg_zero) (show decide ((0 : Int) < 0) = false from rfl))) ?_
  rintro ⟨⟨i, s, c⟩, h⟩
  dsimp only at h ⊢
  rcases h with h | h | h
  · cases h
    have hs0 : ¬ z0.sign < 1 := fun h => by have := sign_lt1.1 h; omega
    have hn0 : ¬ c0 < 1 := by omega
    refine wk hE (And.intro hs0 (And.intro hn0 (And.intro hzero (And.intro em0 (And.intro es0 ep0))))) ?_
    exact ⟨⟨(1, s1, p1), .inr (.inl rfl)⟩, Le.mk trivial, by dsimp only; omega⟩
  · cases h
    have hs1 : ¬ z1.sign < 1 := fun h => by have := sign_lt1.1 h; omega
    have hn1 : ¬ c1 < 1 := by omega
    have hl1 : ¬ 0 ≤ cmpZ z0 z1 := fun h => by have := cmp_ge0.1 h; omega
    refine wk hE (And.intro hs1 (And.intro hn1 (And.intro hl1 (And.intro em1 (And.intro es1 ep1))))) ?_
    exact ⟨⟨(2, M, W), .inr (.inr (rfl))⟩, Le.mk trivial, by dsimp only; omega⟩
  · cases h
    have hne : decide (G ≠ 0) = true := decide_eq_true (by omega)
    have dM : decide (dg M.natAbs = dg M.natAbs) = true := decide_eq_true rfl
    have bM : (decide (M < 0) == decide (M < 0)) = true := beq_self_eq_true _
    rcases hW with ⟨hq, rfl⟩ | ⟨hq, rfl⟩
    · have hcq : 0 < cmpZ Q W := cmp_gt0.2 hq
      have dW : decide (dg W.natAbs = dg W.natAbs) = true := decide_eq_true rfl
      have bW : (decide (W < 0) == decide (W < 0)) = true := beq_self_eq_true _
      refine wk hE (And.intro eA (And.intro eM (And.intro eG (And.intro eQ (And.intro eR (And.intro hne (And.intro hcq (And.intro dM (And.intro bM (And.intro dW bW)))))))))) ?_
      exact PostL.mk trivial rfl
    · have hcq : ¬ 0 < cmpZ W N := fun h => by have := cmp_gt0.1 h; omega
      have dW : decide (dg W.natAbs = dg W.natAbs) = true := decide_eq_true rfl
      have bW : (decide (W < 0) == decide (W < 0)) = true := beq_self_eq_true _
      refine wk hE (And.intro eA (And.intro eM (And.intro eG (And.intro eQ (And.intro eR (And.intro hne (And.intro hcq (And.intro dM (And.intro bM (And.intro dW bW)))))))))) ?_
      exact PostL.mk trivial rfl
theorem three_3 {b0 b1 b2 : Bool} {x0 x1 x2 : List Int} {z0 z1 z2 c0 c1 c2 m0 m1 m2 s1 s2 p1 p2 A M N G Q R W : Int} (m_0 : Lm x0 ∧ x0.length ≤ 2) (m_2 : Lm x2 ∧ x2.length ≤ 2) (eA : zv b0 x0 = A) (eM : zv b2 x2 = M) (hM : 0 < M) (hN : 1 ≤ N) (hN2 : N < 9223372036854775808)
    (hz0 : 0 < z0) (hc0 : 1 ≤ c0 ∧ c0 < 9223372036854775808) (em0 : z0 * c0 = m0) (es0 : 0 + m0 = s1) (ep0 : 0 + c0 = p1)
    (oz0 : lnZ z0) (oc0 : lnZ c0) (om0 : lnZ m0) (os0 : lnZ s1) (op0 : lnZ p1)
    (hz1 : 0 < z1) (hc1 : 1 ≤ c1 ∧ c1 < 9223372036854775808) (em1 : z1 * c1 = m1) (es1 : s1 + m1 = s2) (ep1 : p1 + c1 = p2)
    (oz1 : lnZ z1) (oc1 : lnZ c1) (om1 : lnZ m1) (os1 : lnZ s2) (op1 : lnZ p2)
    (hz2 : 0 < z2) (hc2 : 1 ≤ c2 ∧ c2 < 9223372036854775808) (em2 : z2 * c2 = m2) (es2 : s2 + m2 = M) (ep2 : p2 + c2 = W)
    (oz2 : lnZ z2) (oc2 : lnZ c2) (om2 : lnZ m2) (os2 : lnZ M) (op2 : lnZ W)
    (lt1 : z0 < z1)
    (lt2 : z1 < z2)
    (e3 : z0 + z1 = z2)
    (eG : (Nat.gcd A.natAbs M.natAbs : Int) = G) (hG : 1 ≤ G) (eQ : M / G = Q) (eR : rz M G = R) (oG : lnZ G) (oQ : lnZ Q) (oN : lnZ N) (hW : (N < Q ∧ W = N) ∨ (Q ≤ N ∧ W = Q)) :
    AWp Try.prog (tab false) 178 (tl 5 (Try.f25.body.getD .skip)) (PostL (tab false) [.tmp 2] [4] (.raw (.bool true))) ⟨[(1, .ptr 1 0), (3, .raw (.bool true)), (4, .sl 2 3 [.raw (.bool (decide (z0 < 0))), .ns .u64 (dg z0.natAbs), .raw (.bool (decide (z1 < 0))), .ns .u64 (dg z1.natAbs), .raw (.bool (decide (z2 < 0))), .ns .u64 (dg z2.natAbs)]), (5, .ns .i64 [c0, c1, c2]), (6, .raw (.int .i64 0))], [(1, ⟨true, .c [.raw (.bool b0), .ns .u64 x0, .raw (.bool b1), .ns .u64 x1, .raw (.bool b2), .ns .u64 x2, .raw (.int .i64 N)]⟩)]⟩ := by
  have hE := env (SOK.cons rzsign_ok (SOK.cons rzcmp_ok (SOK.cons num_ok (SOK.cons rzmul_ok (SOK.cons rzadd_ok (SOK.cons rzgcd_ok (SOK.cons rzdivmod_ok (SOK.cons rznorm_ok (SOK.cons exact_ok (SOK.nil (P := Try.prog)))))))))))
  obtain ⟨m_0, m_0l⟩ := m_0
  obtain ⟨m_2, m_2l⟩ := m_2
  obtain ⟨oz0a, oz0b⟩ := oz0
  obtain ⟨oc0a, oc0b⟩ := oc0
  obtain ⟨om0a, om0b⟩ := om0
  obtain ⟨os0a, os0b⟩ := os0
  obtain ⟨op0a, op0b⟩ := op0
  obtain ⟨oz1a, oz1b⟩ := oz1
  obtain ⟨oc1a, oc1b⟩ := oc1
  obtain ⟨om1a, om1b⟩ := om1
  obtain ⟨os1a, os1b⟩ := os1
  obtain ⟨op1a, op1b⟩ := op1
  obtain ⟨oz2a, oz2b⟩ := oz2
  obtain ⟨oc2a, oc2b⟩ := oc2
  obtain ⟨om2a, om2b⟩ := om2
  obtain ⟨os2a, os2b⟩ := os2
  obtain ⟨op2a, op2b⟩ := op2
  obtain ⟨oGa, oGb⟩ := oG
  obtain ⟨oQa, oQb⟩ := oQ
  obtain ⟨oNa, oNb⟩ := oN
  have hzero : zv false (dg (Int.natAbs 0)) = 0 := zv_zi 0
  have o0a : Lm (dg (Int.natAbs 0)) := by rw [show Int.natAbs 0 = 0 from rfl, dg_zero]; exact ⟨Lim.nil, by simp⟩
  have o0b : (dg (Int.natAbs 0)).length < 1000 := by rw [show Int.natAbs 0 = 0 from rfl, dg_zero]; simp
  change AWp _ _ _ (.seq _ _) _ _
  refine wk hE trivial ?_
  refine AWp.loop (ι := {q : Nat × Int × Int // q = ((0 : Nat), (0 : Int), (0 : Int)) ∨ q = ((1 : Nat), (s1 : Int), (p1 : Int)) ∨ q = ((2 : Nat), (s2 : Int), (p2 : Int)) ∨ q = ((3 : Nat), (M : Int), (W : Int))}) (fun q => ⟨[(1, .ptr 1 0), (3, .raw (.bool true)), (4, .sl 2 3 [.raw (.bool (decide (z0 < 0))), .ns .u64 (dg z0.natAbs), .raw (.bool (decide (z1 < 0))), .ns .u64 (dg z1.natAbs), .raw (.bool (decide (z2 < 0))), .ns .u64 (dg z2.natAbs)]), (5, .ns .i64 [c0, c1, c2]), (7, .ptr 7 0), (8, .ptr 8 0), (9, .raw (.int .i64 (q.1.1 : Nat)))], [(1, ⟨true, .c [.raw (.bool b0), .ns .u64 x0, .raw (.bool b1), .ns .u64 x1, .raw (.bool b2), .ns .u64 x2, .raw (.int .i64 N)]⟩), (7, ⟨true, .c [.raw (.bool (decide (q.1.2.1 < 0))), .ns .u64 (dg (q.1.2.1).natAbs)]⟩), (8, ⟨true, .c [.raw (.bool (decide (q.1.2.2 < 0))), .ns .u64 (dg (q.1.2.2).natAbs)]⟩)]⟩) (fun q => 3 - q.1.1) ⟨(0, 0, 0), .inl rfl⟩ (Le.mk (And.intro (show dg (Int.natAbs 0) = [] from dg_zero) (show decide ((0 : Int) < 0) = false from rfl))) ?_
  rintro ⟨⟨i, s, c⟩, h⟩
  dsimp only at h ⊢
  rcases h with h | h | h | h
  · cases h
    have hs0 : ¬ z0.sign < 1 := fun h => by have := sign_lt1.1 h; omega
    have hn0 : ¬ c0 < 1 := by omega
    refine wk hE (And.intro hs0 (And.intro hn0 (And.intro hzero (And.intro em0 (And.intro es0 ep0))))) ?_
    exact ⟨⟨(1, s1, p1), .inr (.inl rfl)⟩, Le.mk trivial, by dsimp only; omega⟩
  · cases h
    have hs1 : ¬ z1.sign < 1 := fun h => by have := sign_lt1.1 h; omega
    have hn1 : ¬ c1 < 1 := by omega
    have hl1 : ¬ 0 ≤ cmpZ z0 z1 := fun h => by have := cmp_ge0.1 h; omega
    refine wk hE (And.intro hs1 (And.intro hn1 (And.intro hl1 (And.intro em1 (And.intro es1 ep1))))) ?_
    exact ⟨⟨(2, s2, p2), .inr (.inr (.inl rfl))⟩, Le.mk trivial, by dsimp only; omega⟩
  · cases h
    have hs2 : ¬ z2.sign < 1 := fun h => by have := sign_lt1.1 h; omega
    have hn2 : ¬ c2 < 1 := by omega
    have hl2 : ¬ 0 ≤ cmpZ z1 z2 := fun h => by have := cmp_ge0.1 h; omega
    refine wk hE (And.intro hs2 (And.intro hn2 (And.intro hl2 (And.intro em2 (And.intro es2 ep2))))) ?_
    exact ⟨⟨(3, M, W), .inr (.inr (.inr (rfl)))⟩, Le.mk trivial, by dsimp only; omega⟩
  · cases h
    have hne : decide (G ≠ 0) = true := decide_eq_true (by omega)
    have dM : decide (dg M.natAbs = dg M.natAbs) = true := decide_eq_true rfl
    have bM : (decide (M < 0) == decide (M < 0)) = true := beq_self_eq_true _
    rcases hW with ⟨hq, rfl⟩ | ⟨hq, rfl⟩
    · have hcq : 0 < cmpZ Q W := cmp_gt0.2 hq
      have d3 : decide (dg z2.natAbs = dg z2.natAbs) = true := decide_eq_true rfl
      have b3 : (decide (z2 < 0) == decide (z2 < 0)) = true := beq_self_eq_true _
      have dW : decide (dg W.natAbs = dg W.natAbs) = true := decide_eq_true rfl
      have bW : (decide (W < 0) == decide (W < 0)) = true := beq_self_eq_true _
      refine wk hE (And.intro eA (And.intro eM (And.intro eG (And.intro eQ (And.intro eR (And.intro hne (And.intro e3 (And.intro d3 (And.intro b3 (And.intro hcq (And.intro dM (And.intro bM (And.intro dW bW))))))))))))) ?_
      exact PostL.mk trivial rfl
    · have hcq : ¬ 0 < cmpZ W N := fun h => by have := cmp_gt0.1 h; omega
      have d3 : decide (dg z2.natAbs = dg z2.natAbs) = true := decide_eq_true rfl
      have b3 : (decide (z2 < 0) == decide (z2 < 0)) = true := beq_self_eq_true _
      have dW : decide (dg W.natAbs = dg W.natAbs) = true := decide_eq_true rfl
      have bW : (decide (W < 0) == decide (W < 0)) = true := beq_self_eq_true _
      refine wk hE (And.intro eA (And.intro eM (And.intro eG (And.intro eQ (And.intro eR (And.intro hne (And.intro e3 (And.intro d3 (And.intro b3 (And.intro hcq (And.intro dM (And.intro bM (And.intro dW bW))))))))))))) ?_
      exact PostL.mk trivial rfl
end Go.Hl

namespace Go.Hl
open Go Go.RowKit Go.Proofs
set_option maxHeartbeats 8000000
set_option maxRecDepth 100000
theorem three_any {b0 b1 b2 : Bool} {x0 x1 x2 : List Int} {A M N : Int} {l : List (Int × Int)} (m_0 : Lm x0 ∧ x0.length ≤ 2) (m_2 : Lm x2 ∧ x2.length ≤ 2) (eA : zv b0 x0 = A) (eM : zv b2 x2 = M) (hM : 0 < M) (hN : 1 ≤ N) (hN2 : N < 9223372036854775808) (h : GOK M (gAll A M) N l) :
    AWp Try.prog (tab false) 178 (tl 5 (Try.f25.body.getD .skip)) (PostL (tab false) [.tmp 2] [4] (.raw (.bool true))) ⟨[(1, .ptr 1 0), (3, .raw (.bool true)), (4, .sl 2 l.length (cellsZ (l.map (·.1)))), (5, .ns .i64 (l.map (·.2))), (6, .raw (.int .i64 0))], [(1, ⟨true, .c [.raw (.bool b0), .ns .u64 x0, .raw (.bool b1), .ns .u64 x1, .raw (.bool b2), .ns .u64 x2, .raw (.int .i64 N)]⟩)]⟩ := by
  have bM := zv_abs_lt (b := b2) m_2.1 (l := 2) m_2.2
  rw [eM] at bM
  have lnM : ∀ z : Int, 0 ≤ z → z ≤ M → lnZ z := fun z z0 z1 => fit_of (k := 2) (by decide) (by omega)
  have ln6 : ∀ z : Int, 0 ≤ z → z ≤ N → lnZ z := fun z z0 z1 => fit_of (k := 1) (by decide) (i64_lt (by omega) (by omega))
  have hg := gG_pos (a := A) hM
  have ha := gAll_mul (a := A) hM
  have hmin : min (gAll A M) N ≤ N ∧ (N < gAll A M ∧ min (gAll A M) N = N ∨ gAll A M ≤ N ∧ min (gAll A M) N = gAll A M) := by omega
  obtain ⟨Q, eQ⟩ : ∃ Q, gAll A M = Q := ⟨_, rfl⟩
  rw [eQ] at h hmin ha
  obtain ⟨W, eW⟩ : ∃ W, min Q N = W := ⟨_, rfl⟩
  rw [eW] at hmin
  cases h with
  | one x c h0 h1 h2 h3 h4 =>
    rw [eW] at h4
    exact three_1 (z0 := x) (c0 := c) (m0 := M) (W := W) m_0 m_2 eA eM hM hN hN2 h0 ⟨h2, by omega⟩ h3 (by omega) (by omega) (lnM _ (by omega) (by omega)) (ln6 _ (by omega) (by omega)) (lnM _ (by omega) (by omega)) (lnM _ (by omega) (by omega)) (ln6 _ (by omega) (by omega))
      rfl hg.1 eQ rfl (lnM _ (by omega) hg.2) (lnM _ (by omega) (by omega)) (ln6 _ (by omega) (by omega)) hmin.2
  | two x c y d h0 h1 h2 h3 h4 h5 h6 =>
    rw [eW] at h6
    have p1 := Int.mul_nonneg (show 0 ≤ x by omega) (show 0 ≤ c by omega)
    have p2 := Int.mul_nonneg (show 0 ≤ y by omega) (show 0 ≤ d by omega)
    exact three_2 (z0 := x) (c0 := c) (z1 := y) (c1 := d) (m0 := x * c) (m1 := y * d) (s1 := x * c) (p1 := c) (W := W) m_0 m_2 eA eM hM hN hN2 h0 ⟨h3, by omega⟩ rfl (by omega) (by omega) (lnM _ (by omega) (by omega)) (ln6 _ (by omega) (by omega)) (lnM _ (by omega) (by omega)) (lnM _ (by omega) (by omega)) (ln6 _ (by omega) (by omega))
      (by omega) ⟨h4, by omega⟩ rfl (by omega) (by omega) (lnM _ (by omega) (by omega)) (ln6 _ (by omega) (by omega)) (lnM _ (by omega) (by omega)) (lnM _ (by omega) (by omega)) (ln6 _ (by omega) (by omega)) h1
      rfl hg.1 eQ rfl (lnM _ (by omega) hg.2) (lnM _ (by omega) (by omega)) (ln6 _ (by omega) (by omega)) hmin.2
  | three x c y d e h0 h1 h2 h3 h4 h5 h6 h7 =>
    rw [eW] at h7
    have p1 := Int.mul_nonneg (show 0 ≤ x by omega) (show 0 ≤ c by omega)
    have p2 := Int.mul_nonneg (show 0 ≤ y by omega) (show 0 ≤ d by omega)
    have p3 := Int.mul_nonneg (show 0 ≤ x + y by omega) (show 0 ≤ e by omega)
    exact three_3 (z0 := x) (c0 := c) (z1 := y) (c1 := d) (z2 := x + y) (c2 := e) (m0 := x * c) (m1 := y * d) (m2 := (x + y) * e) (s1 := x * c) (s2 := x * c + y * d) (p1 := c) (p2 := c + d) (W := W) m_0 m_2 eA eM hM hN hN2 h0 ⟨h3, by omega⟩ rfl (by omega) (by omega) (lnM _ (by omega) (by omega)) (ln6 _ (by omega) (by omega)) (lnM _ (by omega) (by omega)) (lnM _ (by omega) (by omega)) (ln6 _ (by omega) (by omega))
      (by omega) ⟨h4, by omega⟩ rfl (by omega) (by omega) (lnM _ (by omega) (by omega)) (ln6 _ (by omega) (by omega)) (lnM _ (by omega) (by omega)) (lnM _ (by omega) (by omega)) (ln6 _ (by omega) (by omega))
      (by omega) ⟨h5, by omega⟩ rfl (by omega) (by omega) (lnM _ (by omega) (by omega)) (ln6 _ (by omega) (by omega)) (lnM _ (by omega) (by omega)) (lnM _ (by omega) (by omega)) (ln6 _ (by omega) (by omega)) h1 (by omega) rfl
      rfl hg.1 eQ rfl (lnM _ (by omega) hg.2) (lnM _ (by omega) (by omega)) (ln6 _ (by omega) (by omega)) hmin.2
theorem lefevreThree_ok {b0 b1 b2 : Bool} {x0 x1 x2 : List Int} {N : Int} (h0 : Lim B64 x0) (h1 : Lim B64 x1) (h2 : Lim B64 x2) (hN : (Lit.int .i64 N).wf = true) :
    ACall Try.prog 25 [.agg [.raw (.bool b0), .ns .u64 x0, .raw (.bool b1), .ns .u64 x1, .raw (.bool b2), .ns .u64 x2, .raw (.int .i64 N)]] (.raw (.bool true)) := by
  obtain ⟨N1, N2⟩ := rng64 hN
  have hE := env (SOK.cons shown15_ok (SOK.cons fits_ok (SOK.cons rzsign_ok (SOK.cons gaps_ok (SOK.nil (P := Try.prog))))))
  refine ACall.body hE Try.func25 Try.ntmps25 Try.results25 ?_
  obtain ⟨F, eF⟩ : ∃ F, fitB x0 x1 x2 2 = F := ⟨_, rfl⟩
  cases F
  · refine wk hE eF ?_
    exact PostL.mk trivial rfl
  obtain ⟨l0, l1, l2⟩ := fit_true eF
  have m0 := lm_of h0 (k := 2) (by omega) (by decide)
  have m2 := lm_of h2 (k := 2) (by omega) (by decide)
  obtain ⟨A, eA⟩ : ∃ A, zv b0 x0 = A := ⟨_, rfl⟩
  obtain ⟨M, eM⟩ : ∃ M, zv b2 x2 = M := ⟨_, rfl⟩
  by_cases hb : badL M N
  · have eR : gRes A M N = .tup [.nul, .ns .i64 [], .raw (.int .i64 1)] := if_pos hb
    by_cases hs : M.sign < 1
    · refine wk hE (And.intro eF (And.intro eA (And.intro eM (And.intro eR hs)))) ?_
      exact PostL.mk trivial rfl
    have hn1 : N < 1 := by have := @sign_lt1 M; unfold badL at hb; omega
    refine wk hE (And.intro eF (And.intro eA (And.intro eM (And.intro eR (And.intro hs hn1))))) ?_
    exact PostL.mk trivial rfl
  have hM : 0 < M := by unfold badL at hb; omega
  have hN1 : 1 ≤ N := by unfold badL at hb; omega
  have hs : ¬ M.sign < 1 := fun h => by have := sign_lt1.1 h; omega
  have hn1 : ¬ N < 1 := by omega
  have hG := gL_ok (a := A) (show 1 ≤ M by omega) hN1
  have eR : gRes A M N = .tup [.sl 2 (gL A M N).length (cellsZ ((gL A M N).map (·.1))), .ns .i64 ((gL A M N).map (·.2)), .raw (.int .i64 0)] := if_neg hb
  obtain ⟨l, el⟩ : ∃ l, gL A M N = l := ⟨_, rfl⟩
  rw [el] at hG eR
  obtain ⟨C, eC⟩ : ∃ C, cellsZ (l.map (·.1)) = C := ⟨_, rfl⟩
  obtain ⟨D, eD⟩ : ∃ D, l.map (·.2) = D := ⟨_, rfl⟩
  obtain ⟨n, en⟩ : ∃ n, l.length = n := ⟨_, rfl⟩
  have hT := three_any (b1 := b1) (x1 := x1) ⟨m0, by omega⟩ ⟨m2, by omega⟩ eA eM hM hN1 N2 hG
  rw [eC, eD, en] at eR hT
  refine wkR hE trivial ?_
  refine wkR hE trivial ?_
  refine AWp.seqJ (ι := Unit) (fun _ => ⟨[(1, .ptr 1 0), (3, .raw (.bool true))], [(1, ⟨true, .c [.raw (.bool b0), .ns .u64 x0, .raw (.bool b1), .ns .u64 x1, .raw (.bool b2), .ns .u64 x2, .raw (.int .i64 N)]⟩)]⟩) ?_ (fun _ => ?_)
  · refine wk hE eF ?_
    exact ⟨(), Le.mk trivial⟩
  refine wkR hE (And.intro eA (And.intro eM eR)) ?_
  refine AWp.seqJ (ι := Unit) (fun _ => ⟨[(1, .ptr 1 0), (3, .raw (.bool true)), (4, .sl 2 n C), (5, .ns .i64 D), (6, .raw (.int .i64 0))], [(1, ⟨true, .c [.raw (.bool b0), .ns .u64 x0, .raw (.bool b1), .ns .u64 x1, .raw (.bool b2), .ns .u64 x2, .raw (.int .i64 N)]⟩)]⟩) ?_ (fun _ => hT)
  refine wk hE (And.intro eM (And.intro hs hn1)) ?_
  exact ⟨(), Le.mk trivial⟩
end Go.Hl

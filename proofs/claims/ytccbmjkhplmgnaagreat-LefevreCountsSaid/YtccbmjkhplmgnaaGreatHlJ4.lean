/- LefevreLeasts, LefevreCounts -/
import Derived.Test.YtccbmjkhplmgnaaGreatHlJ2
import Derived.Test.YtccbmjkhplmgnaaGreatHlJ3
import Derived.Test.YtccbmjkhplmgnaaGreatHlK
import Derived.Test.YtccbmjkhplmgnaaGreatHlX
import Derived.Test.YtccbmjkhplmgnaaGreatHlW
set_option linter.unusedVariables false
set_option linter.unusedSimpArgs false
namespace Go.Hl
open Go Go.RowKit Go.Proofs
set_option maxHeartbeats 16000000
set_option maxRecDepth 100000
theorem rng8 {n : Int} (h : (Lit.int .i8 n).wf = true) : -128 ≤ n ∧ n < 128 := by
  have h : (decide (IntKind.i8.min ≤ n) && decide (n ≤ IntKind.i8.max)) = true := h
  rw [Bool.and_eq_true, decide_eq_true_iff, decide_eq_true_iff, show IntKind.i8.min = -128 from rfl, show IntKind.i8.max = 127 from rfl] at h
  omega
theorem lV_le {a b m n : Int} : (lV a b m n).natAbs ≤ m.natAbs := by
  unfold lV
  by_cases h : badL m n
  · rw [if_pos h]; exact Nat.zero_le _
  · rw [if_neg h]
    have h : ¬ (m < 1 ∨ n < 1) := h
    have := mV_bd (a := a) (b := b) (m := m) (n := n) (by omega) (by omega)
    omega
theorem nV_le {a b m n : Int} : (nV a b m n).natAbs ≤ m.natAbs := by
  by_cases h : badL m n
  · unfold nV; rw [if_pos h]; exact Nat.zero_le _
  · have h : ¬ (m < 1 ∨ n < 1) := h
    have := nV_bd (a := a) (b := b) (m := m) (n := n) (by omega) (by omega)
    omega
theorem lefevreLeasts_ok {b0 b1 b2 : Bool} {x0 x1 x2 : List Int} {N : Int} (h0 : Lim B64 x0) (h1 : Lim B64 x1) (h2 : Lim B64 x2) (hN : (Lit.int .i64 N).wf = true) :
    ACall Tryz.prog 3 [.agg [.raw (.bool b0), .ns .u64 x0, .raw (.bool b1), .ns .u64 x1, .raw (.bool b2), .ns .u64 x2, .raw (.int .i64 N)]] (.raw (.bool true)) := by
  obtain ⟨N1, N2⟩ := rng64 hN
  have hEv := env (SOK.cons shown15_ok (SOK.cons fits_ok (SOK.cons own_ok (SOK.cons rleastX_ok (SOK.cons leastX_ok (SOK.cons rnear_ok (SOK.cons near_ok (SOK.cons exact_ok (SOK.cons kept_ok (SOK.nil (P := Tryz.prog)))))))))))
  refine ACall.body hEv Tryz.func3 Tryz.ntmps3 Tryz.results3 ?_
  obtain ⟨F, eF⟩ : ∃ F, fitB x0 x1 x2 2 = F := ⟨_, rfl⟩
  cases F
  · refine wk hEv eF ?_
    exact PostL.mk trivial rfl
  obtain ⟨l0, l1, l2⟩ := fit_true eF
  have m0 := lm_of h0 (k := 2) (by omega) (by decide)
  have m1 := lm_of h1 (k := 2) (by omega) (by decide)
  have m2 := lm_of h2 (k := 2) (by omega) (by decide)
  have bM := zv_abs_lt (b := b2) m2 (l := 2) (by omega)
  have bV := Nat.lt_of_le_of_lt (lV_le (a := zv b0 x0) (b := zv b1 x1) (m := zv b2 x2) (n := N)) bM
  have bX := Nat.lt_of_le_of_lt (nV_le (a := zv b0 x0) (b := zv b1 x1) (m := zv b2 x2) (n := N)) bM
  obtain ⟨oV1, _, oV2⟩ := dgl bV (by decide)
  obtain ⟨oX1, _, oX2⟩ := dgl bX (by decide)
  obtain ⟨K, eK⟩ : ∃ K, lK (zv b0 x0) (zv b1 x1) (zv b2 x2) N = K := ⟨_, rfl⟩
  obtain ⟨V, eV⟩ : ∃ V, lV (zv b0 x0) (zv b1 x1) (zv b2 x2) N = V := ⟨_, rfl⟩
  obtain ⟨E, eE⟩ : ∃ E, lE (zv b2 x2) N = E := ⟨_, rfl⟩
  obtain ⟨O, eO⟩ : ∃ K, nK (zv b0 x0) (zv b1 x1) (zv b2 x2) N = K := ⟨_, rfl⟩
  obtain ⟨X, eX⟩ : ∃ V, nV (zv b0 x0) (zv b1 x1) (zv b2 x2) N = V := ⟨_, rfl⟩
  rw [eV] at oV1 oV2
  rw [eX] at oX1 oX2
  clear bM bV bX
  have kk : (K == K) = true := beq_self_eq_true _
  have oo : (O == O) = true := beq_self_eq_true _
  have ee : (E == E) = true := beq_self_eq_true _
  have v1 : decide (dg V.natAbs = dg V.natAbs) = true := decide_eq_true rfl
  have v2 : (decide (V < 0) == decide (V < 0)) = true := beq_self_eq_true _
  have w1 : decide (dg X.natAbs = dg X.natAbs) = true := decide_eq_true rfl
  have w2 : (decide (X < 0) == decide (X < 0)) = true := beq_self_eq_true _
  refine wk hEv (And.intro eF (And.intro eK (And.intro eV (And.intro eE (And.intro eO (And.intro eX (And.intro kk (And.intro oo (And.intro ee (And.intro v1 (And.intro v2 (And.intro w1 w2)))))))))))) ?_
  exact PostL.mk trivial rfl
theorem lefevreCounts_ok {b0 b1 b2 b3 : Bool} {x0 x1 x2 x3 : List Int} {N most : Int} (h0 : Lim B64 x0) (h1 : Lim B64 x1) (h2 : Lim B64 x2) (hN : (Lit.int .i64 N).wf = true) (h3 : Lim B64 x3) (hmo : (Lit.int .i8 most).wf = true) :
    ACall Tryz.prog 4 [.agg [.raw (.bool b0), .ns .u64 x0, .raw (.bool b1), .ns .u64 x1, .raw (.bool b2), .ns .u64 x2, .raw (.int .i64 N)], .agg [.raw (.bool b3), .ns .u64 x3], .raw (.int .i8 most)] (.raw (.bool true)) := by
  obtain ⟨N1, N2⟩ := rng64 hN
  obtain ⟨M1, M2⟩ := rng8 hmo
  have hEv := env (SOK.cons shown15_ok (SOK.cons fits_ok (SOK.cons own_ok (SOK.cons rmany_ok (SOK.cons many_ok (SOK.cons rhits_ok (SOK.cons hits_ok (SOK.cons sameI_ok (SOK.cons kept_ok (SOK.nil (P := Tryz.prog)))))))))))
  refine ACall.body hEv Tryz.func4 Tryz.ntmps4 Tryz.results4 ?_
  obtain ⟨F, eF⟩ : ∃ F, fitB x0 x1 x2 2 = F := ⟨_, rfl⟩
  cases F
  · refine wk hEv eF ?_
    exact PostL.mk trivial rfl
  obtain ⟨l0, l1, l2⟩ := fit_true eF
  have m0 := lm_of h0 (k := 2) (by omega) (by decide)
  have m1 := lm_of h1 (k := 2) (by omega) (by decide)
  have m2 := lm_of h2 (k := 2) (by omega) (by decide)
  by_cases hl3 : 2 < (x3.length : Int)
  · refine wk hEv (And.intro eF hl3) ?_
    exact PostL.mk trivial rfl
  have m3 := lm_of h3 (k := 2) (by omega) (by decide)
  by_cases hm5 : 5 < most
  · refine wk hEv (And.intro eF (And.intro hl3 hm5)) ?_
    exact PostL.mk trivial rfl
  have tl : (hT (zv b0 x0) (zv b1 x1) (zv b2 x2) (zv b3 x3) N most).length < 1000000 := by
    unfold hT
    split
    · decide
    · rw [List.length_take]; omega
  obtain ⟨K, eK⟩ : ∃ K, wK (zv b0 x0) (zv b1 x1) (zv b2 x2) (zv b3 x3) N = K := ⟨_, rfl⟩
  obtain ⟨E, eE⟩ : ∃ E, wE (zv b2 x2) (zv b3 x3) N = E := ⟨_, rfl⟩
  obtain ⟨T, eT⟩ : ∃ K, hT (zv b0 x0) (zv b1 x1) (zv b2 x2) (zv b3 x3) N most = K := ⟨_, rfl⟩
  obtain ⟨Mo, eM⟩ : ∃ K, hM (zv b0 x0) (zv b1 x1) (zv b2 x2) (zv b3 x3) N most = K := ⟨_, rfl⟩
  obtain ⟨G, eG⟩ : ∃ K, hE (zv b2 x2) (zv b3 x3) N most = K := ⟨_, rfl⟩
  rw [eT] at tl
  have kk : (K == K) = true := beq_self_eq_true _
  have ee : (E == E) = true := beq_self_eq_true _
  have tt : decide (T = T) = true := decide_eq_true rfl
  have mm : (Mo == Mo) = true := beq_self_eq_true _
  have gg : (G == G) = true := beq_self_eq_true _
  refine wk hEv (And.intro eF (And.intro hl3 (And.intro hm5 (And.intro eK (And.intro eE (And.intro eT (And.intro eM (And.intro eG (And.intro kk (And.intro ee (And.intro tt (And.intro mm gg)))))))))))) ?_
  exact PostL.mk trivial rfl
end Go.Hl

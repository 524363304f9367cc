/- LefevreDirichlet -/
import Derived.Test.YtccbmjkhplmgnaaHlW1
set_option linter.unusedVariables false
set_option linter.unusedSimpArgs false
namespace Go.Hl
open Go Go.RowKit Go.Proofs
set_option maxHeartbeats 8000000

theorem lm_of {xs : List Int} (h : Lim B64 xs) {k : Nat} (hl : xs.length ≤ k) (hk : k < 1000000) : Lm xs := ⟨h, by omega⟩
theorem fit_true {x0 x1 x2 : List Int} {l : Int} (h : fitB x0 x1 x2 l = true) : (x0.length : Int) ≤ l ∧ (x1.length : Int) ≤ l ∧ (x2.length : Int) ≤ l := of_decide_eq_true h
theorem nV_bd {a b m n : Int} (hm : 0 < m) (hn : 1 ≤ n) : 0 ≤ nV a b m n ∧ nV a b m n < m ∧ (∀ k, 0 ≤ k → k < n → nV a b m n ≤ (a * k + b) % m) ∧ (∀ k, 0 ≤ k → k < n → nV a b m n ≤ (-a * k + -b) % m) := by
  have h1 := mV_rng (a := a) (b := b) hm hn
  have h2 := mV_rng (a := -a) (b := -b) hm hn
  have b1 := mV_bd (a := a) (b := b) hm hn
  have b2 := mV_bd (a := -a) (b := -b) hm hn
  unfold nV
  rw [if_neg (by unfold badL; omega)]
  split
  · refine ⟨b2.1, b2.2, fun k k0 k1 => ?_, fun k k0 k1 => h2.2 k k0 k1⟩
    have : mV a b m n ≤ (a * k + b) % m := h1.2 k k0 k1
    omega
  · refine ⟨b1.1, b1.2, fun k k0 k1 => h1.2 k k0 k1, fun k k0 k1 => ?_⟩
    have : mV (-a) (-b) m n ≤ (-a * k + -b) % m := h2.2 k k0 k1
    omega

theorem lefevreDirichlet_ok {b0 b1 b2 : Bool} {x0 x1 x2 : List Int} {n : Int} (h0 : Lim B64 x0) (h1 : Lim B64 x1) (h2 : Lim B64 x2) (hn : (Lit.int .i64 n).wf = true) :
    ACall Try.prog 29 [.agg [.raw (.bool b0), .ns .u64 x0, .raw (.bool b1), .ns .u64 x1, .raw (.bool b2), .ns .u64 x2, .raw (.int .i64 n)]] (.raw (.bool true)) := by
  obtain ⟨n1, n2⟩ := rng64 hn
  have hE := env (SOK.cons shown15_ok (SOK.cons fits_ok (SOK.cons rzsign_ok (SOK.cons near_ok (SOK.cons num_ok (SOK.cons rzadd_ok (SOK.cons rzmul_ok (SOK.cons rzcmp_ok (SOK.nil (P := Try.prog))))))))))
  refine ACall.body hE Try.func29 Try.ntmps29 Try.results29 ?_
  obtain ⟨F, eF⟩ : ∃ F, fitB x0 x1 x2 2 = F := ⟨_, rfl⟩
  cases F
  · refine wk hE eF ?_
    exact PostL.mk trivial rfl
  obtain ⟨l0, l1, l2⟩ := fit_true eF
  have m0 := lm_of h0 (k := 2) (by omega) (by decide)
  have m2 := lm_of h2 (k := 2) (by omega) (by decide)
  obtain ⟨A, eA⟩ : ∃ A, zv b0 x0 = A := ⟨_, rfl⟩
  obtain ⟨M, eM⟩ : ∃ M, zv b2 x2 = M := ⟨_, rfl⟩
  have bM := zv_abs_lt (b := b2) m2 (l := 2) (by omega)
  rw [eM] at bM
  by_cases hs : M.sign < 1
  · refine wk hE (And.intro eF (And.intro eM hs)) ?_
    exact PostL.mk trivial rfl
  by_cases hn1 : n < 1
  · refine wk hE (And.intro eF (And.intro eM (And.intro hs hn1))) ?_
    exact PostL.mk trivial rfl
  have hM : 0 < M := by have := @sign_lt1 M; omega
  obtain ⟨d0, dM, dk1, dk2⟩ := nV_bd (a := A) (b := A) hM (show 1 ≤ n by omega)
  have hd := dirichlet hM (show 1 ≤ n by omega) dk1 dk2 dM
  have eE : lE M n = 0 := by unfold lE; rw [if_neg (by unfold badL; omega)]
  obtain ⟨K, eK⟩ : ∃ K, nK A A M n = K := ⟨_, rfl⟩
  obtain ⟨D, eD⟩ : ∃ D, nV A A M n = D := ⟨_, rfl⟩
  rw [eD] at d0 dM hd
  obtain ⟨N1, eN1⟩ : ∃ N1, n + 1 = N1 := ⟨_, rfl⟩
  rw [eN1] at hd
  obtain ⟨P, eP⟩ : ∃ P, D * N1 = P := ⟨_, rfl⟩
  rw [eP] at hd
  have hc : cmpZ P M ≤ 0 := cmp_le0.2 hd
  have P0 : 0 ≤ P := by rw [← eP]; exact Int.mul_nonneg d0 (by omega)
  have fit : ∀ z : Int, z.natAbs < B64 ^ 2 → Lm (dg z.natAbs) ∧ (dg z.natAbs).length < 1000 := fun z h => by
    obtain ⟨f1, _, f2⟩ := dgl h (by omega)
    exact ⟨f1, by omega⟩
  have e64 : B64 ^ 2 = B64 * B64 := Nat.pow_two _
  obtain ⟨oD1, oD2⟩ := fit D (by omega)
  obtain ⟨oP1, oP2⟩ := fit P (by omega)
  obtain ⟨oN1, oN2⟩ := fit n (by rw [e64]; unfold B64; omega)
  obtain ⟨oM1, oM2⟩ := fit N1 (by rw [e64]; unfold B64; omega)
  have hone : zv false (dg (Int.natAbs 1)) = 1 := zv_zi 1
  obtain ⟨c1, c1'⟩ := nat_abs_lt (z := 1) (l := 1) (by decide) (by omega)
  clear fit e64 dk1 dk2 h0 h1 h2 hd P0
  refine wk hE (And.intro eF (And.intro eA (And.intro eM (And.intro hs (And.intro hn1 (And.intro eE (And.intro eK (And.intro eD (And.intro eN1 (And.intro eP (And.intro hone hc))))))))))) ?_
  exact PostL.mk trivial rfl
end Go.Hl

/- LefevreSides, joined -/
import Derived.Test.YtccbmjkhplmgnaaHlW3
set_option linter.unusedVariables false
set_option linter.unusedSimpArgs false
namespace Go.Hl
open Go Go.RowKit Go.Proofs
set_option maxHeartbeats 8000000
theorem lefevreSides_ok {b0 b1 b2 : Bool} {x0 x1 x2 : List Int} {n : Int} (h0 : Lim B64 x0) (h1 : Lim B64 x1) (h2 : Lim B64 x2) (hn : (Lit.int .i64 n).wf = true) :
    ACall Try.prog 28 [.agg [.raw (.bool b0), .ns .u64 x0, .raw (.bool b1), .ns .u64 x1, .raw (.bool b2), .ns .u64 x2, .raw (.int .i64 n)]] (.raw (.bool true)) := by
  obtain ⟨n1, n2⟩ := rng64 hn
  have hE := env (SOK.cons shown15_ok (SOK.cons fits_ok (SOK.cons rzsign_ok (SOK.nil (P := Try.prog)))))
  refine ACall.body hE Try.func28 Try.ntmps28 Try.results28 ?_
  obtain ⟨F, eF⟩ : ∃ F, fitB x0 x1 x2 1 = F := ⟨_, rfl⟩
  cases F
  · refine wk hE eF ?_
    exact PostL.mk trivial rfl
  obtain ⟨l0, l1, l2⟩ := fit_true eF
  have m0 := lm_of h0 (k := 1) (by omega) (by decide)
  have m1 := lm_of h1 (k := 1) (by omega) (by decide)
  have m2 := lm_of h2 (k := 1) (by omega) (by decide)
  obtain ⟨A, eA⟩ : ∃ A, zv b0 x0 = A := ⟨_, rfl⟩
  obtain ⟨B, eB⟩ : ∃ B, zv b1 x1 = B := ⟨_, rfl⟩
  obtain ⟨M, eM⟩ : ∃ M, zv b2 x2 = M := ⟨_, rfl⟩
  by_cases hs : M.sign < 1
  · refine wk hE (And.intro eF (And.intro eM hs)) ?_
    exact PostL.mk trivial rfl
  by_cases hn1 : n < 1
  · refine wk hE (And.intro eF (And.intro eM (And.intro hs hn1))) ?_
    exact PostL.mk trivial rfl
  refine wk hE (And.intro eF (And.intro eM hs)) ?_
  refine AWp.test trivial (fun hc => absurd (of_decide_eq_true hc) hn1) (fun _ => ?_)
  refine AWp.skip ?_
  refine AWp.weak (σ' := ⟨[(1, .ptr 1 0), (3, .raw (.bool true))], [(1, ⟨true, .c [.raw (.bool b0), .ns .u64 x0, .raw (.bool b1), .ns .u64 x1, .raw (.bool b2), .ns .u64 x2, .raw (.int .i64 n)]⟩)]⟩) (Le.mk trivial) ?_
  change AWp Try.prog (tab false) 168 (tl 3 (Try.f28.body.getD .skip)) (PostL (tab false) [.tmp 2] [4] (.raw (.bool true))) _
  clear hE
  have bA := zv_abs_lt (b := b0) m0 (l := 1) (by omega)
  have bB := zv_abs_lt (b := b1) m1 (l := 1) (by omega)
  have bM := zv_abs_lt (b := b2) m2 (l := 1) (by omega)
  rw [eA] at bA
  rw [eB] at bB
  rw [eM] at bM
  have hM : 0 < M := by have := @sign_lt1 M; omega
  have hN : 1 ≤ n := by omega
  have kc := near_cases (a := A) (b := B) hM hN
  have bV := mV_bd (a := A) (b := B) hM hN
  have bW := mV_bd (a := -A) (b := -B) hM hN
  have bl := least_at (a := A) (b := B) hM hN
  have hno := least_none (a := A) (b := B) hM hN
  have eE : lE M n = 0 := by unfold lE; rw [if_neg (by unfold badL; omega)]
  have eL : lK A B M n = mK A B M n := by unfold lK; rw [if_neg (by unfold badL; omega)]
  have eV : lV A B M n = mV A B M n := by unfold lV; rw [if_neg (by unfold badL; omega)]
  have eL' : lK (-A) (-B) M n = mK (-A) (-B) M n := by unfold lK; rw [if_neg (by unfold badL; omega)]
  have eV' : lV (-A) (-B) M n = mV (-A) (-B) M n := by unfold lV; rw [if_neg (by unfold badL; omega)]
  obtain ⟨L, fL⟩ : ∃ L, mK A B M n = L := ⟨_, rfl⟩
  obtain ⟨V, fV⟩ : ∃ V, mV A B M n = V := ⟨_, rfl⟩
  obtain ⟨L', fL'⟩ : ∃ L, mK (-A) (-B) M n = L := ⟨_, rfl⟩
  obtain ⟨W, fW⟩ : ∃ W, mV (-A) (-B) M n = W := ⟨_, rfl⟩
  obtain ⟨D, eD⟩ : ∃ D, nV A B M n = D := ⟨_, rfl⟩
  obtain ⟨K, eK⟩ : ∃ K, nK A B M n = K := ⟨_, rfl⟩
  rw [eK, eD, fL, fV, fL', fW] at kc
  rw [fV] at bV hno eV
  rw [fW] at bW eV'
  rw [fL, fV] at bl
  rw [fL] at eL
  rw [fL'] at eL'
  obtain ⟨kc, kd1, kd2⟩ := kc
  have fit : ∀ {z : Int} {k : Nat}, k < 900 → z.natAbs < B64 ^ k → Lm (dg z.natAbs) ∧ (dg z.natAbs).length < 1000 := fun hk h => by
    obtain ⟨f1, _, f2⟩ := dgl h (by omega)
    exact ⟨f1, by omega⟩
  obtain ⟨oa1, oa2⟩ := fit (z := -A) (k := 1) (by decide) (by omega)
  obtain ⟨ob1, ob2⟩ := fit (z := -B) (k := 1) (by decide) (by omega)
  obtain ⟨oV1, oV2⟩ := fit (z := V) (k := 1) (by decide) (by omega)
  obtain ⟨oW1, oW2⟩ := fit (z := W) (k := 1) (by decide) (by omega)
  have bL : L.natAbs < B64 ^ 1 := by rw [Nat.pow_one]; unfold B64; omega
  obtain ⟨oL1, oL2⟩ := fit (z := L) (k := 1) (by decide) bL
  have bP : (A * L).natAbs < B64 ^ 2 := by
    rw [Int.natAbs_mul, show B64 ^ 2 = B64 ^ 1 * B64 ^ 1 by decide]
    exact Nat.mul_lt_mul'' bA bL
  have bS : (A * L + B).natAbs < B64 ^ 3 := by
    have h := powA bP (show B.natAbs < B64 ^ 2 from Nat.lt_of_lt_of_le bB (by decide))
    exact Nat.lt_of_le_of_lt (Int.natAbs_add_le (A * L) B) h
  obtain ⟨oP1, oP2⟩ := fit (z := A * L) (k := 2) (by decide) bP
  obtain ⟨oS1, oS2⟩ := fit (z := A * L + B) (k := 3) (by decide) bS
  have bU : (V - 1).natAbs < B64 ^ 2 := Nat.lt_of_le_of_lt (show (V - 1).natAbs ≤ B64 ^ 1 by omega) (by decide)
  obtain ⟨oU1, oU2⟩ := fit (z := V - 1) (k := 2) (by decide) bU
  refine sides_a m0 m1 m2 (by omega) (by omega) (by omega) hN n2 eA eB eM eE rfl rfl eK eD (eL.trans rfl) eV eL' eV' oa1 oa2 ob1 ob2 ?_
  refine sides_b kc kd1 kd2 oV1 oV2 oW1 oW2 ?_
  exact sides_c m0 m1 m2 (by omega) (by omega) (by omega) hM hN n2 eA eB eM rfl rfl bl.1 bl.2 bV.1 hno rfl oL1 oL2 oP1 oP2 oS1 oS2 oV1 oV2 oU1 oU2
end Go.Hl

/- lefevre's laws: a line; fits LefevreDirichlet -/
import Derived.Test.YtccbmjkhplmgnaaGreatHlX
import Derived.Test.YtccbmjkhplmgnaaGreatHlY
set_option linter.unusedVariables false
set_option linter.unusedSimpArgs false
namespace Go.Hl
open Go Go.RowKit Go.Proofs
set_option maxHeartbeats 8000000
@[push_cast] def spLI (k : Nat) (pre : Bool → List Int → Bool → List Int → Bool → List Int → Int → Int → Prop) (res : Bool → List Int → Bool → List Int → Bool → List Int → Int → Int → AV) : Sp where
  kind := k
  pre | [.agg [.raw (.bool b0), .ns .u64 x0, .raw (.bool b1), .ns .u64 x1, .raw (.bool b2), .ns .u64 x2, .raw (.int .i64 n)], .raw (.int .i64 l)] => pre b0 x0 b1 x1 b2 x2 n l
      | _ => False
  res | [.agg [.raw (.bool b0), .ns .u64 x0, .raw (.bool b1), .ns .u64 x1, .raw (.bool b2), .ns .u64 x2, .raw (.int .i64 n)], .raw (.int .i64 l)] => res b0 x0 b1 x1 b2 x2 n l
      | _ => .any
theorem SpOK.LI {P : Program} {f : FuncId} {pre : Bool → List Int → Bool → List Int → Bool → List Int → Int → Int → Prop} {res : Bool → List Int → Bool → List Int → Bool → List Int → Int → Int → AV}
    (h : ∀ b0 x0 b1 x1 b2 x2 n l, pre b0 x0 b1 x1 b2 x2 n l → ACall P f [.agg [.raw (.bool b0), .ns .u64 x0, .raw (.bool b1), .ns .u64 x1, .raw (.bool b2), .ns .u64 x2, .raw (.int .i64 n)], .raw (.int .i64 l)] (res b0 x0 b1 x1 b2 x2 n l)) : SpOK P f (spLI 0 pre res) := by
  refine SpOK.zero rfl fun args hp => ?_
  simp only [spLI] at hp ⊢
  split at hp
  · exact h _ _ _ _ _ _ _ _ hp
  · exact hp.elim
def fitB (x0 x1 x2 : List Int) (l : Int) : Bool := decide ((x0.length : Int) ≤ l ∧ (x1.length : Int) ≤ l ∧ (x2.length : Int) ≤ l)
@[push_cast] def spFits : Sp := spLI 0 (fun _ _ _ _ _ _ _ _ => True) (fun _ x0 _ x1 _ x2 _ l => .raw (.bool (fitB x0 x1 x2 l)))
theorem fits_ok : SpOK Tryz.prog 6 spFits := by
  refine SpOK.LI fun b0 x0 b1 x1 b2 x2 n l _ => ?_
  have hE := env (SOK.nil (P := Tryz.prog))
  refine ACall.body hE Tryz.func6 Tryz.ntmps6 Tryz.results6 ?_
  by_cases h0 : (x0.length : Int) ≤ l
  · by_cases h1 : (x1.length : Int) ≤ l
    · by_cases h2 : (x2.length : Int) ≤ l
      · refine wk hE (And.intro h0 (And.intro h1 h2)) ?_
        refine PostL.mk trivial ?_
        rw [show fitB x0 x1 x2 l = true from decide_eq_true ⟨h0, h1, h2⟩]
      · have h2' := decide_eq_false h2
        refine wk hE (And.intro h0 (And.intro h1 h2')) ?_
        refine PostL.mk trivial ?_
        rw [show fitB x0 x1 x2 l = false from decide_eq_false (fun h => h2 h.2.2)]
    · have h1' := decide_eq_false h1
      refine wk hE (And.intro h0 h1') ?_
      refine PostL.mk trivial ?_
      rw [show fitB x0 x1 x2 l = false from decide_eq_false (fun h => h1 h.2.1)]
  · have h0' := decide_eq_false h0
    refine wk hE h0' ?_
    refine PostL.mk trivial ?_
    rw [show fitB x0 x1 x2 l = false from decide_eq_false (fun h => h0 h.1)]
theorem php : ∀ (m N : Nat) (f : Nat → Nat), (∀ j, j < N → f j < m) → (∀ i j, i < j → j < N → f i ≠ f j) → N ≤ m
  | 0, N, f, h1, _ => by
    rcases Nat.eq_zero_or_pos N with h | h
    · omega
    · have := h1 0 h; omega
  | m + 1, N, f, h1, h2 => by
    by_cases h : ∃ j0, j0 < N ∧ f j0 = m
    · obtain ⟨j0, hj0, hf⟩ := h
      have := php m (N - 1) (fun j => f (if j < j0 then j else j + 1)) (fun j hj => by
        try dsimp only
        have hlt : (if j < j0 then j else j + 1) < N := by split <;> omega
        have hne : (if j < j0 then j else j + 1) ≠ j0 := by split <;> omega
        have := h1 _ hlt
        have h3 : f (if j < j0 then j else j + 1) ≠ m := fun e => by
          rcases Nat.lt_or_gt_of_ne hne with h | h
          · exact h2 _ _ h hj0 (by rw [e, hf])
          · exact h2 _ _ h hlt (by rw [e, hf])
        omega) (fun i j hij hj => by
        try dsimp only
        refine h2 _ _ ?_ ?_
        · split <;> split <;> omega
        · split <;> omega)
      omega
    · have := php m N f (fun j hj => by
        have := h1 j hj
        have h3 : f j ≠ m := fun e => h ⟨j, hj, e⟩
        omega) h2
      omega
theorem isM_le {a b m n v : Int} (h : IsM a b m n v) {k : Int} (k0 : 0 ≤ k) (k1 : k < n) : v ≤ Vk a b m k := h.2 k k0 k1
theorem dirichlet {a m n d : Int} (hm : 0 < m) (hn : 1 ≤ n) (h1 : ∀ k, 0 ≤ k → k < n → d ≤ (a * k + a) % m) (h2 : ∀ k, 0 ≤ k → k < n → d ≤ (-a * k + -a) % m) (hdm : d < m) : d * (n + 1) ≤ m := by
  rcases Int.lt_or_le d 1 with hd | hd
  · have : d * (n + 1) ≤ 0 := Int.mul_nonpos_of_nonpos_of_nonneg (by omega) (by omega)
    omega
  obtain ⟨D, rfl⟩ : ∃ D : Nat, d = D := ⟨d.toNat, by omega⟩
  obtain ⟨M, rfl⟩ : ∃ M : Nat, m = M := ⟨m.toNat, by omega⟩
  obtain ⟨Nn, rfl⟩ : ∃ N : Nat, n = N := ⟨n.toNat, by omega⟩
  have hD : 0 < D := by omega
  have key := php M (D * (Nn + 1)) (fun j => ((a * ((j / D : Nat) : Int) + ((j % D : Nat) : Int)) % (M : Int)).toNat) (fun j _ => by
    have := mod_rng (a * ((j / D : Nat) : Int) + ((j % D : Nat) : Int)) hm
    omega) (fun i j hij hj => by
    try dsimp only
    intro e
    have e1 := mod_rng (a * ((i / D : Nat) : Int) + ((i % D : Nat) : Int)) hm
    have e2 := mod_rng (a * ((j / D : Nat) : Int) + ((j % D : Nat) : Int)) hm
    have e3 : (a * ((i / D : Nat) : Int) + ((i % D : Nat) : Int)) % (M : Int) = (a * ((j / D : Nat) : Int) + ((j % D : Nat) : Int)) % (M : Int) := by omega
    have hq : i / D ≤ j / D := Nat.div_le_div_right (by omega)
    have hjq : j / D < Nn + 1 := Nat.div_lt_of_lt_mul hj
    have ri := Nat.mod_lt i hD
    have rj := Nat.mod_lt j hD
    have di := Nat.div_add_mod i D
    have dj := Nat.div_add_mod j D
    obtain ⟨q, hqe⟩ : ∃ q, i / D = q := ⟨_, rfl⟩
    obtain ⟨p, hpe⟩ : ∃ p, j / D = p := ⟨_, rfl⟩
    obtain ⟨r, hre⟩ : ∃ r, i % D = r := ⟨_, rfl⟩
    obtain ⟨s, hse⟩ : ∃ s, j % D = s := ⟨_, rfl⟩
    rw [hqe, hre] at e3 di
    rw [hpe, hse] at e3 dj
    rw [hqe, hpe] at hq
    rw [hpe] at hjq
    rw [hre] at ri
    rw [hse] at rj
    have h3 := Int.emod_emod_of_dvd
    have hdiv : (M : Int) ∣ (a * p + s) - (a * q + r) := Int.dvd_of_emod_eq_zero (Int.emod_eq_emod_iff_emod_sub_eq_zero.1 e3.symm)
    rcases Nat.eq_or_lt_of_le hq with hqp | hqp
    · subst hqp
      obtain ⟨c, hc⟩ := hdiv
      have h4 : (s : Int) - r = M * c := by omega
      have h5 : r < s := by omega
      have h6 : 0 < c := by
        rcases Int.lt_or_le 0 c with h | h
        · exact h
        · have := Int.mul_nonpos_of_nonneg_of_nonpos (show (0 : Int) ≤ M by omega) h
          omega
      have : (M : Int) * 1 ≤ M * c := Int.mul_le_mul_of_nonneg_left (by omega) (by omega)
      omega
    · obtain ⟨c, hc⟩ := hdiv
      have hk : ((p - q - 1 : Nat) : Int) = (p : Int) - q - 1 := by omega
      rcases Nat.lt_or_ge s r with hsr | hsr
      · -- a (p - q) = r - s mod M
        have h4 : (a * ((p - q - 1 : Nat) : Int) + a) % M = (r : Int) - s := by
          have : a * ((p - q - 1 : Nat) : Int) + a = (r - s) + M * c := by rw [hk, ← hc]; grind
          rw [this, Int.add_mul_emod_self_left]
          exact Int.emod_eq_of_lt (by omega) (by omega)
        have := h1 ((p - q - 1 : Nat) : Int) (by omega) (by omega)
        omega
      · have h4 : (-a * ((p - q - 1 : Nat) : Int) + -a) % M = (s : Int) - r := by
          have : -a * ((p - q - 1 : Nat) : Int) + -a = (s - r) + M * (-c) := by
            have : M * (-c) = -(M * c) := Int.mul_neg _ _
            rw [hk, this, ← hc]; grind
          rw [this, Int.add_mul_emod_self_left]
          exact Int.emod_eq_of_lt (by omega) (by omega)
        have := h2 ((p - q - 1 : Nat) : Int) (by omega) (by omega)
        omega)
  have : ((D * (Nn + 1) : Nat) : Int) = (D : Int) * ((Nn : Int) + 1) := by simp
  omega
end Go.Hl

namespace Go.Hl
open Go Go.RowKit Go.Proofs
set_option maxHeartbeats 8000000
theorem lm_of {xs : List Int} (h : Lim B64 xs) {k : Nat} (hl : xs.length ≤ k) (hk : k < 1000000) : Lm xs := ⟨h, by omega⟩
theorem fit_true {x0 x1 x2 : List Int} {l : Int} (h : fitB x0 x1 x2 l = true) : (x0.length : Int) ≤ l ∧ (x1.length : Int) ≤ l ∧ (x2.length : Int) ≤ l := of_decide_eq_true h
theorem nV_bd {a b m n : Int} (hm : 0 < m) (hn : 1 ≤ n) : 0 ≤ nV a b m n ∧ nV a b m n < m ∧ (∀ k, 0 ≤ k → k < n → nV a b m n ≤ (a * k + b) % m) ∧ (∀ k, 0 ≤ k → k < n → nV a b m n ≤ (-a * k + -b) % m) := by
  have h1 := mV_rng (a := a) (b := b) hm hn
  have h2 := mV_rng (a := -a) (b := -b) hm hn
  have b1 := mV_bd (a := a) (b := b) hm hn
  have b2 := mV_bd (a := -a) (b := -b) hm hn
  unfold nV
  rw [if_neg (by unfold badL; omega)]
  split
  · refine ⟨b2.1, b2.2, fun k k0 k1 => ?_, fun k k0 k1 => h2.2 k k0 k1⟩
    have : mV a b m n ≤ (a * k + b) % m := h1.2 k k0 k1
    omega
  · refine ⟨b1.1, b1.2, fun k k0 k1 => h1.2 k k0 k1, fun k k0 k1 => ?_⟩
    have : mV (-a) (-b) m n ≤ (-a * k + -b) % m := h2.2 k k0 k1
    omega
end Go.Hl

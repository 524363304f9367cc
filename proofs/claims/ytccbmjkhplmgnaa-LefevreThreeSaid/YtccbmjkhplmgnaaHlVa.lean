/- lefevre's laws: parts counted and whole; whole circles more: the plain laws Three gaps: the plain law lefevre: Gaps: what it tells, and what stands of it -/
import Derived.Test.YtccbmjkhplmgnaaHlW
set_option linter.unusedVariables false
set_option linter.unusedSimpArgs false
namespace Go.Hl
open Go Go.RowKit Go.Proofs
theorem sm_append (f : Nat → Nat) (n : Nat) : ∀ k, sm f (n + k) = sm f n + sm (fun i => f (n + i)) k
  | 0 => rfl
  | k + 1 => by
    rw [← Nat.add_assoc]
    simp only [sm]
    rw [sm_append f n k, Nat.add_assoc]
theorem cI_split {a b m w n k : Int} (hn : 0 ≤ n) (hk : 0 ≤ k) : cI a b m w n + cI a (b + a * n) m w k = cI a b m w (n + k) := by
  unfold cI cW
  rw [Int.toNat_add hn hk, sm_append]
  have : sm (fun i => if Vk a b m ((n.toNat + i : Nat) : Int) < w then 1 else 0) k.toNat = sm (fun i => if Vk a (b + a * n) m (i : Int) < w then 1 else 0) k.toNat := sm_congr (fun i _ => by
    rw [Vk_shift, show ((n.toNat + i : Nat) : Int) = n + (i : Int) by omega])
  rw [this]
  omega
theorem sm_one {g : Nat → Nat} : ∀ {n j : Nat}, j < n → g j = 1 → (∀ i, i < n → i ≠ j → g i = 0) → sm g n = 1
  | 0, _, h, _, _ => by omega
  | n + 1, j, h, h1, h0 => by
    simp only [sm]
    rcases Nat.lt_or_ge j n with h' | h'
    · rw [sm_one h' h1 (fun i hi hne => h0 i (by omega) hne), h0 n (by omega) (by omega)]
    · have e : j = n := by omega
      subst e
      rw [sm_zero (fun i hi => h0 i (by omega) (by omega)), h1]
theorem onto {m : Nat} {f : Nat → Nat} (h1 : ∀ j, j < m → f j < m) (h2 : ∀ i j, i < j → j < m → f i ≠ f j) {v : Nat} (hv : v < m) : ∃ j, j < m ∧ f j = v := by
  by_cases h : ∃ j, j < m ∧ f j = v
  · exact h
  exfalso
  have hne : ∀ j, j < m → f j ≠ v := fun j hj e => h ⟨j, hj, e⟩
  have := php (m - 1) m (fun j => if f j < v then f j else f j - 1) (fun j hj => by
    have := h1 j hj
    have := hne j hj
    try dsimp only
    split <;> omega) (fun i j hij hj => by
    have := h2 i j hij hj
    have := hne i (by omega)
    have := hne j hj
    try dsimp only
    split <;> split <;> omega)
  omega
theorem Vk_inj {a b m : Int} (hm : 0 < m) (hg : Nat.gcd a.natAbs m.natAbs = 1) {i j : Nat} (hij : i < j) (hj : (j : Int) < m) : Vk a b m i ≠ Vk a b m j := by
  unfold Vk
  intro e
  have h1 : m ∣ (a * j + b) - (a * i + b) := Int.dvd_of_emod_eq_zero (Int.emod_eq_emod_iff_emod_sub_eq_zero.1 e.symm)
  have h2 : (a * j + b) - (a * i + b) = a * ((j - i : Nat) : Int) := by
    rw [Int.natCast_sub (by omega), Int.mul_sub]; omega
  rw [h2] at h1
  have h3 : m.natAbs ∣ a.natAbs * (j - i) := by
    have := Int.natAbs_dvd_natAbs.2 h1
    rw [Int.natAbs_mul, Int.natAbs_natCast] at this
    exact this
  have h4 : m.natAbs ∣ j - i := Nat.Coprime.dvd_of_dvd_mul_left (Nat.Coprime.symm hg) h3
  have h5 := Nat.le_of_dvd (by omega) h4
  omega
theorem cI_full {a b m w : Int} (hm : 0 < m) (hg : Nat.gcd a.natAbs m.natAbs = 1) (hw : 0 ≤ w) (hwm : w ≤ m) : cI a b m w m = w := by
  obtain ⟨w, rfl⟩ := Int.eq_ofNat_of_zero_le hw
  have key : ∀ w : Nat, (w : Int) ≤ m → cW a b m w m.toNat = w := by
    intro w
    induction w with
    | zero =>
      intro _
      unfold cW
      exact sm_zero (fun i _ => if_neg (by have := (mod_rng (a * i + b) hm).1; unfold Vk; omega))
    | succ w ih =>
      intro h
      have ih := ih (by omega)
      obtain ⟨j, hj, hv⟩ := onto (m := m.toNat) (f := fun j => (Vk a b m j).toNat) (fun j _ => by
        have := mod_rng (a * j + b) hm
        show (Vk a b m j).toNat < _
        unfold Vk; omega) (fun i j hij hj => by
        have := mod_rng (a * i + b) hm
        have := mod_rng (a * j + b) hm
        have h' := Vk_inj (b := b) hm hg hij (by omega)
        show (Vk a b m i).toNat ≠ (Vk a b m j).toNat
        unfold Vk at *; omega) (v := w) (by omega)
      have hv : Vk a b m j = w := by
        have := mod_rng (a * j + b) hm
        have hv : (Vk a b m j).toNat = w := hv
        unfold Vk at *; omega
      have h1 : sm (fun k => if Vk a b m k = w then 1 else 0) m.toNat = 1 := sm_one hj (if_pos hv) (fun i hi hne => if_neg (fun e => by
        rcases Nat.lt_or_gt_of_ne hne with h' | h'
        · exact Vk_inj hm hg h' (by omega) (e.trans hv.symm)
        · exact Vk_inj hm hg h' (by omega) (hv.trans e.symm)))
      have h2 : cW a b m ((w + 1 : Nat) : Int) m.toNat = cW a b m w m.toNat + sm (fun k => if Vk a b m k = w then 1 else 0) m.toNat := by
        unfold cW
        rw [← sm_add]
        refine sm_congr (fun k _ => ?_)
        split <;> split <;> split <;> omega
      rw [h2, ih, h1]
  unfold cI
  rw [key w hwm]
theorem wK_good {a b m w n : Int} (h : ¬ badM m w n) : wK a b m w n = cI a b m w n := if_neg h
theorem wE_good {m w n : Int} (h : ¬ badM m w n) : wE m w n = 0 := if_neg h
theorem Vk_turn (a b m c d k : Int) : Vk (a + c * m) (b + d * m) m k = Vk a b m k := by
  unfold Vk
  have : (a + c * m) * k + (b + d * m) = (a * k + b) + m * (c * k + d) := by grind
  rw [this, Int.add_mul_emod_self_left]
theorem isF_congr {a b a' b' m lo hi n : Int} (h : ∀ k, Vk a b m k = Vk a' b' m k) : IsF a b m lo hi n = IsF a' b' m lo hi n := by
  funext k
  unfold IsF inV
  simp only [h]
theorem fst_congr {a b a' b' m lo hi n : Int} (h : ∀ k, Vk a b m k = Vk a' b' m k) : fst' a b m lo hi n = fst' a' b' m lo hi n := by
  unfold fst'
  rw [isF_congr h]
theorem isM_congr {a b a' b' m n : Int} (h : ∀ k, Vk a b m k = Vk a' b' m k) : IsM a b m n = IsM a' b' m n := by
  funext k
  unfold IsM
  simp only [h]
theorem mV_congr {a b a' b' m n : Int} (h : ∀ k, Vk a b m k = Vk a' b' m k) : mV a b m n = mV a' b' m n := by
  unfold mV
  rw [isM_congr h]
theorem mK_congr {a b a' b' m n : Int} (h : ∀ k, Vk a b m k = Vk a' b' m k) : mK a b m n = mK a' b' m n := by
  unfold mK
  rw [mV_congr h, fst_congr h]
theorem cI_congr {a b a' b' m w n : Int} (h : ∀ k, Vk a b m k = Vk a' b' m k) : cI a b m w n = cI a' b' m w n := by
  unfold cI cW
  simp only [h]
theorem fK_congr {a b a' b' m lo hi n : Int} (h : ∀ k, Vk a b m k = Vk a' b' m k) : fK a b m lo hi n = fK a' b' m lo hi n := by
  unfold fK; rw [fst_congr h]
theorem fE_congr {a b a' b' m lo hi n : Int} (h : ∀ k, Vk a b m k = Vk a' b' m k) : fE a b m lo hi n = fE a' b' m lo hi n := by
  unfold fE; rw [fst_congr h]
theorem lK_congr {a b a' b' m n : Int} (h : ∀ k, Vk a b m k = Vk a' b' m k) : lK a b m n = lK a' b' m n := by
  unfold lK; rw [mK_congr h]
theorem lV_congr {a b a' b' m n : Int} (h : ∀ k, Vk a b m k = Vk a' b' m k) : lV a b m n = lV a' b' m n := by
  unfold lV; rw [mV_congr h]
theorem wK_congr {a b a' b' m w n : Int} (h : ∀ k, Vk a b m k = Vk a' b' m k) : wK a b m w n = wK a' b' m w n := by
  unfold wK; rw [cI_congr h]
theorem fst_next {a b m lo hi n : Int} (hlo : 0 ≤ lo) (hlh : lo ≤ hi) (hhi : hi < m) (hn : 2 ≤ n) :
    (fst' a b m lo hi n < 0 → fst' a (b + a) m lo hi (n - 1) < 0) ∧ (0 < fst' a b m lo hi n → fst' a (b + a) m lo hi (n - 1) = fst' a b m lo hi n - 1) := by
  have h := fst_rng (a := a) (b := b) (n := n) hlo hlh hhi
  obtain ⟨k, ek⟩ : ∃ k, fst' a b m lo hi n = k := ⟨_, rfl⟩
  rw [ek] at h ⊢
  have hs : ∀ j, inV a (b + a) m lo hi j ↔ inV a b m lo hi (j + 1) := fun j => by
    have : Vk a (b + a) m j = Vk a b m (j + 1) := by
      have := Vk_shift a b m 1 j
      rw [Int.mul_one, Int.add_comm 1 j] at this
      exact this
    unfold inV; rw [this]
  rcases h with ⟨rfl, h⟩ | ⟨h0, h1, h2⟩
  · refine ⟨fun _ => ?_, fun h => by omega⟩
    have : fst' a (b + a) m lo hi (n - 1) = -1 := fst_eq (.inl ⟨rfl, fun j j0 j1 hj => h (j + 1) (by omega) (by omega) ((hs j).1 hj)⟩)
    omega
  · refine ⟨fun h => by omega, fun hp => ?_⟩
    refine fst_eq (.inr ⟨by omega, (hs _).2 (by rw [show k - 1 + 1 = k by omega]; exact h1), fun j j0 j1 hj => h2 (j + 1) (by omega) (by omega) ((hs j).1 hj)⟩)
end Go.Hl

namespace Go.Hl
open Go Go.RowKit Go.Proofs
structure TG (a m N p q u v : Int) : Prop where
  p0 : 1 ≤ p
  p1 : p < N
  q0 : 1 ≤ q
  q1 : q < N
  u0 : 0 < u
  u1 : u < m
  v0 : 0 < v
  v1 : v < m
  eu : (a * p) % m = u
  ev : (-a * q) % m = v
  mu : ∀ k, 1 ≤ k → k < N → u ≤ (a * k) % m ∧ (k < p → u < (a * k) % m)
  mv : ∀ k, 1 ≤ k → k < N → v ≤ (-a * k) % m ∧ (k < q → v < (-a * k) % m)
  det : q * u + p * v = m
  cov : N ≤ p + q
theorem emod_is {x r m : Int} (h : m ∣ x - r) (h0 : 0 ≤ r) (h1 : r < m) : x % m = r := by
  obtain ⟨c, hc⟩ := h
  have : x = r + m * c := by omega
  rw [this, Int.add_mul_emod_self_left]
  exact Int.emod_eq_of_lt h0 h1
theorem dvd_sub_emod (x m : Int) : m ∣ x - x % m := ⟨x / m, by have := Int.mul_ediv_add_emod x m; omega⟩
theorem neg_emod_is {a k m : Int} (hm : 0 < m) (h : (a * k) % m ≠ 0) : (-a * k) % m = m - (a * k) % m := by
  have r := mod_rng (a * k) hm
  refine emod_is ?_ (by omega) (by omega)
  obtain ⟨c, hc⟩ := dvd_sub_emod (a * k) m
  refine ⟨-c - 1, ?_⟩
  have : m * (-c - 1) = -(m * c) - m := by grind
  have : -a * k = -(a * k) := Int.neg_mul ..
  omega
theorem TG.base {a m : Int} (hm : 0 < m) (h : (a * 1) % m ≠ 0) : TG a m 2 1 1 ((a * 1) % m) (m - (a * 1) % m) := by
  have r := mod_rng (a * 1) hm
  have hn := neg_emod_is hm h
  refine ⟨by omega, by omega, by omega, by omega, by omega, by omega, by omega, by omega, rfl, hn, fun k k0 k1 => ?_, fun k k0 k1 => ?_, by omega, by omega⟩
  · obtain rfl : k = 1 := by omega
    exact ⟨Int.le_refl _, fun h => by omega⟩
  · obtain rfl : k = 1 := by omega
    exact ⟨by rw [hn]; exact Int.le_refl _, fun h => by omega⟩
theorem TG.step {a m N p q u v : Int} (T : TG a m N p q u v) (h : (a * N) % m ≠ 0) : ∃ p q u v, TG a m (N + 1) p q u v := by
  obtain ⟨p0, p1, q0, q1, u0, u1, v0, v1, eu, ev, mu, mv, det, cov⟩ := T
  have hm : 0 < m := by omega
  have r := mod_rng (a * N) hm
  have hn := neg_emod_is hm h
  obtain ⟨cp, hcp⟩ := dvd_sub_emod (a * p) m
  rw [eu] at hcp
  obtain ⟨cq, hcq⟩ := dvd_sub_emod (-a * q) m
  rw [ev] at hcq
  obtain ⟨cN, hcN⟩ := dvd_sub_emod (a * N) m
  obtain ⟨R, eR⟩ : ∃ R, (a * N) % m = R := ⟨_, rfl⟩
  rw [eR] at r hn hcN h
  rcases Int.lt_or_eq_of_le cov with hc | hc
  · -- nothing comes nearer
    have n1 : -a * (N - p) = -(a * N) + a * p := by grind
    have n2 : a * (N - q) = a * N + -a * q := by grind
    have n3 : -a * (N - p) = -(a * N) + a * p := n1
    have k1 : u ≤ R := by
      rcases Int.lt_or_le R u with hl | hl
      · exfalso
        have e1 : (-a * (N - p)) % m = u - R := emod_is ⟨cp - cN, by rw [Int.mul_sub m]; omega⟩ (by omega) (by omega)
        have g1 := (mv (N - p) (by omega) (by omega)).1
        rw [e1] at g1
        have e2 : (a * (N - q)) % m = R + v := emod_is ⟨cN + cq, by rw [Int.mul_add]; omega⟩ (by omega) (by omega)
        have g2 := (mu (N - q) (by omega) (by omega)).2 (by omega)
        rw [e2] at g2
        omega
      · exact hl
    have k2 : v ≤ m - R := by
      rcases Int.lt_or_le (m - R) v with hl | hl
      · exfalso
        have e1 : (a * (N - q)) % m = v - (m - R) := emod_is ⟨cN + cq + 1, by rw [Int.mul_add, Int.mul_add]; omega⟩ (by omega) (by omega)
        have g1 := (mu (N - q) (by omega) (by omega)).1
        rw [e1] at g1
        have e2 : (-a * (N - p)) % m = m - R + u := emod_is ⟨cp - cN - 1, by rw [Int.mul_sub m, Int.mul_sub m]; omega⟩ (by omega) (by omega)
        have g2 := (mv (N - p) (by omega) (by omega)).2 (by omega)
        rw [e2] at g2
        omega
      · exact hl
    refine ⟨p, q, u, v, p0, by omega, q0, by omega, u0, u1, v0, v1, eu, ev, fun k h0 h1 => ?_, fun k h0 h1 => ?_, det, by omega⟩
    · rcases Int.lt_or_le k N with hk | hk
      · exact mu k h0 hk
      · obtain rfl : k = N := by omega
        exact ⟨by rw [eR]; exact k1, fun h => by omega⟩
    · rcases Int.lt_or_le k N with hk | hk
      · exact mv k h0 hk
      · obtain rfl : k = N := by omega
        exact ⟨by rw [hn]; exact k2, fun h => by omega⟩
  · have n1 : a * N = a * p + -(-a * q) := by rw [hc]; grind
    rcases Int.lt_trichotomy u v with hl | hl | hl
    · -- the other side comes nearer
      have e1 : R = m + u - v := by
        rw [← eR]
        exact emod_is ⟨cp - cq - 1, by rw [Int.mul_sub m, Int.mul_sub m]; omega⟩ (by omega) (by omega)
      refine ⟨p, N, u, v - u, p0, by omega, by omega, by omega, u0, u1, by omega, by omega, eu, by rw [hn]; omega, fun k h0 h1 => ?_, fun k h0 h1 => ?_, ?_, by omega⟩
      · rcases Int.lt_or_le k N with hk | hk
        · exact mu k h0 hk
        · obtain rfl : k = N := by omega
          exact ⟨by rw [eR]; omega, fun h => by omega⟩
      · rcases Int.lt_or_le k N with hk | hk
        · have := (mv k h0 hk).1
          exact ⟨by omega, fun _ => by omega⟩
        · obtain rfl : k = N := by omega
          exact ⟨by rw [hn]; omega, fun h => by omega⟩
      · rw [hc]
        have : (p + q) * u + p * (v - u) = q * u + p * v := by grind
        omega
    · exfalso
      apply h
      rw [← eR]
      exact emod_is ⟨cp - cq, by rw [Int.mul_sub m]; omega⟩ (by omega) (by omega)
    · have e1 : R = u - v := by
        rw [← eR]
        exact emod_is ⟨cp - cq, by rw [Int.mul_sub m]; omega⟩ (by omega) (by omega)
      refine ⟨N, q, u - v, v, by omega, by omega, q0, by omega, by omega, by omega, v0, v1, by omega, ev, fun k h0 h1 => ?_, fun k h0 h1 => ?_, ?_, by omega⟩
      · rcases Int.lt_or_le k N with hk | hk
        · have := (mu k h0 hk).1
          exact ⟨by omega, fun _ => by omega⟩
        · obtain rfl : k = N := by omega
          exact ⟨by rw [eR]; omega, fun h => by omega⟩
      · rcases Int.lt_or_le k N with hk | hk
        · exact mv k h0 hk
        · obtain rfl : k = N := by omega
          exact ⟨by rw [hn]; omega, fun h => by omega⟩
      · rw [hc]
        have : q * (u - v) + (p + q) * v = q * u + p * v := by grind
        omega
theorem TG.all {a m : Int} (hm : 0 < m) : ∀ N : Nat, (∀ k : Int, 1 ≤ k → k < (N : Int) + 2 → (a * k) % m ≠ 0) → ∃ p q u v, TG a m ((N : Int) + 2) p q u v
  | 0, h => ⟨1, 1, _, _, TG.base hm (h 1 (by omega) (by omega))⟩
  | N + 1, h => by
    obtain ⟨p, q, u, v, T⟩ := TG.all hm N (fun k k0 k1 => h k k0 (by omega))
    have := T.step (h ((N : Int) + 2) (by omega) (by omega))
    rw [show ((N + 1 : Nat) : Int) + 2 = (N : Int) + 2 + 1 by omega]
    exact this
theorem no_back {a m k : Int} (hm : 0 < m) (k0 : 1 ≤ k) (hk : k < m / ((Nat.gcd a.natAbs m.natAbs : Nat) : Int)) : (a * k) % m ≠ 0 := by
  intro h
  have h1 : m ∣ a * k := Int.dvd_of_emod_eq_zero h
  have h2 : m.natAbs ∣ a.natAbs * k.natAbs := by
    have := Int.natAbs_dvd_natAbs.2 h1
    rwa [Int.natAbs_mul] at this
  obtain ⟨g, eg⟩ : ∃ g, Nat.gcd a.natAbs m.natAbs = g := ⟨_, rfl⟩
  have g0 : 0 < g := by rw [← eg]; exact Nat.gcd_pos_of_pos_right _ (by omega)
  have cop : Nat.Coprime (a.natAbs / g) (m.natAbs / g) := by rw [← eg]; exact Nat.coprime_div_gcd_div_gcd (by rw [eg]; exact g0)
  obtain ⟨x, hx⟩ : g ∣ a.natAbs := by rw [← eg]; exact Nat.gcd_dvd_left _ _
  obtain ⟨y, hy⟩ : g ∣ m.natAbs := by rw [← eg]; exact Nat.gcd_dvd_right _ _
  rw [hx, hy, Nat.mul_div_cancel_left _ g0, Nat.mul_div_cancel_left _ g0] at cop
  have h3 : y ∣ x * k.natAbs := by
    rw [hx, hy, Nat.mul_assoc] at h2
    exact Nat.dvd_of_mul_dvd_mul_left g0 h2
  have h4 : y ∣ k.natAbs := Nat.Coprime.dvd_of_dvd_mul_left (Nat.Coprime.symm cop) h3
  have h5 := Nat.le_of_dvd (by omega) h4
  rw [eg] at hk
  have h6 : m = (g : Int) * y := by
    have : ((g * y : Nat) : Int) = (g : Int) * y := by simp
    omega
  rw [h6, Int.mul_ediv_cancel_left _ (by omega)] at hk
  omega
theorem Vk_own (a m j : Int) : Vk a a m j = (a * (j + 1)) % m := by unfold Vk; congr 1; grind
theorem TG.least {a m N p q u v : Int} (T : TG a m N p q u v) : mV a a m (N - 1) = u ∧ mK a a m (N - 1) = p - 1 ∧ mV (-a) (-a) m (N - 1) = v ∧ mK (-a) (-a) m (N - 1) = q - 1 := by
  obtain ⟨p0, p1, q0, q1, u0, u1, v0, v1, eu, ev, mu, mv, det, cov⟩ := T
  have e1 : mV a a m (N - 1) = u := mV_eq ⟨⟨p - 1, by omega, by omega, by rw [Vk_own, show p - 1 + 1 = p by omega]; exact eu⟩, fun k k0 k1 => by rw [Vk_own]; exact (mu (k + 1) (by omega) (by omega)).1⟩
  have e2 : mV (-a) (-a) m (N - 1) = v := mV_eq ⟨⟨q - 1, by omega, by omega, by rw [Vk_own, show q - 1 + 1 = q by omega]; exact ev⟩, fun k k0 k1 => by rw [Vk_own]; exact (mv (k + 1) (by omega) (by omega)).1⟩
  refine ⟨e1, ?_, e2, ?_⟩
  · unfold mK
    rw [e1]
    refine fst_eq (.inr ⟨by omega, ?_, fun j j0 j1 hj => ?_⟩)
    · unfold inV; rw [Vk_own, show p - 1 + 1 = p by omega, eu]; exact ⟨Int.le_refl _, Int.le_refl _⟩
    · unfold inV at hj; rw [Vk_own] at hj
      have := (mu (j + 1) (by omega) (by omega)).2 (by omega)
      omega
  · unfold mK
    rw [e2]
    refine fst_eq (.inr ⟨by omega, ?_, fun j j0 j1 hj => ?_⟩)
    · unfold inV; rw [Vk_own, show q - 1 + 1 = q by omega, ev]; exact ⟨Int.le_refl _, Int.le_refl _⟩
    · unfold inV at hj; rw [Vk_own] at hj
      have := (mv (j + 1) (by omega) (by omega)).2 (by omega)
      omega
theorem tg_of {a m N : Int} (hm : 0 < m) (hN : 2 ≤ N) (h : N < m / ((Nat.gcd a.natAbs m.natAbs : Nat) : Int)) : ∃ p q u v, TG a m N p q u v := by
  have := TG.all (a := a) hm (N - 2).toNat (fun k k0 k1 => no_back hm k0 (by omega))
  rwa [show (((N - 2).toNat : Nat) : Int) + 2 = N by omega] at this
end Go.Hl

namespace Go.Hl
open Go Go.RowKit Go.Proofs
def gG (a m : Int) : Int := ((Nat.gcd a.natAbs m.natAbs : Nat) : Int)
def gAll (a m : Int) : Int := m / gG a m
theorem gG_pos {a m : Int} (hm : 0 < m) : 1 ≤ gG a m ∧ gG a m ≤ m := by
  unfold gG
  have h1 := Nat.gcd_pos_of_pos_right (m := a.natAbs) (n := m.natAbs) (by omega)
  have h2 : Nat.gcd a.natAbs m.natAbs ≤ m.natAbs := Nat.gcd_le_right _ (by omega)
  omega
theorem gAll_mul {a m : Int} (hm : 0 < m) : gG a m * gAll a m = m ∧ 1 ≤ gAll a m ∧ gAll a m ≤ m := by
  obtain ⟨g1, g2⟩ := gG_pos (a := a) hm
  have hd : gG a m ∣ m := by
    unfold gG
    have : Nat.gcd a.natAbs m.natAbs ∣ m.natAbs := Nat.gcd_dvd_right _ _
    have := Int.natCast_dvd_natCast.2 this
    rwa [Int.natAbs_of_nonneg (by omega)] at this
  have h1 : gG a m * gAll a m = m := Int.mul_ediv_cancel' hd
  refine ⟨h1, ?_, ?_⟩
  · rcases Int.lt_or_le (gAll a m) 1 with h | h
    · have := Int.mul_nonpos_of_nonneg_of_nonpos (show 0 ≤ gG a m by omega) (show gAll a m ≤ 0 by omega)
      omega
    · exact h
  · unfold gAll; exact Int.ediv_le_self _ (by omega)
def gTri (n p q u v : Int) : List (Int × Int) :=
  if u = v then [(u, n - p + (n - q)), (u + v, p - (n - q))]
  else if p - (n - q) = 0 then [(u, n - p), (v, n - q)]
  else [(u, n - p), (v, n - q), (u + v, p - (n - q))]
noncomputable def gMain (a m n : Int) : List (Int × Int) :=
  if mV (-a) (-a) m (n - 1) < mV a a m (n - 1) then gTri n (mK (-a) (-a) m (n - 1) + 1) (mK a a m (n - 1) + 1) (mV (-a) (-a) m (n - 1)) (mV a a m (n - 1))
  else gTri n (mK a a m (n - 1) + 1) (mK (-a) (-a) m (n - 1) + 1) (mV a a m (n - 1)) (mV (-a) (-a) m (n - 1))
noncomputable def gL (a m n : Int) : List (Int × Int) :=
  if badL m n then [] else if gAll a m ≤ n then [(gG a m, gAll a m)] else if n = 1 then [(m, 1)] else gMain a m n
inductive GOK (m all n : Int) : List (Int × Int) → Prop
  | one (x c : Int) : 0 < x → x ≤ m → 1 ≤ c → x * c = m → c = min all n → GOK m all n [(x, c)]
  | two (x c y d : Int) : 0 < x → x < y → y ≤ m → 1 ≤ c → 1 ≤ d → x * c + y * d = m → c + d = min all n → GOK m all n [(x, c), (y, d)]
  | three (x c y d e : Int) : 0 < x → x < y → x + y ≤ m → 1 ≤ c → 1 ≤ d → 1 ≤ e → x * c + y * d + (x + y) * e = m → c + d + e = min all n → GOK m all n [(x, c), (y, d), (x + y, e)]
theorem gTri_ok {m all n p q u v : Int} (hn : n < all) (hp : 1 ≤ p ∧ p < n) (hq : 1 ≤ q ∧ q < n) (hc : n ≤ p + q) (hu : 0 < u) (huv : u ≤ v) (hv : v < m) (hd : q * u + p * v = m) (hs : n < p + q → u + v < m) (he : u = v → n < p + q) : GOK m all n (gTri n p q u v) := by
  have hmin : min all n = n := by omega
  unfold gTri
  split
  · rename_i e
    have := he e
    have := hs (by omega)
    refine GOK.two _ _ _ _ hu (by omega) (by omega) (by omega) (by omega) ?_ (by omega)
    subst e
    rw [← hd]; grind
  split
  · rename_i e0 e
    refine GOK.two _ _ _ _ hu (by omega) (by omega) (by omega) (by omega) ?_ (by omega)
    have : n = p + q := by omega
    subst this
    rw [← hd]; grind
  · rename_i e0 e
    refine GOK.three _ _ _ _ _ hu (by omega) (by have := hs (by omega); omega) (by omega) (by omega) (by omega) ?_ (by omega)
    rw [← hd]; grind
theorem TG.uvlt {a m N p q u v : Int} (T : TG a m N p q u v) (h : N < p + q) : u + v < m := by
  obtain ⟨p0, p1, q0, q1, u0, u1, v0, v1, eu, ev, mu, mv, det, cov⟩ := T
  rcases Int.lt_or_le (u + v) m with h' | h'
  · exact h'
  · exfalso
    have h1 : q * u + p * v = (q - 1) * u + (p - 1) * v + (u + v) := by grind
    have h2 := Int.mul_nonneg (show 0 ≤ q - 1 by omega) (show 0 ≤ u by omega)
    have h3 := Int.mul_nonneg (show 0 ≤ p - 1 by omega) (show 0 ≤ v by omega)
    have h4 : 1 ≤ (q - 1) * u + (p - 1) * v := by
      rcases Int.lt_or_le 1 q with h | h
      · have := Int.mul_le_mul_of_nonneg_left (show (1 : Int) ≤ u by omega) (show 0 ≤ q - 1 by omega)
        omega
      · have := Int.mul_le_mul_of_nonneg_left (show (1 : Int) ≤ v by omega) (show 0 ≤ p - 1 by omega)
        omega
    omega
theorem TG.eqlt {a m N p q u v : Int} (T : TG a m N p q u v) (hall : N < gAll a m) (h : u = v) : N < p + q := by
  have hm : 0 < m := by have := T.u0; have := T.u1; omega
  rcases Int.lt_or_eq_of_le T.cov with h' | h'
  · exact h'
  · exfalso
    have hne := no_back (a := a) (m := m) (k := N) hm (by have := T.p0; have := T.p1; omega) hall
    apply hne
    obtain ⟨cp, hcp⟩ := dvd_sub_emod (a * p) m
    rw [T.eu] at hcp
    obtain ⟨cq, hcq⟩ := dvd_sub_emod (-a * q) m
    rw [T.ev] at hcq
    have n1 : a * N = a * p + -(-a * q) := by rw [h']; grind
    exact emod_is ⟨cp - cq, by rw [Int.mul_sub m]; omega⟩ (by omega) hm
theorem gMain_tg {a m n p q u v : Int} (T : TG a m n p q u v) : gMain a m n = if v < u then gTri n q p v u else gTri n p q u v := by
  obtain ⟨e1, e2, e3, e4⟩ := T.least
  unfold gMain
  rw [e1, e2, e3, e4, show p - 1 + 1 = p by omega, show q - 1 + 1 = q by omega]
theorem gL_ok {a m n : Int} (hm : 1 ≤ m) (hn : 1 ≤ n) : GOK m (gAll a m) n (gL a m n) := by
  obtain ⟨g1, g2⟩ := gG_pos (a := a) (show 0 < m by omega)
  obtain ⟨a1, a2, a3⟩ := gAll_mul (a := a) (show 0 < m by omega)
  unfold gL
  rw [if_neg (by unfold badL; omega)]
  split
  · exact GOK.one _ _ (by omega) g2 a2 a1 (by omega)
  split
  · exact GOK.one _ _ (by omega) (Int.le_refl _) (by omega) (by omega) (by omega)
  · obtain ⟨p, q, u, v, T⟩ := tg_of (a := a) (N := n) (show 0 < m by omega) (by omega) (by show n < gAll a m; omega)
    rw [gMain_tg T]
    have t := T
    obtain ⟨p0, p1, q0, q1, u0, u1, v0, v1, eu, ev, mu, mv, det, cov⟩ := t
    split
    · exact gTri_ok (by omega) ⟨q0, q1⟩ ⟨p0, p1⟩ (by omega) v0 (by omega) u1 (by omega) (fun h => by have := T.uvlt (by omega); omega) (fun h => by omega)
    · exact gTri_ok (by omega) ⟨p0, p1⟩ ⟨q0, q1⟩ cov u0 (by omega) v1 det T.uvlt (fun h => T.eqlt (by omega) h)
end Go.Hl

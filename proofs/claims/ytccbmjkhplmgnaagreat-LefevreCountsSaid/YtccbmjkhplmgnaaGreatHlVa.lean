/- lefevre's laws: parts counted and whole; whole circles more: the plain laws Three gaps: the plain law lefevre's law Tries: going through all, the plain law ref15: counting, halving: the plain laws -/
import Derived.Test.YtccbmjkhplmgnaaGreatHlW
set_option linter.unusedVariables false
set_option linter.unusedSimpArgs false
namespace Go.Hl
open Go Go.RowKit Go.Proofs
theorem sm_append (f : Nat → Nat) (n : Nat) : ∀ k, sm f (n + k) = sm f n + sm (fun i => f (n + i)) k
  | 0 => rfl
  | k + 1 => by
    rw [← Nat.add_assoc]
    simp only [sm]
    rw [sm_append f n k, Nat.add_assoc]
theorem cI_split {a b m w n k : Int} (hn : 0 ≤ n) (hk : 0 ≤ k) : cI a b m w n + cI a (b + a * n) m w k = cI a b m w (n + k) := by
  unfold cI cW
  rw [Int.toNat_add hn hk, sm_append]
  have : sm (fun i => if Vk a b m ((n.toNat + i : Nat) : Int) < w then 1 else 0) k.toNat = sm (fun i => if Vk a (b + a * n) m (i : Int) < w then 1 else 0) k.toNat := sm_congr (fun i _ => by
    rw [Vk_shift, show ((n.toNat + i : Nat) : Int) = n + (i : Int) by omega])
  rw [this]
  omega
theorem sm_one {g : Nat → Nat} : ∀ {n j : Nat}, j < n → g j = 1 → (∀ i, i < n → i ≠ j → g i = 0) → sm g n = 1
  | 0, _, h, _, _ => by omega
  | n + 1, j, h, h1, h0 => by
    simp only [sm]
    rcases Nat.lt_or_ge j n with h' | h'
    · rw [sm_one h' h1 (fun i hi hne => h0 i (by omega) hne), h0 n (by omega) (by omega)]
    · have e : j = n := by omega
      subst e
      rw [sm_zero (fun i hi => h0 i (by omega) (by omega)), h1]
theorem onto {m : Nat} {f : Nat → Nat} (h1 : ∀ j, j < m → f j < m) (h2 : ∀ i j, i < j → j < m → f i ≠ f j) {v : Nat} (hv : v < m) : ∃ j, j < m ∧ f j = v := by
  by_cases h : ∃ j, j < m ∧ f j = v
  · exact h
  exfalso
  have hne : ∀ j, j < m → f j ≠ v := fun j hj e => h ⟨j, hj, e⟩
  have := php (m - 1) m (fun j => if f j < v then f j else f j - 1) (fun j hj => by
    have := h1 j hj
    have := hne j hj
    try dsimp only
    split <;> omega) (fun i j hij hj => by
    have := h2 i j hij hj
    have := hne i (by omega)
    have := hne j hj
    try dsimp only
    split <;> split <;> omega)
  omega
theorem Vk_inj {a b m : Int} (hm : 0 < m) (hg : Nat.gcd a.natAbs m.natAbs = 1) {i j : Nat} (hij : i < j) (hj : (j : Int) < m) : Vk a b m i ≠ Vk a b m j := by
  unfold Vk
  intro e
  have h1 : m ∣ (a * j + b) - (a * i + b) := Int.dvd_of_emod_eq_zero (Int.emod_eq_emod_iff_emod_sub_eq_zero.1 e.symm)
  have h2 : (a * j + b) - (a * i + b) = a * ((j - i : Nat) : Int) := by
    rw [Int.natCast_sub (by omega), Int.mul_sub]; omega
  rw [h2] at h1
  have h3 : m.natAbs ∣ a.natAbs * (j - i) := by
    have := Int.natAbs_dvd_natAbs.2 h1
    rw [Int.natAbs_mul, Int.natAbs_natCast] at this
    exact this
  have h4 : m.natAbs ∣ j - i := Nat.Coprime.dvd_of_dvd_mul_left (Nat.Coprime.symm hg) h3
  have h5 := Nat.le_of_dvd (by omega) h4
  omega
theorem cI_full {a b m w : Int} (hm : 0 < m) (hg : Nat.gcd a.natAbs m.natAbs = 1) (hw : 0 ≤ w) (hwm : w ≤ m) : cI a b m w m = w := by
  obtain ⟨w, rfl⟩ := Int.eq_ofNat_of_zero_le hw
  have key : ∀ w : Nat, (w : Int) ≤ m → cW a b m w m.toNat = w := by
    intro w
    induction w with
    | zero =>
      intro _
      unfold cW
      exact sm_zero (fun i _ => if_neg (by have := (mod_rng (a * i + b) hm).1; unfold Vk; omega))
    | succ w ih =>
      intro h
      have ih := ih (by omega)
      obtain ⟨j, hj, hv⟩ := onto (m := m.toNat) (f := fun j => (Vk a b m j).toNat) (fun j _ => by
        have := mod_rng (a * j + b) hm
        show (Vk a b m j).toNat < _
        unfold Vk; omega) (fun i j hij hj => by
        have := mod_rng (a * i + b) hm
        have := mod_rng (a * j + b) hm
        have h' := Vk_inj (b := b) hm hg hij (by omega)
        show (Vk a b m i).toNat ≠ (Vk a b m j).toNat
        unfold Vk at *; omega) (v := w) (by omega)
      have hv : Vk a b m j = w := by
        have := mod_rng (a * j + b) hm
        have hv : (Vk a b m j).toNat = w := hv
        unfold Vk at *; omega
      have h1 : sm (fun k => if Vk a b m k = w then 1 else 0) m.toNat = 1 := sm_one hj (if_pos hv) (fun i hi hne => if_neg (fun e => by
        rcases Nat.lt_or_gt_of_ne hne with h' | h'
        · exact Vk_inj hm hg h' (by omega) (e.trans hv.symm)
        · exact Vk_inj hm hg h' (by omega) (hv.trans e.symm)))
      have h2 : cW a b m ((w + 1 : Nat) : Int) m.toNat = cW a b m w m.toNat + sm (fun k => if Vk a b m k = w then 1 else 0) m.toNat := by
        unfold cW
        rw [← sm_add]
        refine sm_congr (fun k _ => ?_)
        split <;> split <;> split <;> omega
      rw [h2, ih, h1]
  unfold cI
  rw [key w hwm]
theorem wK_good {a b m w n : Int} (h : ¬ badM m w n) : wK a b m w n = cI a b m w n := if_neg h
theorem wE_good {m w n : Int} (h : ¬ badM m w n) : wE m w n = 0 := if_neg h
theorem Vk_turn (a b m c d k : Int) : Vk (a + c * m) (b + d * m) m k = Vk a b m k := by
  unfold Vk
  have : (a + c * m) * k + (b + d * m) = (a * k + b) + m * (c * k + d) := by grind
  rw [this, Int.add_mul_emod_self_left]
theorem isF_congr {a b a' b' m lo hi n : Int} (h : ∀ k, Vk a b m k = Vk a' b' m k) : IsF a b m lo hi n = IsF a' b' m lo hi n := by
  funext k
  unfold IsF inV
  simp only [h]
theorem fst_congr {a b a' b' m lo hi n : Int} (h : ∀ k, Vk a b m k = Vk a' b' m k) : fst' a b m lo hi n = fst' a' b' m lo hi n := by
  unfold fst'
  rw [isF_congr h]
theorem isM_congr {a b a' b' m n : Int} (h : ∀ k, Vk a b m k = Vk a' b' m k) : IsM a b m n = IsM a' b' m n := by
  funext k
  unfold IsM
  simp only [h]
theorem mV_congr {a b a' b' m n : Int} (h : ∀ k, Vk a b m k = Vk a' b' m k) : mV a b m n = mV a' b' m n := by
  unfold mV
  rw [isM_congr h]
theorem mK_congr {a b a' b' m n : Int} (h : ∀ k, Vk a b m k = Vk a' b' m k) : mK a b m n = mK a' b' m n := by
  unfold mK
  rw [mV_congr h, fst_congr h]
theorem cI_congr {a b a' b' m w n : Int} (h : ∀ k, Vk a b m k = Vk a' b' m k) : cI a b m w n = cI a' b' m w n := by
  unfold cI cW
  simp only [h]
theorem fK_congr {a b a' b' m lo hi n : Int} (h : ∀ k, Vk a b m k = Vk a' b' m k) : fK a b m lo hi n = fK a' b' m lo hi n := by
  unfold fK; rw [fst_congr h]
theorem fE_congr {a b a' b' m lo hi n : Int} (h : ∀ k, Vk a b m k = Vk a' b' m k) : fE a b m lo hi n = fE a' b' m lo hi n := by
  unfold fE; rw [fst_congr h]
theorem lK_congr {a b a' b' m n : Int} (h : ∀ k, Vk a b m k = Vk a' b' m k) : lK a b m n = lK a' b' m n := by
  unfold lK; rw [mK_congr h]
theorem lV_congr {a b a' b' m n : Int} (h : ∀ k, Vk a b m k = Vk a' b' m k) : lV a b m n = lV a' b' m n := by
  unfold lV; rw [mV_congr h]
theorem wK_congr {a b a' b' m w n : Int} (h : ∀ k, Vk a b m k = Vk a' b' m k) : wK a b m w n = wK a' b' m w n := by
  unfold wK; rw [cI_congr h]
theorem fst_next {a b m lo hi n : Int} (hlo : 0 ≤ lo) (hlh : lo ≤ hi) (hhi : hi < m) (hn : 2 ≤ n) :
    (fst' a b m lo hi n < 0 → fst' a (b + a) m lo hi (n - 1) < 0) ∧ (0 < fst' a b m lo hi n → fst' a (b + a) m lo hi (n - 1) = fst' a b m lo hi n - 1) := by
  have h := fst_rng (a := a) (b := b) (n := n) hlo hlh hhi
  obtain ⟨k, ek⟩ : ∃ k, fst' a b m lo hi n = k := ⟨_, rfl⟩
  rw [ek] at h ⊢
  have hs : ∀ j, inV a (b + a) m lo hi j ↔ inV a b m lo hi (j + 1) := fun j => by
    have : Vk a (b + a) m j = Vk a b m (j + 1) := by
      have := Vk_shift a b m 1 j
      rw [Int.mul_one, Int.add_comm 1 j] at this
      exact this
    unfold inV; rw [this]
  rcases h with ⟨rfl, h⟩ | ⟨h0, h1, h2⟩
  · refine ⟨fun _ => ?_, fun h => by omega⟩
    have : fst' a (b + a) m lo hi (n - 1) = -1 := fst_eq (.inl ⟨rfl, fun j j0 j1 hj => h (j + 1) (by omega) (by omega) ((hs j).1 hj)⟩)
    omega
  · refine ⟨fun h => by omega, fun hp => ?_⟩
    refine fst_eq (.inr ⟨by omega, (hs _).2 (by rw [show k - 1 + 1 = k by omega]; exact h1), fun j j0 j1 hj => h2 (j + 1) (by omega) (by omega) ((hs j).1 hj)⟩)
end Go.Hl

namespace Go.Hl
open Go Go.RowKit Go.Proofs
structure TG (a m N p q u v : Int) : Prop where
  p0 : 1 ≤ p
  p1 : p < N
  q0 : 1 ≤ q
  q1 : q < N
  u0 : 0 < u
  u1 : u < m
  v0 : 0 < v
  v1 : v < m
  eu : (a * p) % m = u
  ev : (-a * q) % m = v
  mu : ∀ k, 1 ≤ k → k < N → u ≤ (a * k) % m ∧ (k < p → u < (a * k) % m)
  mv : ∀ k, 1 ≤ k → k < N → v ≤ (-a * k) % m ∧ (k < q → v < (-a * k) % m)
  det : q * u + p * v = m
  cov : N ≤ p + q
theorem emod_is {x r m : Int} (h : m ∣ x - r) (h0 : 0 ≤ r) (h1 : r < m) : x % m = r := by
  obtain ⟨c, hc⟩ := h
  have : x = r + m * c := by omega
  rw [this, Int.add_mul_emod_self_left]
  exact Int.emod_eq_of_lt h0 h1
theorem dvd_sub_emod (x m : Int) : m ∣ x - x % m := ⟨x / m, by have := Int.mul_ediv_add_emod x m; omega⟩
theorem neg_emod_is {a k m : Int} (hm : 0 < m) (h : (a * k) % m ≠ 0) : (-a * k) % m = m - (a * k) % m := by
  have r := mod_rng (a * k) hm
  refine emod_is ?_ (by omega) (by omega)
  obtain ⟨c, hc⟩ := dvd_sub_emod (a * k) m
  refine ⟨-c - 1, ?_⟩
  have : m * (-c - 1) = -(m * c) - m := by grind
  have : -a * k = -(a * k) := Int.neg_mul ..
  omega
theorem TG.base {a m : Int} (hm : 0 < m) (h : (a * 1) % m ≠ 0) : TG a m 2 1 1 ((a * 1) % m) (m - (a * 1) % m) := by
  have r := mod_rng (a * 1) hm
  have hn := neg_emod_is hm h
  refine ⟨by omega, by omega, by omega, by omega, by omega, by omega, by omega, by omega, rfl, hn, fun k k0 k1 => ?_, fun k k0 k1 => ?_, by omega, by omega⟩
  · obtain rfl : k = 1 := by omega
    exact ⟨Int.le_refl _, fun h => by omega⟩
  · obtain rfl : k = 1 := by omega
    exact ⟨by rw [hn]; exact Int.le_refl _, fun h => by omega⟩
theorem TG.step {a m N p q u v : Int} (T : TG a m N p q u v) (h : (a * N) % m ≠ 0) : ∃ p q u v, TG a m (N + 1) p q u v := by
  obtain ⟨p0, p1, q0, q1, u0, u1, v0, v1, eu, ev, mu, mv, det, cov⟩ := T
  have hm : 0 < m := by omega
  have r := mod_rng (a * N) hm
  have hn := neg_emod_is hm h
  obtain ⟨cp, hcp⟩ := dvd_sub_emod (a * p) m
  rw [eu] at hcp
  obtain ⟨cq, hcq⟩ := dvd_sub_emod (-a * q) m
  rw [ev] at hcq
  obtain ⟨cN, hcN⟩ := dvd_sub_emod (a * N) m
  obtain ⟨R, eR⟩ : ∃ R, (a * N) % m = R := ⟨_, rfl⟩
  rw [eR] at r hn hcN h
  rcases Int.lt_or_eq_of_le cov with hc | hc
  · -- nothing comes nearer
    have n1 : -a * (N - p) = -(a * N) + a * p := by grind
    have n2 : a * (N - q) = a * N + -a * q := by grind
    have n3 : -a * (N - p) = -(a * N) + a * p := n1
    have k1 : u ≤ R := by
      rcases Int.lt_or_le R u with hl | hl
      · exfalso
        have e1 : (-a * (N - p)) % m = u - R := emod_is ⟨cp - cN, by rw [Int.mul_sub m]; omega⟩ (by omega) (by omega)
        have g1 := (mv (N - p) (by omega) (by omega)).1
        rw [e1] at g1
        have e2 : (a * (N - q)) % m = R + v := emod_is ⟨cN + cq, by rw [Int.mul_add]; omega⟩ (by omega) (by omega)
        have g2 := (mu (N - q) (by omega) (by omega)).2 (by omega)
        rw [e2] at g2
        omega
      · exact hl
    have k2 : v ≤ m - R := by
      rcases Int.lt_or_le (m - R) v with hl | hl
      · exfalso
        have e1 : (a * (N - q)) % m = v - (m - R) := emod_is ⟨cN + cq + 1, by rw [Int.mul_add, Int.mul_add]; omega⟩ (by omega) (by omega)
        have g1 := (mu (N - q) (by omega) (by omega)).1
        rw [e1] at g1
        have e2 : (-a * (N - p)) % m = m - R + u := emod_is ⟨cp - cN - 1, by rw [Int.mul_sub m, Int.mul_sub m]; omega⟩ (by omega) (by omega)
        have g2 := (mv (N - p) (by omega) (by omega)).2 (by omega)
        rw [e2] at g2
        omega
      · exact hl
    refine ⟨p, q, u, v, p0, by omega, q0, by omega, u0, u1, v0, v1, eu, ev, fun k h0 h1 => ?_, fun k h0 h1 => ?_, det, by omega⟩
    · rcases Int.lt_or_le k N with hk | hk
      · exact mu k h0 hk
      · obtain rfl : k = N := by omega
        exact ⟨by rw [eR]; exact k1, fun h => by omega⟩
    · rcases Int.lt_or_le k N with hk | hk
      · exact mv k h0 hk
      · obtain rfl : k = N := by omega
        exact ⟨by rw [hn]; exact k2, fun h => by omega⟩
  · have n1 : a * N = a * p + -(-a * q) := by rw [hc]; grind
    rcases Int.lt_trichotomy u v with hl | hl | hl
    · -- the other side comes nearer
      have e1 : R = m + u - v := by
        rw [← eR]
        exact emod_is ⟨cp - cq - 1, by rw [Int.mul_sub m, Int.mul_sub m]; omega⟩ (by omega) (by omega)
      refine ⟨p, N, u, v - u, p0, by omega, by omega, by omega, u0, u1, by omega, by omega, eu, by rw [hn]; omega, fun k h0 h1 => ?_, fun k h0 h1 => ?_, ?_, by omega⟩
      · rcases Int.lt_or_le k N with hk | hk
        · exact mu k h0 hk
        · obtain rfl : k = N := by omega
          exact ⟨by rw [eR]; omega, fun h => by omega⟩
      · rcases Int.lt_or_le k N with hk | hk
        · have := (mv k h0 hk).1
          exact ⟨by omega, fun _ => by omega⟩
        · obtain rfl : k = N := by omega
          exact ⟨by rw [hn]; omega, fun h => by omega⟩
      · rw [hc]
        have : (p + q) * u + p * (v - u) = q * u + p * v := by grind
        omega
    · exfalso
      apply h
      rw [← eR]
      exact emod_is ⟨cp - cq, by rw [Int.mul_sub m]; omega⟩ (by omega) (by omega)
    · have e1 : R = u - v := by
        rw [← eR]
        exact emod_is ⟨cp - cq, by rw [Int.mul_sub m]; omega⟩ (by omega) (by omega)
      refine ⟨N, q, u - v, v, by omega, by omega, q0, by omega, by omega, by omega, v0, v1, by omega, ev, fun k h0 h1 => ?_, fun k h0 h1 => ?_, ?_, by omega⟩
      · rcases Int.lt_or_le k N with hk | hk
        · have := (mu k h0 hk).1
          exact ⟨by omega, fun _ => by omega⟩
        · obtain rfl : k = N := by omega
          exact ⟨by rw [eR]; omega, fun h => by omega⟩
      · rcases Int.lt_or_le k N with hk | hk
        · exact mv k h0 hk
        · obtain rfl : k = N := by omega
          exact ⟨by rw [hn]; omega, fun h => by omega⟩
      · rw [hc]
        have : q * (u - v) + (p + q) * v = q * u + p * v := by grind
        omega
theorem TG.all {a m : Int} (hm : 0 < m) : ∀ N : Nat, (∀ k : Int, 1 ≤ k → k < (N : Int) + 2 → (a * k) % m ≠ 0) → ∃ p q u v, TG a m ((N : Int) + 2) p q u v
  | 0, h => ⟨1, 1, _, _, TG.base hm (h 1 (by omega) (by omega))⟩
  | N + 1, h => by
    obtain ⟨p, q, u, v, T⟩ := TG.all hm N (fun k k0 k1 => h k k0 (by omega))
    have := T.step (h ((N : Int) + 2) (by omega) (by omega))
    rw [show ((N + 1 : Nat) : Int) + 2 = (N : Int) + 2 + 1 by omega]
    exact this
theorem no_back {a m k : Int} (hm : 0 < m) (k0 : 1 ≤ k) (hk : k < m / ((Nat.gcd a.natAbs m.natAbs : Nat) : Int)) : (a * k) % m ≠ 0 := by
  intro h
  have h1 : m ∣ a * k := Int.dvd_of_emod_eq_zero h
  have h2 : m.natAbs ∣ a.natAbs * k.natAbs := by
    have := Int.natAbs_dvd_natAbs.2 h1
    rwa [Int.natAbs_mul] at this
  obtain ⟨g, eg⟩ : ∃ g, Nat.gcd a.natAbs m.natAbs = g := ⟨_, rfl⟩
  have g0 : 0 < g := by rw [← eg]; exact Nat.gcd_pos_of_pos_right _ (by omega)
  have cop : Nat.Coprime (a.natAbs / g) (m.natAbs / g) := by rw [← eg]; exact Nat.coprime_div_gcd_div_gcd (by rw [eg]; exact g0)
  obtain ⟨x, hx⟩ : g ∣ a.natAbs := by rw [← eg]; exact Nat.gcd_dvd_left _ _
  obtain ⟨y, hy⟩ : g ∣ m.natAbs := by rw [← eg]; exact Nat.gcd_dvd_right _ _
  rw [hx, hy, Nat.mul_div_cancel_left _ g0, Nat.mul_div_cancel_left _ g0] at cop
  have h3 : y ∣ x * k.natAbs := by
    rw [hx, hy, Nat.mul_assoc] at h2
    exact Nat.dvd_of_mul_dvd_mul_left g0 h2
  have h4 : y ∣ k.natAbs := Nat.Coprime.dvd_of_dvd_mul_left (Nat.Coprime.symm cop) h3
  have h5 := Nat.le_of_dvd (by omega) h4
  rw [eg] at hk
  have h6 : m = (g : Int) * y := by
    have : ((g * y : Nat) : Int) = (g : Int) * y := by simp
    omega
  rw [h6, Int.mul_ediv_cancel_left _ (by omega)] at hk
  omega
theorem Vk_own (a m j : Int) : Vk a a m j = (a * (j + 1)) % m := by unfold Vk; congr 1; grind
theorem TG.least {a m N p q u v : Int} (T : TG a m N p q u v) : mV a a m (N - 1) = u ∧ mK a a m (N - 1) = p - 1 ∧ mV (-a) (-a) m (N - 1) = v ∧ mK (-a) (-a) m (N - 1) = q - 1 := by
  obtain ⟨p0, p1, q0, q1, u0, u1, v0, v1, eu, ev, mu, mv, det, cov⟩ := T
  have e1 : mV a a m (N - 1) = u := mV_eq ⟨⟨p - 1, by omega, by omega, by rw [Vk_own, show p - 1 + 1 = p by omega]; exact eu⟩, fun k k0 k1 => by rw [Vk_own]; exact (mu (k + 1) (by omega) (by omega)).1⟩
  have e2 : mV (-a) (-a) m (N - 1) = v := mV_eq ⟨⟨q - 1, by omega, by omega, by rw [Vk_own, show q - 1 + 1 = q by omega]; exact ev⟩, fun k k0 k1 => by rw [Vk_own]; exact (mv (k + 1) (by omega) (by omega)).1⟩
  refine ⟨e1, ?_, e2, ?_⟩
  · unfold mK
    rw [e1]
    refine fst_eq (.inr ⟨by omega, ?_, fun j j0 j1 hj => ?_⟩)
    · unfold inV; rw [Vk_own, show p - 1 + 1 = p by omega, eu]; exact ⟨Int.le_refl _, Int.le_refl _⟩
    · unfold inV at hj; rw [Vk_own] at hj
      have := (mu (j + 1) (by omega) (by omega)).2 (by omega)
      omega
  · unfold mK
    rw [e2]
    refine fst_eq (.inr ⟨by omega, ?_, fun j j0 j1 hj => ?_⟩)
    · unfold inV; rw [Vk_own, show q - 1 + 1 = q by omega, ev]; exact ⟨Int.le_refl _, Int.le_refl _⟩
    · unfold inV at hj; rw [Vk_own] at hj
      have := (mv (j + 1) (by omega) (by omega)).2 (by omega)
      omega
theorem tg_of {a m N : Int} (hm : 0 < m) (hN : 2 ≤ N) (h : N < m / ((Nat.gcd a.natAbs m.natAbs : Nat) : Int)) : ∃ p q u v, TG a m N p q u v := by
  have := TG.all (a := a) hm (N - 2).toNat (fun k k0 k1 => no_back hm k0 (by omega))
  rwa [show (((N - 2).toNat : Nat) : Int) + 2 = N by omega] at this
end Go.Hl

namespace Go.Hl
open Go Go.RowKit Go.Proofs
structure Mn (g : Int → Int) (m k v at_ : Int) : Prop where
  le : v ≤ m
  lo : ∀ j, 0 ≤ j → j < k → v ≤ g j
  is : (v = m ∧ at_ = 0) ∨ ((0 ≤ at_ ∧ at_ < k) ∧ g at_ = v ∧ ∀ j, 0 ≤ j → j < at_ → v < g j)
theorem Mn.start (g : Int → Int) (m : Int) : Mn g m 0 m 0 := ⟨Int.le_refl _, fun j h0 h1 => by omega, .inl ⟨rfl, rfl⟩⟩
theorem Mn.less {g : Int → Int} {m k v at_ : Int} (h : Mn g m k v at_) (k0 : 0 ≤ k) (hl : g k < v) : Mn g m (k + 1) (g k) k :=
  ⟨by have := h.le; omega, fun j j0 j1 => by
    rcases Int.lt_or_le j k with h' | h'
    · have := h.lo j j0 h'; omega
    · obtain rfl : j = k := by omega
      exact Int.le_refl _, .inr ⟨by omega, rfl, fun j j0 j1 => by have := h.lo j j0 j1; omega⟩⟩
theorem Mn.more {g : Int → Int} {m k v at_ : Int} (h : Mn g m k v at_) (hl : ¬ g k < v) : Mn g m (k + 1) v at_ :=
  ⟨h.le, fun j j0 j1 => by
    rcases Int.lt_or_le j k with h' | h'
    · exact h.lo j j0 h'
    · obtain rfl : j = k := by omega
      omega, by
    rcases h.is with h | ⟨h1, h2, h3⟩
    · exact .inl h
    · exact .inr ⟨by omega, h2, h3⟩⟩
theorem Mn.done {g : Int → Int} {m k v at_ : Int} (h : Mn g m k v at_) (h0 : g 0 < m) (hk : 1 ≤ k) : (0 ≤ at_ ∧ at_ < k) ∧ g at_ = v ∧ (∀ j, 0 ≤ j → j < at_ → v < g j) ∧ ∀ j, 0 ≤ j → j < k → v ≤ g j := by
  rcases h.is with ⟨rfl, _⟩ | ⟨h1, h2, h3⟩
  · have := h.lo 0 (by omega) (by omega); omega
  · exact ⟨h1, h2, h3, h.lo⟩
theorem Mn.uniq {g : Int → Int} {n v x w y : Int} (hx : (0 ≤ x ∧ x < n) ∧ g x = v ∧ (∀ j, 0 ≤ j → j < x → v < g j) ∧ ∀ j, 0 ≤ j → j < n → v ≤ g j)
    (hy : (0 ≤ y ∧ y < n) ∧ g y = w ∧ (∀ j, 0 ≤ j → j < y → w < g j) ∧ ∀ j, 0 ≤ j → j < n → w ≤ g j) : v = w ∧ x = y := by
  obtain ⟨⟨a0, a1⟩, a2, a3, a4⟩ := hx
  obtain ⟨⟨b0, b1⟩, b2, b3, b4⟩ := hy
  have e1 := a4 y b0 b1
  have e2 := b4 x a0 a1
  have e : v = w := by omega
  refine ⟨e, ?_⟩
  rcases Int.lt_trichotomy x y with h | h | h
  · have := b3 x a0 h; omega
  · exact h
  · have := a3 y b0 h; omega
theorem least_char {a b m n : Int} (hm : 0 < m) (hn : 1 ≤ n) : (0 ≤ mK a b m n ∧ mK a b m n < n) ∧ Vk a b m (mK a b m n) = mV a b m n ∧ (∀ j, 0 ≤ j → j < mK a b m n → mV a b m n < Vk a b m j) ∧ ∀ j, 0 ≤ j → j < n → mV a b m n ≤ Vk a b m j := by
  obtain ⟨h, h0, h1⟩ := mK_isF (a := a) (b := b) hm hn
  have hr := mV_rng (a := a) (b := b) hm hn
  rcases h with ⟨h, _⟩ | ⟨_, h2, h3⟩
  · omega
  · refine ⟨⟨h0, h1⟩, by have := h2.1; have := h2.2; omega, fun j j0 j1 => ?_, hr.2⟩
    have g1 := hr.2 j j0 (by omega)
    rcases Int.lt_or_le (mV a b m n) (Vk a b m j) with h | h
    · exact h
    · exact absurd ⟨g1, h⟩ (h3 j j0 j1)
theorem least_of {a b m n v x : Int} (hm : 0 < m) (hn : 1 ≤ n) (h : Mn (Vk a b m) m n v x) : mV a b m n = v ∧ mK a b m n = x := by
  have h1 := h.done (mod_rng _ hm).2 hn
  have h2 := least_char (a := a) (b := b) hm hn
  exact Mn.uniq h2 h1
def dk (a b m k : Int) : Int := if Vk a b m k < m - Vk a b m k then Vk a b m k else m - Vk a b m k
theorem Vk_neg {m : Int} (hm : 0 < m) (a b k : Int) : Vk (-a) (-b) m k = if Vk a b m k = 0 then 0 else m - Vk a b m k := by
  unfold Vk
  have r := mod_rng (a * k + b) hm
  obtain ⟨c, hc⟩ := dvd_sub_emod (a * k + b) m
  have e : -a * k + -b = -(a * k + b) := by grind
  split
  · rename_i h
    exact emod_is ⟨-c, by rw [Int.mul_neg]; omega⟩ (by omega) (by omega)
  · rename_i h
    refine emod_is ⟨-c - 1, ?_⟩ (by omega) (by omega)
    have : m * (-c - 1) = -(m * c) - m := by grind
    omega
theorem dk_min {m : Int} (hm : 0 < m) (a b k : Int) : dk a b m k ≤ Vk a b m k ∧ dk a b m k ≤ Vk (-a) (-b) m k ∧ (dk a b m k = Vk a b m k ∨ dk a b m k = Vk (-a) (-b) m k) := by
  have r := mod_rng (a * k + b) hm
  have r : 0 ≤ Vk a b m k ∧ Vk a b m k < m := r
  rw [Vk_neg hm]
  unfold dk
  split <;> split <;> omega
theorem dk_rng {m : Int} (hm : 0 < m) (a b k : Int) : 0 ≤ dk a b m k ∧ dk a b m k < m := by
  have r := mod_rng (a * k + b) hm
  have r : 0 ≤ Vk a b m k ∧ Vk a b m k < m := r
  unfold dk
  split <;> omega
theorem near_of {a b m n v x : Int} (hm : 0 < m) (hn : 1 ≤ n) (h : Mn (dk a b m) m n v x) : nV a b m n = v ∧ nK a b m n = x := by
  have h1 := h.done (dk_rng hm a b 0).2 hn
  obtain ⟨p0, p1, p2, p3⟩ := least_char (a := a) (b := b) hm hn
  obtain ⟨q0, q1, q2, q3⟩ := least_char (a := -a) (b := -b) hm hn
  have hd := dk_min hm a b
  have hb : ¬ badL m n := by unfold badL; omega
  refine Mn.uniq (g := dk a b m) (n := n) ?_ h1
  unfold nV nK
  rw [if_neg hb, if_neg hb]
  obtain ⟨k, ek⟩ : ∃ k, mK a b m n = k := ⟨_, rfl⟩
  obtain ⟨l, el⟩ : ∃ k, mK (-a) (-b) m n = k := ⟨_, rfl⟩
  obtain ⟨s, es⟩ : ∃ k, mV a b m n = k := ⟨_, rfl⟩
  obtain ⟨t, et⟩ : ∃ k, mV (-a) (-b) m n = k := ⟨_, rfl⟩
  rw [ek] at p0 p1 p2
  rw [es] at p1 p2 p3
  rw [el] at q0 q1 q2
  rw [et] at q1 q2 q3
  rw [ek, el, es, et]
  have dl : ∀ j, 0 ≤ j → j < n → s ≤ dk a b m j ∨ t ≤ dk a b m j := fun j j0 j1 => by
    have := p3 j j0 j1
    have := q3 j j0 j1
    have := hd j
    omega
  rcases Int.lt_trichotomy s t with h | h | h
  · simp only [if_pos h, if_neg (show ¬ t < s by omega)]
    refine ⟨p0, ?_, fun j j0 j1 => ?_, fun j j0 j1 => ?_⟩
    · have := hd k; have := q3 k p0.1 p0.2; omega
    · have := p2 j j0 j1; have := q3 j j0 (by omega); have := hd j; omega
    · have := p3 j j0 j1; have := q3 j j0 j1; have := hd j; omega
  · simp only [if_neg (show ¬ s < t by omega), if_neg (show ¬ t < s by omega)]
    split
    · rename_i hkl
      refine ⟨q0, ?_, fun j j0 j1 => ?_, fun j j0 j1 => ?_⟩
      · have := hd l; have := p3 l q0.1 q0.2; omega
      · have := q2 j j0 j1; have := p2 j j0 (by omega); have := hd j; omega
      · have := p3 j j0 j1; have := q3 j j0 j1; have := hd j; omega
    · rename_i hkl
      refine ⟨p0, ?_, fun j j0 j1 => ?_, fun j j0 j1 => ?_⟩
      · have := hd k; have := q3 k p0.1 p0.2; omega
      · have := p2 j j0 j1; have := q2 j j0 (by omega); have := hd j; omega
      · have := p3 j j0 j1; have := q3 j j0 j1; have := hd j; omega
  · simp only [if_neg (show ¬ s < t by omega), if_pos h]
    refine ⟨q0, ?_, fun j j0 j1 => ?_, fun j j0 j1 => ?_⟩
    · have := hd l; have := p3 l q0.1 q0.2; omega
    · have := q2 j j0 j1; have := p3 j j0 (by omega); have := hd j; omega
    · have := p3 j j0 j1; have := q3 j j0 j1; have := hd j; omega
theorem isF_start {a b m lo hi : Int} : IsF a b m lo hi 0 (-1) := isF_none (by omega)
theorem isF_step {a b m lo hi n k : Int} (n0 : 0 ≤ n) (h : IsF a b m lo hi n k) : (k < 0 → inV a b m lo hi n → IsF a b m lo hi (n + 1) n) ∧ (k < 0 → ¬ inV a b m lo hi n → IsF a b m lo hi (n + 1) k) ∧ (¬ k < 0 → IsF a b m lo hi (n + 1) k) := by
  rcases h with ⟨rfl, h⟩ | ⟨h1, h2, h3⟩
  · refine ⟨fun _ hv => .inr ⟨by omega, hv, fun j j0 j1 => h j j0 j1⟩, fun _ hv => .inl ⟨rfl, fun j j0 j1 => ?_⟩, fun h => by omega⟩
    rcases Int.lt_or_le j n with h' | h'
    · exact h j j0 h'
    · obtain rfl : j = n := by omega
      exact hv
  · exact ⟨fun h => by omega, fun h => by omega, fun _ => .inr ⟨by omega, h2, h3⟩⟩
theorem hl_snoc (a b m w : Int) : ∀ (c : Nat) (f : Int), hl a b m w (c + 1) f = hl a b m w c f ++ (if Vk a b m (f + c) < w then [f + c] else [])
  | 0, f => by
    simp only [hl]
    have : f + ((0 : Nat) : Int) = f := by omega
    rw [this]; split <;> rfl
  | c + 1, f => by
    have h := hl_snoc a b m w c (f + 1)
    rw [show f + 1 + (c : Int) = f + ((c + 1 : Nat) : Int) by omega] at h
    rw [hl, h]
    conv => rhs; rw [hl]
    split <;> simp
theorem hl_len (a b m w : Int) : ∀ (c : Nat) (f : Int), (hl a b m w c f).length ≤ c
  | 0, _ => Nat.le_refl _
  | c + 1, f => by
    simp only [hl]
    have := hl_len a b m w c (f + 1)
    split
    · simp only [List.length_cons]; omega
    · omega
theorem hl_count (a b m w : Int) (c : Nat) : (hl a b m w c 0).length = cW a b m w c := by
  unfold cW
  induction c with
  | zero => rfl
  | succ c ih =>
    rw [hl_snoc, List.length_append, ih]
    simp only [sm]
    rw [show (0 : Int) + (c : Int) = c by omega]
    split <;> simp
end Go.Hl

namespace Go.Hl
open Go Go.RowKit Go.Proofs
theorem sm_pos {f : Nat → Nat} : ∀ {n : Nat}, sm f n = 0 → ∀ i, i < n → f i = 0
  | 0, _, _, h => by omega
  | n + 1, h, i, hi => by
    simp only [sm] at h
    rcases Nat.lt_or_ge i n with h' | h'
    · exact sm_pos (n := n) (by omega) i h'
    · obtain rfl : i = n := by omega
      omega
theorem cI_zero {a b m w n : Int} (hn : 0 ≤ n) : cI a b m w n = 0 ↔ ∀ j, 0 ≤ j → j < n → ¬ Vk a b m j < w := by
  unfold cI cW
  constructor
  · intro h j j0 j1 hv
    have := sm_pos (n := n.toNat) (f := fun k => if Vk a b m k < w then 1 else 0) (by omega) j.toNat (by omega)
    rw [show ((j.toNat : Nat) : Int) = j by omega, if_pos hv] at this
    cases this
  · intro h
    rw [sm_zero (fun i hi => if_neg (h i (by omega) (by omega)))]
    rfl
theorem cI_range {a b m lo hi n : Int} (hn : 0 ≤ n) (hlh : lo ≤ hi) : (0 ≤ cI a b m (hi + 1) n - cI a b m lo n) ∧ (cI a b m (hi + 1) n - cI a b m lo n = 0 ↔ ∀ j, 0 ≤ j → j < n → ¬ inV a b m lo hi j) := by
  have key : cW a b m (hi + 1) n.toNat = cW a b m lo n.toNat + sm (fun k => if lo ≤ Vk a b m k ∧ Vk a b m k < hi + 1 then 1 else 0) n.toNat := by
    unfold cW
    rw [← sm_add]
    refine sm_congr (fun k _ => ?_)
    split <;> split <;> split <;> omega
  unfold cI
  rw [key]
  refine ⟨by omega, ?_⟩
  constructor
  · intro h j j0 j1 hv
    have := sm_pos (n := n.toNat) (f := fun k => if lo ≤ Vk a b m k ∧ Vk a b m k < hi + 1 then 1 else 0) (by omega) j.toNat (by omega)
    rw [show ((j.toNat : Nat) : Int) = j by omega, if_pos ⟨hv.1, by have := hv.2; omega⟩] at this
    cases this
  · intro h
    rw [sm_zero (fun i hi => if_neg (fun hv => h i (by omega) (by omega) ⟨hv.1, by omega⟩))]
    omega
structure BInv (a b m lo hi n none some : Int) : Prop where
  rng : 0 ≤ none ∧ none < some ∧ some ≤ n
  no : ∀ j, 0 ≤ j → j < none → ¬ inV a b m lo hi j
  yes : ∃ j, 0 ≤ j ∧ j < some ∧ inV a b m lo hi j
theorem not_all {n : Int} {p : Int → Prop} (h : ¬ ∀ j, 0 ≤ j → j < n → ¬ p j) : ∃ j, 0 ≤ j ∧ j < n ∧ p j := by
  by_cases h' : ∃ j, 0 ≤ j ∧ j < n ∧ p j
  · exact h'
  · exact absurd (fun j j0 j1 hj => h' ⟨j, j0, j1, hj⟩) h
theorem BInv.start {a b m lo hi n : Int} (hn : 1 ≤ n) (h : ¬ ∀ j, 0 ≤ j → j < n → ¬ inV a b m lo hi j) : BInv a b m lo hi n 0 n :=
  ⟨by omega, fun j j0 j1 => by omega, not_all h⟩
theorem BInv.up {a b m lo hi n x y z : Int} (h : BInv a b m lo hi n x y) (h2 : z < y) (h1 : x ≤ z) (hz : ∀ j, 0 ≤ j → j < z → ¬ inV a b m lo hi j) : BInv a b m lo hi n z y :=
  ⟨by have := h.rng; omega, hz, h.yes⟩
theorem BInv.down {a b m lo hi n x y z : Int} (h : BInv a b m lo hi n x y) (h2 : z ≤ y) (h1 : x < z) (hz : ¬ ∀ j, 0 ≤ j → j < z → ¬ inV a b m lo hi j) : BInv a b m lo hi n x z :=
  ⟨by have := h.rng; omega, h.no, not_all hz⟩
theorem BInv.done {a b m lo hi n x y : Int} (h : BInv a b m lo hi n x y) (hd : ¬ 1 < y - x) : fst' a b m lo hi n = x := by
  obtain ⟨j, j0, j1, hj⟩ := h.yes
  have hr := h.rng
  have : j = x := by
    rcases Int.lt_or_le j x with h' | h'
    · exact absurd hj (h.no j j0 h')
    · omega
  subst this
  exact fst_eq (.inr ⟨by omega, hj, h.no⟩)
theorem fst_zero {a b m lo hi n : Int} (h : ∀ j, 0 ≤ j → j < n → ¬ inV a b m lo hi j) : fst' a b m lo hi n = -1 := fst_eq (.inl ⟨rfl, h⟩)
structure RInv2 (a b m n lo hi : Int) : Prop where
  rng : 0 ≤ lo ∧ lo ≤ hi ∧ hi < m
  no : ∀ k, 0 ≤ k → k < n → lo ≤ Vk a b m k
  yes : ∃ k, 0 ≤ k ∧ k < n ∧ Vk a b m k ≤ hi
theorem RInv2.start {a b m n : Int} (hm : 0 < m) (hn : 1 ≤ n) : RInv2 a b m n 0 (m - 1) :=
  ⟨by omega, fun k _ _ => (mod_rng _ hm).1, ⟨0, by omega, by omega, by have := (mod_rng (a * 0 + b) hm).2; unfold Vk; omega⟩⟩
theorem RInv2.up {a b m n lo hi mid : Int} (h : RInv2 a b m n lo hi) (h1 : lo ≤ mid) (h2 : mid < hi) (hn : 0 ≤ n) (hc : cI a b m (mid + 1) n = 0) : RInv2 a b m n (mid + 1) hi :=
  ⟨by have := h.rng; omega, fun k k0 k1 => by have := (cI_zero hn).1 hc k k0 k1; omega, h.yes⟩
theorem RInv2.down {a b m n lo hi mid : Int} (h : RInv2 a b m n lo hi) (h1 : lo ≤ mid) (h2 : mid < hi) (hn : 0 ≤ n) (hc : ¬ cI a b m (mid + 1) n = 0) : RInv2 a b m n lo mid := by
  refine ⟨by have := h.rng; omega, h.no, ?_⟩
  obtain ⟨k, k0, k1, hk⟩ := not_all (p := fun k => Vk a b m k < mid + 1) (fun h => hc ((cI_zero hn).2 h))
  exact ⟨k, k0, k1, by omega⟩
theorem RInv2.done {a b m n lo : Int} (h : RInv2 a b m n lo lo) : mV a b m n = lo := by
  obtain ⟨k, k0, k1, hk⟩ := h.yes
  have := h.no k k0 k1
  exact mV_eq ⟨⟨k, k0, k1, by omega⟩, h.no⟩
structure HInv (a b m w n most at_ : Int) (L : List Int) : Prop where
  rng : 0 ≤ at_ ∧ at_ ≤ n
  len : (L.length : Int) ≤ most
  all : hl a b m w n.toNat 0 = L ++ hl a b m w (n - at_).toNat at_
theorem HInv.start {a b m w n most : Int} (hn : 0 ≤ n) (hm : 0 ≤ most) : HInv a b m w n most 0 [] := ⟨by omega, by simpa using hm, by simp⟩
theorem Vk_at (a b m f j : Int) : Vk a (Vk a b m f) m j = Vk a (b + a * f) m j := by
  unfold Vk
  have e := Int.mul_ediv_add_emod (a * f + b) m
  have : a * j + (b + a * f) = (a * j + (a * f + b) % m) + m * ((a * f + b) / m) := by omega
  rw [this, Int.add_mul_emod_self_left]
theorem HInv.cases {a b m w n most at_ k : Int} {L : List Int} (hm : 0 < m) (h : HInv a b m w n most at_ L) (hk : fst' a (Vk a b m at_) m 0 (w - 1) (n - at_) = k) (hF : IsF a (Vk a b m at_) m 0 (w - 1) (n - at_) (fst' a (Vk a b m at_) m 0 (w - 1) (n - at_))) :
    (k < 0 → hl a b m w n.toNat 0 = L) ∧ (¬ k < 0 → (0 ≤ k ∧ k < n - at_) ∧ hl a b m w n.toNat 0 = (L ++ [at_ + k]) ++ hl a b m w (n - (at_ + k + 1)).toNat (at_ + k + 1)) := by
  rw [hk] at hF
  rw [isF_congr (Vk_at a b m at_)] at hF
  rw [h.all]
  rcases hl_isF hm hF with ⟨rfl, e⟩ | ⟨k0, k1, e⟩
  · rw [e]
    exact ⟨fun _ => List.append_nil _, fun h => by omega⟩
  · refine ⟨fun h => by omega, fun _ => ⟨⟨k0, k1⟩, ?_⟩⟩
    rw [e, List.append_assoc, show n - (at_ + k + 1) = n - at_ - k - 1 by omega]
    rfl
theorem HInv.next {a b m w n most at_ k : Int} {L : List Int} (h : HInv a b m w n most at_ L) (hk : 0 ≤ k ∧ k < n - at_) (hl' : (L.length : Int) ≠ most) (e : hl a b m w n.toNat 0 = (L ++ [at_ + k]) ++ hl a b m w (n - (at_ + k + 1)).toNat (at_ + k + 1)) :
    HInv a b m w n most (at_ + k + 1) (L ++ [at_ + k]) := by
  refine ⟨by have := h.rng; omega, ?_, e⟩
  have := h.len
  rw [List.length_append]
  simp only [List.length_singleton]
  omega
theorem HInv.end_ {a b m w n most at_ : Int} {L : List Int} (h : HInv a b m w n most at_ L) (hd : ¬ at_ < n) : hl a b m w n.toNat 0 = L := by
  rw [h.all, show (n - at_).toNat = 0 by have := h.rng; omega]
  exact List.append_nil _
theorem hits_all {a b m w n most : Int} {L : List Int} (hb : ¬ badH m w n most) (hl' : (L.length : Int) ≤ most) (e : hl a b m w n.toNat 0 = L) : hT a b m w n most = L ∧ hM a b m w n most = false ∧ hE m w n most = 0 := by
  unfold hT hM hE
  rw [if_neg hb, if_neg hb, if_neg hb, e]
  exact ⟨List.take_of_length_le (by omega), decide_eq_false (by omega), rfl⟩
theorem hits_more {a b m w n most x : Int} {L R : List Int} (hb : ¬ badH m w n most) (hl' : (L.length : Int) = most) (e : hl a b m w n.toNat 0 = (L ++ [x]) ++ R) : hT a b m w n most = L ∧ hM a b m w n most = true ∧ hE m w n most = 0 := by
  unfold hT hM hE
  rw [if_neg hb, if_neg hb, if_neg hb, e]
  refine ⟨?_, decide_eq_true ?_, rfl⟩
  · rw [List.append_assoc, show most.toNat = L.length by omega]
    exact List.take_left' rfl
  · simp only [List.length_append, List.length_singleton]; omega
end Go.Hl

/- lefevre's laws: parts counted and whole; whole circles more: the plain laws Three gaps: the plain law lefevre's law Tries: going through all, the plain law ref15: counting, halving: the plain laws ref15's Gaps: points laid into a list that rises, arcs: the plain law lefevre: Gaps: what it tells, and what stands of it ref15's Gaps tells what lefevre's tells: the plain law -/
import Derived.Test.YtccbmjkhplmgnaaHlW
set_option linter.unusedVariables false
set_option linter.unusedSimpArgs false
namespace Go.Hl
open Go Go.RowKit Go.Proofs
theorem sm_append (f : Nat → Nat) (n : Nat) : ∀ k, sm f (n + k) = sm f n + sm (fun i => f (n + i)) k
  | 0 => rfl
  | k + 1 => by
    rw [← Nat.add_assoc]
    simp only [sm]
    rw [sm_append f n k, Nat.add_assoc]
theorem cI_split {a b m w n k : Int} (hn : 0 ≤ n) (hk : 0 ≤ k) : cI a b m w n + cI a (b + a * n) m w k = cI a b m w (n + k) := by
  unfold cI cW
  rw [Int.toNat_add hn hk, sm_append]
  have : sm (fun i => if Vk a b m ((n.toNat + i : Nat) : Int) < w then 1 else 0) k.toNat = sm (fun i => if Vk a (b + a * n) m (i : Int) < w then 1 else 0) k.toNat := sm_congr (fun i _ => by
    rw [Vk_shift, show ((n.toNat + i : Nat) : Int) = n + (i : Int) by omega])
  rw [this]
  omega
theorem sm_one {g : Nat → Nat} : ∀ {n j : Nat}, j < n → g j = 1 → (∀ i, i < n → i ≠ j → g i = 0) → sm g n = 1
  | 0, _, h, _, _ => by omega
  | n + 1, j, h, h1, h0 => by
    simp only [sm]
    rcases Nat.lt_or_ge j n with h' | h'
    · rw [sm_one h' h1 (fun i hi hne => h0 i (by omega) hne), h0 n (by omega) (by omega)]
    · have e : j = n := by omega
      subst e
      rw [sm_zero (fun i hi => h0 i (by omega) (by omega)), h1]
theorem onto {m : Nat} {f : Nat → Nat} (h1 : ∀ j, j < m → f j < m) (h2 : ∀ i j, i < j → j < m → f i ≠ f j) {v : Nat} (hv : v < m) : ∃ j, j < m ∧ f j = v := by
  by_cases h : ∃ j, j < m ∧ f j = v
  · exact h
  exfalso
  have hne : ∀ j, j < m → f j ≠ v := fun j hj e => h ⟨j, hj, e⟩
  have := php (m - 1) m (fun j => if f j < v then f j else f j - 1) (fun j hj => by
    have := h1 j hj
    have := hne j hj
    try dsimp only
    split <;> omega) (fun i j hij hj => by
    have := h2 i j hij hj
    have := hne i (by omega)
    have := hne j hj
    try dsimp only
    split <;> split <;> omega)
  omega
theorem Vk_inj {a b m : Int} (hm : 0 < m) (hg : Nat.gcd a.natAbs m.natAbs = 1) {i j : Nat} (hij : i < j) (hj : (j : Int) < m) : Vk a b m i ≠ Vk a b m j := by
  unfold Vk
  intro e
  have h1 : m ∣ (a * j + b) - (a * i + b) := Int.dvd_of_emod_eq_zero (Int.emod_eq_emod_iff_emod_sub_eq_zero.1 e.symm)
  have h2 : (a * j + b) - (a * i + b) = a * ((j - i : Nat) : Int) := by
    rw [Int.natCast_sub (by omega), Int.mul_sub]; omega
  rw [h2] at h1
  have h3 : m.natAbs ∣ a.natAbs * (j - i) := by
    have := Int.natAbs_dvd_natAbs.2 h1
    rw [Int.natAbs_mul, Int.natAbs_natCast] at this
    exact this
  have h4 : m.natAbs ∣ j - i := Nat.Coprime.dvd_of_dvd_mul_left (Nat.Coprime.symm hg) h3
  have h5 := Nat.le_of_dvd (by omega) h4
  omega
theorem cI_full {a b m w : Int} (hm : 0 < m) (hg : Nat.gcd a.natAbs m.natAbs = 1) (hw : 0 ≤ w) (hwm : w ≤ m) : cI a b m w m = w := by
  obtain ⟨w, rfl⟩ := Int.eq_ofNat_of_zero_le hw
  have key : ∀ w : Nat, (w : Int) ≤ m → cW a b m w m.toNat = w := by
    intro w
    induction w with
    | zero =>
      intro _
      unfold cW
      exact sm_zero (fun i _ => if_neg (by have := (mod_rng (a * i + b) hm).1; unfold Vk; omega))
    | succ w ih =>
      intro h
      have ih := ih (by omega)
      obtain ⟨j, hj, hv⟩ := onto (m := m.toNat) (f := fun j => (Vk a b m j).toNat) (fun j _ => by
        have := mod_rng (a * j + b) hm
        show (Vk a b m j).toNat < _
        unfold Vk; omega) (fun i j hij hj => by
        have := mod_rng (a * i + b) hm
        have := mod_rng (a * j + b) hm
        have h' := Vk_inj (b := b) hm hg hij (by omega)
        show (Vk a b m i).toNat ≠ (Vk a b m j).toNat
        unfold Vk at *; omega) (v := w) (by omega)
      have hv : Vk a b m j = w := by
        have := mod_rng (a * j + b) hm
        have hv : (Vk a b m j).toNat = w := hv
        unfold Vk at *; omega
      have h1 : sm (fun k => if Vk a b m k = w then 1 else 0) m.toNat = 1 := sm_one hj (if_pos hv) (fun i hi hne => if_neg (fun e => by
        rcases Nat.lt_or_gt_of_ne hne with h' | h'
        · exact Vk_inj hm hg h' (by omega) (e.trans hv.symm)
        · exact Vk_inj hm hg h' (by omega) (hv.trans e.symm)))
      have h2 : cW a b m ((w + 1 : Nat) : Int) m.toNat = cW a b m w m.toNat + sm (fun k => if Vk a b m k = w then 1 else 0) m.toNat := by
        unfold cW
        rw [← sm_add]
        refine sm_congr (fun k _ => ?_)
        split <;> split <;> split <;> omega
      rw [h2, ih, h1]
  unfold cI
  rw [key w hwm]
theorem wK_good {a b m w n : Int} (h : ¬ badM m w n) : wK a b m w n = cI a b m w n := if_neg h
theorem wE_good {m w n : Int} (h : ¬ badM m w n) : wE m w n = 0 := if_neg h
theorem Vk_turn (a b m c d k : Int) : Vk (a + c * m) (b + d * m) m k = Vk a b m k := by
  unfold Vk
  have : (a + c * m) * k + (b + d * m) = (a * k + b) + m * (c * k + d) := by grind
  rw [this, Int.add_mul_emod_self_left]
theorem isF_congr {a b a' b' m lo hi n : Int} (h : ∀ k, Vk a b m k = Vk a' b' m k) : IsF a b m lo hi n = IsF a' b' m lo hi n := by
  funext k
  unfold IsF inV
  simp only [h]
theorem fst_congr {a b a' b' m lo hi n : Int} (h : ∀ k, Vk a b m k = Vk a' b' m k) : fst' a b m lo hi n = fst' a' b' m lo hi n := by
  unfold fst'
  rw [isF_congr h]
theorem isM_congr {a b a' b' m n : Int} (h : ∀ k, Vk a b m k = Vk a' b' m k) : IsM a b m n = IsM a' b' m n := by
  funext k
  unfold IsM
  simp only [h]
theorem mV_congr {a b a' b' m n : Int} (h : ∀ k, Vk a b m k = Vk a' b' m k) : mV a b m n = mV a' b' m n := by
  unfold mV
  rw [isM_congr h]
theorem mK_congr {a b a' b' m n : Int} (h : ∀ k, Vk a b m k = Vk a' b' m k) : mK a b m n = mK a' b' m n := by
  unfold mK
  rw [mV_congr h, fst_congr h]
theorem cI_congr {a b a' b' m w n : Int} (h : ∀ k, Vk a b m k = Vk a' b' m k) : cI a b m w n = cI a' b' m w n := by
  unfold cI cW
  simp only [h]
theorem fK_congr {a b a' b' m lo hi n : Int} (h : ∀ k, Vk a b m k = Vk a' b' m k) : fK a b m lo hi n = fK a' b' m lo hi n := by
  unfold fK; rw [fst_congr h]
theorem fE_congr {a b a' b' m lo hi n : Int} (h : ∀ k, Vk a b m k = Vk a' b' m k) : fE a b m lo hi n = fE a' b' m lo hi n := by
  unfold fE; rw [fst_congr h]
theorem lK_congr {a b a' b' m n : Int} (h : ∀ k, Vk a b m k = Vk a' b' m k) : lK a b m n = lK a' b' m n := by
  unfold lK; rw [mK_congr h]
theorem lV_congr {a b a' b' m n : Int} (h : ∀ k, Vk a b m k = Vk a' b' m k) : lV a b m n = lV a' b' m n := by
  unfold lV; rw [mV_congr h]
theorem wK_congr {a b a' b' m w n : Int} (h : ∀ k, Vk a b m k = Vk a' b' m k) : wK a b m w n = wK a' b' m w n := by
  unfold wK; rw [cI_congr h]
theorem fst_next {a b m lo hi n : Int} (hlo : 0 ≤ lo) (hlh : lo ≤ hi) (hhi : hi < m) (hn : 2 ≤ n) :
    (fst' a b m lo hi n < 0 → fst' a (b + a) m lo hi (n - 1) < 0) ∧ (0 < fst' a b m lo hi n → fst' a (b + a) m lo hi (n - 1) = fst' a b m lo hi n - 1) := by
  have h := fst_rng (a := a) (b := b) (n := n) hlo hlh hhi
  obtain ⟨k, ek⟩ : ∃ k, fst' a b m lo hi n = k := ⟨_, rfl⟩
  rw [ek] at h ⊢
  have hs : ∀ j, inV a (b + a) m lo hi j ↔ inV a b m lo hi (j + 1) := fun j => by
    have : Vk a (b + a) m j = Vk a b m (j + 1) := by
      have := Vk_shift a b m 1 j
      rw [Int.mul_one, Int.add_comm 1 j] at this
      exact this
    unfold inV; rw [this]
  rcases h with ⟨rfl, h⟩ | ⟨h0, h1, h2⟩
  · refine ⟨fun _ => ?_, fun h => by omega⟩
    have : fst' a (b + a) m lo hi (n - 1) = -1 := fst_eq (.inl ⟨rfl, fun j j0 j1 hj => h (j + 1) (by omega) (by omega) ((hs j).1 hj)⟩)
    omega
  · refine ⟨fun h => by omega, fun hp => ?_⟩
    refine fst_eq (.inr ⟨by omega, (hs _).2 (by rw [show k - 1 + 1 = k by omega]; exact h1), fun j j0 j1 hj => h2 (j + 1) (by omega) (by omega) ((hs j).1 hj)⟩)
end Go.Hl

namespace Go.Hl
open Go Go.RowKit Go.Proofs
structure TG (a m N p q u v : Int) : Prop where
  p0 : 1 ≤ p
  p1 : p < N
  q0 : 1 ≤ q
  q1 : q < N
  u0 : 0 < u
  u1 : u < m
  v0 : 0 < v
  v1 : v < m
  eu : (a * p) % m = u
  ev : (-a * q) % m = v
  mu : ∀ k, 1 ≤ k → k < N → u ≤ (a * k) % m ∧ (k < p → u < (a * k) % m)
  mv : ∀ k, 1 ≤ k → k < N → v ≤ (-a * k) % m ∧ (k < q → v < (-a * k) % m)
  det : q * u + p * v = m
  cov : N ≤ p + q
theorem emod_is {x r m : Int} (h : m ∣ x - r) (h0 : 0 ≤ r) (h1 : r < m) : x % m = r := by
  obtain ⟨c, hc⟩ := h
  have : x = r + m * c := by omega
  rw [this, Int.add_mul_emod_self_left]
  exact Int.emod_eq_of_lt h0 h1
theorem dvd_sub_emod (x m : Int) : m ∣ x - x % m := ⟨x / m, by have := Int.mul_ediv_add_emod x m; omega⟩
theorem neg_emod_is {a k m : Int} (hm : 0 < m) (h : (a * k) % m ≠ 0) : (-a * k) % m = m - (a * k) % m := by
  have r := mod_rng (a * k) hm
  refine emod_is ?_ (by omega) (by omega)
  obtain ⟨c, hc⟩ := dvd_sub_emod (a * k) m
  refine ⟨-c - 1, ?_⟩
  have : m * (-c - 1) = -(m * c) - m := by grind
  have : -a * k = -(a * k) := Int.neg_mul ..
  omega
theorem TG.base {a m : Int} (hm : 0 < m) (h : (a * 1) % m ≠ 0) : TG a m 2 1 1 ((a * 1) % m) (m - (a * 1) % m) := by
  have r := mod_rng (a * 1) hm
  have hn := neg_emod_is hm h
  refine ⟨by omega, by omega, by omega, by omega, by omega, by omega, by omega, by omega, rfl, hn, fun k k0 k1 => ?_, fun k k0 k1 => ?_, by omega, by omega⟩
  · obtain rfl : k = 1 := by omega
    exact ⟨Int.le_refl _, fun h => by omega⟩
  · obtain rfl : k = 1 := by omega
    exact ⟨by rw [hn]; exact Int.le_refl _, fun h => by omega⟩
theorem TG.step {a m N p q u v : Int} (T : TG a m N p q u v) (h : (a * N) % m ≠ 0) : ∃ p q u v, TG a m (N + 1) p q u v := by
  obtain ⟨p0, p1, q0, q1, u0, u1, v0, v1, eu, ev, mu, mv, det, cov⟩ := T
  have hm : 0 < m := by omega
  have r := mod_rng (a * N) hm
  have hn := neg_emod_is hm h
  obtain ⟨cp, hcp⟩ := dvd_sub_emod (a * p) m
  rw [eu] at hcp
  obtain ⟨cq, hcq⟩ := dvd_sub_emod (-a * q) m
  rw [ev] at hcq
  obtain ⟨cN, hcN⟩ := dvd_sub_emod (a * N) m
  obtain ⟨R, eR⟩ : ∃ R, (a * N) % m = R := ⟨_, rfl⟩
  rw [eR] at r hn hcN h
  rcases Int.lt_or_eq_of_le cov with hc | hc
  · -- nothing comes nearer
    have n1 : -a * (N - p) = -(a * N) + a * p := by grind
    have n2 : a * (N - q) = a * N + -a * q := by grind
    have n3 : -a * (N - p) = -(a * N) + a * p := n1
    have k1 : u ≤ R := by
      rcases Int.lt_or_le R u with hl | hl
      · exfalso
        have e1 : (-a * (N - p)) % m = u - R := emod_is ⟨cp - cN, by rw [Int.mul_sub m]; omega⟩ (by omega) (by omega)
        have g1 := (mv (N - p) (by omega) (by omega)).1
        rw [e1] at g1
        have e2 : (a * (N - q)) % m = R + v := emod_is ⟨cN + cq, by rw [Int.mul_add]; omega⟩ (by omega) (by omega)
        have g2 := (mu (N - q) (by omega) (by omega)).2 (by omega)
        rw [e2] at g2
        omega
      · exact hl
    have k2 : v ≤ m - R := by
      rcases Int.lt_or_le (m - R) v with hl | hl
      · exfalso
        have e1 : (a * (N - q)) % m = v - (m - R) := emod_is ⟨cN + cq + 1, by rw [Int.mul_add, Int.mul_add]; omega⟩ (by omega) (by omega)
        have g1 := (mu (N - q) (by omega) (by omega)).1
        rw [e1] at g1
        have e2 : (-a * (N - p)) % m = m - R + u := emod_is ⟨cp - cN - 1, by rw [Int.mul_sub m, Int.mul_sub m]; omega⟩ (by omega) (by omega)
        have g2 := (mv (N - p) (by omega) (by omega)).2 (by omega)
        rw [e2] at g2
        omega
      · exact hl
    refine ⟨p, q, u, v, p0, by omega, q0, by omega, u0, u1, v0, v1, eu, ev, fun k h0 h1 => ?_, fun k h0 h1 => ?_, det, by omega⟩
    · rcases Int.lt_or_le k N with hk | hk
      · exact mu k h0 hk
      · obtain rfl : k = N := by omega
        exact ⟨by rw [eR]; exact k1, fun h => by omega⟩
    · rcases Int.lt_or_le k N with hk | hk
      · exact mv k h0 hk
      · obtain rfl : k = N := by omega
        exact ⟨by rw [hn]; exact k2, fun h => by omega⟩
  · have n1 : a * N = a * p + -(-a * q) := by rw [hc]; grind
    rcases Int.lt_trichotomy u v with hl | hl | hl
    · -- the other side comes nearer
      have e1 : R = m + u - v := by
        rw [← eR]
        exact emod_is ⟨cp - cq - 1, by rw [Int.mul_sub m, Int.mul_sub m]; omega⟩ (by omega) (by omega)
      refine ⟨p, N, u, v - u, p0, by omega, by omega, by omega, u0, u1, by omega, by omega, eu, by rw [hn]; omega, fun k h0 h1 => ?_, fun k h0 h1 => ?_, ?_, by omega⟩
      · rcases Int.lt_or_le k N with hk | hk
        · exact mu k h0 hk
        · obtain rfl : k = N := by omega
          exact ⟨by rw [eR]; omega, fun h => by omega⟩
      · rcases Int.lt_or_le k N with hk | hk
        · have := (mv k h0 hk).1
          exact ⟨by omega, fun _ => by omega⟩
        · obtain rfl : k = N := by omega
          exact ⟨by rw [hn]; omega, fun h => by omega⟩
      · rw [hc]
        have : (p + q) * u + p * (v - u) = q * u + p * v := by grind
        omega
    · exfalso
      apply h
      rw [← eR]
      exact emod_is ⟨cp - cq, by rw [Int.mul_sub m]; omega⟩ (by omega) (by omega)
    · have e1 : R = u - v := by
        rw [← eR]
        exact emod_is ⟨cp - cq, by rw [Int.mul_sub m]; omega⟩ (by omega) (by omega)
      refine ⟨N, q, u - v, v, by omega, by omega, q0, by omega, by omega, by omega, v0, v1, by omega, ev, fun k h0 h1 => ?_, fun k h0 h1 => ?_, ?_, by omega⟩
      · rcases Int.lt_or_le k N with hk | hk
        · have := (mu k h0 hk).1
          exact ⟨by omega, fun _ => by omega⟩
        · obtain rfl : k = N := by omega
          exact ⟨by rw [eR]; omega, fun h => by omega⟩
      · rcases Int.lt_or_le k N with hk | hk
        · exact mv k h0 hk
        · obtain rfl : k = N := by omega
          exact ⟨by rw [hn]; omega, fun h => by omega⟩
      · rw [hc]
        have : q * (u - v) + (p + q) * v = q * u + p * v := by grind
        omega
theorem TG.all {a m : Int} (hm : 0 < m) : ∀ N : Nat, (∀ k : Int, 1 ≤ k → k < (N : Int) + 2 → (a * k) % m ≠ 0) → ∃ p q u v, TG a m ((N : Int) + 2) p q u v
  | 0, h => ⟨1, 1, _, _, TG.base hm (h 1 (by omega) (by omega))⟩
  | N + 1, h => by
    obtain ⟨p, q, u, v, T⟩ := TG.all hm N (fun k k0 k1 => h k k0 (by omega))
    have := T.step (h ((N : Int) + 2) (by omega) (by omega))
    rw [show ((N + 1 : Nat) : Int) + 2 = (N : Int) + 2 + 1 by omega]
    exact this
theorem no_back {a m k : Int} (hm : 0 < m) (k0 : 1 ≤ k) (hk : k < m / ((Nat.gcd a.natAbs m.natAbs : Nat) : Int)) : (a * k) % m ≠ 0 := by
  intro h
  have h1 : m ∣ a * k := Int.dvd_of_emod_eq_zero h
  have h2 : m.natAbs ∣ a.natAbs * k.natAbs := by
    have := Int.natAbs_dvd_natAbs.2 h1
    rwa [Int.natAbs_mul] at this
  obtain ⟨g, eg⟩ : ∃ g, Nat.gcd a.natAbs m.natAbs = g := ⟨_, rfl⟩
  have g0 : 0 < g := by rw [← eg]; exact Nat.gcd_pos_of_pos_right _ (by omega)
  have cop : Nat.Coprime (a.natAbs / g) (m.natAbs / g) := by rw [← eg]; exact Nat.coprime_div_gcd_div_gcd (by rw [eg]; exact g0)
  obtain ⟨x, hx⟩ : g ∣ a.natAbs := by rw [← eg]; exact Nat.gcd_dvd_left _ _
  obtain ⟨y, hy⟩ : g ∣ m.natAbs := by rw [← eg]; exact Nat.gcd_dvd_right _ _
  rw [hx, hy, Nat.mul_div_cancel_left _ g0, Nat.mul_div_cancel_left _ g0] at cop
  have h3 : y ∣ x * k.natAbs := by
    rw [hx, hy, Nat.mul_assoc] at h2
    exact Nat.dvd_of_mul_dvd_mul_left g0 h2
  have h4 : y ∣ k.natAbs := Nat.Coprime.dvd_of_dvd_mul_left (Nat.Coprime.symm cop) h3
  have h5 := Nat.le_of_dvd (by omega) h4
  rw [eg] at hk
  have h6 : m = (g : Int) * y := by
    have : ((g * y : Nat) : Int) = (g : Int) * y := by simp
    omega
  rw [h6, Int.mul_ediv_cancel_left _ (by omega)] at hk
  omega
theorem Vk_own (a m j : Int) : Vk a a m j = (a * (j + 1)) % m := by unfold Vk; congr 1; grind
theorem TG.least {a m N p q u v : Int} (T : TG a m N p q u v) : mV a a m (N - 1) = u ∧ mK a a m (N - 1) = p - 1 ∧ mV (-a) (-a) m (N - 1) = v ∧ mK (-a) (-a) m (N - 1) = q - 1 := by
  obtain ⟨p0, p1, q0, q1, u0, u1, v0, v1, eu, ev, mu, mv, det, cov⟩ := T
  have e1 : mV a a m (N - 1) = u := mV_eq ⟨⟨p - 1, by omega, by omega, by rw [Vk_own, show p - 1 + 1 = p by omega]; exact eu⟩, fun k k0 k1 => by rw [Vk_own]; exact (mu (k + 1) (by omega) (by omega)).1⟩
  have e2 : mV (-a) (-a) m (N - 1) = v := mV_eq ⟨⟨q - 1, by omega, by omega, by rw [Vk_own, show q - 1 + 1 = q by omega]; exact ev⟩, fun k k0 k1 => by rw [Vk_own]; exact (mv (k + 1) (by omega) (by omega)).1⟩
  refine ⟨e1, ?_, e2, ?_⟩
  · unfold mK
    rw [e1]
    refine fst_eq (.inr ⟨by omega, ?_, fun j j0 j1 hj => ?_⟩)
    · unfold inV; rw [Vk_own, show p - 1 + 1 = p by omega, eu]; exact ⟨Int.le_refl _, Int.le_refl _⟩
    · unfold inV at hj; rw [Vk_own] at hj
      have := (mu (j + 1) (by omega) (by omega)).2 (by omega)
      omega
  · unfold mK
    rw [e2]
    refine fst_eq (.inr ⟨by omega, ?_, fun j j0 j1 hj => ?_⟩)
    · unfold inV; rw [Vk_own, show q - 1 + 1 = q by omega, ev]; exact ⟨Int.le_refl _, Int.le_refl _⟩
    · unfold inV at hj; rw [Vk_own] at hj
      have := (mv (j + 1) (by omega) (by omega)).2 (by omega)
      omega
theorem tg_of {a m N : Int} (hm : 0 < m) (hN : 2 ≤ N) (h : N < m / ((Nat.gcd a.natAbs m.natAbs : Nat) : Int)) : ∃ p q u v, TG a m N p q u v := by
  have := TG.all (a := a) hm (N - 2).toNat (fun k k0 k1 => no_back hm k0 (by omega))
  rwa [show (((N - 2).toNat : Nat) : Int) + 2 = N by omega] at this
end Go.Hl

namespace Go.Hl
open Go Go.RowKit Go.Proofs
structure Mn (g : Int → Int) (m k v at_ : Int) : Prop where
  le : v ≤ m
  lo : ∀ j, 0 ≤ j → j < k → v ≤ g j
  is : (v = m ∧ at_ = 0) ∨ ((0 ≤ at_ ∧ at_ < k) ∧ g at_ = v ∧ ∀ j, 0 ≤ j → j < at_ → v < g j)
theorem Mn.start (g : Int → Int) (m : Int) : Mn g m 0 m 0 := ⟨Int.le_refl _, fun j h0 h1 => by omega, .inl ⟨rfl, rfl⟩⟩
theorem Mn.less {g : Int → Int} {m k v at_ : Int} (h : Mn g m k v at_) (k0 : 0 ≤ k) (hl : g k < v) : Mn g m (k + 1) (g k) k :=
  ⟨by have := h.le; omega, fun j j0 j1 => by
    rcases Int.lt_or_le j k with h' | h'
    · have := h.lo j j0 h'; omega
    · obtain rfl : j = k := by omega
      exact Int.le_refl _, .inr ⟨by omega, rfl, fun j j0 j1 => by have := h.lo j j0 j1; omega⟩⟩
theorem Mn.more {g : Int → Int} {m k v at_ : Int} (h : Mn g m k v at_) (hl : ¬ g k < v) : Mn g m (k + 1) v at_ :=
  ⟨h.le, fun j j0 j1 => by
    rcases Int.lt_or_le j k with h' | h'
    · exact h.lo j j0 h'
    · obtain rfl : j = k := by omega
      omega, by
    rcases h.is with h | ⟨h1, h2, h3⟩
    · exact .inl h
    · exact .inr ⟨by omega, h2, h3⟩⟩
theorem Mn.done {g : Int → Int} {m k v at_ : Int} (h : Mn g m k v at_) (h0 : g 0 < m) (hk : 1 ≤ k) : (0 ≤ at_ ∧ at_ < k) ∧ g at_ = v ∧ (∀ j, 0 ≤ j → j < at_ → v < g j) ∧ ∀ j, 0 ≤ j → j < k → v ≤ g j := by
  rcases h.is with ⟨rfl, _⟩ | ⟨h1, h2, h3⟩
  · have := h.lo 0 (by omega) (by omega); omega
  · exact ⟨h1, h2, h3, h.lo⟩
theorem Mn.uniq {g : Int → Int} {n v x w y : Int} (hx : (0 ≤ x ∧ x < n) ∧ g x = v ∧ (∀ j, 0 ≤ j → j < x → v < g j) ∧ ∀ j, 0 ≤ j → j < n → v ≤ g j)
    (hy : (0 ≤ y ∧ y < n) ∧ g y = w ∧ (∀ j, 0 ≤ j → j < y → w < g j) ∧ ∀ j, 0 ≤ j → j < n → w ≤ g j) : v = w ∧ x = y := by
  obtain ⟨⟨a0, a1⟩, a2, a3, a4⟩ := hx
  obtain ⟨⟨b0, b1⟩, b2, b3, b4⟩ := hy
  have e1 := a4 y b0 b1
  have e2 := b4 x a0 a1
  have e : v = w := by omega
  refine ⟨e, ?_⟩
  rcases Int.lt_trichotomy x y with h | h | h
  · have := b3 x a0 h; omega
  · exact h
  · have := a3 y b0 h; omega
theorem least_char {a b m n : Int} (hm : 0 < m) (hn : 1 ≤ n) : (0 ≤ mK a b m n ∧ mK a b m n < n) ∧ Vk a b m (mK a b m n) = mV a b m n ∧ (∀ j, 0 ≤ j → j < mK a b m n → mV a b m n < Vk a b m j) ∧ ∀ j, 0 ≤ j → j < n → mV a b m n ≤ Vk a b m j := by
  obtain ⟨h, h0, h1⟩ := mK_isF (a := a) (b := b) hm hn
  have hr := mV_rng (a := a) (b := b) hm hn
  rcases h with ⟨h, _⟩ | ⟨_, h2, h3⟩
  · omega
  · refine ⟨⟨h0, h1⟩, by have := h2.1; have := h2.2; omega, fun j j0 j1 => ?_, hr.2⟩
    have g1 := hr.2 j j0 (by omega)
    rcases Int.lt_or_le (mV a b m n) (Vk a b m j) with h | h
    · exact h
    · exact absurd ⟨g1, h⟩ (h3 j j0 j1)
theorem least_of {a b m n v x : Int} (hm : 0 < m) (hn : 1 ≤ n) (h : Mn (Vk a b m) m n v x) : mV a b m n = v ∧ mK a b m n = x := by
  have h1 := h.done (mod_rng _ hm).2 hn
  have h2 := least_char (a := a) (b := b) hm hn
  exact Mn.uniq h2 h1
def dk (a b m k : Int) : Int := if Vk a b m k < m - Vk a b m k then Vk a b m k else m - Vk a b m k
theorem Vk_neg {m : Int} (hm : 0 < m) (a b k : Int) : Vk (-a) (-b) m k = if Vk a b m k = 0 then 0 else m - Vk a b m k := by
  unfold Vk
  have r := mod_rng (a * k + b) hm
  obtain ⟨c, hc⟩ := dvd_sub_emod (a * k + b) m
  have e : -a * k + -b = -(a * k + b) := by grind
  split
  · rename_i h
    exact emod_is ⟨-c, by rw [Int.mul_neg]; omega⟩ (by omega) (by omega)
  · rename_i h
    refine emod_is ⟨-c - 1, ?_⟩ (by omega) (by omega)
    have : m * (-c - 1) = -(m * c) - m := by grind
    omega
theorem dk_min {m : Int} (hm : 0 < m) (a b k : Int) : dk a b m k ≤ Vk a b m k ∧ dk a b m k ≤ Vk (-a) (-b) m k ∧ (dk a b m k = Vk a b m k ∨ dk a b m k = Vk (-a) (-b) m k) := by
  have r := mod_rng (a * k + b) hm
  have r : 0 ≤ Vk a b m k ∧ Vk a b m k < m := r
  rw [Vk_neg hm]
  unfold dk
  split <;> split <;> omega
theorem dk_rng {m : Int} (hm : 0 < m) (a b k : Int) : 0 ≤ dk a b m k ∧ dk a b m k < m := by
  have r := mod_rng (a * k + b) hm
  have r : 0 ≤ Vk a b m k ∧ Vk a b m k < m := r
  unfold dk
  split <;> omega
theorem near_of {a b m n v x : Int} (hm : 0 < m) (hn : 1 ≤ n) (h : Mn (dk a b m) m n v x) : nV a b m n = v ∧ nK a b m n = x := by
  have h1 := h.done (dk_rng hm a b 0).2 hn
  obtain ⟨p0, p1, p2, p3⟩ := least_char (a := a) (b := b) hm hn
  obtain ⟨q0, q1, q2, q3⟩ := least_char (a := -a) (b := -b) hm hn
  have hd := dk_min hm a b
  have hb : ¬ badL m n := by unfold badL; omega
  refine Mn.uniq (g := dk a b m) (n := n) ?_ h1
  unfold nV nK
  rw [if_neg hb, if_neg hb]
  obtain ⟨k, ek⟩ : ∃ k, mK a b m n = k := ⟨_, rfl⟩
  obtain ⟨l, el⟩ : ∃ k, mK (-a) (-b) m n = k := ⟨_, rfl⟩
  obtain ⟨s, es⟩ : ∃ k, mV a b m n = k := ⟨_, rfl⟩
  obtain ⟨t, et⟩ : ∃ k, mV (-a) (-b) m n = k := ⟨_, rfl⟩
  rw [ek] at p0 p1 p2
  rw [es] at p1 p2 p3
  rw [el] at q0 q1 q2
  rw [et] at q1 q2 q3
  rw [ek, el, es, et]
  have dl : ∀ j, 0 ≤ j → j < n → s ≤ dk a b m j ∨ t ≤ dk a b m j := fun j j0 j1 => by
    have := p3 j j0 j1
    have := q3 j j0 j1
    have := hd j
    omega
  rcases Int.lt_trichotomy s t with h | h | h
  · simp only [if_pos h, if_neg (show ¬ t < s by omega)]
    refine ⟨p0, ?_, fun j j0 j1 => ?_, fun j j0 j1 => ?_⟩
    · have := hd k; have := q3 k p0.1 p0.2; omega
    · have := p2 j j0 j1; have := q3 j j0 (by omega); have := hd j; omega
    · have := p3 j j0 j1; have := q3 j j0 j1; have := hd j; omega
  · simp only [if_neg (show ¬ s < t by omega), if_neg (show ¬ t < s by omega)]
    split
    · rename_i hkl
      refine ⟨q0, ?_, fun j j0 j1 => ?_, fun j j0 j1 => ?_⟩
      · have := hd l; have := p3 l q0.1 q0.2; omega
      · have := q2 j j0 j1; have := p2 j j0 (by omega); have := hd j; omega
      · have := p3 j j0 j1; have := q3 j j0 j1; have := hd j; omega
    · rename_i hkl
      refine ⟨p0, ?_, fun j j0 j1 => ?_, fun j j0 j1 => ?_⟩
      · have := hd k; have := q3 k p0.1 p0.2; omega
      · have := p2 j j0 j1; have := q2 j j0 (by omega); have := hd j; omega
      · have := p3 j j0 j1; have := q3 j j0 j1; have := hd j; omega
  · simp only [if_neg (show ¬ s < t by omega), if_pos h]
    refine ⟨q0, ?_, fun j j0 j1 => ?_, fun j j0 j1 => ?_⟩
    · have := hd l; have := p3 l q0.1 q0.2; omega
    · have := q2 j j0 j1; have := p3 j j0 (by omega); have := hd j; omega
    · have := p3 j j0 j1; have := q3 j j0 j1; have := hd j; omega
theorem isF_start {a b m lo hi : Int} : IsF a b m lo hi 0 (-1) := isF_none (by omega)
theorem isF_step {a b m lo hi n k : Int} (n0 : 0 ≤ n) (h : IsF a b m lo hi n k) : (k < 0 → inV a b m lo hi n → IsF a b m lo hi (n + 1) n) ∧ (k < 0 → ¬ inV a b m lo hi n → IsF a b m lo hi (n + 1) k) ∧ (¬ k < 0 → IsF a b m lo hi (n + 1) k) := by
  rcases h with ⟨rfl, h⟩ | ⟨h1, h2, h3⟩
  · refine ⟨fun _ hv => .inr ⟨by omega, hv, fun j j0 j1 => h j j0 j1⟩, fun _ hv => .inl ⟨rfl, fun j j0 j1 => ?_⟩, fun h => by omega⟩
    rcases Int.lt_or_le j n with h' | h'
    · exact h j j0 h'
    · obtain rfl : j = n := by omega
      exact hv
  · exact ⟨fun h => by omega, fun h => by omega, fun _ => .inr ⟨by omega, h2, h3⟩⟩
theorem hl_snoc (a b m w : Int) : ∀ (c : Nat) (f : Int), hl a b m w (c + 1) f = hl a b m w c f ++ (if Vk a b m (f + c) < w then [f + c] else [])
  | 0, f => by
    simp only [hl]
    have : f + ((0 : Nat) : Int) = f := by omega
    rw [this]; split <;> rfl
  | c + 1, f => by
    have h := hl_snoc a b m w c (f + 1)
    rw [show f + 1 + (c : Int) = f + ((c + 1 : Nat) : Int) by omega] at h
    rw [hl, h]
    conv => rhs; rw [hl]
    split <;> simp
theorem hl_len (a b m w : Int) : ∀ (c : Nat) (f : Int), (hl a b m w c f).length ≤ c
  | 0, _ => Nat.le_refl _
  | c + 1, f => by
    simp only [hl]
    have := hl_len a b m w c (f + 1)
    split
    · simp only [List.length_cons]; omega
    · omega
theorem hl_count (a b m w : Int) (c : Nat) : (hl a b m w c 0).length = cW a b m w c := by
  unfold cW
  induction c with
  | zero => rfl
  | succ c ih =>
    rw [hl_snoc, List.length_append, ih]
    simp only [sm]
    rw [show (0 : Int) + (c : Int) = c by omega]
    split <;> simp
end Go.Hl

namespace Go.Hl
open Go Go.RowKit Go.Proofs
theorem sm_pos {f : Nat → Nat} : ∀ {n : Nat}, sm f n = 0 → ∀ i, i < n → f i = 0
  | 0, _, _, h => by omega
  | n + 1, h, i, hi => by
    simp only [sm] at h
    rcases Nat.lt_or_ge i n with h' | h'
    · exact sm_pos (n := n) (by omega) i h'
    · obtain rfl : i = n := by omega
      omega
theorem cI_zero {a b m w n : Int} (hn : 0 ≤ n) : cI a b m w n = 0 ↔ ∀ j, 0 ≤ j → j < n → ¬ Vk a b m j < w := by
  unfold cI cW
  constructor
  · intro h j j0 j1 hv
    have := sm_pos (n := n.toNat) (f := fun k => if Vk a b m k < w then 1 else 0) (by omega) j.toNat (by omega)
    rw [show ((j.toNat : Nat) : Int) = j by omega, if_pos hv] at this
    cases this
  · intro h
    rw [sm_zero (fun i hi => if_neg (h i (by omega) (by omega)))]
    rfl
theorem cI_range {a b m lo hi n : Int} (hn : 0 ≤ n) (hlh : lo ≤ hi) : (0 ≤ cI a b m (hi + 1) n - cI a b m lo n) ∧ (cI a b m (hi + 1) n - cI a b m lo n = 0 ↔ ∀ j, 0 ≤ j → j < n → ¬ inV a b m lo hi j) := by
  have key : cW a b m (hi + 1) n.toNat = cW a b m lo n.toNat + sm (fun k => if lo ≤ Vk a b m k ∧ Vk a b m k < hi + 1 then 1 else 0) n.toNat := by
    unfold cW
    rw [← sm_add]
    refine sm_congr (fun k _ => ?_)
    split <;> split <;> split <;> omega
  unfold cI
  rw [key]
  refine ⟨by omega, ?_⟩
  constructor
  · intro h j j0 j1 hv
    have := sm_pos (n := n.toNat) (f := fun k => if lo ≤ Vk a b m k ∧ Vk a b m k < hi + 1 then 1 else 0) (by omega) j.toNat (by omega)
    rw [show ((j.toNat : Nat) : Int) = j by omega, if_pos ⟨hv.1, by have := hv.2; omega⟩] at this
    cases this
  · intro h
    rw [sm_zero (fun i hi => if_neg (fun hv => h i (by omega) (by omega) ⟨hv.1, by omega⟩))]
    omega
structure BInv (a b m lo hi n none some : Int) : Prop where
  rng : 0 ≤ none ∧ none < some ∧ some ≤ n
  no : ∀ j, 0 ≤ j → j < none → ¬ inV a b m lo hi j
  yes : ∃ j, 0 ≤ j ∧ j < some ∧ inV a b m lo hi j
theorem not_all {n : Int} {p : Int → Prop} (h : ¬ ∀ j, 0 ≤ j → j < n → ¬ p j) : ∃ j, 0 ≤ j ∧ j < n ∧ p j := by
  by_cases h' : ∃ j, 0 ≤ j ∧ j < n ∧ p j
  · exact h'
  · exact absurd (fun j j0 j1 hj => h' ⟨j, j0, j1, hj⟩) h
theorem BInv.start {a b m lo hi n : Int} (hn : 1 ≤ n) (h : ¬ ∀ j, 0 ≤ j → j < n → ¬ inV a b m lo hi j) : BInv a b m lo hi n 0 n :=
  ⟨by omega, fun j j0 j1 => by omega, not_all h⟩
theorem BInv.up {a b m lo hi n x y z : Int} (h : BInv a b m lo hi n x y) (h2 : z < y) (h1 : x ≤ z) (hz : ∀ j, 0 ≤ j → j < z → ¬ inV a b m lo hi j) : BInv a b m lo hi n z y :=
  ⟨by have := h.rng; omega, hz, h.yes⟩
theorem BInv.down {a b m lo hi n x y z : Int} (h : BInv a b m lo hi n x y) (h2 : z ≤ y) (h1 : x < z) (hz : ¬ ∀ j, 0 ≤ j → j < z → ¬ inV a b m lo hi j) : BInv a b m lo hi n x z :=
  ⟨by have := h.rng; omega, h.no, not_all hz⟩
theorem BInv.done {a b m lo hi n x y : Int} (h : BInv a b m lo hi n x y) (hd : ¬ 1 < y - x) : fst' a b m lo hi n = x := by
  obtain ⟨j, j0, j1, hj⟩ := h.yes
  have hr := h.rng
  have : j = x := by
    rcases Int.lt_or_le j x with h' | h'
    · exact absurd hj (h.no j j0 h')
    · omega
  subst this
  exact fst_eq (.inr ⟨by omega, hj, h.no⟩)
theorem fst_zero {a b m lo hi n : Int} (h : ∀ j, 0 ≤ j → j < n → ¬ inV a b m lo hi j) : fst' a b m lo hi n = -1 := fst_eq (.inl ⟨rfl, h⟩)
structure RInv2 (a b m n lo hi : Int) : Prop where
  rng : 0 ≤ lo ∧ lo ≤ hi ∧ hi < m
  no : ∀ k, 0 ≤ k → k < n → lo ≤ Vk a b m k
  yes : ∃ k, 0 ≤ k ∧ k < n ∧ Vk a b m k ≤ hi
theorem RInv2.start {a b m n : Int} (hm : 0 < m) (hn : 1 ≤ n) : RInv2 a b m n 0 (m - 1) :=
  ⟨by omega, fun k _ _ => (mod_rng _ hm).1, ⟨0, by omega, by omega, by have := (mod_rng (a * 0 + b) hm).2; unfold Vk; omega⟩⟩
theorem RInv2.up {a b m n lo hi mid : Int} (h : RInv2 a b m n lo hi) (h1 : lo ≤ mid) (h2 : mid < hi) (hn : 0 ≤ n) (hc : cI a b m (mid + 1) n = 0) : RInv2 a b m n (mid + 1) hi :=
  ⟨by have := h.rng; omega, fun k k0 k1 => by have := (cI_zero hn).1 hc k k0 k1; omega, h.yes⟩
theorem RInv2.down {a b m n lo hi mid : Int} (h : RInv2 a b m n lo hi) (h1 : lo ≤ mid) (h2 : mid < hi) (hn : 0 ≤ n) (hc : ¬ cI a b m (mid + 1) n = 0) : RInv2 a b m n lo mid := by
  refine ⟨by have := h.rng; omega, h.no, ?_⟩
  obtain ⟨k, k0, k1, hk⟩ := not_all (p := fun k => Vk a b m k < mid + 1) (fun h => hc ((cI_zero hn).2 h))
  exact ⟨k, k0, k1, by omega⟩
theorem RInv2.done {a b m n lo : Int} (h : RInv2 a b m n lo lo) : mV a b m n = lo := by
  obtain ⟨k, k0, k1, hk⟩ := h.yes
  have := h.no k k0 k1
  exact mV_eq ⟨⟨k, k0, k1, by omega⟩, h.no⟩
structure HInv (a b m w n most at_ : Int) (L : List Int) : Prop where
  rng : 0 ≤ at_ ∧ at_ ≤ n
  len : (L.length : Int) ≤ most
  all : hl a b m w n.toNat 0 = L ++ hl a b m w (n - at_).toNat at_
theorem HInv.start {a b m w n most : Int} (hn : 0 ≤ n) (hm : 0 ≤ most) : HInv a b m w n most 0 [] := ⟨by omega, by simpa using hm, by simp⟩
theorem Vk_at (a b m f j : Int) : Vk a (Vk a b m f) m j = Vk a (b + a * f) m j := by
  unfold Vk
  have e := Int.mul_ediv_add_emod (a * f + b) m
  have : a * j + (b + a * f) = (a * j + (a * f + b) % m) + m * ((a * f + b) / m) := by omega
  rw [this, Int.add_mul_emod_self_left]
theorem HInv.cases {a b m w n most at_ k : Int} {L : List Int} (hm : 0 < m) (h : HInv a b m w n most at_ L) (hk : fst' a (Vk a b m at_) m 0 (w - 1) (n - at_) = k) (hF : IsF a (Vk a b m at_) m 0 (w - 1) (n - at_) (fst' a (Vk a b m at_) m 0 (w - 1) (n - at_))) :
    (k < 0 → hl a b m w n.toNat 0 = L) ∧ (¬ k < 0 → (0 ≤ k ∧ k < n - at_) ∧ hl a b m w n.toNat 0 = (L ++ [at_ + k]) ++ hl a b m w (n - (at_ + k + 1)).toNat (at_ + k + 1)) := by
  rw [hk] at hF
  rw [isF_congr (Vk_at a b m at_)] at hF
  rw [h.all]
  rcases hl_isF hm hF with ⟨rfl, e⟩ | ⟨k0, k1, e⟩
  · rw [e]
    exact ⟨fun _ => List.append_nil _, fun h => by omega⟩
  · refine ⟨fun h => by omega, fun _ => ⟨⟨k0, k1⟩, ?_⟩⟩
    rw [e, List.append_assoc, show n - (at_ + k + 1) = n - at_ - k - 1 by omega]
    rfl
theorem HInv.next {a b m w n most at_ k : Int} {L : List Int} (h : HInv a b m w n most at_ L) (hk : 0 ≤ k ∧ k < n - at_) (hl' : (L.length : Int) ≠ most) (e : hl a b m w n.toNat 0 = (L ++ [at_ + k]) ++ hl a b m w (n - (at_ + k + 1)).toNat (at_ + k + 1)) :
    HInv a b m w n most (at_ + k + 1) (L ++ [at_ + k]) := by
  refine ⟨by have := h.rng; omega, ?_, e⟩
  have := h.len
  rw [List.length_append]
  simp only [List.length_singleton]
  omega
theorem HInv.end_ {a b m w n most at_ : Int} {L : List Int} (h : HInv a b m w n most at_ L) (hd : ¬ at_ < n) : hl a b m w n.toNat 0 = L := by
  rw [h.all, show (n - at_).toNat = 0 by have := h.rng; omega]
  exact List.append_nil _
theorem hits_all {a b m w n most : Int} {L : List Int} (hb : ¬ badH m w n most) (hl' : (L.length : Int) ≤ most) (e : hl a b m w n.toNat 0 = L) : hT a b m w n most = L ∧ hM a b m w n most = false ∧ hE m w n most = 0 := by
  unfold hT hM hE
  rw [if_neg hb, if_neg hb, if_neg hb, e]
  exact ⟨List.take_of_length_le (by omega), decide_eq_false (by omega), rfl⟩
theorem hits_more {a b m w n most x : Int} {L R : List Int} (hb : ¬ badH m w n most) (hl' : (L.length : Int) = most) (e : hl a b m w n.toNat 0 = (L ++ [x]) ++ R) : hT a b m w n most = L ∧ hM a b m w n most = true ∧ hE m w n most = 0 := by
  unfold hT hM hE
  rw [if_neg hb, if_neg hb, if_neg hb, e]
  refine ⟨?_, decide_eq_true ?_, rfl⟩
  · rw [List.append_assoc, show most.toNat = L.length by omega]
    exact List.take_left' rfl
  · simp only [List.length_append, List.length_singleton]; omega
end Go.Hl

namespace Go.Hl
open Go Go.RowKit Go.Proofs
def ins : List Int → Int → List Int
  | [], x => [x]
  | y :: t, x => if y < x then y :: ins t x else if y = x then y :: t else x :: y :: t
def Srt (l : List Int) : Prop := l.Pairwise (· < ·)
theorem ins_mem {x y : Int} : ∀ {l : List Int}, y ∈ ins l x ↔ y = x ∨ y ∈ l
  | [] => by simp [ins]
  | z :: t => by
    simp only [ins]
    split
    · simp only [List.mem_cons, ins_mem (l := t)]
      constructor
      · rintro (h | h | h)
        · exact .inr (.inl h)
        · exact .inl h
        · exact .inr (.inr h)
      · rintro (h | h | h)
        · exact .inr (.inl h)
        · exact .inl h
        · exact .inr (.inr h)
    split
    · rename_i h
      subst h
      simp only [List.mem_cons]
      constructor
      · exact .inr
      · rintro (h | h)
        · exact .inl h
        · exact h
    · simp only [List.mem_cons]
theorem ins_srt {x : Int} : ∀ {l : List Int}, Srt l → Srt (ins l x)
  | [], _ => by simp [ins, Srt]
  | z :: t, h => by
    have h : (z :: t).Pairwise (· < ·) := h
    rw [List.pairwise_cons] at h
    simp only [ins]
    split
    · refine List.pairwise_cons.2 ⟨fun y hy => ?_, ins_srt (l := t) h.2⟩
      rcases ins_mem.1 hy with rfl | hy
      · assumption
      · exact h.1 y hy
    split
    · exact List.pairwise_cons.2 h
    · refine List.pairwise_cons.2 ⟨fun y hy => ?_, List.pairwise_cons.2 h⟩
      rcases List.mem_cons.1 hy with rfl | hy
      · omega
      · have := h.1 y hy; omega
theorem ins_len (x : Int) : ∀ l : List Int, (ins l x).length ≤ l.length + 1
  | [] => Nat.le_refl _
  | z :: t => by
    simp only [ins]
    have := ins_len x t
    split
    · simp only [List.length_cons]; omega
    split
    · simp only [List.length_cons]; omega
    · simp only [List.length_cons]; omega
theorem srt_ext : ∀ {l l' : List Int}, Srt l → Srt l' → (∀ y, y ∈ l ↔ y ∈ l') → l = l'
  | [], [], _, _, _ => rfl
  | [], y :: t, _, _, h => by have := (h y).2 (.head _); cases this
  | y :: t, [], _, _, h => by have := (h y).1 (.head _); cases this
  | x :: s, y :: t, h1, h2, h => by
    have h1 : (x :: s).Pairwise (· < ·) := h1
    have h2 : (y :: t).Pairwise (· < ·) := h2
    rw [List.pairwise_cons] at h1 h2
    have e : x = y := by
      rcases List.mem_cons.1 ((h x).1 (.head _)) with e | e
      · exact e
      rcases List.mem_cons.1 ((h y).2 (.head _)) with e' | e'
      · exact e'.symm
      · have := h2.1 x e; have := h1.1 y e'; omega
    subst e
    congr 1
    refine srt_ext h1.2 h2.2 (fun z => ?_)
    constructor
    · intro hz
      rcases List.mem_cons.1 ((h z).1 (.tail _ hz)) with e | e
      · have := h1.1 z hz; omega
      · exact e
    · intro hz
      rcases List.mem_cons.1 ((h z).2 (.tail _ hz)) with e | e
      · have := h2.1 z hz; omega
      · exact e
theorem ins_same {l : List Int} {x : Int} (h : Srt l) (hx : x ∈ l) : ins l x = l :=
  srt_ext (ins_srt h) h (fun y => by
    rw [ins_mem]
    constructor
    · rintro (rfl | h)
      · exact hx
      · exact h
    · exact .inr)
def insAll (l : List Int) : List Int := l.foldl ins []
theorem insAll_snoc (l : List Int) (x : Int) : insAll (l ++ [x]) = ins (insAll l) x := by unfold insAll; rw [List.foldl_append]; rfl
theorem insAll_spec : ∀ (l : List Int), Srt (insAll l) ∧ ∀ y, y ∈ insAll l ↔ y ∈ l := by
  have key : ∀ (l s : List Int), Srt s → Srt (l.foldl ins s) ∧ ∀ y, y ∈ l.foldl ins s ↔ y ∈ s ∨ y ∈ l := by
    intro l
    induction l with
    | nil => intro s hs; exact ⟨hs, fun y => by simp⟩
    | cons x l ih =>
      intro s hs
      obtain ⟨h1, h2⟩ := ih (ins s x) (ins_srt hs)
      refine ⟨h1, fun y => ?_⟩
      rw [List.foldl_cons, h2, ins_mem, List.mem_cons]
      constructor
      · rintro ((h | h) | h)
        · exact .inr (.inl h)
        · exact .inl h
        · exact .inr (.inr h)
      · rintro (h | h | h)
        · exact .inl (.inr h)
        · exact .inl (.inl h)
        · exact .inr h
  intro l
  obtain ⟨h1, h2⟩ := key l [] List.Pairwise.nil
  exact ⟨h1, fun y => by show y ∈ l.foldl ins [] ↔ _; rw [h2]; simp⟩
def kins (f : Nat → Int) : List Nat → Nat → List Nat
  | [], k => [k]
  | j :: t, k => if f j < f k then j :: kins f t k else if f j = f k then j :: t else k :: j :: t
theorem kins_map (f : Nat → Int) (k : Nat) : ∀ l : List Nat, (kins f l k).map f = ins (l.map f) (f k)
  | [] => rfl
  | j :: t => by
    simp only [kins, List.map_cons, ins]
    split
    · rw [List.map_cons, kins_map f k t]
    split
    · rfl
    · rfl
theorem kins_perm {f : Nat → Int} {k : Nat} : ∀ {l : List Nat}, (∀ j ∈ l, f j ≠ f k) → (kins f l k).Perm (k :: l)
  | [], _ => List.Perm.refl _
  | j :: t, h => by
    simp only [kins]
    split
    · exact ((kins_perm (l := t) (fun i hi => h i (.tail _ hi))).cons j).trans (List.Perm.swap k j t)
    split
    · rename_i e; exact absurd e (h j (.head _))
    · exact List.Perm.refl _
def kpts (f : Nat → Int) : Nat → List Nat
  | 0 => []
  | n + 1 => kins f (kpts f n) n
theorem kpts_perm {f : Nat → Int} : ∀ {n : Nat}, (∀ i j, i < j → j < n → f i ≠ f j) → (kpts f n).Perm (List.range n)
  | 0, _ => List.Perm.refl _
  | n + 1, h => by
    have ih := kpts_perm (n := n) (fun i j hij hj => h i j hij (by omega))
    simp only [kpts]
    refine (kins_perm (fun j hj => ?_)).trans ?_
    · have := List.mem_range.1 (ih.mem_iff.1 hj)
      exact h j n this (by omega)
    · rw [List.range_succ]
      exact (ih.cons n).trans (List.perm_append_singleton n (List.range n)).symm
def pts (f : Nat → Int) (n : Nat) : List Int := insAll ((List.range n).map f)
theorem pts_zero (f : Nat → Int) : pts f 0 = [] := rfl
theorem pts_succ (f : Nat → Int) (n : Nat) : pts f (n + 1) = ins (pts f n) (f n) := by
  unfold pts
  rw [List.range_succ, List.map_append]
  exact insAll_snoc _ _
theorem pts_kpts (f : Nat → Int) : ∀ n, pts f n = (kpts f n).map f
  | 0 => rfl
  | n + 1 => by rw [pts_succ, pts_kpts f n]; exact (kins_map f n _).symm
theorem pts_spec (f : Nat → Int) (n : Nat) : Srt (pts f n) ∧ ∀ y, y ∈ pts f n ↔ ∃ k, k < n ∧ f k = y := by
  obtain ⟨h1, h2⟩ := insAll_spec ((List.range n).map f)
  refine ⟨h1, fun y => ?_⟩
  show y ∈ insAll _ ↔ _
  rw [h2, List.mem_map]
  simp only [List.mem_range]
def arcs (m : Int) : List Int → List Int
  | [] => []
  | [x] => [m - x]
  | x :: y :: t => (y - x) :: arcs m (y :: t)
theorem arcs_len (m : Int) : ∀ l : List Int, (arcs m l).length = l.length
  | [] => rfl
  | [x] => rfl
  | x :: y :: t => by simp only [arcs, List.length_cons]; rw [arcs_len m (y :: t)]; rfl
theorem arcs_get (m : Int) : ∀ (l : List Int) (i : Nat), i < l.length → (arcs m l)[i]? = some ((if i + 1 < l.length then l.getD (i + 1) 0 else m) - l.getD i 0)
  | [], i, h => by simp at h
  | [x], i, h => by
    have : i = 0 := by simp at h; omega
    subst this; simp [arcs]
  | x :: y :: t, 0, _ => by simp [arcs]
  | x :: y :: t, i + 1, h => by
    have h' : i < (y :: t).length := by simpa using h
    have := arcs_get m (y :: t) i h'
    simp only [arcs, List.getElem?_cons_succ, this]
    simp only [List.length_cons, List.getD_cons_succ]
    by_cases e : i + 1 < t.length + 1
    · rw [if_pos e, if_pos (by omega)]
    · rw [if_neg e, if_neg (by omega)]
structure Rng (f : Nat → Int) (gp : Nat → Int) (m : Int) (n : Nat) : Prop where
  rg : ∀ k, k < n → 0 ≤ f k ∧ f k < m
  gr : ∀ k, k < n → 0 < gp k ∧ gp k < m
  no : ∀ k j, k < n → j < n → (f j - f k) % m ≠ 0 → gp k ≤ (f j - f k) % m
  nx : ∀ k, k < n → ∃ j, j < n ∧ (f j - f k) % m = gp k
  z0 : 0 < n ∧ f 0 = 0
theorem sub_mod {x y m : Int} (hx : 0 ≤ x ∧ x < m) (hy : 0 ≤ y ∧ y < m) : (y - x) % m = if x ≤ y then y - x else y - x + m := by
  split
  · exact Int.emod_eq_of_lt (by omega) (by omega)
  · exact emod_is ⟨-1, by omega⟩ (by omega) (by omega)
theorem Rng.next {f gp : Nat → Int} {m : Int} {n k j : Nat} (R : Rng f gp m n) (hk : k < n) (hj : j < n) (hlt : f k < f j) (hn : ∀ i, i < n → f k < f i → f j ≤ f i) : f j - f k = gp k := by
  have rk := R.rg k hk
  have rj := R.rg j hj
  have hg := R.gr k hk
  have h1 := R.no k j hk hj
  rw [sub_mod rk rj, if_pos (by omega)] at h1
  have h1 := h1 (by omega)
  obtain ⟨i, hi, e⟩ := R.nx k hk
  have ri := R.rg i hi
  rw [sub_mod rk ri] at e
  split at e
  · have := hn i hi (by omega); omega
  · omega
theorem Rng.last {f gp : Nat → Int} {m : Int} {n k : Nat} (R : Rng f gp m n) (hk : k < n) (hn : ∀ i, i < n → f i ≤ f k) : m - f k = gp k := by
  have rk := R.rg k hk
  have hg := R.gr k hk
  obtain ⟨i, hi, e⟩ := R.nx k hk
  have ri := R.rg i hi
  have h0 := R.z0
  have h1 := R.no k 0 hk h0.1
  rw [h0.2, sub_mod rk (by omega)] at h1
  rw [sub_mod rk ri] at e
  have := hn i hi
  split at e
  · omega
  · rw [if_neg (by omega)] at h1
    have := h1 (by omega)
    omega
theorem Rng.arcs {f gp : Nat → Int} {m : Int} {n : Nat} (R : Rng f gp m n) (hinj : ∀ i j, i < j → j < n → f i ≠ f j) : arcs m (pts f n) = (kpts f n).map gp := by
  have hp := kpts_perm hinj
  have hs := (pts_spec f n).1
  rw [pts_kpts] at hs ⊢
  have key : ∀ (rest pre : List Nat) (k : Nat), kpts f n = pre ++ k :: rest → Go.Hl.arcs m ((k :: rest).map f) = (k :: rest).map gp := by
    intro rest
    induction rest with
    | nil =>
      intro pre k e
      have hk : k < n := List.mem_range.1 (hp.mem_iff.1 (by rw [e]; simp))
      have h1 := R.last hk (fun i hi => by
        have hi' : i ∈ kpts f n := hp.mem_iff.2 (List.mem_range.2 hi)
        rw [e] at hi' hs
        rcases List.mem_append.1 hi' with h | h
        · have hs : ((pre ++ [k]).map f).Pairwise (· < ·) := hs
          rw [List.map_append, List.pairwise_append] at hs
          have := hs.2.2 (f i) (List.mem_map_of_mem h) (f k) (by simp)
          omega
        · have : i = k := by simpa using h
          rw [this]; exact Int.le_refl _)
      show [m - f k] = [gp k]
      rw [h1]
    | cons j rest ih =>
      intro pre k e
      have hk : k < n := List.mem_range.1 (hp.mem_iff.1 (by rw [e]; simp))
      have hj : j < n := List.mem_range.1 (hp.mem_iff.1 (by rw [e]; simp))
      have ih := ih (pre ++ [k]) j (by rw [e]; simp)
      have hs' : ((pre ++ k :: j :: rest).map f).Pairwise (· < ·) := by rw [← e]; exact hs
      rw [List.map_append, List.pairwise_append] at hs'
      obtain ⟨_, h2, h3⟩ := hs'
      simp only [List.map_cons, List.pairwise_cons] at h2
      have h1 := R.next hk hj (h2.1 (f j) (.head _)) (fun i hi hlt => by
        have hi' : i ∈ kpts f n := hp.mem_iff.2 (List.mem_range.2 hi)
        rw [e] at hi'
        rcases List.mem_append.1 hi' with h | h
        · have := h3 (f i) (List.mem_map_of_mem h) (f k) (by simp)
          omega
        · rcases List.mem_cons.1 h with rfl | h
          · omega
          rcases List.mem_cons.1 h with rfl | h
          · exact Int.le_refl _
          · have := h2.2.1 (f i) (List.mem_map_of_mem h)
            omega)
      show (f j - f k) :: Go.Hl.arcs m ((j :: rest).map f) = gp k :: (j :: rest).map gp
      rw [h1, ih]
  cases hks : kpts f n with
  | nil => rfl
  | cons k rest => exact key rest [] k hks
def Pk (a m : Int) (k : Nat) : Int := (a * k) % m
def gapk (N p q u v : Int) (k : Nat) : Int := if (k : Int) < N - p then u else if q ≤ k then v else u + v
theorem diff_mod {a m : Int} (i j : Nat) : (Pk a m j - Pk a m i) % m = (a * ((j : Int) - i)) % m := by
  unfold Pk
  have e1 := Int.mul_ediv_add_emod (a * j) m
  have e2 := Int.mul_ediv_add_emod (a * i) m
  have : a * ((j : Int) - i) = (a * j % m - a * i % m) + m * (a * j / m - a * i / m) := by
    rw [Int.mul_sub, Int.mul_sub]; omega
  rw [this, Int.add_mul_emod_self_left]
theorem TG.no {a m N p q u v : Int} (T : TG a m N p q u v) {k j : Nat} (hk : (k : Int) < N) (hj : (j : Int) < N) (hne : (a * ((j : Int) - k)) % m ≠ 0) : gapk N p q u v k ≤ (a * ((j : Int) - k)) % m := by
  obtain ⟨p0, p1, q0, q1, u0, u1, v0, v1, eu, ev, mu, mv, det, cov⟩ := T
  have hm : 0 < m := by omega
  have r := mod_rng (a * ((j : Int) - k)) hm
  obtain ⟨c, hc⟩ := dvd_sub_emod (a * ((j : Int) - k)) m
  obtain ⟨cp, hcp⟩ := dvd_sub_emod (a * p) m
  rw [eu] at hcp
  obtain ⟨cq, hcq⟩ := dvd_sub_emod (-a * q) m
  rw [ev] at hcq
  obtain ⟨d, hd⟩ : ∃ d, (a * ((j : Int) - k)) % m = d := ⟨_, rfl⟩
  rw [hd] at r hne hc ⊢
  have hjk : j ≠ k := fun e => hne (by rw [← hd, e, Int.sub_self, Int.mul_zero, Int.zero_emod])
  have up : k < j → u ≤ d ∧ ((j : Int) - k < p → u < d) := fun h => by
    have := mu ((j : Int) - k) (by omega) (by omega)
    rwa [hd] at this
  have e1 : -a * ((k : Int) - j) = a * ((j : Int) - k) := by grind
  have dn : j < k → v ≤ d ∧ ((k : Int) - j < q → v < d) := fun h => by
    have := mv ((k : Int) - j) (by omega) (by omega)
    rwa [e1, hd] at this
  unfold gapk
  split
  · rename_i h
    rcases Nat.lt_or_gt_of_ne hjk with hl | hl
    · rcases Int.lt_or_le d u with hdu | hdu
      · exfalso
        have e2 : a * ((k : Int) + p - j) = a * p + -(a * ((j : Int) - k)) := by grind
        have e3 : (a * ((k : Int) + p - j)) % m = u - d := emod_is ⟨cp - c, by rw [Int.mul_sub m]; omega⟩ (by omega) (by omega)
        have := (mu ((k : Int) + p - j) (by omega) (by omega)).1
        omega
      · exact hdu
    · exact (up hl).1
  split
  · rename_i h1 h2
    rcases Nat.lt_or_gt_of_ne hjk with hl | hl
    · exact (dn hl).1
    · rcases Int.lt_or_le d v with hdv | hdv
      · exfalso
        have e2 : -a * ((j : Int) + q - k) = -a * q + -(a * ((j : Int) - k)) := by grind
        have e3 : (-a * ((j : Int) + q - k)) % m = v - d := emod_is ⟨cq - c, by rw [Int.mul_sub m]; omega⟩ (by omega) (by omega)
        have := (mv ((j : Int) + q - k) (by omega) (by omega)).1
        omega
      · exact hdv
  · rename_i h1 h2
    rcases Nat.lt_or_gt_of_ne hjk with hl | hl
    · have g := (dn hl).2 (by omega)
      rcases Int.lt_or_le d (u + v) with hdv | hdv
      · exfalso
        have e2 : a * (q - ((k : Int) - j)) = a * ((j : Int) - k) + -(-a * q) := by grind
        have e3 : (a * (q - ((k : Int) - j))) % m = d - v := emod_is ⟨c - cq, by rw [Int.mul_sub m]; omega⟩ (by omega) (by omega)
        have := (mu (q - ((k : Int) - j)) (by omega) (by omega)).1
        omega
      · exact hdv
    · have g := (up hl).2 (by omega)
      rcases Int.lt_or_le d (u + v) with hdv | hdv
      · exfalso
        have e2 : -a * (p - ((j : Int) - k)) = a * ((j : Int) - k) + -(a * p) := by grind
        have e3 : (-a * (p - ((j : Int) - k))) % m = d - u := emod_is ⟨c - cp, by rw [Int.mul_sub m]; omega⟩ (by omega) (by omega)
        have := (mv (p - ((j : Int) - k)) (by omega) (by omega)).1
        omega
      · exact hdv
theorem TG.uv {a m N p q u v : Int} (T : TG a m N p q u v) (h : N < p + q) : u + v < m := by
  obtain ⟨p0, p1, q0, q1, u0, u1, v0, v1, eu, ev, mu, mv, det, cov⟩ := T
  rcases Int.lt_or_le (u + v) m with h' | h'
  · exact h'
  · exfalso
    have h1 : q * u + p * v = (q - 1) * u + (p - 1) * v + (u + v) := by grind
    have h2 := Int.mul_nonneg (show 0 ≤ q - 1 by omega) (show 0 ≤ u by omega)
    have h3 := Int.mul_nonneg (show 0 ≤ p - 1 by omega) (show 0 ≤ v by omega)
    have h4 : 1 * 1 ≤ (q - 1) * u + (p - 1) * v := by
      rcases Int.lt_or_le 1 q with h | h
      · have := Int.mul_le_mul_of_nonneg_left (show (1 : Int) ≤ u by omega) (show 0 ≤ q - 1 by omega)
        omega
      · have := Int.mul_le_mul_of_nonneg_left (show (1 : Int) ≤ v by omega) (show 0 ≤ p - 1 by omega)
        omega
    omega
theorem TG.rng {a m N p q u v : Int} (T : TG a m N p q u v) : Rng (Pk a m) (gapk N p q u v) m N.toNat := by
  have hm : 0 < m := by have := T.u0; have := T.u1; omega
  refine ⟨fun k _ => mod_rng _ hm, fun k hk => ?_, fun k j hk hj h => ?_, fun k hk => ?_, ?_⟩
  · have := T.u0; have := T.u1; have := T.v0; have := T.v1; have := T.cov
    unfold gapk
    split
    · omega
    split
    · omega
    · have := T.uv (by omega); omega
  · rw [diff_mod] at h ⊢
    exact T.no (by omega) (by omega) h
  · obtain ⟨cp, hcp⟩ := dvd_sub_emod (a * p) m
    rw [T.eu] at hcp
    obtain ⟨cq, hcq⟩ := dvd_sub_emod (-a * q) m
    rw [T.ev] at hcq
    have := T.u0; have := T.u1; have := T.v0; have := T.v1; have := T.cov; have := T.p0; have := T.q0; have := T.p1; have := T.q1
    unfold gapk
    split
    · refine ⟨k + p.toNat, by omega, ?_⟩
      rw [diff_mod, show (((k + p.toNat : Nat) : Int) - k) = p by omega]
      exact T.eu
    split
    · refine ⟨k - q.toNat, by omega, ?_⟩
      rw [diff_mod, show (((k - q.toNat : Nat) : Int) - k) = -q by omega, show a * -q = -a * q by grind]
      exact T.ev
    · refine ⟨k + p.toNat - q.toNat, by omega, ?_⟩
      rw [diff_mod, show (((k + p.toNat - q.toNat : Nat) : Int) - k) = p - q by omega]
      have hs := T.uv (by omega)
      have e : a * (p - q) = a * p + -a * q := by grind
      exact emod_is ⟨cp + cq, by rw [Int.mul_add]; omega⟩ (by omega) hs
  · have := T.p0; have := T.p1
    refine ⟨by omega, ?_⟩
    unfold Pk
    simp
theorem TG.inj {a m N p q u v : Int} (T : TG a m N p q u v) : ∀ i j : Nat, i < j → j < N.toNat → Pk a m i ≠ Pk a m j := fun i j hij hj e => by
  have h := diff_mod (a := a) (m := m) i j
  rw [e, Int.sub_self, Int.zero_emod] at h
  have := (T.mu ((j : Int) - i) (by omega) (by omega)).1
  have := T.u0
  omega
end Go.Hl

namespace Go.Hl
open Go Go.RowKit Go.Proofs
def gG (a m : Int) : Int := ((Nat.gcd a.natAbs m.natAbs : Nat) : Int)
def gAll (a m : Int) : Int := m / gG a m
theorem gG_pos {a m : Int} (hm : 0 < m) : 1 ≤ gG a m ∧ gG a m ≤ m := by
  unfold gG
  have h1 := Nat.gcd_pos_of_pos_right (m := a.natAbs) (n := m.natAbs) (by omega)
  have h2 : Nat.gcd a.natAbs m.natAbs ≤ m.natAbs := Nat.gcd_le_right _ (by omega)
  omega
theorem gAll_mul {a m : Int} (hm : 0 < m) : gG a m * gAll a m = m ∧ 1 ≤ gAll a m ∧ gAll a m ≤ m := by
  obtain ⟨g1, g2⟩ := gG_pos (a := a) hm
  have hd : gG a m ∣ m := by
    unfold gG
    have : Nat.gcd a.natAbs m.natAbs ∣ m.natAbs := Nat.gcd_dvd_right _ _
    have := Int.natCast_dvd_natCast.2 this
    rwa [Int.natAbs_of_nonneg (by omega)] at this
  have h1 : gG a m * gAll a m = m := Int.mul_ediv_cancel' hd
  refine ⟨h1, ?_, ?_⟩
  · rcases Int.lt_or_le (gAll a m) 1 with h | h
    · have := Int.mul_nonpos_of_nonneg_of_nonpos (show 0 ≤ gG a m by omega) (show gAll a m ≤ 0 by omega)
      omega
    · exact h
  · unfold gAll; exact Int.ediv_le_self _ (by omega)
def gTri (n p q u v : Int) : List (Int × Int) :=
  if u = v then [(u, n - p + (n - q)), (u + v, p - (n - q))]
  else if p - (n - q) = 0 then [(u, n - p), (v, n - q)]
  else [(u, n - p), (v, n - q), (u + v, p - (n - q))]
noncomputable def gMain (a m n : Int) : List (Int × Int) :=
  if mV (-a) (-a) m (n - 1) < mV a a m (n - 1) then gTri n (mK (-a) (-a) m (n - 1) + 1) (mK a a m (n - 1) + 1) (mV (-a) (-a) m (n - 1)) (mV a a m (n - 1))
  else gTri n (mK a a m (n - 1) + 1) (mK (-a) (-a) m (n - 1) + 1) (mV a a m (n - 1)) (mV (-a) (-a) m (n - 1))
noncomputable def gL (a m n : Int) : List (Int × Int) :=
  if badL m n then [] else if gAll a m ≤ n then [(gG a m, gAll a m)] else if n = 1 then [(m, 1)] else gMain a m n
inductive GOK (m all n : Int) : List (Int × Int) → Prop
  | one (x c : Int) : 0 < x → x ≤ m → 1 ≤ c → x * c = m → c = min all n → GOK m all n [(x, c)]
  | two (x c y d : Int) : 0 < x → x < y → y ≤ m → 1 ≤ c → 1 ≤ d → x * c + y * d = m → c + d = min all n → GOK m all n [(x, c), (y, d)]
  | three (x c y d e : Int) : 0 < x → x < y → x + y ≤ m → 1 ≤ c → 1 ≤ d → 1 ≤ e → x * c + y * d + (x + y) * e = m → c + d + e = min all n → GOK m all n [(x, c), (y, d), (x + y, e)]
theorem gTri_ok {m all n p q u v : Int} (hn : n < all) (hp : 1 ≤ p ∧ p < n) (hq : 1 ≤ q ∧ q < n) (hc : n ≤ p + q) (hu : 0 < u) (huv : u ≤ v) (hv : v < m) (hd : q * u + p * v = m) (hs : n < p + q → u + v < m) (he : u = v → n < p + q) : GOK m all n (gTri n p q u v) := by
  have hmin : min all n = n := by omega
  unfold gTri
  split
  · rename_i e
    have := he e
    have := hs (by omega)
    refine GOK.two _ _ _ _ hu (by omega) (by omega) (by omega) (by omega) ?_ (by omega)
    subst e
    rw [← hd]; grind
  split
  · rename_i e0 e
    refine GOK.two _ _ _ _ hu (by omega) (by omega) (by omega) (by omega) ?_ (by omega)
    have : n = p + q := by omega
    subst this
    rw [← hd]; grind
  · rename_i e0 e
    refine GOK.three _ _ _ _ _ hu (by omega) (by have := hs (by omega); omega) (by omega) (by omega) (by omega) ?_ (by omega)
    rw [← hd]; grind
theorem TG.uvlt {a m N p q u v : Int} (T : TG a m N p q u v) (h : N < p + q) : u + v < m := by
  obtain ⟨p0, p1, q0, q1, u0, u1, v0, v1, eu, ev, mu, mv, det, cov⟩ := T
  rcases Int.lt_or_le (u + v) m with h' | h'
  · exact h'
  · exfalso
    have h1 : q * u + p * v = (q - 1) * u + (p - 1) * v + (u + v) := by grind
    have h2 := Int.mul_nonneg (show 0 ≤ q - 1 by omega) (show 0 ≤ u by omega)
    have h3 := Int.mul_nonneg (show 0 ≤ p - 1 by omega) (show 0 ≤ v by omega)
    have h4 : 1 ≤ (q - 1) * u + (p - 1) * v := by
      rcases Int.lt_or_le 1 q with h | h
      · have := Int.mul_le_mul_of_nonneg_left (show (1 : Int) ≤ u by omega) (show 0 ≤ q - 1 by omega)
        omega
      · have := Int.mul_le_mul_of_nonneg_left (show (1 : Int) ≤ v by omega) (show 0 ≤ p - 1 by omega)
        omega
    omega
theorem TG.eqlt {a m N p q u v : Int} (T : TG a m N p q u v) (hall : N < gAll a m) (h : u = v) : N < p + q := by
  have hm : 0 < m := by have := T.u0; have := T.u1; omega
  rcases Int.lt_or_eq_of_le T.cov with h' | h'
  · exact h'
  · exfalso
    have hne := no_back (a := a) (m := m) (k := N) hm (by have := T.p0; have := T.p1; omega) hall
    apply hne
    obtain ⟨cp, hcp⟩ := dvd_sub_emod (a * p) m
    rw [T.eu] at hcp
    obtain ⟨cq, hcq⟩ := dvd_sub_emod (-a * q) m
    rw [T.ev] at hcq
    have n1 : a * N = a * p + -(-a * q) := by rw [h']; grind
    exact emod_is ⟨cp - cq, by rw [Int.mul_sub m]; omega⟩ (by omega) hm
theorem gMain_tg {a m n p q u v : Int} (T : TG a m n p q u v) : gMain a m n = if v < u then gTri n q p v u else gTri n p q u v := by
  obtain ⟨e1, e2, e3, e4⟩ := T.least
  unfold gMain
  rw [e1, e2, e3, e4, show p - 1 + 1 = p by omega, show q - 1 + 1 = q by omega]
theorem gL_ok {a m n : Int} (hm : 1 ≤ m) (hn : 1 ≤ n) : GOK m (gAll a m) n (gL a m n) := by
  obtain ⟨g1, g2⟩ := gG_pos (a := a) (show 0 < m by omega)
  obtain ⟨a1, a2, a3⟩ := gAll_mul (a := a) (show 0 < m by omega)
  unfold gL
  rw [if_neg (by unfold badL; omega)]
  split
  · exact GOK.one _ _ (by omega) g2 a2 a1 (by omega)
  split
  · exact GOK.one _ _ (by omega) (Int.le_refl _) (by omega) (by omega) (by omega)
  · obtain ⟨p, q, u, v, T⟩ := tg_of (a := a) (N := n) (show 0 < m by omega) (by omega) (by show n < gAll a m; omega)
    rw [gMain_tg T]
    have t := T
    obtain ⟨p0, p1, q0, q1, u0, u1, v0, v1, eu, ev, mu, mv, det, cov⟩ := t
    split
    · exact gTri_ok (by omega) ⟨q0, q1⟩ ⟨p0, p1⟩ (by omega) v0 (by omega) u1 (by omega) (fun h => by have := T.uvlt (by omega); omega) (fun h => by omega)
    · exact gTri_ok (by omega) ⟨p0, p1⟩ ⟨q0, q1⟩ cov u0 (by omega) v1 det T.uvlt (fun h => T.eqlt (by omega) h)
end Go.Hl

namespace Go.Hl
open Go Go.RowKit Go.Proofs
theorem sm_between (a b : Nat) : ∀ n, sm (fun k => if a ≤ k ∧ k < b then 1 else 0) n = min b n - a
  | 0 => by simp [sm]
  | n + 1 => by
    simp only [sm]
    rw [sm_between a b n]
    split <;> omega
theorem count_sm (g : Nat → Int) (x : Int) : ∀ n, ((List.range n).map g).count x = sm (fun k => if g k = x then 1 else 0) n
  | 0 => rfl
  | n + 1 => by
    rw [List.range_succ, List.map_append, List.count_append, count_sm g x n]
    simp only [sm, List.map_cons, List.map_nil, List.count_singleton]
    by_cases h : g n = x
    · simp [h]
    · simp [h]
theorem count_arcs {f gp : Nat → Int} {m : Int} {n : Nat} (R : Rng f gp m n) (hinj : ∀ i j, i < j → j < n → f i ≠ f j) (x : Int) :
    (arcs m (pts f n)).count x = sm (fun k => if gp k = x then 1 else 0) n ∧ (x ∈ arcs m (pts f n) ↔ ∃ k, k < n ∧ gp k = x) := by
  rw [R.arcs hinj]
  have hp := kpts_perm hinj
  refine ⟨?_, ?_⟩
  · rw [(hp.map gp).count_eq, count_sm]
  · rw [(hp.map gp).mem_iff, List.mem_map]
    simp only [List.mem_range]
theorem gapk_eq (N p q u v : Int) (k : Nat) : ((k : Int) < N - p ∧ gapk N p q u v k = u) ∨ (¬ (k : Int) < N - p ∧ q ≤ k ∧ gapk N p q u v k = v) ∨ (¬ (k : Int) < N - p ∧ ¬ q ≤ k ∧ gapk N p q u v k = u + v) := by
  by_cases h1 : (k : Int) < N - p
  · exact .inl ⟨h1, if_pos h1⟩
  · by_cases h2 : q ≤ k
    · exact .inr (.inl ⟨h1, h2, by unfold gapk; rw [if_neg h1, if_pos h2]⟩)
    · exact .inr (.inr ⟨h1, h2, by unfold gapk; rw [if_neg h1, if_neg h2]⟩)
def rL (a m n : Int) : List (Int × Int) := (insAll (arcs m (pts (Pk a m) n.toNat))).map fun x => (x, (((arcs m (pts (Pk a m) n.toNat)).count x : Nat) : Int))
theorem rL_eq {a m n : Int} {l : List (Int × Int)} (hs : Srt (l.map (·.1))) (hm : ∀ y, y ∈ l.map (·.1) ↔ y ∈ arcs m (pts (Pk a m) n.toNat)) (hc : ∀ p ∈ l, p.2 = (((arcs m (pts (Pk a m) n.toNat)).count p.1 : Nat) : Int)) : rL a m n = l := by
  unfold rL
  obtain ⟨h1, h2⟩ := insAll_spec (arcs m (pts (Pk a m) n.toNat))
  rw [srt_ext h1 hs (fun y => (h2 y).trans (hm y).symm), List.map_map]
  conv => rhs; rw [← List.map_id l]
  refine List.map_congr_left (fun p hp => ?_)
  show (p.1, _) = p
  rw [← hc p hp]
theorem TG.tri {a m n p q u v : Int} (T : TG a m n p q u v) (hlt : u = v → n < p + q) (hs : n < p + q → u + v < m) : (u ≤ v → rL a m n = gTri n p q u v) ∧ (v < u → rL a m n = gTri n q p v u) := by
  have R := T.rng
  have hi := T.inj
  have hca := fun x => (count_arcs R hi x).1
  have hma := fun x => (count_arcs R hi x).2
  obtain ⟨p0, p1, q0, q1, u0, u1, v0, v1, eu, ev, mu, mv, det, cov⟩ := T
  obtain ⟨N, rfl⟩ : ∃ N : Nat, n = N := ⟨n.toNat, by omega⟩
  obtain ⟨P, rfl⟩ : ∃ P : Nat, p = P := ⟨p.toNat, by omega⟩
  obtain ⟨Q, rfl⟩ : ∃ Q : Nat, q = Q := ⟨q.toNat, by omega⟩
  rw [Int.toNat_natCast] at hca hma
  have gu : ∃ k, k < N ∧ gapk N P Q u v k = u := ⟨0, by omega, by unfold gapk; rw [if_pos (by omega)]⟩
  have gv : ∃ k, k < N ∧ gapk N P Q u v k = v := ⟨Q, by omega, by unfold gapk; rw [if_neg (by omega), if_pos (by omega)]⟩
  have gs : N < P + Q → ∃ k, k < N ∧ gapk N P Q u v k = u + v := fun h => ⟨N - P, by omega, by unfold gapk; rw [if_neg (by omega), if_neg (by omega)]⟩
  have hmem : ∀ x, (∃ k, k < N ∧ gapk N P Q u v k = x) → x = u ∨ x = v ∨ (N < P + Q ∧ x = u + v) := fun x ⟨k, hk, e⟩ => by
    unfold gapk at e
    split at e
    · exact .inl e.symm
    split at e
    · exact .inr (.inl e.symm)
    · exact .inr (.inr ⟨by omega, e.symm⟩)
  have cs : sm (fun k => if gapk N P Q u v k = u + v then 1 else 0) N = Q - (N - P) := by
    rw [show Q - (N - P) = min Q N - (N - P) by omega, ← sm_between (N - P) Q N]
    refine sm_congr (fun k hk => ?_)
    rcases gapk_eq N P Q u v k with ⟨g1, e⟩ | ⟨g1, g2, e⟩ | ⟨g1, g2, e⟩
    · rw [e]; split <;> split <;> omega
    · rw [e]; split <;> split <;> omega
    · rw [e]; split <;> split <;> omega
  have cu : u ≠ v → sm (fun k => if gapk N P Q u v k = u then 1 else 0) N = N - P := fun hne => by
    rw [show N - P = min (N - P) N - 0 by omega, ← sm_between 0 (N - P) N]
    refine sm_congr (fun k hk => ?_)
    rcases gapk_eq N P Q u v k with ⟨g1, e⟩ | ⟨g1, g2, e⟩ | ⟨g1, g2, e⟩
    · rw [e]; split <;> split <;> omega
    · rw [e]; split <;> split <;> omega
    · rw [e]; split <;> split <;> omega
  have cv : u ≠ v → sm (fun k => if gapk N P Q u v k = v then 1 else 0) N = N - Q := fun hne => by
    rw [show N - Q = min N N - Q by omega, ← sm_between Q N N]
    refine sm_congr (fun k hk => ?_)
    rcases gapk_eq N P Q u v k with ⟨g1, e⟩ | ⟨g1, g2, e⟩ | ⟨g1, g2, e⟩
    · rw [e]; split <;> split <;> omega
    · rw [e]; split <;> split <;> omega
    · rw [e]; split <;> split <;> omega
  have ce : u = v → sm (fun k => if gapk N P Q u v k = u then 1 else 0) N = (N - P) + (N - Q) := fun he => by
    have h3 : sm (fun k => if gapk N P Q u v k = u then 1 else 0) N + sm (fun k => if gapk N P Q u v k = u + v then 1 else 0) N = N := by
      rw [← sm_add]
      have h4 : sm (fun i => (if gapk N P Q u v i = u then 1 else 0) + if gapk N P Q u v i = u + v then 1 else 0) N = sm (fun _ => 1) N := sm_congr (fun k hk => by
        rcases gapk_eq N P Q u v k with ⟨g1, e⟩ | ⟨g1, g2, e⟩ | ⟨g1, g2, e⟩
        · rw [e]; split <;> split <;> omega
        · rw [e]; split <;> split <;> omega
        · rw [e]; split <;> split <;> omega)
      rw [h4, sm_const]; omega
    rw [cs] at h3
    omega
  refine ⟨fun huv => ?_, fun huv => ?_⟩
  · unfold gTri
    split
    · rename_i e
      have := hlt e
      refine rL_eq ?_ (fun y => ?_) (fun x hx => ?_)
      · simp [Srt]; omega
      · rw [Int.toNat_natCast, hma]
        simp only [List.map_cons, List.map_nil, List.mem_cons, List.not_mem_nil, or_false]
        constructor
        · rintro (rfl | rfl)
          · exact gu
          · exact gs (by omega)
        · intro h
          rcases hmem y h with h | h | ⟨_, h⟩ <;> omega
      · rw [Int.toNat_natCast, hca]
        simp only [List.mem_cons, List.not_mem_nil, or_false] at hx
        rcases hx with rfl | rfl
        · show _ = ((sm (fun k => if gapk N P Q u v k = u then 1 else 0) N : Nat) : Int)
          rw [ce e]; omega
        · show _ = ((sm (fun k => if gapk N P Q u v k = u + v then 1 else 0) N : Nat) : Int)
          rw [cs]; omega
    split
    · rename_i hne e
      refine rL_eq ?_ (fun y => ?_) (fun x hx => ?_)
      · simp [Srt]; omega
      · rw [Int.toNat_natCast, hma]
        simp only [List.map_cons, List.map_nil, List.mem_cons, List.not_mem_nil, or_false]
        constructor
        · rintro (rfl | rfl)
          · exact gu
          · exact gv
        · intro h
          rcases hmem y h with h | h | ⟨_, h⟩ <;> omega
      · rw [Int.toNat_natCast, hca]
        simp only [List.mem_cons, List.not_mem_nil, or_false] at hx
        rcases hx with rfl | rfl
        · show _ = ((sm (fun k => if gapk N P Q u v k = u then 1 else 0) N : Nat) : Int)
          rw [cu hne]; omega
        · show _ = ((sm (fun k => if gapk N P Q u v k = v then 1 else 0) N : Nat) : Int)
          rw [cv hne]; omega
    · rename_i hne e
      refine rL_eq ?_ (fun y => ?_) (fun x hx => ?_)
      · simp [Srt]; omega
      · rw [Int.toNat_natCast, hma]
        simp only [List.map_cons, List.map_nil, List.mem_cons, List.not_mem_nil, or_false]
        constructor
        · rintro (rfl | rfl | rfl)
          · exact gu
          · exact gv
          · exact gs (by omega)
        · intro h
          rcases hmem y h with h | h | ⟨_, h⟩ <;> omega
      · rw [Int.toNat_natCast, hca]
        simp only [List.mem_cons, List.not_mem_nil, or_false] at hx
        rcases hx with rfl | rfl | rfl
        · show _ = ((sm (fun k => if gapk N P Q u v k = u then 1 else 0) N : Nat) : Int)
          rw [cu hne]; omega
        · show _ = ((sm (fun k => if gapk N P Q u v k = v then 1 else 0) N : Nat) : Int)
          rw [cv hne]; omega
        · show _ = ((sm (fun k => if gapk N P Q u v k = u + v then 1 else 0) N : Nat) : Int)
          rw [cs]; omega
  · unfold gTri
    have hne : u ≠ v := by omega
    rw [if_neg (by omega)]
    split
    · rename_i e
      refine rL_eq ?_ (fun y => ?_) (fun x hx => ?_)
      · simp [Srt]; omega
      · rw [Int.toNat_natCast, hma]
        simp only [List.map_cons, List.map_nil, List.mem_cons, List.not_mem_nil, or_false]
        constructor
        · rintro (rfl | rfl)
          · exact gv
          · exact gu
        · intro h
          rcases hmem y h with h | h | ⟨_, h⟩ <;> omega
      · rw [Int.toNat_natCast, hca]
        simp only [List.mem_cons, List.not_mem_nil, or_false] at hx
        rcases hx with rfl | rfl
        · show _ = ((sm (fun k => if gapk N P Q u v k = v then 1 else 0) N : Nat) : Int)
          rw [cv hne]; omega
        · show _ = ((sm (fun k => if gapk N P Q u v k = u then 1 else 0) N : Nat) : Int)
          rw [cu hne]; omega
    · rename_i e
      refine rL_eq ?_ (fun y => ?_) (fun x hx => ?_)
      · simp [Srt]; omega
      · rw [Int.toNat_natCast, hma]
        simp only [List.map_cons, List.map_nil, List.mem_cons, List.not_mem_nil, or_false]
        constructor
        · rintro (rfl | rfl | rfl)
          · exact gv
          · exact gu
          · rw [Int.add_comm]; exact gs (by omega)
        · intro h
          rcases hmem y h with h | h | ⟨_, h⟩ <;> omega
      · rw [Int.toNat_natCast, hca]
        simp only [List.mem_cons, List.not_mem_nil, or_false] at hx
        rcases hx with rfl | rfl | rfl
        · show _ = ((sm (fun k => if gapk N P Q u v k = v then 1 else 0) N : Nat) : Int)
          rw [cv hne]; omega
        · show _ = ((sm (fun k => if gapk N P Q u v k = u then 1 else 0) N : Nat) : Int)
          rw [cu hne]; omega
        · show _ = ((sm (fun k => if gapk N P Q u v k = v + u then 1 else 0) N : Nat) : Int)
          rw [Int.add_comm v u, cs]; omega
theorem Pk_all {a m : Int} (hm : 0 < m) (k : Int) : (a * (k + gAll a m)) % m = (a * k) % m := by
  have h1 := (gAll_mul (a := a) hm).1
  have hd : gG a m ∣ a := by
    unfold gG
    have : Nat.gcd a.natAbs m.natAbs ∣ a.natAbs := Nat.gcd_dvd_left _ _
    have := Int.natCast_dvd_natCast.2 this
    rcases Int.natAbs_eq a with h | h
    · rw [h]; simpa using this
    · rw [h, Int.dvd_neg]; simpa using this
  obtain ⟨c, hc⟩ := hd
  have : a * (k + gAll a m) = a * k + m * c := by
    rw [Int.mul_add]
    have : a * gAll a m = m * c := by
      conv => lhs; rw [hc]
      rw [← h1]; grind
    rw [this]
  rw [this, Int.add_mul_emod_self_left]
theorem pts_all {a m : Int} (hm : 0 < m) (d : Nat) : pts (Pk a m) ((gAll a m).toNat + d) = pts (Pk a m) (gAll a m).toNat := by
  obtain ⟨_, a2, _⟩ := gAll_mul (a := a) hm
  induction d with
  | zero => rfl
  | succ d ih =>
    rw [← Nat.add_assoc, pts_succ, ih]
    refine ins_same (pts_spec _ _).1 ((pts_spec _ _).2 _ |>.2 ?_)
    refine ⟨d % (gAll a m).toNat, Nat.mod_lt _ (by omega), ?_⟩
    have key : ∀ i : Nat, Pk a m ((gAll a m).toNat * i + d % (gAll a m).toNat) = Pk a m (d % (gAll a m).toNat) := by
      intro i
      induction i with
      | zero => simp
      | succ i ih =>
        rw [← ih]
        unfold Pk
        have := Pk_all (a := a) hm (((gAll a m).toNat * i + d % (gAll a m).toNat : Nat) : Int)
        rw [← this]
        congr 2
        rw [Nat.mul_succ]
        omega
    have h2 := key (d / (gAll a m).toNat + 1)
    rw [← h2]
    congr 1
    have := Nat.div_add_mod d (gAll a m).toNat
    rw [Nat.mul_succ]
    omega
theorem one_pt {a m n : Int} (h : pts (Pk a m) n.toNat = pts (Pk a m) 1) : rL a m n = [(m, 1)] := by
  have h1 : pts (Pk a m) 1 = [0] := by
    show [Pk a m 0] = [0]
    unfold Pk; simp
  refine rL_eq (by simp [Srt]) (fun y => ?_) (fun x hx => ?_)
  · rw [h, h1]; simp [arcs]
  · rw [h, h1]
    simp only [List.mem_singleton] at hx
    subst hx
    simp [arcs]
theorem gaps_same {a m n : Int} (hm : 1 ≤ m) (hn : 1 ≤ n) : rL a m n = gL a m n := by
  obtain ⟨g1, g2⟩ := gG_pos (a := a) (show 0 < m by omega)
  obtain ⟨a1, a2, a3⟩ := gAll_mul (a := a) (show 0 < m by omega)
  unfold gL
  rw [if_neg (by unfold badL; omega)]
  split
  · rename_i hal
    have hp : pts (Pk a m) n.toNat = pts (Pk a m) (gAll a m).toNat := by
      have := pts_all (a := a) (show 0 < m by omega) (n.toNat - (gAll a m).toNat)
      rwa [show (gAll a m).toNat + (n.toNat - (gAll a m).toNat) = n.toNat by omega] at this
    by_cases h1 : gAll a m = 1
    · rw [h1, Int.mul_one] at a1
      rw [h1, a1]
      refine one_pt ?_
      rw [hp, h1]; rfl
    · -- the whole circle
      obtain ⟨N, eN⟩ : ∃ N, gAll a m = N := ⟨_, rfl⟩
      have T0 := TG.all (a := a) (m := m) (by omega) (N - 2).toNat (fun k k0 k1 => no_back (by omega) k0 (by show k < gAll a m; omega))
      rw [show (((N - 2).toNat : Nat) : Int) + 2 = N by omega] at T0
      obtain ⟨p, q, u, v, T⟩ := T0
      have R := T.rng
      have hi := T.inj
      have hca := fun x => (count_arcs R hi x).1
      have hma := fun x => (count_arcs R hi x).2
      obtain ⟨p0, p1, q0, q1, u0, u1, v0, v1, eu, ev, mu, mv, det, cov⟩ := T
      obtain ⟨cp, hcp⟩ := dvd_sub_emod (a * p) m
      rw [eu] at hcp
      obtain ⟨cq, hcq⟩ := dvd_sub_emod (-a * q) m
      rw [ev] at hcq
      have h0 := Pk_all (a := a) (m := m) (by omega) 0
      rw [eN] at h0
      have h0 : (a * (0 + N)) % m = 0 := by rw [h0]; simp
      obtain ⟨cN, hcN⟩ := dvd_sub_emod (a * (0 + N)) m
      rw [h0] at hcN
      rw [Int.zero_add] at hcN
      have hvu : v ≤ u := by
        have e1 : -a * (N - p) = -(a * N) + a * p := by grind
        have e2 : (-a * (N - p)) % m = u := emod_is ⟨cp - cN, by rw [Int.mul_sub m]; omega⟩ (by omega) u1
        have := (mv (N - p) (by omega) (by omega)).1
        omega
      have huv : u ≤ v := by
        have e1 : a * (N - q) = a * N + -a * q := by grind
        have e2 : (a * (N - q)) % m = v := emod_is ⟨cN + cq, by rw [Int.mul_add]; omega⟩ (by omega) v1
        have := (mu (N - q) (by omega) (by omega)).1
        omega
      obtain rfl : u = v := by omega
      have hpq : p + q = N := by
        rcases Int.lt_or_eq_of_le cov with h | h
        · exfalso
          have e1 : a * (p + q - N) = a * p + -(-a * q) + -(a * N) := by grind
          have e2 : (a * (p + q - N)) % m = 0 := emod_is ⟨cp - cq - cN, by rw [Int.mul_sub m, Int.mul_sub m]; omega⟩ (by omega) (by omega)
          have := (mu (p + q - N) (by omega) (by omega)).1
          omega
        · exact h.symm
      have eug : u = gG a m := by
        have h3 : N * u = N * gG a m := by
          have : N * u = q * u + p * u := by rw [← hpq]; grind
          have a1' := a1
          rw [eN, Int.mul_comm] at a1'
          rw [this, det, a1']
        exact Int.eq_of_mul_eq_mul_left (by omega) h3
      have gk : ∀ k, k < N.toNat → gapk N p q u u k = u := fun k hk => by
        unfold gapk
        split
        · rfl
        · rw [if_pos (by omega)]
      rw [← eug, eN]
      rw [eN] at hp
      refine rL_eq (by simp [Srt]) (fun y => ?_) (fun x hx => ?_)
      · rw [hp, hma]
        simp only [List.map_cons, List.map_nil, List.mem_singleton]
        constructor
        · rintro rfl; exact ⟨0, by omega, gk 0 (by omega)⟩
        · rintro ⟨k, hk, e⟩; rw [gk k hk] at e; exact e.symm
      · rw [hp, hca]
        simp only [List.mem_singleton] at hx
        subst hx
        show N = _
        rw [sm_congr (g := fun _ => 1) (fun k hk => if_pos (gk k hk)), sm_const]
        omega
  split
  · rename_i h1
    subst h1
    exact one_pt rfl
  · obtain ⟨p, q, u, v, T⟩ := tg_of (a := a) (N := n) (show 0 < m by omega) (by omega) (by show n < gAll a m; omega)
    rw [gMain_tg T]
    obtain ⟨t1, t2⟩ := T.tri (T.eqlt (by omega)) T.uvlt
    split
    · rename_i h; exact t2 h
    · rename_i h; exact t1 (by omega)
end Go.Hl

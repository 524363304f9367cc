/- lefevre's laws: parts counted and whole; whole circles more: the plain laws -/
import Derived.Test.YtccbmjkhplmgnaaHlW
set_option linter.unusedVariables false
set_option linter.unusedSimpArgs false
namespace Go.Hl
open Go Go.RowKit Go.Proofs
theorem sm_append (f : Nat → Nat) (n : Nat) : ∀ k, sm f (n + k) = sm f n + sm (fun i => f (n + i)) k
  | 0 => rfl
  | k + 1 => by
    rw [← Nat.add_assoc]
    simp only [sm]
    rw [sm_append f n k, Nat.add_assoc]
theorem cI_split {a b m w n k : Int} (hn : 0 ≤ n) (hk : 0 ≤ k) : cI a b m w n + cI a (b + a * n) m w k = cI a b m w (n + k) := by
  unfold cI cW
  rw [Int.toNat_add hn hk, sm_append]
  have : sm (fun i => if Vk a b m ((n.toNat + i : Nat) : Int) < w then 1 else 0) k.toNat = sm (fun i => if Vk a (b + a * n) m (i : Int) < w then 1 else 0) k.toNat := sm_congr (fun i _ => by
    rw [Vk_shift, show ((n.toNat + i : Nat) : Int) = n + (i : Int) by omega])
  rw [this]
  omega
theorem sm_one {g : Nat → Nat} : ∀ {n j : Nat}, j < n → g j = 1 → (∀ i, i < n → i ≠ j → g i = 0) → sm g n = 1
  | 0, _, h, _, _ => by omega
  | n + 1, j, h, h1, h0 => by
    simp only [sm]
    rcases Nat.lt_or_ge j n with h' | h'
    · rw [sm_one h' h1 (fun i hi hne => h0 i (by omega) hne), h0 n (by omega) (by omega)]
    · have e : j = n := by omega
      subst e
      rw [sm_zero (fun i hi => h0 i (by omega) (by omega)), h1]
theorem onto {m : Nat} {f : Nat → Nat} (h1 : ∀ j, j < m → f j < m) (h2 : ∀ i j, i < j → j < m → f i ≠ f j) {v : Nat} (hv : v < m) : ∃ j, j < m ∧ f j = v := by
  by_cases h : ∃ j, j < m ∧ f j = v
  · exact h
  exfalso
  have hne : ∀ j, j < m → f j ≠ v := fun j hj e => h ⟨j, hj, e⟩
  have := php (m - 1) m (fun j => if f j < v then f j else f j - 1) (fun j hj => by
    have := h1 j hj
    have := hne j hj
    try dsimp only
    split <;> omega) (fun i j hij hj => by
    have := h2 i j hij hj
    have := hne i (by omega)
    have := hne j hj
    try dsimp only
    split <;> split <;> omega)
  omega
theorem Vk_inj {a b m : Int} (hm : 0 < m) (hg : Nat.gcd a.natAbs m.natAbs = 1) {i j : Nat} (hij : i < j) (hj : (j : Int) < m) : Vk a b m i ≠ Vk a b m j := by
  unfold Vk
  intro e
  have h1 : m ∣ (a * j + b) - (a * i + b) := Int.dvd_of_emod_eq_zero (Int.emod_eq_emod_iff_emod_sub_eq_zero.1 e.symm)
  have h2 : (a * j + b) - (a * i + b) = a * ((j - i : Nat) : Int) := by
    rw [Int.natCast_sub (by omega), Int.mul_sub]; omega
  rw [h2] at h1
  have h3 : m.natAbs ∣ a.natAbs * (j - i) := by
    have := Int.natAbs_dvd_natAbs.2 h1
    rw [Int.natAbs_mul, Int.natAbs_natCast] at this
    exact this
  have h4 : m.natAbs ∣ j - i := Nat.Coprime.dvd_of_dvd_mul_left (Nat.Coprime.symm hg) h3
  have h5 := Nat.le_of_dvd (by omega) h4
  omega
theorem cI_full {a b m w : Int} (hm : 0 < m) (hg : Nat.gcd a.natAbs m.natAbs = 1) (hw : 0 ≤ w) (hwm : w ≤ m) : cI a b m w m = w := by
  obtain ⟨w, rfl⟩ := Int.eq_ofNat_of_zero_le hw
  have key : ∀ w : Nat, (w : Int) ≤ m → cW a b m w m.toNat = w := by
    intro w
    induction w with
    | zero =>
      intro _
      unfold cW
      exact sm_zero (fun i _ => if_neg (by have := (mod_rng (a * i + b) hm).1; unfold Vk; omega))
    | succ w ih =>
      intro h
      have ih := ih (by omega)
      obtain ⟨j, hj, hv⟩ := onto (m := m.toNat) (f := fun j => (Vk a b m j).toNat) (fun j _ => by
        have := mod_rng (a * j + b) hm
        show (Vk a b m j).toNat < _
        unfold Vk; omega) (fun i j hij hj => by
        have := mod_rng (a * i + b) hm
        have := mod_rng (a * j + b) hm
        have h' := Vk_inj (b := b) hm hg hij (by omega)
        show (Vk a b m i).toNat ≠ (Vk a b m j).toNat
        unfold Vk at *; omega) (v := w) (by omega)
      have hv : Vk a b m j = w := by
        have := mod_rng (a * j + b) hm
        have hv : (Vk a b m j).toNat = w := hv
        unfold Vk at *; omega
      have h1 : sm (fun k => if Vk a b m k = w then 1 else 0) m.toNat = 1 := sm_one hj (if_pos hv) (fun i hi hne => if_neg (fun e => by
        rcases Nat.lt_or_gt_of_ne hne with h' | h'
        · exact Vk_inj hm hg h' (by omega) (e.trans hv.symm)
        · exact Vk_inj hm hg h' (by omega) (hv.trans e.symm)))
      have h2 : cW a b m ((w + 1 : Nat) : Int) m.toNat = cW a b m w m.toNat + sm (fun k => if Vk a b m k = w then 1 else 0) m.toNat := by
        unfold cW
        rw [← sm_add]
        refine sm_congr (fun k _ => ?_)
        split <;> split <;> split <;> omega
      rw [h2, ih, h1]
  unfold cI
  rw [key w hwm]
theorem wK_good {a b m w n : Int} (h : ¬ badM m w n) : wK a b m w n = cI a b m w n := if_neg h
theorem wE_good {m w n : Int} (h : ¬ badM m w n) : wE m w n = 0 := if_neg h
theorem Vk_turn (a b m c d k : Int) : Vk (a + c * m) (b + d * m) m k = Vk a b m k := by
  unfold Vk
  have : (a + c * m) * k + (b + d * m) = (a * k + b) + m * (c * k + d) := by grind
  rw [this, Int.add_mul_emod_self_left]
theorem isF_congr {a b a' b' m lo hi n : Int} (h : ∀ k, Vk a b m k = Vk a' b' m k) : IsF a b m lo hi n = IsF a' b' m lo hi n := by
  funext k
  unfold IsF inV
  simp only [h]
theorem fst_congr {a b a' b' m lo hi n : Int} (h : ∀ k, Vk a b m k = Vk a' b' m k) : fst' a b m lo hi n = fst' a' b' m lo hi n := by
  unfold fst'
  rw [isF_congr h]
theorem isM_congr {a b a' b' m n : Int} (h : ∀ k, Vk a b m k = Vk a' b' m k) : IsM a b m n = IsM a' b' m n := by
  funext k
  unfold IsM
  simp only [h]
theorem mV_congr {a b a' b' m n : Int} (h : ∀ k, Vk a b m k = Vk a' b' m k) : mV a b m n = mV a' b' m n := by
  unfold mV
  rw [isM_congr h]
theorem mK_congr {a b a' b' m n : Int} (h : ∀ k, Vk a b m k = Vk a' b' m k) : mK a b m n = mK a' b' m n := by
  unfold mK
  rw [mV_congr h, fst_congr h]
theorem cI_congr {a b a' b' m w n : Int} (h : ∀ k, Vk a b m k = Vk a' b' m k) : cI a b m w n = cI a' b' m w n := by
  unfold cI cW
  simp only [h]
theorem fK_congr {a b a' b' m lo hi n : Int} (h : ∀ k, Vk a b m k = Vk a' b' m k) : fK a b m lo hi n = fK a' b' m lo hi n := by
  unfold fK; rw [fst_congr h]
theorem fE_congr {a b a' b' m lo hi n : Int} (h : ∀ k, Vk a b m k = Vk a' b' m k) : fE a b m lo hi n = fE a' b' m lo hi n := by
  unfold fE; rw [fst_congr h]
theorem lK_congr {a b a' b' m n : Int} (h : ∀ k, Vk a b m k = Vk a' b' m k) : lK a b m n = lK a' b' m n := by
  unfold lK; rw [mK_congr h]
theorem lV_congr {a b a' b' m n : Int} (h : ∀ k, Vk a b m k = Vk a' b' m k) : lV a b m n = lV a' b' m n := by
  unfold lV; rw [mV_congr h]
theorem wK_congr {a b a' b' m w n : Int} (h : ∀ k, Vk a b m k = Vk a' b' m k) : wK a b m w n = wK a' b' m w n := by
  unfold wK; rw [cI_congr h]
theorem fst_next {a b m lo hi n : Int} (hlo : 0 ≤ lo) (hlh : lo ≤ hi) (hhi : hi < m) (hn : 2 ≤ n) :
    (fst' a b m lo hi n < 0 → fst' a (b + a) m lo hi (n - 1) < 0) ∧ (0 < fst' a b m lo hi n → fst' a (b + a) m lo hi (n - 1) = fst' a b m lo hi n - 1) := by
  have h := fst_rng (a := a) (b := b) (n := n) hlo hlh hhi
  obtain ⟨k, ek⟩ : ∃ k, fst' a b m lo hi n = k := ⟨_, rfl⟩
  rw [ek] at h ⊢
  have hs : ∀ j, inV a (b + a) m lo hi j ↔ inV a b m lo hi (j + 1) := fun j => by
    have : Vk a (b + a) m j = Vk a b m (j + 1) := by
      have := Vk_shift a b m 1 j
      rw [Int.mul_one, Int.add_comm 1 j] at this
      exact this
    unfold inV; rw [this]
  rcases h with ⟨rfl, h⟩ | ⟨h0, h1, h2⟩
  · refine ⟨fun _ => ?_, fun h => by omega⟩
    have : fst' a (b + a) m lo hi (n - 1) = -1 := fst_eq (.inl ⟨rfl, fun j j0 j1 hj => h (j + 1) (by omega) (by omega) ((hs j).1 hj)⟩)
    omega
  · refine ⟨fun h => by omega, fun hp => ?_⟩
    refine fst_eq (.inr ⟨by omega, (hs _).2 (by rw [show k - 1 + 1 = k by omega]; exact h1), fun j j0 j1 hj => h2 (j + 1) (by omega) (by omega) ((hs j).1 hj)⟩)
end Go.Hl

/- Digits of sixteen: text, and what text says. -/
import Derived.Test.YtccbmjkhplmgnaaHlM
set_option linter.unusedVariables false
set_option linter.unusedSimpArgs false
namespace Go.Hl
def hexL : List UInt8 := [48, 49, 50, 51, 52, 53, 54, 55, 56, 57, 97, 98, 99, 100, 101, 102]
def hexC (n : Nat) : UInt8 := hexL.getD n 0
def hx (n : Nat) : List UInt8 := (digs 16 n).reverse.map fun d => hexC d.toNat
def hexT (n : Nat) : List UInt8 := if n = 0 then [48] else hx n
theorem hx_zero : hx 0 = [] := by unfold hx; rw [digs_zero]; rfl
theorem hx_step {q c : Nat} (hc : c < 16) (h : 16 * q + c ≠ 0) : hx (16 * q + c) = hx q ++ [hexC c] := by
  unfold hx
  rw [digs_pos (by decide) h, show (16 * q + c) / 16 = q by omega, show (16 * q + c) % 16 = c by omega]
  simp
theorem hx_nil {n : Nat} : hx n = [] ↔ n = 0 := by
  unfold hx
  rw [List.map_eq_nil_iff, List.reverse_eq_nil_iff, digs_eq_nil (by decide)]
theorem hx_next (n i : Nat) (h : n / 16 ^ i ≠ 0) : hx (n / 16 ^ i) = hx (n / 16 ^ (i + 1)) ++ [hexC (n / 16 ^ i % 16)] := by
  have e : n / 16 ^ (i + 1) = n / 16 ^ i / 16 := by rw [Nat.pow_succ, Nat.div_div_eq_div_mul]
  have := Nat.div_add_mod (n / 16 ^ i) 16
  rw [e]
  rw [← hx_step (Nat.mod_lt _ (by decide)) (by omega), this]
theorem hx_skip (n i : Nat) (h : n / 16 ^ i = 0) : hx (n / 16 ^ (i + 1)) = [] := by
  rw [Nat.pow_succ, ← Nat.div_div_eq_div_mul, h]; exact hx_zero
def hexV (c : UInt8) : Nat := if 48 ≤ c.toNat ∧ c.toNat ≤ 57 then c.toNat - 48 else if 97 ≤ c.toNat ∧ c.toNat ≤ 102 then c.toNat - 87 else if 65 ≤ c.toNat ∧ c.toNat ≤ 70 then c.toNat - 55 else 16
def hexR (l : List UInt8) : List Int := l.reverse.map fun c => (hexV c : Int)
theorem hexR_length (l : List UInt8) : (hexR l).length = l.length := by simp [hexR]
theorem hexR_get (l : List UInt8) {i : Nat} (h : i < l.length) : (hexR l).getD i 0 = (hexV (l.getD (l.length - 1 - i) 0) : Int) := by
  unfold hexR
  rw [List.getD_eq_getElem?_getD, List.getElem?_map, List.getElem?_reverse h, List.getElem?_eq_getElem (by omega), List.getD_eq_getElem?_getD, List.getElem?_eq_getElem (by omega)]
  rfl
def hexOk (l : List UInt8) : Bool := l != [] && l.all fun c => decide (hexV c < 16)
theorem hexOk_lim {l : List UInt8} (h : hexOk l = true) : Lim 16 (hexR l) := by
  intro x hx
  simp only [hexR, List.mem_map, List.mem_reverse] at hx
  obtain ⟨c, hc, rfl⟩ := hx
  simp only [hexOk, Bool.and_eq_true, List.all_eq_true] at h
  have := of_decide_eq_true (h.2 c hc)
  omega
theorem hexOk_bad {l : List UInt8} {c : UInt8} (hc : c ∈ l) (h : ¬ hexV c < 16) : hexOk l = false := by
  rw [Bool.eq_false_iff]
  intro hh
  simp only [hexOk, Bool.and_eq_true, List.all_eq_true] at hh
  exact h (of_decide_eq_true (hh.2 c hc))
theorem hexOk_of {l : List UInt8} (h0 : l ≠ []) (h : ∀ c ∈ l, hexV c < 16) : hexOk l = true := by
  simp only [hexOk, Bool.and_eq_true, List.all_eq_true, bne_iff_ne]
  exact ⟨h0, fun c hc => decide_eq_true (h c hc)⟩
theorem nv16_lt {xs : List Int} (h : Lim 16 xs) (n : Nat) : nv 16 (xs.take n) < 16 ^ n := by
  refine Nat.lt_of_lt_of_le (nv_lt (h.take n)) (Nat.pow_le_pow_right (by decide) ?_)
  rw [List.length_take]; omega
structure PrsR (R d : List Int) (i : Nat) : Prop where
  hi : i ≤ R.length
  hl : R.length / 8 + 1 = d.length
  hd : Lim B32 d
  he : nd d = nv 16 (R.take i)
theorem PrsR.start {R d : List Int} (hl : R.length / 8 + 1 = d.length) (hz : d = List.replicate (R.length / 8 + 1) 0) : PrsR R d 0 := by
  subst hz
  exact ⟨Nat.zero_le _, hl, Lim.zeros (by decide) _, by rw [nd_zeros]; rfl⟩
theorem PrsR.step {R d : List Int} {i : Nat} {v o : Int} (h : PrsR R d i) (hR : Lim 16 (R.take (i + 1))) (hi : i < R.length) (hv : v = R.getD i 0) (ho : o = d.getD (i / 8) 0) :
    PrsR R (d.set (i / 8) (o + v * 2 ^ (4 * (i % 8)))) (i + 1) ∧ 0 ≤ v ∧ v < 16 ∧ 0 ≤ o ∧ o + v * 2 ^ (4 * (i % 8)) < 4294967296 ∧ 0 ≤ v * 2 ^ (4 * (i % 8)) := by
  have hl := h.hl
  have hv1 : 0 ≤ v ∧ v < 16 := by
    have := hR v (by
      rw [hv, List.getD_eq_getElem?_getD, List.getElem?_eq_getElem hi]
      rw [List.take_succ_eq_append_getElem hi, Option.getD_some]
      exact List.mem_append_right _ (List.mem_singleton.2 rfl))
    omega
  have hq : i / 8 < d.length := by omega
  have ho1 := lim32 h.hd (i / 8)
  rw [← ho] at ho1
  have hlt : nd d < 16 ^ i := by
    rw [h.he]
    have := nv16_lt hR i
    rwa [List.take_take, Nat.min_eq_left (by omega)] at this
  have hp : (16 : Nat) ^ i = B32 ^ (i / 8) * 2 ^ (4 * (i % 8)) := by
    rw [show B32 = 16 ^ 8 from rfl, ← Nat.pow_mul, show (2 : Nat) ^ (4 * (i % 8)) = 16 ^ (i % 8) by rw [Nat.pow_mul], ← Nat.pow_add]
    congr 1; omega
  have hge : B32 ^ (i / 8) * o.toNat ≤ nd d := by
    rw [nd_split d (i / 8) (by omega), nd_drop hq, ← ho, Nat.mul_add]
    omega
  have hol : o.toNat < 2 ^ (4 * (i % 8)) := by
    rw [hp] at hlt
    exact Nat.lt_of_mul_lt_mul_left (Nat.lt_of_le_of_lt hge hlt)
  obtain ⟨p, hpp⟩ : ∃ p, (2 : Nat) ^ (4 * (i % 8)) = p := ⟨_, rfl⟩
  have hpi : (2 : Int) ^ (4 * (i % 8)) = (p : Int) := by rw [← hpp]; exact (Int.natCast_pow 2 _).symm
  have hp8 : p * 16 ≤ 4294967296 := by
    rw [← hpp, show (16 : Nat) = 2 ^ 4 from rfl, ← Nat.pow_add, show 4294967296 = 2 ^ 32 from rfl]
    exact Nat.pow_le_pow_right (by decide) (by omega)
  obtain ⟨n, rfl⟩ := Int.eq_ofNat_of_zero_le hv1.1
  obtain ⟨m, rfl⟩ := Int.eq_ofNat_of_zero_le ho1.1
  rw [hpp, Int.toNat_natCast] at hol
  have hn : n < 16 := by omega
  have hnp : n * p ≤ 15 * p := Nat.mul_le_mul_right _ (by omega)
  have hw : ((m : Int) + (n : Int) * 2 ^ (4 * (i % 8))) = ((m + n * p : Nat) : Int) := by rw [hpi]; simp
  have hw2 : ((n : Int) * 2 ^ (4 * (i % 8))) = ((n * p : Nat) : Int) := by rw [hpi]; simp
  rw [hw, hw2]
  refine ⟨⟨hi, by rw [List.length_set]; exact hl, lim32_set h.hd _ ⟨by omega, by omega⟩, ?_⟩, hv1.1, hv1.2, ho1.1, by omega, by omega⟩
  have e := nd_set (xs := d) (i := i / 8) (v := ((m + n * p : Nat) : Int)) hq
  rw [← ho, Int.toNat_natCast, Int.toNat_natCast, h.he] at e
  rw [nv_take_succ, ← hv, Int.toNat_natCast, hp, hpp]
  rw [Nat.mul_add] at e
  have : B32 ^ (i / 8) * (n * p) = B32 ^ (i / 8) * p * n := by rw [Nat.mul_comm n p, Nat.mul_assoc]
  omega
theorem PrsR.done {R d : List Int} (h : PrsR R d R.length) : nd d = nv 16 R := by rw [h.he, List.take_length]
structure PrsI (R out : List Int) (k : Nat) : Prop where
  hk : k ≤ R.length
  hl : R.length / 16 + 1 = out.length
  hd : Lim B64 out
  he : nb out = 16 ^ k * nv 16 (R.drop k)
theorem PrsI.start {R out : List Int} (hl : R.length / 16 + 1 = out.length) (hz : out = List.replicate (R.length / 16 + 1) 0) : PrsI R out R.length := by
  subst hz
  exact ⟨Nat.le_refl _, hl, Lim.zeros (by decide) _, by rw [nb_zeros, List.drop_length]; rfl⟩
theorem PrsI.step {R out : List Int} {k : Nat} {v o : Int} (h : PrsI R out (k + 1)) (hv1 : 0 ≤ v ∧ v < 16) (hv : v = R.getD k 0) (ho : o = out.getD (k / 16) 0) :
    PrsI R (out.set (k / 16) (o + v * 2 ^ (4 * (k % 16)))) k ∧ 0 ≤ o ∧ o < 18446744073709551616 ∧ o % 2 ^ (4 * (k % 16) + 4) = 0 ∧ 0 ≤ v * 2 ^ (4 * (k % 16)) ∧ v * 2 ^ (4 * (k % 16)) < 2 ^ (4 * (k % 16) + 4) ∧ v * 2 ^ (4 * (k % 16)) < 18446744073709551616 := by
  have hl := h.hl
  have hk := h.hk
  have hq : k / 16 < out.length := by omega
  have ho1 := lim64 h.hd (k / 16)
  rw [← ho] at ho1
  obtain ⟨r, hr⟩ : ∃ r, r = k % 16 := ⟨_, rfl⟩
  obtain ⟨q, hqq⟩ : ∃ q, q = k / 16 := ⟨_, rfl⟩
  have hr16 : r < 16 := by omega
  have hkk : k = 16 * q + r := by omega
  rw [← hqq] at ho hq
  rw [← hr, ← hqq]
  clear hr hqq
  obtain ⟨p, hpp⟩ : ∃ p, (2 : Nat) ^ (4 * r) = p := ⟨_, rfl⟩
  have hpi : (2 : Int) ^ (4 * r) = (p : Int) := by rw [← hpp]; exact (Int.natCast_pow 2 _).symm
  have hpi4 : (2 : Int) ^ (4 * r + 4) = (16 * p : Int) := by rw [Int.pow_add, hpi]; omega
  have hp16 : (16 : Nat) ^ k = B64 ^ q * p := by
    rw [show B64 = 16 ^ 16 from rfl, ← Nat.pow_mul, ← hpp, show (2 : Nat) ^ (4 * r) = 16 ^ r by rw [Nat.pow_mul], ← Nat.pow_add]
    congr 1
  obtain ⟨s, hs⟩ : ∃ s, 18446744073709551616 = 16 * p * s := by
    refine ⟨16 ^ (15 - r), ?_⟩
    rw [← hpp, show (2 : Nat) ^ (4 * r) = 16 ^ r by rw [Nat.pow_mul], Nat.mul_assoc, ← Nat.pow_add, show r + (15 - r) = 15 by omega]
  have hp0 : 0 < p := by rw [← hpp]; exact Nat.two_pow_pos _
  have hdr : nb (out.drop q) = 16 * p * nv 16 (R.drop (k + 1)) := by
    rw [nb_drop_div h.hd (by omega), h.he, Nat.pow_succ, hp16]
    rw [show B64 ^ q * p * 16 * nv 16 (R.drop (k + 1)) = B64 ^ q * (16 * p * nv 16 (R.drop (k + 1))) by grind]
    exact Nat.mul_div_cancel_left _ (Nat.pow_pos (by decide))
  rw [nb_drop (by omega), ← ho] at hdr
  obtain ⟨n, rfl⟩ := Int.eq_ofNat_of_zero_le hv1.1
  obtain ⟨m, rfl⟩ := Int.eq_ofNat_of_zero_le ho1.1
  rw [Int.toNat_natCast] at hdr
  have hm0 : m % (16 * p) = 0 := by
    have e : m + 16 * p * (s * nb (out.drop (q + 1))) = 16 * p * nv 16 (R.drop (k + 1)) := by
      rw [← hdr, ← Nat.mul_assoc, ← hs]
    have h2 := congrArg (· % (16 * p)) e
    simpa [Nat.add_mul_mod_self_left, Nat.mul_mod_right] using h2
  obtain ⟨t, ht⟩ : ∃ t, m = 16 * p * t := ⟨m / (16 * p), by have := Nat.div_add_mod m (16 * p); omega⟩
  have hts : t < s := by
    have : 16 * p * t < 16 * p * s := by omega
    exact Nat.lt_of_mul_lt_mul_left this
  have hmp : m + 16 * p ≤ 18446744073709551616 := by
    rw [ht, hs, show 16 * p * t + 16 * p = 16 * p * (t + 1) by rw [Nat.mul_add, Nat.mul_one]]
    exact Nat.mul_le_mul_left _ hts
  have hn : n < 16 := by omega
  have hnp : n * p ≤ 15 * p := Nat.mul_le_mul_right _ (by omega)
  have hw : ((m : Int) + (n : Int) * 2 ^ (4 * r)) = ((m + n * p : Nat) : Int) := by rw [hpi]; simp
  have hw2 : ((n : Int) * 2 ^ (4 * r)) = ((n * p : Nat) : Int) := by rw [hpi]; simp
  rw [hw, hw2, hpi4]
  refine ⟨⟨by omega, by rw [List.length_set]; exact hl, lim_set h.hd _ ⟨by omega, by omega⟩, ?_⟩, by omega, by omega, ?_, by omega, by omega, by omega⟩
  · have e := nb_set (xs := out) (i := q) (v := ((m + n * p : Nat) : Int)) hq
    rw [← ho, Int.toNat_natCast, Int.toNat_natCast, h.he] at e
    rw [List.drop_eq_getElem_cons (by omega), nv_cons]
    have hg : R[k] = (n : Int) := by rw [hv, List.getD_eq_getElem?_getD, List.getElem?_eq_getElem (by omega)]; rfl
    rw [hg, Int.toNat_natCast, hp16]
    rw [Nat.pow_succ, hp16] at e
    generalize nv 16 (R.drop (k + 1)) = T at *
    generalize B64 ^ q = P at *
    have : P * p * (n + 16 * T) = P * p * 16 * T + P * (n * p) := by grind
    rw [this]
    rw [Nat.mul_add] at e
    omega
  · have : ((m : Int) % (16 * (p : Int))) = ((m % (16 * p) : Nat) : Int) := by simp
    rw [this, hm0]; rfl
theorem PrsI.done {R out : List Int} (h : PrsI R out 0) : nb out = nv 16 R := by rw [h.he]; simp
theorem hexV_hexC : ∀ n, n < 16 → hexV (hexC n) = n := by decide
theorem lim16_digs (n : Nat) : Lim 16 (digs 16 n) := lim_digs (by decide) n
theorem hexR_hx (n : Nat) : hexR (hx n) = digs 16 n := by
  unfold hexR hx
  rw [← List.map_reverse, List.reverse_reverse, List.map_map]
  have h := lim16_digs n
  have : ∀ l : List Int, Lim 16 l → l.map ((fun c => (hexV c : Int)) ∘ fun d => hexC d.toNat) = l := by
    intro l hl
    induction l with
    | nil => rfl
    | cons x l ih =>
      have hx := hl.head
      rw [List.map_cons, ih hl.tail]
      congr 1
      simp only [Function.comp]
      rw [hexV_hexC _ (by omega)]; omega
  exact this _ h
theorem hexR_append (a b : List UInt8) : hexR (a ++ b) = hexR b ++ hexR a := by simp [hexR]
theorem hexR_noughts (j : Nat) : hexR (List.replicate j 48) = List.replicate j 0 := by
  unfold hexR; rw [List.reverse_replicate, List.map_replicate]; rfl
theorem hexV_mem_hx {n : Nat} {c : UInt8} (hc : c ∈ hx n) : hexV c < 16 := by
  unfold hx at hc
  simp only [List.mem_map, List.mem_reverse] at hc
  obtain ⟨d, hd, rfl⟩ := hc
  have := lim16_digs n d hd
  rw [hexV_hexC _ (by omega)]; omega
theorem hexT_ne (n : Nat) : hexT n ≠ [] := by
  unfold hexT
  split
  · simp
  · rename_i h; exact fun e => h (hx_nil.1 e)
theorem hex_back (n j : Nat) : hexOk (List.replicate j 48 ++ hexT n) = true ∧ nv 16 (hexR (List.replicate j 48 ++ hexT n)) = n := by
  constructor
  · refine hexOk_of (by simp [hexT_ne]) fun c hc => ?_
    rcases List.mem_append.1 hc with h | h
    · rw [(List.mem_replicate.1 h).2]; decide
    · unfold hexT at h
      split at h
      · simp only [List.mem_singleton] at h; rw [h]; decide
      · exact hexV_mem_hx h
  · rw [hexR_append, hexR_noughts]
    unfold hexT
    split
    · rename_i h
      rw [h, nv_append, nv_zeros]
      decide
    · rw [hexR_hx, nv_append, nv_zeros, nv_digs (by decide)]; omega
end Go.Hl

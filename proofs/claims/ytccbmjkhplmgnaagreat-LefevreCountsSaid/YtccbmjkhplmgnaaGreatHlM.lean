/- Digits of thirty-two bits. Comparing by digits, whatever the base. Bits of a number by digits of thirty-two bits; the highest digit. Sums and differences of digits. Products of digits. Digits by one digit. Digits of thirty-two bits: division by one digit, and by several, digit by digit. -/
import Derived.Test.YtccbmjkhplmgnaaGreatHlN
set_option linter.unusedVariables false
set_option linter.unusedSimpArgs false
namespace Go.Hl
def d32 (n : Nat) : List Int := digs B32 n
def nd (xs : List Int) : Nat := nv B32 xs
theorem nd_d32 (n : Nat) : nd (d32 n) = n := nv_digs (by decide) n
theorem lim_d32 (n : Nat) : Lim B32 (d32 n) := lim_digs (by decide) n
theorem lim32 {xs : List Int} (h : Lim B32 xs) (i : Nat) : 0 ≤ xs.getD i 0 ∧ xs.getD i 0 < 4294967296 := h.get (by decide) i
theorem lim32_set {xs : List Int} (h : Lim B32 xs) (i : Nat) {v : Int} (hv : 0 ≤ v ∧ v < 4294967296) : Lim B32 (xs.set i v) := h.set i hv
theorem nd_set {xs : List Int} {i : Nat} {v : Int} (h : i < xs.length) : nd (xs.set i v) + B32 ^ i * (xs.getD i 0).toNat = nd xs + B32 ^ i * v.toNat := nv_set xs i v h
theorem nd_top {u : List Int} {n : Nat} : nd (u.take (n + 1)) = nd (u.take n) + B32 ^ n * (u.getD n 0).toNat := nv_take_succ u n
theorem nd_zeros (n : Nat) : nd (List.replicate n 0) = 0 := nv_zeros n
theorem nd_app (xs ys : List Int) : nd (xs ++ ys) = nd xs + B32 ^ xs.length * nd ys := nv_append xs ys
theorem d32_zero : d32 0 = [] := digs_zero
theorem d32_nil {n : Nat} : d32 n = [] ↔ n = 0 := digs_eq_nil (by decide)
theorem d32_len_lt {xs : List Int} (h : Lim B32 xs) {n : Nat} (hl : xs.length < n) : (d32 (nd xs)).length < n :=
  Nat.lt_of_le_of_lt ((digs_length_le (by decide) _ _).2 (nv_lt h)) hl
theorem lim32_lim64 {xs : List Int} (h : Lim B32 xs) : Lim B64 xs := fun x hx => by
  have h1 := h x hx
  have e1 : ((B32 : Nat) : Int) = 4294967296 := rfl
  have e2 : ((B64 : Nat) : Int) = 18446744073709551616 := rfl
  rw [e1] at h1; rw [e2]; omega
theorem B64_sq : B64 = B32 * B32 := rfl
structure DigI (A out : List Int) (i : Nat) : Prop where
  hi : i ≤ A.length
  hl : out.length = 2 * A.length
  hd : Lim B32 out
  hz : ∀ j, 2 * i ≤ j → out.getD j 0 = 0
  he : nd out = nb (A.take i)
theorem dig_ring {N s1 t p lo hi B x : Nat} (e1 : s1 = N + p * lo) (e2 : t = s1 + p * B * hi) (key : x = lo + B * hi) : t = N + p * x := by grind
theorem DigI.step {A out : List Int} {i : Nat} {x : Int} (h : DigI A out i) (hA : Lim B64 A) (hi : i < A.length) (hx : x = A.getD i 0) :
    DigI A ((out.set (2 * i) (x % 4294967296)).set (2 * i + 1) (x / 4294967296)) (i + 1) := by
  have h1 := lim64 hA i
  rw [← hx] at h1
  have hl := h.hl
  refine ⟨hi, by simp [hl], lim32_set (lim32_set h.hd _ (by omega)) _ (by omega), fun j hj => ?_, ?_⟩
  · rw [getD_set, if_neg (by omega), getD_set, if_neg (by omega)]; exact h.hz j (by omega)
  · have e1 := nd_set (xs := out) (i := 2 * i) (v := x % 4294967296) (by omega)
    have e2 := nd_set (xs := out.set (2 * i) (x % 4294967296)) (i := 2 * i + 1) (v := x / 4294967296) (by simp; omega)
    rw [h.hz _ (Nat.le_refl _)] at e1
    rw [getD_set, if_neg (by omega), h.hz _ (by omega)] at e2
    have e3 : nb (A.take (i + 1)) = nb (A.take i) + B64 ^ i * (A.getD i 0).toNat := nb_top
    rw [← hx, ← h.he, show B64 ^ i = B32 ^ (2 * i) by rw [Nat.pow_mul, show B32 ^ 2 = B64 from rfl]] at e3
    rw [e3]
    have key : x.toNat = (x % 4294967296).toNat + B32 * (x / 4294967296).toNat := by show _ = _ + 4294967296 * _; omega
    rw [Int.toNat_zero, Nat.mul_zero, Nat.add_zero] at e1 e2
    rw [Nat.pow_succ] at e2
    exact dig_ring e1 e2 key
structure LimbI (D out : List Int) (k : Nat) : Prop where
  hk : 2 * k ≤ D.length + 1
  hl : out.length = k
  hd : Lim B64 out
  he : nb out = nd (D.take (2 * k))
theorem nd_take2 (D : List Int) (k : Nat) : nd (D.take (2 * (k + 1))) = nd (D.take (2 * k)) + B64 ^ k * ((D.getD (2 * k) 0).toNat + 4294967296 * (D.getD (2 * k + 1) 0).toNat) := by
  have e : B64 ^ k = B32 ^ (2 * k) := by rw [Nat.pow_mul, show B32 ^ 2 = B64 from rfl]
  have e1 : nd (D.take (2 * k + 1 + 1)) = nd (D.take (2 * k + 1)) + B32 ^ (2 * k + 1) * (D.getD (2 * k + 1) 0).toNat := nd_top
  have e2 : nd (D.take (2 * k + 1)) = nd (D.take (2 * k)) + B32 ^ (2 * k) * (D.getD (2 * k) 0).toNat := nd_top
  rw [show 2 * (k + 1) = 2 * k + 1 + 1 by omega, e]
  rw [Nat.pow_succ] at e1
  exact dig_ring e2 e1 rfl
theorem LimbI.step {D out : List Int} {k : Nat} {x : Int} (h : LimbI D out k) (hD : Lim B32 D) (hk : 2 * k < D.length) (hx : x = D.getD (2 * k) 0 + 4294967296 * D.getD (2 * k + 1) 0) : LimbI D (out ++ [x]) (k + 1) := by
  have h1 := lim32 hD (2 * k)
  have h2 := lim32 hD (2 * k + 1)
  refine ⟨by omega, by simp [h.hl], h.hd.append (Lim.cons (by rw [hB64]; omega) Lim.nil), ?_⟩
  rw [nb_app, nd_take2, ← h.he, h.hl]
  have : nb [x] = x.toNat := by simp [nb, nv]
  rw [this]
  congr 2
  omega
theorem LimbI.done {D out : List Int} {k : Nat} (h : LimbI D out k) (hD : Lim B32 D) (hk : D.length ≤ 2 * k) (ht : Top D) : out = dg (nd D) := by
  have e := h.he
  rw [List.take_of_length_le hk] at e
  have : Top out := by
    by_cases h0 : out = []
    · exact .inl h0
    · right
      intro hz
      have hl := h.hl
      have hpos : 0 < out.length := List.length_pos_iff.2 h0
      obtain ⟨j, rfl⟩ : ∃ j, k = j + 1 := ⟨k - 1, by omega⟩
      have e2 := nb_last hl
      rw [hl, Nat.add_sub_cancel] at hz
      rw [hz] at e2
      simp only [Int.toNat_zero, Nat.mul_zero, Nat.add_zero] at e2
      have h3 := nb_take_lt h.hd j
      have hDl := h.hk
      have h4 : nd D < B32 ^ (2 * j) := by
        rw [Nat.pow_mul, show B32 ^ 2 = B64 from rfl]
        omega
      rcases ht with ht | ht
      · subst ht
        simp at hDl hk
        have hz : nd [] = 0 := rfl
        omega
      · have hn : D.length ≤ 2 * j := by
          have : D = d32 (nd D) := eq_digs (by decide) hD (.inr ht)
          rw [this]
          exact (digs_length_le (by decide) _ _).2 h4
        omega
  have := eq_digs (by decide) h.hd this
  rw [this]
  unfold nb at e
  rw [e]; rfl
end Go.Hl

namespace Go.Hl
theorem top_ge {B : Nat} (hB : 2 ≤ B) {xs : List Int} (h : Lim B xs) (ht : Top xs) : xs.length = (digs B (nv B xs)).length := by
  rw [← eq_digs hB h ht]
theorem nv_lt_of_len {B : Nat} (hB : 2 ≤ B) {xs ys : List Int} (hx : Lim B xs) (hy : Lim B ys) (ht : Top ys) (h : xs.length < ys.length) : nv B xs < nv B ys := by
  have h1 := nv_lt hx
  have h2 : ¬ nv B ys < B ^ xs.length := fun h' => by
    have := (digs_length_le hB (nv B ys) xs.length).2 h'
    rw [← top_ge hB hy ht] at this
    omega
  omega
theorem nv_lt_of {B : Nat} (hB : 2 ≤ B) {A C : List Int} {n : Nat} (hA : Lim B A) (hC : Lim B C) (h1 : n < A.length) (h2 : n < C.length) (hd : A.drop (n + 1) = C.drop (n + 1)) (h : A.getD n 0 < C.getD n 0) : nv B A < nv B C := by
  rw [nv_take_drop A (n + 1) (by omega), nv_take_drop C (n + 1) (by omega), hd, nv_take_succ, nv_take_succ]
  have ha := nv_lt (hA.take n)
  rw [List.length_take, Nat.min_eq_left (by omega)] at ha
  have h3 := (hA.get (by omega) n).1
  have h4 : (A.getD n 0).toNat + 1 ≤ (C.getD n 0).toNat := by omega
  have h5 := Nat.mul_le_mul_left (B ^ n) h4
  rw [Nat.mul_add] at h5
  omega
theorem top_d32 (n : Nat) : Top (d32 n) := top_digs (by decide) n
theorem d32_of {xs : List Int} (h : Lim B32 xs) (ht : Top xs) : xs = d32 (nd xs) := eq_digs (by decide) h ht
end Go.Hl

namespace Go.Hl
theorem nd_drop {xs : List Int} {i : Nat} (h : i < xs.length) : nd (xs.drop i) = (xs.getD i 0).toNat + B32 * nd (xs.drop (i + 1)) := by
  rw [List.drop_eq_getElem_cons h, List.getD_eq_getElem?_getD, List.getElem?_eq_getElem h]
  rfl
theorem nd_lt {xs : List Int} (h : Lim B32 xs) {n : Nat} (hl : xs.length ≤ n) : nd xs < B32 ^ n :=
  Nat.lt_of_lt_of_le (nv_lt h) (Nat.pow_le_pow_right (by decide) hl)
theorem nd_take_lt {u : List Int} (h : Lim B32 u) (n : Nat) : nd (u.take n) < B32 ^ n := nd_lt (h.take n) (by rw [List.length_take]; omega)
theorem nd_split (xs : List Int) (n : Nat) (hn : n ≤ xs.length) : nd xs = nd (xs.take n) + B32 ^ n * nd (xs.drop n) := nv_take_drop xs n hn
theorem nd_drop_div {xs : List Int} (h : Lim B32 xs) {w : Nat} (hw : w ≤ xs.length) : nd (xs.drop w) = nd xs / B32 ^ w := by
  rw [nd_split xs w hw, Nat.add_mul_div_left _ _ (Nat.pow_pos (by decide)), Nat.div_eq_of_lt (nd_take_lt h w)]
  omega
theorem pow_B32 (q r : Nat) : 2 ^ (32 * q + r) = B32 ^ q * 2 ^ r := by rw [Nat.pow_add, Nat.pow_mul]
theorem nd_over {A : List Int} (h : Lim B32 A) {q r : Nat} (hq : A.length ≤ q) : nd A / 2 ^ (32 * q + r) = 0 := by
  refine Nat.div_eq_of_lt ?_
  rw [pow_B32]
  have := nd_lt h hq
  have h2 : B32 ^ q * 1 ≤ B32 ^ q * 2 ^ r := Nat.mul_le_mul_left _ (Nat.two_pow_pos r)
  omega
theorem nd_bit {A : List Int} (h : Lim B32 A) (q r : Nat) (hr : r < 32) : nd A / 2 ^ (32 * q + r) % 2 = (A.getD q 0).toNat / 2 ^ r % 2 := by
  by_cases hq : q < A.length
  · rw [pow_B32, ← Nat.div_div_eq_div_mul, ← nd_drop_div h (by omega), nd_drop hq]
    have e : B32 = 2 ^ r * (2 * 2 ^ (31 - r)) := by
      rw [Nat.mul_comm 2, ← Nat.pow_succ, ← Nat.pow_add, show r + (31 - r + 1) = 32 by omega]
    generalize (A.getD q 0).toNat = x
    generalize nd (A.drop (q + 1)) = y
    rw [e, Nat.mul_assoc, Nat.add_mul_div_left _ _ (Nat.two_pow_pos r), Nat.mul_assoc]
    omega
  · rw [nd_over h (by omega), List.getD_eq_getElem?_getD, List.getElem?_eq_none (by omega)]
    simp
theorem top_of_ge {A : List Int} (h : Lim B32 A) {n : Nat} (hl : A.length = n + 1) (hge : B32 ^ n ≤ nd A) : Top A := by
  right
  intro hz
  rw [hl, Nat.add_sub_cancel] at hz
  have e : nd A = nd (A.take n) + B32 ^ n * (A.getD n 0).toNat := by rw [← nd_top, List.take_of_length_le (by omega)]
  rw [hz, Int.toNat_zero, Nat.mul_zero] at e
  have := nd_take_lt h n
  omega
theorem ge_of_top {A : List Int} (h : Lim B32 A) (ht : Top A) {n : Nat} (hl : A.length = n + 1) : B32 ^ n ≤ nd A := by
  rcases ht with ht | ht
  · rw [ht] at hl; simp at hl
  · rw [hl, Nat.add_sub_cancel] at ht
    have e : nd A = nd (A.take n) + B32 ^ n * (A.getD n 0).toNat := by rw [← nd_top, List.take_of_length_le (by omega)]
    have h1 := lim32 h n
    have : B32 ^ n * 1 ≤ B32 ^ n * (A.getD n 0).toNat := Nat.mul_le_mul_left _ (by omega)
    omega
end Go.Hl

namespace Go.Hl
structure AddR (A C out : List Int) (i : Nat) (c : Int) : Prop where
  hl : out.length = i
  hd : Lim B32 out
  hc : 0 ≤ c ∧ c ≤ 1
  he : nd out + B32 ^ i * c.toNat = nd (A.take i) + nd (C.take i)
  hi : i ≤ A.length ∨ i ≤ C.length ∨ (c = 0 ∧ ∃ j, i = j + 1 ∧ A.length ≤ j ∧ C.length ≤ j ∧ (j ≤ A.length ∨ j ≤ C.length) ∧ B32 ^ j ≤ nd out)
theorem addr_ring {n c x y s d c' p B tA tC o : Nat} (e : n + p * c = tA + tC) (hd : o = n + p * d) (k : d + B * c' = c + x + y) (hs : s = 0) : o + p * B * c' = (tA + p * x) + (tC + p * y) + s := by
  subst hs; subst hd
  have : p * (d + B * c') = p * (c + x + y) := by rw [k]
  grind
theorem AddR.step {A C out : List Int} {i : Nat} {c x y : Int} (h : AddR A C out i c) (hA : Lim B32 A) (hC : Lim B32 C) (hx : x = A.getD i 0) (hy : y = C.getD i 0) (hgo : i < A.length ∨ i < C.length ∨ 0 < c) :
    AddR A C (out ++ [(c + x + y) % 4294967296]) (i + 1) ((c + x + y) / 4294967296) := by
  have h1 := lim32 hA i
  have h2 := lim32 hC i
  have hc := h.hc
  have hl := h.hl
  rw [← hx] at h1
  rw [← hy] at h2
  have hB32 : ((B32 : Nat) : Int) = 4294967296 := rfl
  have e1 : nd (A.take (i + 1)) = nd (A.take i) + B32 ^ i * (A.getD i 0).toNat := nd_top
  have e2 : nd (C.take (i + 1)) = nd (C.take i) + B32 ^ i * (C.getD i 0).toNat := nd_top
  have e3 : nd (out ++ [(c + x + y) % 4294967296]) = nd out + B32 ^ i * ((c + x + y) % 4294967296).toNat := by
    rw [nd_app, hl]; simp [nd, nv]
  have key : ((c + x + y) % 4294967296).toNat + 4294967296 * ((c + x + y) / 4294967296).toNat = c.toNat + x.toNat + y.toNat := by omega
  refine ⟨by simp [hl], h.hd.append (Lim.cons (by rw [hB32]; omega) Lim.nil), by omega, ?_, ?_⟩
  · rw [e1, e2, ← hx, ← hy, Nat.pow_succ]
    have := addr_ring (s := 0) h.he e3 key rfl
    simpa using this
  · by_cases h3 : i < A.length
    · exact .inl h3
    by_cases h4 : i < C.length
    · exact .inr (.inl h4)
    · have hc1 : c = 1 := by omega
      have hx0 : x = 0 := by rw [hx, List.getD_eq_getElem?_getD, List.getElem?_eq_none (by omega)]; rfl
      have hy0 : y = 0 := by rw [hy, List.getD_eq_getElem?_getD, List.getElem?_eq_none (by omega)]; rfl
      refine .inr (.inr ⟨by rw [hc1, hx0, hy0]; rfl, i, rfl, by omega, by omega, ?_, ?_⟩)
      · rcases h.hi with g | g | ⟨g, _⟩
        · exact .inl g
        · exact .inr g
        · omega
      rw [e3, hc1, hx0, hy0]
      have : ((1 + 0 + 0 : Int) % 4294967296).toNat = 1 := rfl
      rw [this, Nat.mul_one]
      exact Nat.le_add_left ..
theorem AddR.done {A C out : List Int} {i : Nat} (h : AddR A C out i 0) (hA : Lim B32 A) (hC : Lim B32 C) (tA : Top A) (tC : Top C) (h1 : A.length ≤ i) (h2 : C.length ≤ i) : out = d32 (nd A + nd C) := by
  have e := h.he
  rw [List.take_of_length_le h1, List.take_of_length_le h2, Int.toNat_zero, Nat.mul_zero, Nat.add_zero] at e
  have hT : Top out := by
    cases i with
    | zero => exact .inl (List.eq_nil_of_length_eq_zero h.hl)
    | succ j =>
      refine top_of_ge h.hd h.hl ?_
      rcases h.hi with g | g | ⟨_, j', hj, _, _, _, g⟩
      · have := ge_of_top hA tA (n := j) (by omega)
        omega
      · have := ge_of_top hC tC (n := j) (by omega)
        omega
      · obtain rfl : j = j' := by omega
        exact g
  rw [← e]
  exact d32_of h.hd hT
structure SubR (A C out : List Int) (i : Nat) (b : Int) : Prop where
  hi : i ≤ A.length
  hl : out.length = i
  hd : Lim B32 out
  hb : 0 ≤ b ∧ b ≤ 1
  he : nd out + nd (C.take i) = nd (A.take i) + B32 ^ i * b.toNat
theorem subr_ring {n b x y d b' p B tA tC o : Nat} (e : n + tC = tA + p * b) (hd : o = n + p * d) (k : d + y + b = x + B * b') : o + (tC + p * y) = (tA + p * x) + p * B * b' := by
  subst hd
  have : p * (d + y + b) = p * (x + B * b') := by rw [k]
  grind
theorem SubR.step {A C out : List Int} {i : Nat} {b x y d b' : Int} (h : SubR A C out i b) (hA : Lim B32 A) (hC : Lim B32 C) (hi : i < A.length) (hx : x = A.getD i 0) (hy : y = C.getD i 0)
    (hd : d + y + b = x + 4294967296 * b') (hd0 : 0 ≤ d ∧ d < 4294967296) (hb' : 0 ≤ b' ∧ b' ≤ 1) : SubR A C (out ++ [d]) (i + 1) b' := by
  have h1 := lim32 hA i
  have h2 := lim32 hC i
  have hb := h.hb
  have hl := h.hl
  rw [← hx] at h1
  rw [← hy] at h2
  have hB32 : ((B32 : Nat) : Int) = 4294967296 := rfl
  have e1 : nd (A.take (i + 1)) = nd (A.take i) + B32 ^ i * (A.getD i 0).toNat := nd_top
  have e2 : nd (C.take (i + 1)) = nd (C.take i) + B32 ^ i * (C.getD i 0).toNat := nd_top
  have e3 : nd (out ++ [d]) = nd out + B32 ^ i * d.toNat := by
    rw [nd_app, hl]; simp [nd, nv]
  have key : d.toNat + y.toNat + b.toNat = x.toNat + B32 * b'.toNat := by show _ = _ + 4294967296 * _; omega
  refine ⟨hi, by simp [hl], h.hd.append (Lim.cons (by rw [hB32]; omega) Lim.nil), hb', ?_⟩
  rw [e1, e2, ← hx, ← hy, Nat.pow_succ]
  exact subr_ring h.he e3 key
theorem SubR.done {A C out : List Int} {b : Int} (h : SubR A C out A.length b) (hC : C.length ≤ A.length) (hle : nd C ≤ nd A) : nd out = nd A - nd C := by
  have e := h.he
  rw [List.take_length, List.take_of_length_le hC] at e
  have hlt := nd_lt h.hd (Nat.le_of_eq h.hl)
  have hb := h.hb
  have hbb : b = 0 ∨ b = 1 := by omega
  rcases hbb with rfl | rfl
  · rw [Int.toNat_zero, Nat.mul_zero] at e; omega
  · rw [show (1 : Int).toNat = 1 from rfl, Nat.mul_one] at e; omega
end Go.Hl

namespace Go.Hl
structure MulR (A C out : List Int) (x : Int) (i k : Nat) (c : Int) : Prop where
  hk : k ≤ C.length
  hl : out.length = A.length + C.length + 1
  hd : Lim B32 out
  hc : 0 ≤ c ∧ c < 4294967296
  hz : ∀ j, i + C.length ≤ j → out.getD j 0 = 0
  he : nd out + B32 ^ (i + k) * c.toNat = nd (A.take i) * nd C + B32 ^ i * (x.toNat * nd (C.take k))
theorem MulR.step {A C out : List Int} {x c y o : Int} {i k : Nat} (h : MulR A C out x i k c) (hC : Lim B32 C) (hi : i < A.length) (hx : 0 ≤ x ∧ x < 4294967296) (hk : k < C.length)
    (hy : y = C.getD k 0) (ho : o = out.getD (i + k) 0) : MulR A C (out.set (i + k) ((o + x * y + c) % 4294967296)) x i (k + 1) ((o + x * y + c) / 4294967296) ∧ (0 ≤ x * y ∧ x * y ≤ 18446744065119617025) := by
  have h1 := lim32 hC k
  have h2 := lim32 h.hd (i + k)
  rw [← hy] at h1
  rw [← ho] at h2
  have hl := h.hl
  have hc := h.hc
  have hm := mul_bd (M := 4294967295) (N := 4294967295) hx.1 h1.1 (by omega) (by omega)
  have hm2 : x * y ≤ 18446744065119617025 := by omega
  refine ⟨⟨hk, by rw [List.length_set]; exact hl, lim32_set h.hd _ (by omega), by omega, fun j hj => ?_, ?_⟩, hm.1, hm2⟩
  · rw [getD_set, if_neg (by omega)]; exact h.hz j hj
  · have e1 := nd_set (xs := out) (i := i + k) (v := (o + x * y + c) % 4294967296) (by omega)
    have e2 := h.he
    have e3 : nd (C.take (k + 1)) = nd (C.take k) + B32 ^ k * (C.getD k 0).toNat := nd_top
    rw [← ho] at e1
    rw [e3, ← hy, ← Nat.add_assoc, Nat.pow_succ]
    have key : ((o + x * y + c) % 4294967296).toNat + 4294967296 * ((o + x * y + c) / 4294967296).toNat = x.toNat * y.toNat + o.toNat + c.toNat := by
      have : (x * y).toNat = x.toNat * y.toNat := Int.toNat_mul hx.1 h1.1
      rw [← this]
      generalize x * y = p at *
      omega
    have hp : B32 ^ (i + k) = B32 ^ i * B32 ^ k := Nat.pow_add ..
    rw [hp] at e1 e2 ⊢
    exact mul_ring e1 e2 key
theorem MulR.done {A C out : List Int} {x c : Int} {i : Nat} (h : MulR A C out x i C.length c) (hi : i < A.length) (hx : x = A.getD i 0) :
    (out.set (i + C.length) c).length = A.length + C.length + 1 ∧ Lim B32 (out.set (i + C.length) c) ∧ (∀ j, i + 1 + C.length ≤ j → (out.set (i + C.length) c).getD j 0 = 0) ∧ nd (out.set (i + C.length) c) = nd (A.take (i + 1)) * nd C := by
  have hl := h.hl
  refine ⟨by rw [List.length_set]; exact hl, lim32_set h.hd _ h.hc, fun j hj => ?_, ?_⟩
  · rw [getD_set, if_neg (by omega)]; exact h.hz j (by omega)
  · have e1 := nd_set (xs := out) (i := i + C.length) (v := c) (by omega)
    have e2 := h.he
    have e3 : nd (A.take (i + 1)) = nd (A.take i) + B32 ^ i * (A.getD i 0).toNat := nd_top
    rw [h.hz _ (Nat.le_refl _)] at e1
    rw [List.take_length] at e2
    rw [e3, ← hx]
    rw [Int.toNat_zero, Nat.mul_zero, Nat.add_zero] at e1
    exact mulr_ring e1 e2
where
  mulr_ring {n N p c X x V q : Nat} (e1 : n = N + q * c) (e2 : N + q * c = X * V + p * (x * V)) : n = (X + p * x) * V := by grind
end Go.Hl

namespace Go.Hl
structure TimR (A out : List Int) (m : Int) (i : Nat) (c : Int) : Prop where
  hl : out.length = i
  hd : Lim B32 out
  hc : 0 ≤ c ∧ c < 4294967296
  he : nd out + B32 ^ i * c.toNat = nd (A.take i) * m.toNat
  hi : i ≤ A.length ∨ (i = A.length + 1 ∧ c = 0)
theorem timr_ring {n c x m d c' p B tA o : Nat} (e : n + p * c = tA * m) (hd : o = n + p * d) (k : d + B * c' = c + x * m) : o + p * B * c' = (tA + p * x) * m := by
  subst hd
  have : p * (d + B * c') = p * (c + x * m) := by rw [k]
  grind
theorem TimR.step {A out : List Int} {i : Nat} {c x m : Int} (h : TimR A out m i c) (hA : Lim B32 A) (hm : 0 ≤ m ∧ m < 4294967296) (hx : x = A.getD i 0) (hgo : i < A.length ∨ 0 < c) :
    TimR A (out ++ [(c + x * m) % 4294967296]) m (i + 1) ((c + x * m) / 4294967296) ∧ 0 ≤ x * m ∧ x * m ≤ 18446744065119617025 := by
  have h1 := lim32 hA i
  have hc := h.hc
  have hl := h.hl
  rw [← hx] at h1
  have hp := mul_bd (M := 4294967295) (N := 4294967295) h1.1 hm.1 (by omega) (by omega)
  have hp2 : x * m ≤ 18446744065119617025 := by omega
  have hB32 : ((B32 : Nat) : Int) = 4294967296 := rfl
  have e1 : nd (A.take (i + 1)) = nd (A.take i) + B32 ^ i * (A.getD i 0).toNat := nd_top
  have e3 : nd (out ++ [(c + x * m) % 4294967296]) = nd out + B32 ^ i * ((c + x * m) % 4294967296).toNat := by
    rw [nd_app, hl]; simp [nd, nv]
  have key : ((c + x * m) % 4294967296).toNat + 4294967296 * ((c + x * m) / 4294967296).toNat = c.toNat + x.toNat * m.toNat := by
    have : (x * m).toNat = x.toNat * m.toNat := Int.toNat_mul h1.1 hm.1
    rw [← this]
    generalize x * m = p at *
    omega
  refine ⟨⟨by simp [hl], h.hd.append (Lim.cons (by rw [hB32]; omega) Lim.nil), by omega, ?_, ?_⟩, hp.1, hp2⟩
  · rw [e1, ← hx, Nat.pow_succ]
    exact timr_ring h.he e3 key
  · by_cases h3 : i < A.length
    · exact .inl h3
    · right
      have hi : i = A.length := by
        rcases h.hi with g | g <;> omega
      have hx0 : x = 0 := by rw [hx, List.getD_eq_getElem?_getD, List.getElem?_eq_none (by omega)]; rfl
      rw [hx0, Int.zero_mul]
      exact ⟨by omega, by omega⟩
theorem TimR.done {A out : List Int} {m : Int} {i : Nat} (h : TimR A out m i 0) (hi : A.length ≤ i) : nd out = nd A * m.toNat := by
  have e := h.he
  rw [List.take_of_length_le hi, Int.toNat_zero, Nat.mul_zero, Nat.add_zero] at e
  exact e
end Go.Hl

namespace Go.Hl
theorem hB32 : ((B32 : Nat) : Int) = 4294967296 := rfl
structure ShortR (a q : List Int) (b r : Int) (n : Nat) : Prop where
  hn : n ≤ a.length
  hl : q.length = a.length
  hd : Lim B32 q
  hr : 0 ≤ r ∧ r < b
  he : nd (a.drop n) = b.toNat * nd (q.drop n) + r.toNat
theorem ShortR.step {a q : List Int} {b r x : Int} {n : Nat} (h : ShortR a q b r (n + 1)) (ha : Lim B32 a) (hx : x = a.getD n 0) :
    ShortR a (q.set n ((r * 4294967296 + x) / b)) b ((r * 4294967296 + x) % b) n ∧ 0 ≤ (r * 4294967296 + x) / b ∧ (r * 4294967296 + x) / b < 4294967296 := by
  have h1 := lim32 ha n
  rw [← hx] at h1
  have hr := h.hr
  have hn := h.hn
  have hl := h.hl
  have hb0 : 0 < b := by omega
  have e := Int.mul_ediv_add_emod (r * 4294967296 + x) b
  have m1 := Int.emod_nonneg (r * 4294967296 + x) (show b ≠ 0 by omega)
  have m2 := Int.emod_lt_of_pos (r * 4294967296 + x) hb0
  have d1 : 0 ≤ (r * 4294967296 + x) / b := Int.ediv_nonneg (by omega) (by omega)
  have d2 : (r * 4294967296 + x) / b < 4294967296 := Int.ediv_lt_of_lt_mul hb0 (by omega)
  refine ⟨⟨by omega, by rw [List.length_set]; exact hl, lim32_set h.hd _ ⟨d1, d2⟩, ⟨m1, m2⟩, ?_⟩, d1, d2⟩
  rw [nd_drop (by omega), nd_drop (xs := q.set n _) (by rw [List.length_set]; omega), getD_set_self (by omega), drop_set_succ, h.he, ← hx]
  generalize (r * 4294967296 + x) / b = d at *
  generalize (r * 4294967296 + x) % b = m at *
  have key : b.toNat * d.toNat + m.toNat = r.toNat * 4294967296 + x.toNat :=
    toN (by omega) d1 m1 (by decide) hr.1 h1.1 e
  show x.toNat + 4294967296 * _ = b.toNat * (d.toNat + 4294967296 * _) + m.toNat
  rw [Nat.mul_add, Nat.mul_add]
  have e2 : b.toNat * (4294967296 * nd (q.drop (n + 1))) = 4294967296 * (b.toNat * nd (q.drop (n + 1))) := by
    rw [← Nat.mul_assoc, ← Nat.mul_assoc, Nat.mul_comm b.toNat]
  omega
theorem ShortR.start {a q : List Int} {b : Int} (hl : q.length = a.length) (hd : Lim B32 q) (hb : 0 < b) : ShortR a q b 0 a.length := by
  refine ⟨Nat.le_refl _, hl, hd, by omega, ?_⟩
  rw [List.drop_length, List.drop_of_length_le (by omega)]
  simp [nd, nv]
theorem ShortR.done {a q : List Int} {b r : Int} (h : ShortR a q b r 0) : nd q = nd a / b.toNat ∧ r.toNat = nd a % b.toNat := by
  have e := h.he
  have hr := h.hr
  rw [List.drop_zero, List.drop_zero] at e
  have hb : 0 < b.toNat := by omega
  constructor
  · rw [e, Nat.mul_add_div hb, Nat.div_eq_of_lt (by omega)]; rfl
  · rw [e, Nat.mul_add_mod, Nat.mod_eq_of_lt (by omega)]
structure LongR (x q : List Int) (V R : Nat) (n : Nat) : Prop where
  hn : n ≤ x.length
  hl : q.length = x.length
  hd : Lim B32 q
  hr : R < V
  he : nd (x.drop n) = V * nd (q.drop n) + R
theorem LongR.start {x : List Int} {V : Nat} (hV : 0 < V) : LongR x (List.replicate x.length 0) V 0 x.length := by
  refine ⟨Nat.le_refl _, by simp, Lim.zeros (by decide) _, hV, ?_⟩
  rw [List.drop_length, List.drop_of_length_le (by simp)]
  simp [nd, nv]
theorem LongR.bound {x q : List Int} {V R n : Nat} (h : LongR x q V R (n + 1)) (hx : Lim B32 x) : ((x.getD n 0).toNat + 4294967296 * R) / V < 4294967296 := by
  have h1 := lim32 hx n
  have hr := h.hr
  refine (Nat.div_lt_iff_lt_mul (by omega)).2 ?_
  omega
theorem LongR.step {x q : List Int} {V R W n : Nat} (h : LongR x q V R (n + 1)) (hx : Lim B32 x) (hW : (x.getD n 0).toNat + 4294967296 * R = W) :
    LongR x (q.set n ((W / V : Nat) : Int)) V (W % V) n := by
  have h1 := lim32 hx n
  have hr := h.hr
  have hn := h.hn
  have hl := h.hl
  have hb := h.bound hx
  rw [hW] at hb
  refine ⟨by omega, by rw [List.length_set]; exact hl, lim32_set h.hd _ ⟨Int.natCast_nonneg _, Int.ofNat_lt.2 hb⟩, Nat.mod_lt _ (by omega), ?_⟩
  rw [nd_drop (by omega), nd_drop (xs := q.set n _) (by rw [List.length_set]; omega), getD_set_self (by omega), drop_set_succ, h.he, Int.toNat_natCast]
  have e := Nat.div_add_mod W V
  show (x.getD n 0).toNat + 4294967296 * _ = V * (W / V + 4294967296 * _) + W % V
  rw [Nat.mul_add, Nat.mul_add]
  have e2 : V * (4294967296 * nd (q.drop (n + 1))) = 4294967296 * (V * nd (q.drop (n + 1))) := by
    rw [← Nat.mul_assoc, ← Nat.mul_assoc, Nat.mul_comm V]
  omega
theorem LongR.done {x q : List Int} {V R : Nat} (h : LongR x q V R 0) : nd q = nd x / V ∧ R = nd x % V := by
  have e := h.he
  have hr := h.hr
  rw [List.drop_zero, List.drop_zero] at e
  constructor
  · rw [e, Nat.mul_add_div (by omega), Nat.div_eq_of_lt (by omega)]; rfl
  · rw [e, Nat.mul_add_mod, Nat.mod_eq_of_lt (by omega)]
structure HalfR (V W : Nat) (lo hi : Nat) : Prop where
  h1 : lo ≤ W / V
  h2 : W / V ≤ hi
  h3 : hi < 4294967296
theorem HalfR.up {V W lo hi m : Nat} (h : HalfR V W lo hi) (hV : 0 < V) (hm : V * m ≤ W) : HalfR V W m hi := ⟨(Nat.le_div_iff_mul_le hV).2 (by rw [Nat.mul_comm]; exact hm), h.h2, h.h3⟩
theorem HalfR.down {V W lo hi m : Nat} (h : HalfR V W lo hi) (hV : 0 < V) (hm : W < V * m) (hmh : m - 1 ≤ hi) : HalfR V W lo (m - 1) := by
  have : W / V < m := (Nat.div_lt_iff_lt_mul hV).2 (by rw [Nat.mul_comm]; exact hm)
  have h1 := h.h1
  have h2 := h.h2
  have h3 := h.h3
  exact ⟨h1, by omega, by omega⟩
theorem HalfR.done {V W lo hi : Nat} (h : HalfR V W lo hi) (hle : ¬ lo < hi) : lo = W / V := by
  have h1 := h.h1
  have h2 := h.h2
  omega
end Go.Hl

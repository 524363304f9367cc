/- Numbers as lists of digits, the least first. More of digits and numbers. Knuth's digit. Products: one limb at a time. So many times a number taken away, and given back. One digit of a quotient: what is guessed, and how it is mended. Division by one limb; a shift to the right. Bits of a number. A shift to the left. Two limbs by one: half a digit at a time. Long division: the digits one by one. -/
set_option linter.unusedVariables false
set_option linter.unusedSimpArgs false
namespace Go.Hl
def nv (B : Nat) : List Int → Nat
  | [] => 0
  | x :: xs => x.toNat + B * nv B xs
def Lim (B : Nat) (xs : List Int) : Prop := ∀ x ∈ xs, 0 ≤ x ∧ x < B
def digs (B n : Nat) : List Int := if n = 0 ∨ B < 2 then [] else ((n % B : Nat) : Int) :: digs B (n / B)
termination_by n
decreasing_by exact Nat.div_lt_self (by omega) (by omega)
theorem Lim.nil {B : Nat} : Lim B [] := fun _ h => by cases h
theorem Lim.cons {B : Nat} {x : Int} {xs : List Int} (h : 0 ≤ x ∧ x < B) (k : Lim B xs) : Lim B (x :: xs) := fun y hy => by
  cases hy with
  | head => exact h
  | tail _ hy => exact k y hy
theorem Lim.head {B : Nat} {x : Int} {xs : List Int} (h : Lim B (x :: xs)) : 0 ≤ x ∧ x < B := h x (.head _)
theorem Lim.tail {B : Nat} {x : Int} {xs : List Int} (h : Lim B (x :: xs)) : Lim B xs := fun y hy => h y (.tail _ hy)
theorem Lim.append {B : Nat} {xs ys : List Int} (h : Lim B xs) (k : Lim B ys) : Lim B (xs ++ ys) := fun y hy => by
  rcases List.mem_append.1 hy with hy | hy
  · exact h y hy
  · exact k y hy
theorem Lim.left {B : Nat} {xs ys : List Int} (h : Lim B (xs ++ ys)) : Lim B xs := fun y hy => h y (List.mem_append.2 (.inl hy))
theorem Lim.right {B : Nat} {xs ys : List Int} (h : Lim B (xs ++ ys)) : Lim B ys := fun y hy => h y (List.mem_append.2 (.inr hy))
theorem Lim.take {B : Nat} {xs : List Int} (h : Lim B xs) (n : Nat) : Lim B (xs.take n) := fun y hy => h y (List.mem_of_mem_take hy)
theorem Lim.drop {B : Nat} {xs : List Int} (h : Lim B xs) (n : Nat) : Lim B (xs.drop n) := fun y hy => h y (List.mem_of_mem_drop hy)
theorem Lim.get {B : Nat} {xs : List Int} (h : Lim B xs) (hB : 0 < B) (i : Nat) : 0 ≤ xs.getD i 0 ∧ xs.getD i 0 < B := by
  by_cases hi : i < xs.length
  · rw [List.getD_eq_getElem?_getD, List.getElem?_eq_getElem hi]; exact h _ (List.getElem_mem hi)
  · rw [List.getD_eq_getElem?_getD, List.getElem?_eq_none (by omega)]; simp; omega
theorem Lim.set {B : Nat} {xs : List Int} (h : Lim B xs) (i : Nat) {x : Int} (hx : 0 ≤ x ∧ x < B) : Lim B (xs.set i x) := fun y hy => by
  rcases List.mem_or_eq_of_mem_set hy with hy | rfl
  · exact h y hy
  · exact hx
theorem Lim.zeros {B : Nat} (hB : 0 < B) (n : Nat) : Lim B (List.replicate n 0) := fun y hy => by
  have := (List.mem_replicate.1 hy).2
  subst this; omega
theorem nv_nil {B : Nat} : nv B [] = 0 := rfl
theorem nv_cons {B : Nat} (x : Int) (xs : List Int) : nv B (x :: xs) = x.toNat + B * nv B xs := rfl
theorem nv_append {B : Nat} (xs ys : List Int) : nv B (xs ++ ys) = nv B xs + B ^ xs.length * nv B ys := by
  induction xs with
  | nil => simp [nv]
  | cons x xs ih => simp only [List.cons_append, nv, ih, List.length_cons, Nat.pow_succ, Nat.mul_add, Nat.add_assoc]; congr 2; rw [← Nat.mul_assoc, Nat.mul_comm (B ^ xs.length) B]
theorem nv_zeros {B : Nat} (n : Nat) : nv B (List.replicate n 0) = 0 := by
  induction n with
  | zero => rfl
  | succ n ih => simp [List.replicate_succ, nv, ih]
theorem nv_lt {B : Nat} {xs : List Int} (h : Lim B xs) : nv B xs < B ^ xs.length := by
  induction xs with
  | nil => simp [nv]
  | cons x xs ih =>
    have h1 := h.head
    have h2 := ih h.tail
    simp only [nv, List.length_cons, Nat.pow_succ]
    have : B * nv B xs + B ≤ B * B ^ xs.length := by
      have := Nat.mul_le_mul_left B (Nat.succ_le_of_lt h2)
      rwa [Nat.mul_succ] at this
    rw [Nat.mul_comm (B ^ xs.length) B]
    omega
theorem digs_zero {B : Nat} : digs B 0 = [] := by rw [digs]; simp
theorem digs_pos {B n : Nat} (hB : 2 ≤ B) (hn : n ≠ 0) : digs B n = ((n % B : Nat) : Int) :: digs B (n / B) := by
  rw [digs, if_neg (by omega)]
theorem digs_ind {B : Nat} (hB : 2 ≤ B) {C : Nat → Prop} (h0 : C 0) (hs : ∀ n, n ≠ 0 → C (n / B) → C n) (n : Nat) : C n := by
  induction n using Nat.strongRecOn with
  | _ n ih =>
    by_cases hn : n = 0
    · subst hn; exact h0
    · exact hs n hn (ih _ (Nat.div_lt_self (by omega) (by omega)))
theorem nv_digs {B : Nat} (hB : 2 ≤ B) (n : Nat) : nv B (digs B n) = n := by
  refine digs_ind hB (C := fun n => nv B (digs B n) = n) ?_ (fun n hn ih => ?_) n
  · rw [digs_zero]; rfl
  · rw [digs_pos hB hn, nv, ih, Int.toNat_natCast]
    exact Nat.mod_add_div n B
theorem lim_digs {B : Nat} (hB : 2 ≤ B) (n : Nat) : Lim B (digs B n) := by
  refine digs_ind hB (C := fun n => Lim B (digs B n)) ?_ (fun n hn ih => ?_) n
  · rw [digs_zero]; exact Lim.nil
  · rw [digs_pos hB hn]
    refine Lim.cons ⟨by omega, ?_⟩ ih
    have := Nat.mod_lt n (show 0 < B by omega)
    omega
def Top (xs : List Int) : Prop := xs = [] ∨ xs.getD (xs.length - 1) 0 ≠ 0
theorem Top.tail {x : Int} {xs : List Int} (h : Top (x :: xs)) : Top xs := by
  rcases h with h | h
  · cases h
  · cases xs with
    | nil => exact .inl rfl
    | cons y ys => exact .inr (by simpa using h)
theorem top_digs {B : Nat} (hB : 2 ≤ B) (n : Nat) : Top (digs B n) := by
  refine digs_ind hB (C := fun n => Top (digs B n)) ?_ (fun n hn ih => ?_) n
  · rw [digs_zero]; exact .inl rfl
  · rw [digs_pos hB hn]
    right
    rcases ih with ih | ih
    · rw [ih]
      have h0 : n / B = 0 := by
        have := nv_digs hB (n / B)
        rw [ih] at this
        exact this.symm
      have : n % B = n := Nat.mod_eq_of_lt ((Nat.div_eq_zero_iff_lt (by omega)).1 h0)
      simp [this]; exact hn
    · cases hd : digs B (n / B) with
      | nil => rw [hd] at ih; simp at ih
      | cons y ys => rw [hd] at ih; simpa using ih
theorem eq_digs {B : Nat} (hB : 2 ≤ B) {xs : List Int} (h : Lim B xs) (ht : Top xs) : xs = digs B (nv B xs) := by
  induction xs with
  | nil => rw [nv_nil, digs_zero]
  | cons x xs ih =>
    have h1 := h.head
    have ih := ih h.tail ht.tail
    have hne : nv B (x :: xs) ≠ 0 := by
      intro e
      rw [nv] at e
      have e1 : nv B xs = 0 := by
        have : B * nv B xs = 0 := by omega
        rcases Nat.mul_eq_zero.1 this with h | h
        · omega
        · exact h
      rw [e1, digs_zero] at ih
      subst ih
      rcases ht with ht | ht
      · cases ht
      · apply ht
        simp only [List.length_cons, List.length_nil, Nat.zero_add, Nat.sub_self, List.getD_cons_zero]
        omega
    rw [digs_pos hB hne, nv]
    have hx : x.toNat < B := by omega
    have e1 : (x.toNat + B * nv B xs) % B = x.toNat := by rw [Nat.add_mul_mod_self_left, Nat.mod_eq_of_lt hx]
    have e2 : (x.toNat + B * nv B xs) / B = nv B xs := by rw [Nat.add_mul_div_left _ _ (by omega), Nat.div_eq_of_lt hx, Nat.zero_add]
    rw [e1, e2, ← ih]
    congr 1
    omega
theorem nv_inj {B : Nat} (hB : 2 ≤ B) {xs ys : List Int} (h : Lim B xs) (ht : Top xs) (k : Lim B ys) (kt : Top ys) (e : nv B xs = nv B ys) : xs = ys := by
  rw [eq_digs hB h ht, eq_digs hB k kt, e]
theorem nv_take_drop {B : Nat} (xs : List Int) (n : Nat) (hn : n ≤ xs.length) : nv B xs = nv B (xs.take n) + B ^ n * nv B (xs.drop n) := by
  have := nv_append (B := B) (xs.take n) (xs.drop n)
  rw [List.take_append_drop, List.length_take, Nat.min_eq_left hn] at this
  exact this
theorem digs_length_le {B : Nat} (hB : 2 ≤ B) (n k : Nat) : (digs B n).length ≤ k ↔ n < B ^ k := by
  constructor
  · intro h
    have := nv_lt (lim_digs hB n)
    rw [nv_digs hB] at this
    exact Nat.lt_of_lt_of_le this (Nat.pow_le_pow_right (by omega) h)
  · revert n
    induction k with
    | zero => intro n h; have : n = 0 := by simpa using h
              subst this; rw [digs_zero]; exact Nat.le_refl _
    | succ k ih =>
      intro n h
      by_cases hn : n = 0
      · subst hn; rw [digs_zero]; simp
      · rw [digs_pos hB hn, List.length_cons]
        have := ih (n / B) (Nat.div_lt_of_lt_mul (by rw [Nat.mul_comm, ← Nat.pow_succ]; exact h))
        omega
theorem digs_eq_nil {B n : Nat} (hB : 2 ≤ B) : digs B n = [] ↔ n = 0 := by
  constructor
  · intro h
    have := nv_digs hB n
    rw [h] at this
    exact this.symm
  · rintro rfl; exact digs_zero
theorem nv_take_succ {B : Nat} (xs : List Int) (i : Nat) : nv B (xs.take (i + 1)) = nv B (xs.take i) + B ^ i * (xs.getD i 0).toNat := by
  by_cases h : i < xs.length
  · rw [List.take_succ_eq_append_getElem h, nv_append, List.length_take, Nat.min_eq_left (by omega), List.getD_eq_getElem?_getD, List.getElem?_eq_getElem h]
    simp [nv]
  · rw [List.take_of_length_le (by omega), List.take_of_length_le (by omega), List.getD_eq_getElem?_getD, List.getElem?_eq_none (by omega)]
    simp
theorem nv_set_take {B : Nat} (xs : List Int) (i : Nat) (x : Int) (h : i < xs.length) : nv B ((xs.set i x).take (i + 1)) = nv B (xs.take i) + B ^ i * x.toNat := by
  rw [nv_take_succ, List.take_set_of_le (Nat.le_refl i), List.getD_eq_getElem?_getD, List.getElem?_set_self h]
  rfl
def fixd (B : Nat) : Nat → Nat → List Int
  | 0, _ => []
  | n + 1, v => ((v % B : Nat) : Int) :: fixd B n (v / B)
theorem eq_fixd {B : Nat} {xs : List Int} (h : Lim B xs) : xs = fixd B xs.length (nv B xs) := by
  induction xs with
  | nil => rfl
  | cons x xs ih =>
    have h1 := h.head
    simp only [List.length_cons, fixd, nv]
    have hx : x.toNat < B := by omega
    have hB : 0 < B := by omega
    have e1 : (x.toNat + B * nv B xs) % B = x.toNat := by rw [Nat.add_mul_mod_self_left, Nat.mod_eq_of_lt hx]
    have e2 : (x.toNat + B * nv B xs) / B = nv B xs := by rw [Nat.add_mul_div_left _ _ hB, Nat.div_eq_of_lt hx, Nat.zero_add]
    rw [e1, e2, ← ih h.tail]
    congr 1
    omega
theorem fixd_length (B n v : Nat) : (fixd B n v).length = n := by
  induction n generalizing v with
  | zero => rfl
  | succ n ih => simp [fixd, ih]
theorem lim_fixd {B : Nat} (hB : 0 < B) (n v : Nat) : Lim B (fixd B n v) := by
  induction n generalizing v with
  | zero => exact Lim.nil
  | succ n ih => exact Lim.cons ⟨by omega, by have := Nat.mod_lt v hB; omega⟩ (ih _)
theorem nv_fixd {B : Nat} (hB : 0 < B) (n v : Nat) (h : v < B ^ n) : nv B (fixd B n v) = v := by
  induction n generalizing v with
  | zero => simp at h; subst h; rfl
  | succ n ih =>
    rw [fixd, nv, ih _ (Nat.div_lt_of_lt_mul (by rw [Nat.mul_comm, ← Nat.pow_succ]; exact h)), Int.toNat_natCast]
    exact Nat.mod_add_div v B
theorem trim_last {B : Nat} (xs : List Int) (h : 0 < xs.length) (h0 : xs.getD (xs.length - 1) 0 = 0) : nv B (xs.take (xs.length - 1)) = nv B xs := by
  rw [nv_take_drop xs (xs.length - 1) (by omega)]
  have : xs.drop (xs.length - 1) = [0] := by
    rw [List.drop_eq_getElem_cons (by omega)]
    rw [List.getD_eq_getElem?_getD, List.getElem?_eq_getElem (by omega)] at h0
    simp only [Option.getD_some] at h0
    rw [h0, List.drop_eq_nil_of_le (by omega)]
  rw [this]
  simp [nv]
end Go.Hl

namespace Go.Hl
theorem nv_set {B : Nat} : ∀ (xs : List Int) (i : Nat) (v : Int), i < xs.length → nv B (xs.set i v) + B ^ i * (xs.getD i 0).toNat = nv B xs + B ^ i * v.toNat
  | [], _, _, h => by simp at h
  | x :: xs, 0, v, _ => by simp [nv]; omega
  | x :: xs, i + 1, v, h => by
    have ih := nv_set (B := B) xs i v (by simpa using h)
    simp only [List.set_cons_succ, nv_cons, List.getD_cons_succ, Nat.pow_succ]
    grind
def split2 (b : Int) : List Int → List Int
  | [] => []
  | x :: xs => x % b :: x / b :: split2 b xs
theorem nv_split2 (b : Nat) (hb : 0 < b) : ∀ (xs : List Int), Lim (b * b) xs → nv b (split2 b xs) = nv (b * b) xs
  | [], _ => rfl
  | x :: xs, h => by
    have ih := nv_split2 b hb xs h.tail
    obtain ⟨x, rfl⟩ := Int.eq_ofNat_of_zero_le h.head.1
    simp only [split2, nv_cons, ih, ← Int.natCast_emod, ← Int.natCast_ediv, Int.toNat_natCast]
    have := Nat.mod_add_div x b
    generalize x % b = r at *
    generalize x / b = q at *
    grind
end Go.Hl

namespace Go.Hl
theorem lt_of_mul_lt {a b w : Nat} (h : a * w < b * w) : a < b := Nat.lt_of_mul_lt_mul_right h
theorem knuth_ge {q V U t v W V' : Nat} (hV : V = v * W + V') (hv : 0 < v) (hU : U < (t + 1) * W) (hq : q * V ≤ U) : q ≤ t / v := by
  have h1 : q * v * W ≤ q * V := by rw [hV]; grind
  have h2 : q * v < t + 1 := lt_of_mul_lt (w := W) (by omega)
  exact (Nat.le_div_iff_mul_le hv).2 (by omega)
theorem knuth_le {g q V U t v W V' B : Nat} (hV : V = v * W + V') (hV' : V' < W) (hg : g * v ≤ t) (ht : t * W ≤ U) (hgB : g ≤ B) (hB : B * W ≤ 2 * V) (hq : U < (q + 1) * V) : g ≤ q + 2 := by
  refine Nat.le_of_not_lt fun h => ?_
  have h1 : g * V = g * v * W + g * V' := by rw [hV]; grind
  have h2 : g * v * W ≤ t * W := Nat.mul_le_mul_right _ hg
  have h3 : g * V' ≤ B * W := Nat.mul_le_mul hgB (by omega)
  have h4 : (q + 3) * V ≤ g * V := Nat.mul_le_mul_right _ h
  grind
theorem knuth_third {g q V U t v v2 u2 r W' B : Nat} (hV : (v * B + v2) * W' ≤ V) (ht : t = g * v + r) (hU : U < (t * B + u2 + 1) * W') (hq : q * V ≤ U) (hgq : g ≤ q) : g * v2 ≤ r * B + u2 := by
  have h1 : g * V ≤ q * V := Nat.mul_le_mul_right _ hgq
  have h2 : g * ((v * B + v2) * W') ≤ g * V := Nat.mul_le_mul_left _ hV
  have h3 : g * (v * B + v2) * W' < (t * B + u2 + 1) * W' := by rw [Nat.mul_assoc]; omega
  have h4 := lt_of_mul_lt h3
  subst ht
  grind
end Go.Hl

namespace Go.Hl
abbrev B64 : Nat := 18446744073709551616
abbrev B32 : Nat := 4294967296
def dg (n : Nat) : List Int := digs B64 n
def nb (xs : List Int) : Nat := nv B64 xs
theorem nb_dg (n : Nat) : nb (dg n) = n := nv_digs (by decide) n
theorem nb_set {xs : List Int} {i : Nat} {v : Int} (h : i < xs.length) : nb (xs.set i v) + B64 ^ i * (xs.getD i 0).toNat = nb xs + B64 ^ i * v.toNat := nv_set xs i v h
theorem getD_set (xs : List Int) (i j : Nat) (v : Int) : (xs.set i v).getD j 0 = if i = j ∧ j < xs.length then v else xs.getD j 0 := by
  simp only [List.getD_eq_getElem?_getD, List.getElem?_set]
  split
  · rename_i h; subst h
    split
    · rename_i h; rw [if_pos ⟨rfl, h⟩]; rfl
    · rename_i h; rw [if_neg (by omega), List.getElem?_eq_none (by omega)]
  · rename_i h; rw [if_neg (by omega)]
def macLo (x y o c : Int) : Int := ((x * y % 18446744073709551616 + o) % 18446744073709551616 + c) % 18446744073709551616
def macHi (x y o c : Int) : Int := x * y / 18446744073709551616 + (x * y % 18446744073709551616 + o) / 18446744073709551616 + ((x * y % 18446744073709551616 + o) % 18446744073709551616 + c) / 18446744073709551616
theorem mul_bd {x y : Int} {M N : Int} (hx : 0 ≤ x) (hy : 0 ≤ y) (hx' : x ≤ M) (hy' : y ≤ N) : 0 ≤ x * y ∧ x * y ≤ M * N :=
  ⟨Int.mul_nonneg hx hy, Int.mul_le_mul hx' hy' hy (Int.le_trans hx hx')⟩
theorem mac_spec {x y o c : Int} (hx : 0 ≤ x ∧ x < 18446744073709551616) (hy : 0 ≤ y ∧ y < 18446744073709551616) (ho : 0 ≤ o ∧ o < 18446744073709551616) (hc : 0 ≤ c ∧ c < 18446744073709551616) :
    macLo x y o c + 18446744073709551616 * macHi x y o c = x * y + o + c ∧ (0 ≤ macLo x y o c ∧ macLo x y o c < 18446744073709551616) ∧ (0 ≤ macHi x y o c ∧ macHi x y o c < 18446744073709551616) ∧
      (0 ≤ x * y / 18446744073709551616 ∧ x * y / 18446744073709551616 + (x * y % 18446744073709551616 + o) / 18446744073709551616 < 18446744073709551616) := by
  have h := mul_bd (M := 18446744073709551615) (N := 18446744073709551615) hx.1 hy.1 (by omega) (by omega)
  unfold macLo macHi
  generalize x * y = p at *
  omega
structure MulI (A B out : List Int) (x : Int) (i k : Nat) (c : Int) : Prop where
  hk : k ≤ B.length
  hl : out.length = A.length + B.length
  hd : Lim B64 out
  hc : 0 ≤ c ∧ c < 18446744073709551616
  hz : ∀ j, i + B.length ≤ j → out.getD j 0 = 0
  he : nb out + B64 ^ (i + k) * c.toNat = nb (A.take i) * nb B + B64 ^ i * (x.toNat * nb (B.take k))
theorem mul_ring {n' N p q o lo W hi c X x T y : Nat} (e1 : n' + p * q * o = N + p * q * lo) (e2 : N + p * q * c = X + p * (x * T)) (key : lo + W * hi = x * y + o + c) : n' + p * q * W * hi = X + p * (x * (T + q * y)) := by grind
theorem MulI.step {A B out : List Int} {x c y o : Int} {i k : Nat} (h : MulI A B out x i k c) (hB : Lim B64 B) (hi : i < A.length) (hx : 0 ≤ x ∧ x < 18446744073709551616) (hk : k < B.length)
    (hy : y = B.getD k 0) (ho : o = out.getD (i + k) 0) : MulI A B (out.set (i + k) (macLo x y o c)) x i (k + 1) (macHi x y o c) := by
  have h1 := hB.get (by decide) k
  have h2 := h.hd.get (by decide) (i + k)
  have hB64 : ((B64 : Nat) : Int) = 18446744073709551616 := rfl
  rw [← hy, hB64] at h1
  rw [← ho, hB64] at h2
  have hl := h.hl
  obtain ⟨m1, m2, m3, _⟩ := mac_spec hx h1 h2 h.hc
  refine ⟨hk, by rw [List.length_set]; exact hl, h.hd.set _ (by rw [hB64]; exact m2), m3, fun j hj => ?_, ?_⟩
  · rw [getD_set, if_neg (by omega)]; exact h.hz j hj
  · have e1 := nb_set (xs := out) (i := i + k) (v := macLo x y o c) (by omega)
    have e2 := h.he
    have e3 : nb (B.take (k + 1)) = nb (B.take k) + B64 ^ k * (B.getD k 0).toNat := nv_take_succ B k
    rw [← ho] at e1
    rw [e3, ← hy, ← Nat.add_assoc, Nat.pow_succ]
    have hc := h.hc
    have key : (macLo x y o c).toNat + 18446744073709551616 * (macHi x y o c).toNat = x.toNat * y.toNat + o.toNat + c.toNat := by
      have : (x * y).toNat = x.toNat * y.toNat := Int.toNat_mul hx.1 h1.1
      rw [← this]
      have := Int.mul_nonneg hx.1 h1.1
      omega
    have hp : B64 ^ (i + k) = B64 ^ i * B64 ^ k := Nat.pow_add ..
    rw [hp] at e1 e2 ⊢
    exact mul_ring e1 e2 key
theorem MulI.start {A B out : List Int} {x : Int} {i : Nat} (hl : out.length = A.length + B.length) (hd : Lim B64 out) (hz : ∀ j, i + B.length ≤ j → out.getD j 0 = 0) (he : nb out = nb (A.take i) * nb B) :
    MulI A B out x i 0 0 :=
  ⟨by omega, hl, hd, by omega, hz, by rw [he]; simp [nb, nv]⟩
theorem MulI.done {A B out : List Int} {x c : Int} {i : Nat} (h : MulI A B out x i B.length c) (hi : i < A.length) (hx : x = A.getD i 0) :
    (out.set (i + B.length) c).length = A.length + B.length ∧ Lim B64 (out.set (i + B.length) c) ∧ (∀ j, i + 1 + B.length ≤ j → (out.set (i + B.length) c).getD j 0 = 0) ∧ nb (out.set (i + B.length) c) = nb (A.take (i + 1)) * nb B := by
  have hl := h.hl
  refine ⟨by rw [List.length_set]; exact hl, h.hd.set _ (by have := h.hc; exact ⟨this.1, this.2⟩), fun j hj => ?_, ?_⟩
  · rw [getD_set, if_neg (by omega)]; exact h.hz j (by omega)
  · have e1 := nb_set (xs := out) (i := i + B.length) (v := c) (by omega)
    have e2 := h.he
    have e3 : nb (A.take (i + 1)) = nb (A.take i) + B64 ^ i * (A.getD i 0).toNat := nv_take_succ A i
    rw [h.hz _ (Nat.le_refl _)] at e1
    rw [List.take_length] at e2
    rw [e3, ← hx]
    simp only [Int.toNat_zero, Nat.mul_zero, Nat.add_zero] at e1
    grind
end Go.Hl

namespace Go.Hl
theorem hB64 : ((B64 : Nat) : Int) = 18446744073709551616 := rfl
theorem lim64 {xs : List Int} (h : Lim B64 xs) (i : Nat) : 0 ≤ xs.getD i 0 ∧ xs.getD i 0 < 18446744073709551616 := h.get (by decide) i
theorem lim_set {xs : List Int} (h : Lim B64 xs) (i : Nat) {v : Int} (hv : 0 ≤ v ∧ v < 18446744073709551616) : Lim B64 (xs.set i v) := h.set i hv
structure TakeI (u0 v u : List Int) (g : Int) (i : Nat) (b c : Int) : Prop where
  hi : i ≤ v.length
  hl : u.length = v.length + 1
  hd : Lim B64 u
  hb : 0 ≤ b ∧ b ≤ 1
  hc : 0 ≤ c ∧ c < 18446744073709551616
  he : nb u + g.toNat * nb (v.take i) = nb u0 + B64 ^ i * (b.toNat + c.toNat)
theorem take_ring {n' N N0 g T x p W o o' lo b c b' c' : Nat} (e1 : n' + p * o = N + p * o') (e2 : N + g * T = N0 + p * (b + c)) (k1 : lo + W * c' = x * g + c) (k2 : o' + lo + b = o + W * b') : n' + g * (T + p * x) = N0 + p * W * (b' + c') := by grind
def mcLo (x g c : Int) : Int := (x * g % 18446744073709551616 + c) % 18446744073709551616
def mcHi (x g c : Int) : Int := x * g / 18446744073709551616 + (x * g % 18446744073709551616 + c) / 18446744073709551616
theorem mc_spec {x y c : Int} (hx : 0 ≤ x ∧ x < 18446744073709551616) (hy : 0 ≤ y ∧ y < 18446744073709551616) (hc : 0 ≤ c ∧ c < 18446744073709551616) :
    mcLo x y c + 18446744073709551616 * mcHi x y c = x * y + c ∧ (0 ≤ mcLo x y c ∧ mcLo x y c < 18446744073709551616) ∧ (0 ≤ mcHi x y c ∧ mcHi x y c < 18446744073709551616) := by
  have h := mul_bd (M := 18446744073709551615) (N := 18446744073709551615) hx.1 hy.1 (by omega) (by omega)
  unfold mcLo mcHi
  generalize x * y = p at *
  omega
theorem TakeI.step {u0 v u : List Int} {g b c x o : Int} {i : Nat} (h : TakeI u0 v u g i b c) (hv : Lim B64 v) (hg : 0 ≤ g ∧ g < 18446744073709551616) (hi : i < v.length) (hx : x = v.getD i 0) (ho : o = u.getD i 0) :
    TakeI u0 v (u.set i ((o - mcLo x g c - b) % 18446744073709551616)) g (i + 1) (if o < mcLo x g c + b then 1 else 0) (mcHi x g c) := by
  have h1 := lim64 hv i
  have h2 := lim64 h.hd i
  rw [← hx] at h1
  rw [← ho] at h2
  have hb := h.hb
  have hc := h.hc
  obtain ⟨m1, m2, m3⟩ := mc_spec h1 hg hc
  refine ⟨hi, by rw [List.length_set]; exact h.hl, lim_set h.hd _ (by omega), by split <;> omega, m3, ?_⟩
  have e1 := nb_set (xs := u) (i := i) (v := (o - mcLo x g c - b) % 18446744073709551616) (by rw [h.hl]; omega)
  have e3 : nb (v.take (i + 1)) = nb (v.take i) + B64 ^ i * (v.getD i 0).toNat := nv_take_succ v i
  rw [← ho] at e1
  rw [e3, ← hx, Nat.pow_succ]
  refine take_ring (lo := (mcLo x g c).toNat) (c := c.toNat) (b := b.toNat) e1 h.he ?_ ?_
  · have : (x * g).toNat = x.toNat * g.toNat := Int.toNat_mul h1.1 hg.1
    have q := Int.mul_nonneg h1.1 hg.1
    show _ + 18446744073709551616 * _ = _
    omega
  · show _ = _ + 18446744073709551616 * _
    split <;> omega
theorem TakeI.done {u0 v u : List Int} {g b c o : Int} (h : TakeI u0 v u g v.length b c) (ho : o = u.getD v.length 0) :
    (u.set v.length ((o - c - b) % 18446744073709551616)).length = v.length + 1 ∧ Lim B64 (u.set v.length ((o - c - b) % 18446744073709551616)) ∧
      nb (u.set v.length ((o - c - b) % 18446744073709551616)) + g.toNat * nb v = nb u0 + B64 ^ (v.length + 1) * (if o < c + b then 1 else 0) := by
  have h2 := lim64 h.hd v.length
  rw [← ho] at h2
  have hb := h.hb
  have hc := h.hc
  refine ⟨by rw [List.length_set]; exact h.hl, lim_set h.hd _ (by omega), ?_⟩
  have e1 := nb_set (xs := u) (i := v.length) (v := (o - c - b) % 18446744073709551616) (by rw [h.hl]; omega)
  have e2 := h.he
  rw [List.take_length] at e2
  rw [← ho] at e1
  rw [Nat.pow_succ]
  have k : ((o - c - b) % 18446744073709551616).toNat + c.toNat + b.toNat = o.toNat + 18446744073709551616 * (if o < c + b then 1 else 0) := by
    split <;> omega
  generalize ((o - c - b) % 18446744073709551616).toNat = o' at *
  generalize (if o < c + b then 1 else 0) = b' at *
  have := take_ring (lo := c.toNat) (c := c.toNat) (b := b.toNat) (c' := 0) (x := 0) (W := 18446744073709551616) (b' := b') (T := nb v) e1 e2 (by omega) (by omega)
  simpa using this
structure GiveI (u0 v u : List Int) (i : Nat) (c : Int) : Prop where
  hi : i ≤ v.length
  hl : u.length = v.length + 1
  hd : Lim B64 u
  hc : 0 ≤ c ∧ c ≤ 1
  he : nb u + B64 ^ i * c.toNat = nb u0 + nb (v.take i)
theorem give_ring {n' N N0 T x p W o o' c c' : Nat} (e1 : n' + p * o = N + p * o') (e2 : N + p * c = N0 + T) (k2 : o' + W * c' = o + x + c) : n' + p * W * c' = N0 + (T + p * x) := by grind
theorem GiveI.step {u0 v u : List Int} {c x o : Int} {i : Nat} (h : GiveI u0 v u i c) (hv : Lim B64 v) (hi : i < v.length) (hx : x = v.getD i 0) (ho : o = u.getD i 0) :
    GiveI u0 v (u.set i ((o + x + c) % 18446744073709551616)) (i + 1) ((o + x + c) / 18446744073709551616) := by
  have h1 := lim64 hv i
  have h2 := lim64 h.hd i
  rw [← hx] at h1
  rw [← ho] at h2
  have hc := h.hc
  refine ⟨hi, by rw [List.length_set]; exact h.hl, lim_set h.hd _ (by omega), by omega, ?_⟩
  have e1 := nb_set (xs := u) (i := i) (v := (o + x + c) % 18446744073709551616) (by rw [h.hl]; omega)
  have e3 : nb (v.take (i + 1)) = nb (v.take i) + B64 ^ i * (v.getD i 0).toNat := nv_take_succ v i
  rw [← ho] at e1
  rw [e3, ← hx, Nat.pow_succ]
  exact give_ring (c := c.toNat) e1 h.he (by show _ + 18446744073709551616 * _ = _; omega)
theorem GiveI.done {u0 v u : List Int} {c o : Int} (h : GiveI u0 v u v.length c) (ho : o = u.getD v.length 0) :
    (u.set v.length ((o + c) % 18446744073709551616)).length = v.length + 1 ∧ Lim B64 (u.set v.length ((o + c) % 18446744073709551616)) ∧
      nb (u.set v.length ((o + c) % 18446744073709551616)) + B64 ^ (v.length + 1) * ((o + c) / 18446744073709551616).toNat = nb u0 + nb v := by
  have h2 := lim64 h.hd v.length
  rw [← ho] at h2
  have hc := h.hc
  refine ⟨by rw [List.length_set]; exact h.hl, lim_set h.hd _ (by omega), ?_⟩
  have e1 := nb_set (xs := u) (i := v.length) (v := (o + c) % 18446744073709551616) (by rw [h.hl]; omega)
  have e2 := h.he
  rw [List.take_length] at e2
  rw [← ho] at e1
  rw [Nat.pow_succ]
  have := give_ring (c := c.toNat) (x := 0) (W := 18446744073709551616) (c' := ((o + c) / 18446744073709551616).toNat) e1 e2 (by omega)
  simpa using this
end Go.Hl

namespace Go.Hl
theorem nb_top {u : List Int} {n : Nat} : nb (u.take (n + 1)) = nb (u.take n) + B64 ^ n * (u.getD n 0).toNat := nv_take_succ u n
theorem nb_lt {u : List Int} (h : Lim B64 u) {n : Nat} (hl : u.length ≤ n) : nb u < B64 ^ n :=
  Nat.lt_of_lt_of_le (nv_lt h) (Nat.pow_le_pow_right (by decide) hl)
theorem nb_take_lt {u : List Int} (h : Lim B64 u) (n : Nat) : nb (u.take n) < B64 ^ n := nb_lt (h.take n) (by rw [List.length_take]; omega)
theorem nb_last {u : List Int} {n : Nat} (hl : u.length = n + 1) : nb u = nb (u.take n) + B64 ^ n * (u.getD n 0).toNat := by
  rw [← nb_top, List.take_of_length_le (by omega)]
theorem top_zero {u : List Int} {n : Nat} (h : Lim B64 u) (hl : u.length = n + 1) (hs : nb u < B64 ^ n) : u.getD n 0 = 0 := by
  have h1 := lim64 h n
  have e := nb_last hl
  refine Classical.byContradiction fun hne => ?_
  have : B64 ^ n * 1 ≤ B64 ^ n * (u.getD n 0).toNat := Nat.mul_le_mul_left _ (by omega)
  omega
theorem top_max {u : List Int} {n : Nat} (h : Lim B64 u) (hl : u.length = n + 1) (hs : 18446744073709551615 * B64 ^ n ≤ nb u) : u.getD n 0 = 18446744073709551615 := by
  have h1 := lim64 h n
  have e := nb_last hl
  have h2 := nb_take_lt h n
  refine Classical.byContradiction fun hne => ?_
  have : B64 ^ n * (u.getD n 0).toNat ≤ B64 ^ n * 18446744073709551614 := Nat.mul_le_mul_left _ (by omega)
  omega
structure DigP (u v : List Int) : Prop where
  hu : Lim B64 u
  hv : Lim B64 v
  h2 : 2 ≤ v.length
  hl : u.length = v.length + 1
  ht : 9223372036854775808 ≤ v.getD (v.length - 1) 0
  hs : nb u < B64 * nb v
theorem parts_ring (a b c d W B : Nat) : a + W * d + W * B * c + W * B * B * b = (b * B + c) * (B * W) + d * W + a := by grind
theorem DigP.parts {u v : List Int} (h : DigP u v) : ∃ W V' V2 U' : Nat, B64 ^ (v.length - 1) = B64 * W ∧ nb v = (v.getD (v.length - 1) 0).toNat * (B64 * W) + V' ∧ V' < B64 * W ∧
    V' = (v.getD (v.length - 2) 0).toNat * W + V2 ∧ V2 < W ∧
    nb u = ((u.getD v.length 0).toNat * B64 + (u.getD (v.length - 1) 0).toNat) * (B64 * W) + (u.getD (v.length - 2) 0).toNat * W + U' ∧ U' < W := by
  obtain ⟨k, hk⟩ : ∃ k, v.length = k + 2 := ⟨v.length - 2, by have := h.h2; omega⟩
  have e1 : nb v = nb (v.take (k + 1)) + B64 ^ (k + 1) * (v.getD (k + 1) 0).toNat := nb_last hk
  have e2 : nb (v.take (k + 1)) = nb (v.take k) + B64 ^ k * (v.getD k 0).toNat := nb_top
  have e3 : nb u = nb (u.take (k + 2)) + B64 ^ (k + 2) * (u.getD (k + 2) 0).toNat := nb_last (by rw [h.hl, hk])
  have e4 : nb (u.take (k + 2)) = nb (u.take (k + 1)) + B64 ^ (k + 1) * (u.getD (k + 1) 0).toNat := nb_top
  have e5 : nb (u.take (k + 1)) = nb (u.take k) + B64 ^ k * (u.getD k 0).toNat := nb_top
  have l1 := nb_take_lt h.hv k
  have l2 := nb_take_lt h.hu k
  have l3 := nb_take_lt h.hv (k + 1)
  rw [hk, show k + 2 - 1 = k + 1 by omega, show k + 2 - 2 = k by omega]
  refine ⟨B64 ^ k, nb (v.take (k + 1)), nb (v.take k), nb (u.take k), by rw [Nat.pow_succ, Nat.mul_comm], ?_, by rw [Nat.pow_succ, Nat.mul_comm] at l3; exact l3, ?_, l1, ?_, l2⟩
  · rw [e1, Nat.pow_succ, Nat.mul_comm (B64 ^ k) B64, Nat.mul_comm (B64 * B64 ^ k), Nat.add_comm]
  · rw [e2, Nat.mul_comm (B64 ^ k), Nat.add_comm]
  · rw [e3, e4, e5, show B64 ^ (k + 2) = B64 ^ k * B64 * B64 from rfl, show B64 ^ (k + 1) = B64 ^ k * B64 from rfl]
    generalize B64 ^ k = W
    generalize nb (u.take k) = a
    generalize (u.getD (k + 2) 0).toNat = b
    generalize (u.getD (k + 1) 0).toNat = c
    generalize (u.getD k 0).toNat = d
    exact parts_ring a b c d W B64
theorem DigP.pos {u v : List Int} (h : DigP u v) : 0 < nb v := by
  have := h.hs
  rcases Nat.eq_zero_or_pos (nb v) with e | e
  · rw [e] at this; omega
  · exact e
structure GuessI (u v : List Int) (g r : Int) : Prop where
  hg : 0 ≤ g ∧ g < 18446744073709551616
  hr : 0 ≤ r
  he : g * v.getD (v.length - 1) 0 + r = u.getD v.length 0 * 18446744073709551616 + u.getD (v.length - 1) 0
  hq : nb u / nb v ≤ g.toNat
theorem toN {a b c d : Int} (ha : 0 ≤ a) (hb : 0 ≤ b) (hc : 0 ≤ c) (hd : 0 ≤ d) {x y : Int} (hx : 0 ≤ x) (hy : 0 ≤ y) (h : a * b + c = x * d + y) : a.toNat * b.toNat + c.toNat = x.toNat * d.toNat + y.toNat := by
  obtain ⟨a, rfl⟩ := Int.eq_ofNat_of_zero_le ha
  obtain ⟨b, rfl⟩ := Int.eq_ofNat_of_zero_le hb
  obtain ⟨c, rfl⟩ := Int.eq_ofNat_of_zero_le hc
  obtain ⟨d, rfl⟩ := Int.eq_ofNat_of_zero_le hd
  obtain ⟨x, rfl⟩ := Int.eq_ofNat_of_zero_le hx
  obtain ⟨y, rfl⟩ := Int.eq_ofNat_of_zero_le hy
  simp only [Int.toNat_natCast]
  exact_mod_cast h
theorem DigP.div_lt {u v : List Int} (h : DigP u v) : nb u / nb v < 18446744073709551616 := (Nat.div_lt_iff_lt_mul h.pos).2 h.hs
theorem divN (a b c w : Nat) : (((a : Int) * (w : Int) + (b : Int)) / (c : Int)).toNat = (a * w + b) / c := by
  rw [← Int.natCast_mul, ← Int.natCast_add, ← Int.natCast_ediv, Int.toNat_natCast]
theorem GuessI.start {u v : List Int} (h : DigP u v) (hlt : u.getD v.length 0 < v.getD (v.length - 1) 0) :
    GuessI u v ((u.getD v.length 0 * 18446744073709551616 + u.getD (v.length - 1) 0) / v.getD (v.length - 1) 0) ((u.getD v.length 0 * 18446744073709551616 + u.getD (v.length - 1) 0) % v.getD (v.length - 1) 0) := by
  have h1 := lim64 h.hu v.length
  have h2 := lim64 h.hu (v.length - 1)
  have h3 := lim64 h.hv (v.length - 1)
  have h4 := lim64 h.hu (v.length - 2)
  obtain ⟨W, V', V2, U', w1, w2, w3, w4, w5, w6, w7⟩ := h.parts
  have ht := h.ht
  generalize hgu : u.getD v.length 0 = un at *
  generalize hgu1 : u.getD (v.length - 1) 0 = un1 at *
  generalize hgv : v.getD (v.length - 1) 0 = v1 at *
  have hv1 : 0 < v1 := by omega
  have e := Int.mul_ediv_add_emod (un * 18446744073709551616 + un1) v1
  have hr := Int.emod_nonneg (un * 18446744073709551616 + un1) (show v1 ≠ 0 by omega)
  have hg0 : 0 ≤ (un * 18446744073709551616 + un1) / v1 := Int.ediv_nonneg (by omega) (by omega)
  refine ⟨⟨hg0, Int.ediv_lt_of_lt_mul hv1 (by omega)⟩, hr, by rw [Int.mul_comm, hgv, hgu, hgu1]; exact e, ?_⟩
  have hq := Nat.div_mul_le_self (nb u) (nb v)
  have key := knuth_ge (q := nb u / nb v) (V := nb v) (U := nb u) (t := un.toNat * B64 + un1.toNat) (v := v1.toNat) (W := B64 * W) (V' := V') w2 (by omega) (by
    have : (u.getD (v.length - 2) 0).toNat * W + U' < B64 * W := by
      have : ((u.getD (v.length - 2) 0).toNat + 1) * W ≤ B64 * W := Nat.mul_le_mul_right _ (by show _ ≤ 18446744073709551616; omega)
      rw [Nat.add_mul, Nat.one_mul] at this
      omega
    rw [w6, Nat.add_mul (un.toNat * B64 + un1.toNat), Nat.one_mul]; omega) hq
  refine Nat.le_trans key (Nat.le_of_eq ?_)
  obtain ⟨un, rfl⟩ := Int.eq_ofNat_of_zero_le h1.1
  obtain ⟨un1, rfl⟩ := Int.eq_ofNat_of_zero_le h2.1
  obtain ⟨v1, rfl⟩ := Int.eq_ofNat_of_zero_le h3.1
  simp only [Int.toNat_natCast]
  exact (divN un un1 v1 _).symm
theorem third_ring {t B W u2 U' : Nat} (h : U' < W) : t * (B * W) + u2 * W + U' < (t * B + u2 + 1) * W := by
  have : (t * B + u2 + 1) * W = t * (B * W) + u2 * W + W := by grind
  omega
theorem GuessI.step {u v : List Int} {g r : Int} (h : DigP u v) (k : GuessI u v g r) (hr : r < 18446744073709551616) (hgt : r * 18446744073709551616 + u.getD (v.length - 2) 0 < g * v.getD (v.length - 2) 0) :
    GuessI u v (g - 1) (r + v.getD (v.length - 1) 0) := by
  have h1 := lim64 h.hu v.length
  have h2 := lim64 h.hu (v.length - 1)
  have h3 := lim64 h.hv (v.length - 1)
  have h4 := lim64 h.hu (v.length - 2)
  have h5 := lim64 h.hv (v.length - 2)
  obtain ⟨W, V', V2, U', w1, w2, w3, w4, w5, w6, w7⟩ := h.parts
  have hg := k.hg
  have hr0 := k.hr
  have he := toN hg.1 h3.1 k.hr (by decide) h1.1 h2.1 k.he
  have hgz : g ≠ 0 := by
    intro e; rw [e] at hgt; omega
  have hq := Nat.div_mul_le_self (nb u) (nb v)
  refine ⟨by omega, by omega, by rw [Int.sub_mul, ← k.he]; omega, ?_⟩
  refine Nat.le_of_not_lt fun hlt => ?_
  have key := knuth_third (g := g.toNat) (q := nb u / nb v) (V := nb v) (U := nb u) (t := (u.getD v.length 0).toNat * B64 + (u.getD (v.length - 1) 0).toNat) (v := (v.getD (v.length - 1) 0).toNat) (v2 := (v.getD (v.length - 2) 0).toNat)
    (u2 := (u.getD (v.length - 2) 0).toNat) (r := r.toNat) (W' := W) (B := B64) (by rw [w2, w4, Nat.add_mul, Nat.mul_assoc]; omega) he.symm (by
      rw [w6]
      exact third_ring w7) hq (by omega)
  have e1 : (g * v.getD (v.length - 2) 0).toNat = g.toNat * (v.getD (v.length - 2) 0).toNat := Int.toNat_mul hg.1 h5.1
  rw [← e1] at key
  have e2 : r.toNat * B64 = r.toNat * 18446744073709551616 := rfl
  rw [e2] at key
  omega
theorem DigP.half {u v : List Int} (h : DigP u v) : B64 * B64 ^ (v.length - 1) ≤ 2 * nb v := by
  obtain ⟨W, V', V2, U', w1, w2, w3, w4, w5, w6, w7⟩ := h.parts
  have ht := h.ht
  rw [w1, w2]
  have : 9223372036854775808 * (B64 * W) ≤ (v.getD (v.length - 1) 0).toNat * (B64 * W) := Nat.mul_le_mul_right _ (by omega)
  show 18446744073709551616 * (B64 * W) ≤ _
  omega
theorem DigP.le2 {u v : List Int} (h : DigP u v) {g : Int} (hg : 0 ≤ g ∧ g < 18446744073709551616)
    (he : g * v.getD (v.length - 1) 0 ≤ u.getD v.length 0 * 18446744073709551616 + u.getD (v.length - 1) 0) : g.toNat ≤ nb u / nb v + 2 := by
  have h1 := lim64 h.hu v.length
  have h2 := lim64 h.hu (v.length - 1)
  have h3 := lim64 h.hv (v.length - 1)
  have hh := h.half
  obtain ⟨W, V', V2, U', w1, w2, w3, w4, w5, w6, w7⟩ := h.parts
  rw [w1] at hh
  refine knuth_le (V := nb v) (U := nb u) (t := (u.getD v.length 0).toNat * B64 + (u.getD (v.length - 1) 0).toNat) (B := B64) w2 w3 ?_ (by rw [w6]; omega) (by show _ ≤ 18446744073709551616; omega) hh (by
    rw [Nat.mul_comm]; exact Nat.lt_mul_div_succ _ h.pos)
  obtain ⟨c, hc⟩ : ∃ c : Nat, g * v.getD (v.length - 1) 0 + (c : Int) = u.getD v.length 0 * 18446744073709551616 + u.getD (v.length - 1) 0 :=
    ⟨(u.getD v.length 0 * 18446744073709551616 + u.getD (v.length - 1) 0 - g * v.getD (v.length - 1) 0).toNat, by omega⟩
  have := toN hg.1 h3.1 (by omega) (by decide) h1.1 h2.1 hc
  show _ ≤ _ * 18446744073709551616 + _
  have e : (18446744073709551616 : Int).toNat = 18446744073709551616 := rfl
  rw [e] at this
  omega
theorem DigP.max {u v : List Int} (h : DigP u v) (hge : ¬ u.getD v.length 0 < v.getD (v.length - 1) 0) :
    nb u / nb v ≤ (18446744073709551615 : Int).toNat ∧ (18446744073709551615 : Int).toNat ≤ nb u / nb v + 2 := by
  have h1 := lim64 h.hu v.length
  have h2 := lim64 h.hu (v.length - 1)
  have h3 := lim64 h.hv (v.length - 1)
  have := h.div_lt
  exact ⟨by have e : (18446744073709551615 : Int).toNat = 18446744073709551615 := rfl; rw [e]; omega, h.le2 (by omega) (by omega)⟩
theorem take_none {n1 g V U q : Nat} (e : n1 + g * V = U) (hV : 0 < V) (hq : q = U / V) (hg : q ≤ g) : g = q ∧ n1 = U % V := by
  have h1 : g * V ≤ U := by omega
  have h2 : g ≤ q := by rw [hq]; exact (Nat.le_div_iff_mul_le hV).2 h1
  have h3 : g = q := Nat.le_antisymm h2 hg
  refine ⟨h3, ?_⟩
  have := Nat.div_add_mod U V
  rw [← hq, ← h3, Nat.mul_comm] at this
  omega
theorem take_some {n1 n2 g V U q M k : Nat} (e : n1 + g * V = U + M) (hV : 0 < V) (hq : q = U / V) (hg : g ≤ q + 2) (hM : n1 < M) (e2 : n2 + M * k = n1 + V) (hk : k ≤ 1) (h2 : n2 < M) :
    (g = q + 1 ∧ n2 = U % V) ∨ (g = q + 2 ∧ n2 + V = M + U % V) := by
  have hd := Nat.div_add_mod U V
  have hr := Nat.mod_lt U hV
  rw [← hq, Nat.mul_comm] at hd
  generalize U % V = R at *
  have h1 : q * V < g * V := by omega
  have h3 : q < g := Nat.lt_of_mul_lt_mul_right h1
  have hk' : k = 0 ∨ k = 1 := by omega
  have hgg : g = q + 1 ∨ g = q + 2 := by omega
  rcases hgg with rfl | rfl
  · left
    refine ⟨rfl, ?_⟩
    rw [Nat.add_mul, Nat.one_mul] at e
    rcases hk' with rfl | rfl <;> omega
  · right
    refine ⟨rfl, ?_⟩
    rw [Nat.add_mul] at e
    rcases hk' with rfl | rfl <;> omega
end Go.Hl

namespace Go.Hl
structure ShortI (a q : List Int) (b r : Int) (n : Nat) : Prop where
  hn : n ≤ a.length
  hl : q.length = a.length
  hd : Lim B64 q
  hr : 0 ≤ r ∧ r < b
  he : nb (a.drop n) = b.toNat * nb (q.drop n) + r.toNat
theorem nb_drop {xs : List Int} {i : Nat} (h : i < xs.length) : nb (xs.drop i) = (xs.getD i 0).toNat + B64 * nb (xs.drop (i + 1)) := by
  rw [List.drop_eq_getElem_cons h, List.getD_eq_getElem?_getD, List.getElem?_eq_getElem h]
  rfl
theorem getD_set_self {xs : List Int} {i : Nat} {v : Int} (h : i < xs.length) : (xs.set i v).getD i 0 = v := by
  rw [getD_set, if_pos ⟨rfl, h⟩]
theorem drop_set_succ {xs : List Int} {i : Nat} {v : Int} : (xs.set i v).drop (i + 1) = xs.drop (i + 1) := by
  rw [List.drop_set_of_lt (by omega)]
theorem ShortI.step {a q : List Int} {b r x : Int} {n : Nat} (h : ShortI a q b r (n + 1)) (ha : Lim B64 a) (hb : b < 18446744073709551616) (hx : x = a.getD n 0) :
    ShortI a (q.set n ((r * 18446744073709551616 + x) / b)) b ((r * 18446744073709551616 + x) % b) n := by
  have h1 := lim64 ha n
  rw [← hx] at h1
  have hr := h.hr
  have hn := h.hn
  have hl := h.hl
  have hb0 : 0 < b := by omega
  have e := Int.mul_ediv_add_emod (r * 18446744073709551616 + x) b
  have m1 := Int.emod_nonneg (r * 18446744073709551616 + x) (show b ≠ 0 by omega)
  have m2 := Int.emod_lt_of_pos (r * 18446744073709551616 + x) hb0
  have d1 : 0 ≤ (r * 18446744073709551616 + x) / b := Int.ediv_nonneg (by omega) (by omega)
  have d2 : (r * 18446744073709551616 + x) / b < 18446744073709551616 := Int.ediv_lt_of_lt_mul hb0 (by omega)
  refine ⟨by omega, by rw [List.length_set]; exact hl, lim_set h.hd _ ⟨d1, d2⟩, ⟨m1, m2⟩, ?_⟩
  rw [nb_drop (by omega), nb_drop (xs := q.set n _) (by rw [List.length_set]; omega), getD_set_self (by omega), drop_set_succ, h.he, ← hx]
  generalize (r * 18446744073709551616 + x) / b = d at *
  generalize (r * 18446744073709551616 + x) % b = m at *
  have key : b.toNat * d.toNat + m.toNat = r.toNat * 18446744073709551616 + x.toNat :=
    toN (by omega) d1 m1 (by decide) hr.1 h1.1 e
  show x.toNat + 18446744073709551616 * _ = b.toNat * (d.toNat + 18446744073709551616 * _) + m.toNat
  rw [Nat.mul_add, Nat.mul_add]
  have e2 : b.toNat * (18446744073709551616 * nb (q.drop (n + 1))) = 18446744073709551616 * (b.toNat * nb (q.drop (n + 1))) := by
    rw [← Nat.mul_assoc, ← Nat.mul_assoc, Nat.mul_comm b.toNat]
  omega
theorem ShortI.done {a q : List Int} {b r : Int} (h : ShortI a q b r 0) : nb q = nb a / b.toNat ∧ r.toNat = nb a % b.toNat := by
  have e := h.he
  have hr := h.hr
  rw [List.drop_zero, List.drop_zero] at e
  have hb : 0 < b.toNat := by omega
  constructor
  · rw [e, Nat.mul_add_div hb, Nat.div_eq_of_lt (by omega)]; rfl
  · rw [e, Nat.mul_add_mod, Nat.mod_eq_of_lt (by omega)]
structure ShrI (D out : List Int) (r i : Nat) : Prop where
  hi : i ≤ D.length
  hl : out.length = D.length
  hd : Lim B64 out
  hz : ∀ j, i ≤ j → out.getD j 0 = D.getD j 0
  he : 2 ^ r * nb (out.take i) + (D.getD 0 0).toNat % 2 ^ r = nb (D.take i) + B64 ^ i * ((D.getD i 0).toNat % 2 ^ r)
theorem shr_ring {R T d X p x xr y v : Nat} (e : R * T + d = X + p * xr) (k : R * v + xr = x + 18446744073709551616 * y) : R * (T + p * v) + d = X + p * x + p * 18446744073709551616 * y := by grind
def shrL (x y : Int) (r : Nat) : Int := x / 2 ^ r + (y * 2 ^ (64 - r)) % 18446744073709551616
theorem pow64 {r : Nat} (hr : r ≤ 64) : (18446744073709551616 : Int) = 2 ^ r * 2 ^ (64 - r) := by
  rw [← Int.pow_add, show r + (64 - r) = 64 by omega]; rfl
theorem shl_mod (y : Int) {r : Nat} (hr : r ≤ 64) : (y * 2 ^ (64 - r)) % 18446744073709551616 = y % 2 ^ r * 2 ^ (64 - r) := by
  rw [pow64 hr, Int.mul_comm y, Int.mul_comm (2 ^ r), Int.mul_emod_mul_of_pos _ _ (Int.pow_pos (by decide)), Int.mul_comm]
theorem shrL_spec {x y : Int} {r : Nat} (hr : r ≤ 64) (hx : 0 ≤ x ∧ x < 18446744073709551616) (hy : 0 ≤ y ∧ y < 18446744073709551616) :
    2 ^ r * (shrL x y r).toNat + x.toNat % 2 ^ r = x.toNat + 18446744073709551616 * (y.toNat % 2 ^ r) ∧ 0 ≤ shrL x y r ∧ shrL x y r < 18446744073709551616 ∧
      (0 ≤ x / 2 ^ r ∧ x / 2 ^ r < 2 ^ (64 - r)) ∧ (y * 2 ^ (64 - r)) % 18446744073709551616 % 2 ^ (64 - r) = 0 := by
  have hp : (0 : Int) < 2 ^ r := Int.pow_pos (by decide)
  have hq : (0 : Int) < 2 ^ (64 - r) := Int.pow_pos (by decide)
  have e1 := pow64 hr
  have e2 := shl_mod y hr
  have d := Int.mul_ediv_add_emod x (2 ^ r)
  have m1 := Int.emod_nonneg x (show (2 : Int) ^ r ≠ 0 by omega)
  have m2 := Int.emod_lt_of_pos x hp
  have n1 := Int.emod_nonneg y (show (2 : Int) ^ r ≠ 0 by omega)
  have n2 := Int.emod_lt_of_pos y hp
  have d0 : 0 ≤ x / 2 ^ r := Int.ediv_nonneg hx.1 (by omega)
  have d1 : x / 2 ^ r < 2 ^ (64 - r) := Int.ediv_lt_of_lt_mul hp (by rw [Int.mul_comm, ← e1]; exact hx.2)
  have b1 : y % 2 ^ r * 2 ^ (64 - r) + 2 ^ (64 - r) ≤ 18446744073709551616 := by
    have : (y % 2 ^ r + 1) * 2 ^ (64 - r) ≤ 2 ^ r * 2 ^ (64 - r) := Int.mul_le_mul_of_nonneg_right (by omega) (by omega)
    rw [Int.add_mul, Int.one_mul, ← e1] at this; exact this
  have b0 : 0 ≤ y % 2 ^ r * 2 ^ (64 - r) := Int.mul_nonneg n1 (by omega)
  refine ⟨?_, ?_, ?_, ⟨d0, d1⟩, by rw [e2, Int.mul_emod_left]⟩
  · have key : 2 ^ r * shrL x y r + x % 2 ^ r = x + 18446744073709551616 * (y % 2 ^ r) := by
      unfold shrL
      rw [e2, Int.mul_add]
      have : (2 : Int) ^ r * (y % 2 ^ r * 2 ^ (64 - r)) = 18446744073709551616 * (y % 2 ^ r) := by
        rw [e1, Int.mul_comm (y % 2 ^ r), Int.mul_assoc]
      omega
    have hs : 0 ≤ shrL x y r := by unfold shrL; rw [e2]; omega
    obtain ⟨x, rfl⟩ := Int.eq_ofNat_of_zero_le hx.1
    obtain ⟨y, rfl⟩ := Int.eq_ofNat_of_zero_le hy.1
    obtain ⟨s, hs⟩ := Int.eq_ofNat_of_zero_le hs
    rw [hs] at key ⊢
    rw [Int.toNat_natCast, Int.toNat_natCast, Int.toNat_natCast]
    have e3 : (2 : Int) ^ r = ((2 ^ r : Nat) : Int) := (Int.natCast_pow 2 r).symm
    rw [e3] at key
    generalize 2 ^ r = P at key ⊢
    omega
  · unfold shrL; rw [e2]; omega
  · unfold shrL; rw [e2]; omega
theorem ShrI.step {D out : List Int} {r i : Nat} {x y : Int} (h : ShrI D out r i) (hD : Lim B64 D) (hi : i < D.length) (hr : r ≤ 64) (hx : x = D.getD i 0) (hy : y = D.getD (i + 1) 0) :
    ShrI D (out.set i (shrL x y r)) r (i + 1) := by
  have h1 := lim64 hD i
  have h2 := lim64 hD (i + 1)
  rw [← hx] at h1
  rw [← hy] at h2
  have hl := h.hl
  obtain ⟨k1, k2, k3, _⟩ := shrL_spec hr h1 h2
  refine ⟨hi, by rw [List.length_set]; exact hl, lim_set h.hd _ ⟨k2, k3⟩, fun j hj => ?_, ?_⟩
  · rw [getD_set, if_neg (by omega)]; exact h.hz j (by omega)
  · have e1 : nb ((out.set i (shrL x y r)).take (i + 1)) = nb (out.take i) + B64 ^ i * (shrL x y r).toNat := nv_set_take _ _ _ (by omega)
    rw [e1, nb_top, ← hx, ← hy, Nat.pow_succ]
    have := h.he
    rw [← hx] at this
    exact shr_ring this k1
theorem ShrI.done {D out : List Int} {r : Nat} (h : ShrI D out r D.length) : nb out = nb D / 2 ^ r := by
  have e := h.he
  rw [List.take_length, List.take_of_length_le (by have := h.hl; omega), List.getD_eq_getElem?_getD (l := D) (i := D.length), List.getElem?_eq_none (Nat.le_refl _)] at e
  simp only [Option.getD_none, Int.toNat_zero, Nat.zero_mod, Nat.mul_zero, Nat.add_zero] at e
  have hp : 0 < 2 ^ r := Nat.two_pow_pos r
  rw [← e, Nat.mul_add_div hp, Nat.div_eq_of_lt (Nat.mod_lt _ hp)]
  rfl
theorem nb_drop_div {xs : List Int} (h : Lim B64 xs) {w : Nat} (hw : w ≤ xs.length) : nb (xs.drop w) = nb xs / B64 ^ w := by
  have e : nb xs = nb (xs.take w) + B64 ^ w * nb (xs.drop w) := nv_take_drop xs w hw
  have hp : 0 < B64 ^ w := Nat.pow_pos (by decide)
  rw [e, Nat.add_mul_div_left _ _ hp, Nat.div_eq_of_lt (nb_take_lt h w)]
  omega
end Go.Hl

namespace Go.Hl
def blen (n : Nat) : Nat := if n = 0 then 0 else Nat.log2 n + 1
theorem blen_le (n k : Nat) : blen n ≤ k ↔ n < 2 ^ k := by
  unfold blen
  split
  · rename_i h; subst h; exact ⟨fun _ => Nat.two_pow_pos k, fun _ => Nat.zero_le _⟩
  · rename_i h
    rw [← Nat.log2_lt h]; omega
theorem blen_div {n k : Nat} (h : 2 ^ k ≤ n) : blen n = k + blen (n / 2 ^ k) := by
  have key : ∀ j, blen n ≤ k + j ↔ blen (n / 2 ^ k) ≤ j := fun j => by
    rw [blen_le, blen_le, Nat.div_lt_iff_lt_mul (Nat.two_pow_pos k), Nat.pow_add, Nat.mul_comm]
  have hk : k ≤ blen n := Nat.le_of_not_lt fun hlt => by
    have := (blen_le n (blen n)).1 (Nat.le_refl _)
    have := Nat.pow_le_pow_right (show 0 < 2 by decide) (Nat.le_of_lt hlt)
    omega
  have h1 := (key (blen n - k)).1 (by omega)
  have h2 := (key (blen (n / 2 ^ k))).2 (Nat.le_refl _)
  omega
theorem blen_zero : blen 0 = 0 := rfl
theorem blen_eq_zero {n : Nat} : blen n = 0 ↔ n = 0 := by
  constructor
  · intro h; have := (blen_le n 0).1 (by omega); simpa using this
  · rintro rfl; rfl
def bitN (n : Nat) (i : Int) : Bool := decide (0 ≤ i ∧ n / 2 ^ i.toNat % 2 = 1)
theorem pow_B64 (q r : Nat) : 2 ^ (64 * q + r) = B64 ^ q * 2 ^ r := by rw [Nat.pow_add, Nat.pow_mul]
theorem nb_over {A : List Int} (h : Lim B64 A) {q r : Nat} (hq : A.length ≤ q) : nb A / 2 ^ (64 * q + r) = 0 := by
  refine Nat.div_eq_of_lt ?_
  rw [pow_B64]
  have := nb_lt h hq
  have h2 : B64 ^ q * 1 ≤ B64 ^ q * 2 ^ r := Nat.mul_le_mul_left _ (Nat.two_pow_pos r)
  omega
theorem nb_bit {A : List Int} (h : Lim B64 A) (q r : Nat) (hr : r < 64) : nb A / 2 ^ (64 * q + r) % 2 = (A.getD q 0).toNat / 2 ^ r % 2 := by
  by_cases hq : q < A.length
  · rw [pow_B64, ← Nat.div_div_eq_div_mul, ← nb_drop_div h (by omega), nb_drop hq]
    have e : B64 = 2 ^ r * (2 * 2 ^ (63 - r)) := by
      rw [Nat.mul_comm 2, ← Nat.pow_succ, ← Nat.pow_add, show r + (63 - r + 1) = 64 by omega]
    generalize (A.getD q 0).toNat = x
    generalize nb (A.drop (q + 1)) = y
    rw [e, Nat.mul_assoc, Nat.add_mul_div_left _ _ (Nat.two_pow_pos r), Nat.mul_assoc]
    omega
  · rw [nb_over h (by omega), List.getD_eq_getElem?_getD, List.getElem?_eq_none (by omega)]
    simp
theorem blen_limbs {A : List Int} (h : Lim B64 A) {n : Nat} (hl : A.length = n + 1) (ht : A.getD n 0 ≠ 0) : blen (nb A) = 64 * n + blen (A.getD n 0).toNat := by
  have e := nb_last hl
  have h2 := nb_take_lt h n
  have h1 := lim64 h n
  have hp : 2 ^ (64 * n) = B64 ^ n := by rw [Nat.pow_mul]
  have hge : 2 ^ (64 * n) ≤ nb A := by
    rw [hp, e]
    have : B64 ^ n * 1 ≤ B64 ^ n * (A.getD n 0).toNat := Nat.mul_le_mul_left _ (by omega)
    omega
  rw [blen_div hge, hp, e, Nat.add_mul_div_left _ _ (Nat.pow_pos (by decide)), Nat.div_eq_of_lt h2, Nat.zero_add]
end Go.Hl

namespace Go.Hl
def sh (n : Int) : Nat := (if 0 < (if 8192 < n then 8192 else n) then (if 8192 < n then 8192 else n) else 0).toNat
structure ShlI (A out : List Int) (q l i : Nat) : Prop where
  hi : i ≤ A.length
  hl : out.length = A.length + q + 1
  hd : Lim B64 out
  hz : ∀ j, i + q < j → out.getD j 0 = 0
  hc : out.getD (i + q) 0 < 2 ^ l
  he : nb (out.take (i + q + 1)) = B64 ^ q * 2 ^ l * nb (A.take i)
theorem ShlI.step {A out : List Int} {q l i : Nat} {v1 v2 : Int} (h : ShlI A out q l i) (hA : Lim B64 A) (hi : i < A.length) (hl : l < 64)
    (h1 : v1 = (A.getD i 0 * 2 ^ l) % 18446744073709551616) (h2 : v2 = (A.getD i 0 * 2 ^ l) / 18446744073709551616) :
    ShlI A ((out.set (i + q) (out.getD (i + q) 0 + v1)).set (i + q + 1) v2) q l (i + 1) ∧ out.getD (i + q) 0 + v1 < 18446744073709551616 ∧ v1 % 2 ^ l = 0 := by
  have hx := hA.get (by decide) i
  have hB : ((B64 : Nat) : Int) = 18446744073709551616 := rfl
  rw [hB] at hx
  have hc := h.hc
  have hc0 := (h.hd.get (by decide) (i + q)).1
  have hpl : (0 : Int) < 2 ^ l := Int.pow_pos (by decide)
  have hp : (18446744073709551616 : Int) = 2 ^ l * 2 ^ (64 - l) := by rw [← Int.pow_add, show l + (64 - l) = 64 by omega]; rfl
  have hm : v1 % 2 ^ l = 0 := by
    rw [h1, Int.emod_emod_of_dvd _ ⟨_, hp⟩, Int.mul_emod_left]
  have hq0 : 0 ≤ A.getD i 0 * 2 ^ l := Int.mul_nonneg hx.1 (Int.le_of_lt hpl)
  have hv1 : 0 ≤ v1 ∧ v1 < 18446744073709551616 := by rw [h1]; omega
  have hsum : out.getD (i + q) 0 + v1 < 18446744073709551616 := by
    have e := Int.mul_ediv_add_emod v1 (2 ^ l)
    rw [hm, Int.add_zero] at e
    have hlt : v1 / 2 ^ l < 2 ^ (64 - l) := by
      refine Int.ediv_lt_of_lt_mul hpl ?_
      rw [Int.mul_comm, ← hp]; exact hv1.2
    have := Int.mul_le_mul_of_nonneg_left (Int.add_one_le_of_lt hlt) (Int.le_of_lt hpl)
    rw [Int.mul_add, e, ← hp] at this
    omega
  have hv2 : 0 ≤ v2 ∧ v2 < 2 ^ l := by
    rw [h2]
    refine ⟨by omega, Int.ediv_lt_of_lt_mul (by decide) ?_⟩
    rw [Int.mul_comm]
    exact Int.mul_lt_mul_of_pos_left hx.2 hpl
  have hl64 : (2 : Int) ^ l ≤ 18446744073709551616 := by
    rw [hp]
    have : (1 : Int) ≤ 2 ^ (64 - l) := Int.pow_pos (by decide)
    have := Int.mul_le_mul_of_nonneg_left this (Int.le_of_lt hpl)
    omega
  have hol := h.hl
  refine ⟨⟨hi, by simp only [List.length_set]; omega, (h.hd.set _ ⟨by omega, by rw [hB]; exact hsum⟩).set _ ⟨hv2.1, by rw [hB]; omega⟩, fun j hj => ?_, ?_, ?_⟩, hsum, hm⟩
  · rw [getD_set, getD_set, if_neg (by omega), if_neg (by omega)]
    exact h.hz j (by omega)
  · rw [getD_set, if_pos ⟨by omega, by simp only [List.length_set]; omega⟩]
    exact hv2.2
  · have e := h.he
    unfold nb at e ⊢
    rw [show i + 1 + q + 1 = (i + q + 1) + 1 by omega, nv_set_take _ _ _ (by simp only [List.length_set]; omega), nv_set_take _ _ _ (by omega), nv_take_succ A]
    rw [nv_take_succ] at e
    have k1 : v1.toNat + B64 * v2.toNat = (A.getD i 0).toNat * 2 ^ l := by
      have e1 : A.getD i 0 * 2 ^ l = (((A.getD i 0).toNat * 2 ^ l : Nat) : Int) := by
        rw [Int.natCast_mul, Int.toNat_of_nonneg hx.1]
        rfl
      rw [e1] at h1 h2
      generalize (A.getD i 0).toNat * 2 ^ l = P at *
      show _ + 18446744073709551616 * _ = _
      omega
    have k2 : (out.getD (i + q) 0 + v1).toNat = (out.getD (i + q) 0).toNat + v1.toNat := by omega
    rw [k2, Nat.pow_succ, Nat.mul_add, Nat.mul_add]
    have k3 : B64 ^ (i + q) * (v1.toNat + B64 * v2.toNat) = B64 ^ q * 2 ^ l * (B64 ^ i * (A.getD i 0).toNat) := by
      rw [k1, Nat.pow_add]
      generalize B64 ^ i = a
      generalize B64 ^ q = b
      generalize 2 ^ l = c
      generalize (A.getD i 0).toNat = x
      ac_rfl
    rw [Nat.mul_add, ← Nat.mul_assoc] at k3
    omega
end Go.Hl

namespace Go.Hl
structure HalfP (y y1 y0 n d : Int) : Prop where
  hy : y = y1 * 4294967296 + y0
  h1 : 2147483648 ≤ y1 ∧ y1 < 4294967296
  h0 : 0 ≤ y0 ∧ y0 < 4294967296
  hn : 0 ≤ n ∧ n < y
  hd : 0 ≤ d ∧ d < 4294967296
structure HalfI (y y1 n d q r : Int) : Prop where
  hq : 0 ≤ q
  hr : 0 ≤ r
  hr1 : r < 4294967296
  he : q * y1 + r = n
  hge : (n * 4294967296 + d) / y ≤ q
section
variable {y y1 y0 n d q r : Int}
theorem HalfP.lt (h : HalfP y y1 y0 n d) : 0 ≤ (n * 4294967296 + d) / y ∧ (n * 4294967296 + d) / y < 4294967296 := by
  have h1 := h.h1; have h0 := h.h0; have hn := h.hn; have hd := h.hd
  exact ⟨Int.ediv_nonneg (by omega) (by omega), Int.ediv_lt_of_lt_mul (by omega) (by omega)⟩
theorem HalfP.le_of (h : HalfP y y1 y0 n d) (hq : q * y ≤ n * 4294967296 + d) : q ≤ (n * 4294967296 + d) / y :=
  Int.le_ediv_of_mul_le (by have := h.h1; have := h.h0; have := h.hy; omega) hq
theorem HalfI.start (h : HalfP y y1 y0 n d) : HalfI y y1 n d (n / y1) (n % y1) ∧ n / y1 ≤ 4294967297 := by
  have h1 := h.h1; have h0 := h.h0; have hn := h.hn; have hd := h.hd; have hy := h.hy
  have e := Int.mul_ediv_add_emod n y1
  have m1 := Int.emod_nonneg n (show y1 ≠ 0 by omega)
  have m2 := Int.emod_lt_of_pos n (show 0 < y1 by omega)
  have g0 : 0 ≤ n / y1 := Int.ediv_nonneg hn.1 (by omega)
  have hl := h.lt
  refine ⟨⟨g0, m1, by omega, by rw [Int.mul_comm]; exact e, ?_⟩, ?_⟩
  · refine Int.le_ediv_of_mul_le (by omega) ?_
    have k1 := Int.ediv_mul_le (n * 4294967296 + d) (show y ≠ 0 by omega)
    generalize (n * 4294967296 + d) / y = Q at *
    have k2 : Q * y = Q * y1 * 4294967296 + Q * y0 := by rw [hy]; grind
    have k3 : 0 ≤ Q * y0 := Int.mul_nonneg hl.1 h0.1
    omega
  · refine Int.le_of_lt_add_one (Int.ediv_lt_of_lt_mul (by omega) ?_)
    omega
theorem mul_yd (h : HalfP y y1 y0 n d) (he : q * y1 + r = n) : q * y + (r * 4294967296 + d - q * y0) = n * 4294967296 + d := by
  have hy := h.hy
  subst he; subst hy; grind
theorem HalfI.step (h : HalfP y y1 y0 n d) (k : HalfI y y1 n d q r) (ht : 4294967296 ≤ q ∨ 4294967296 * r + d < q * y0) :
    0 ≤ q - 1 ∧ (q - 1) * y1 + (r + y1) = n ∧ (n * 4294967296 + d) / y ≤ q - 1 := by
  have hl := h.lt
  have e := k.he
  have e2 := mul_yd h e
  refine ⟨?_, by rw [Int.sub_mul, Int.one_mul]; omega, ?_⟩
  · have := k.hq
    have hr := k.hr; have hd := h.hd
    rcases ht with ht | ht
    · omega
    · rcases Int.lt_or_eq_of_le this with h' | h'
      · omega
      · rw [← h'] at ht; omega
  · rcases ht with ht | ht
    · omega
    · refine Int.le_of_lt_add_one ?_
      have hy0 : 0 < y := by have := h.h1; have := h.h0; have := h.hy; omega
      have : (n * 4294967296 + d) / y < q := Int.ediv_lt_of_lt_mul hy0 (by omega)
      omega
theorem HalfI.next (h : HalfP y y1 y0 n d) (k : HalfI y y1 n d q r) (ht : 4294967296 ≤ q ∨ 4294967296 * r + d < q * y0) (hr : r + y1 < 4294967296) : HalfI y y1 n d (q - 1) (r + y1) := by
  obtain ⟨a, b, c⟩ := k.step h ht
  have := k.hr; have := h.h1
  exact ⟨a, by omega, hr, b, c⟩
theorem HalfP.eq (h : HalfP y y1 y0 n d) (he : q * y1 + r = n) (hge : (n * 4294967296 + d) / y ≤ q) (hle : q * y0 ≤ 4294967296 * r + d) : q = (n * 4294967296 + d) / y := by
  have e2 := mul_yd h he
  exact Int.le_antisymm (h.le_of (by omega)) hge
theorem HalfI.last (h : HalfP y y1 y0 n d) (k : HalfI y y1 n d q r) (ht : 4294967296 ≤ q ∨ 4294967296 * r + d < q * y0) (hr : 4294967296 ≤ r + y1) : q - 1 = (n * 4294967296 + d) / y := by
  obtain ⟨a, b, c⟩ := k.step h ht
  have h1 := h.h1; have h0 := h.h0; have hn := h.hn; have hd := h.hd; have hy := h.hy
  refine h.eq b c ?_
  have hq : q - 1 < 4294967296 := by
    refine Int.lt_of_mul_lt_mul_right (a := y1) ?_ (by omega)
    omega
  have := (mul_bd (M := 4294967295) (N := 4294967295) a h0.1 (by omega) (by omega)).2
  omega
theorem HalfI.done (h : HalfP y y1 y0 n d) (k : HalfI y y1 n d q r) (ht : q * y0 ≤ 4294967296 * r + d) : q = (n * 4294967296 + d) / y := h.eq k.he k.hge ht
theorem HalfP.rest (h : HalfP y y1 y0 n d) (hy : y < 18446744073709551616) :
    (((n * 4294967296) % 18446744073709551616 + d) % 18446744073709551616 - ((n * 4294967296 + d) / y * y) % 18446744073709551616) % 18446744073709551616 = (n * 4294967296 + d) % y ∧
      (0 ≤ (n * 4294967296 + d) % y ∧ (n * 4294967296 + d) % y < y) := by
  have h1 := h.h1; have h0 := h.h0; have hyy := h.hy
  have e := Int.mul_ediv_add_emod (n * 4294967296 + d) y
  have m1 := Int.emod_nonneg (n * 4294967296 + d) (show y ≠ 0 by omega)
  have m2 := Int.emod_lt_of_pos (n * 4294967296 + d) (show 0 < y by omega)
  rw [Int.mul_comm] at e
  generalize (n * 4294967296 + d) / y * y = p at *
  omega
end
theorem div64_fin {hi lo y P u1 u0 a b q1 q0 r1 r0 z : Int} (hz : z = y * P) (hP : 0 < P) (hu : u1 * 18446744073709551616 + u0 = (hi * 18446744073709551616 + lo) * P) (h0 : u0 = a * 4294967296 + b) (hy : 0 < y)
    (e1 : q1 * z + r1 = u1 * 4294967296 + a) (e0 : q0 * z + r0 = r1 * 4294967296 + b) (hr : 0 ≤ r0 ∧ r0 < z) :
    q1 * 4294967296 + q0 = (hi * 18446744073709551616 + lo) / y ∧ r0 / P = (hi * 18446744073709551616 + lo) % y := by
  have key : ((q1 * 4294967296 + q0) * y) * P + r0 = (hi * 18446744073709551616 + lo) * P := by
    rw [← hu]; subst hz; subst h0; grind
  generalize hi * 18446744073709551616 + lo = N at *
  generalize q1 * 4294967296 + q0 = Q at *
  have hr0 : r0 = (N - Q * y) * P := by rw [Int.sub_mul]; omega
  have c0 : 0 ≤ N - Q * y := by
    refine Int.le_of_mul_le_mul_right (a := P) ?_ hP
    rw [← hr0]; omega
  have c1 : N - Q * y < y := by
    refine Int.lt_of_mul_lt_mul_right (a := P) ?_ (by omega)
    rw [← hr0, ← hz]; omega
  have e : N = (N - Q * y) + Q * y := by omega
  constructor
  · rw [e, Int.add_mul_ediv_right _ _ (by omega), Int.ediv_eq_zero_of_lt c0 c1]; omega
  · rw [hr0, Int.mul_ediv_cancel _ (by omega)]
    have := Int.mul_ediv_add_emod N y
    rw [e, Int.add_mul_emod_self_right, Int.emod_eq_of_lt c0 c1]; omega
theorem div_ring (hi a b P P' : Int) : (hi * P + a) * (P * P') + b * P = (hi * (P * P') + (P' * a + b)) * P := by grind
theorem div64_top {hi lo : Int} {s : Nat} (hs : s ≤ 64) (hlo : 0 ≤ lo ∧ lo < 18446744073709551616) :
    (hi * 2 ^ s + lo / 2 ^ (64 - s)) * 18446744073709551616 + (lo * 2 ^ s) % 18446744073709551616 = (hi * 18446744073709551616 + lo) * 2 ^ s ∧ 0 ≤ lo / 2 ^ (64 - s) ∧ lo / 2 ^ (64 - s) < 2 ^ s := by
  have hp : (0 : Int) < 2 ^ s := Int.pow_pos (by decide)
  have hq : (0 : Int) < 2 ^ (64 - s) := Int.pow_pos (by decide)
  have e1 := pow64 hs
  have d := Int.mul_ediv_add_emod lo (2 ^ (64 - s))
  have m1 := Int.emod_nonneg lo (show (2 : Int) ^ (64 - s) ≠ 0 by omega)
  have m2 := Int.emod_lt_of_pos lo hq
  have e2 : (lo * 2 ^ s) % 18446744073709551616 = lo % 2 ^ (64 - s) * 2 ^ s := by
    rw [e1, Int.mul_comm lo, Int.mul_emod_mul_of_pos _ _ hp, Int.mul_comm]
  refine ⟨?_, Int.ediv_nonneg hlo.1 (by omega), Int.ediv_lt_of_lt_mul hq (by rw [← e1]; exact hlo.2)⟩
  rw [e2, e1]
  generalize (2 : Int) ^ s = P at *
  generalize (2 : Int) ^ (64 - s) = P' at *
  generalize lo / P' = a at *
  generalize lo % P' = b at *
  rw [← d]
  exact div_ring ..
end Go.Hl

namespace Go.Hl
theorem nb_app (xs ys : List Int) : nb (xs ++ ys) = nb xs + B64 ^ xs.length * nb ys := nv_append xs ys
theorem nb_split (xs : List Int) (n : Nat) (hn : n ≤ xs.length) : nb xs = nb (xs.take n) + B64 ^ n * nb (xs.drop n) := nv_take_drop xs n hn
theorem nb_zeros (n : Nat) : nb (List.replicate n 0) = 0 := nv_zeros n
def spl (xs ys : List Int) (off len : Nat) : List Int := xs.take off ++ ys ++ xs.drop (off + len)
theorem spl_length {xs ys : List Int} {off len : Nat} (h : off + len ≤ xs.length) (hy : ys.length = len) : (spl xs ys off len).length = xs.length := by
  simp [spl]; omega
theorem spl_drop {xs ys : List Int} {off len : Nat} (h : off + len ≤ xs.length) : (spl xs ys off len).drop off = ys ++ xs.drop (off + len) := by
  unfold spl
  rw [List.append_assoc, List.drop_append, List.length_take, Nat.min_eq_left (by omega), Nat.sub_self, List.drop_zero, List.drop_take, Nat.sub_self, List.take_zero, List.nil_append]
theorem spl_lim {xs ys : List Int} {off len : Nat} (h : Lim B64 xs) (hy : Lim B64 ys) : Lim B64 (spl xs ys off len) := ((h.take _).append hy).append (h.drop _)
theorem spl_take {xs ys : List Int} {off len : Nat} (h : off + len ≤ xs.length) : (spl xs ys off len).take off = xs.take off := by
  unfold spl
  rw [List.append_assoc, List.take_append, List.length_take, Nat.min_eq_left (by omega), Nat.sub_self, List.take_zero, List.append_nil, List.take_take, Nat.min_self]
theorem spl_nb {xs ys : List Int} {off len : Nat} (h : off + len ≤ xs.length) (hy : ys.length = len) :
    nb (spl xs ys off len) + B64 ^ off * nb ((xs.drop off).take len) = nb xs + B64 ^ off * nb ys := by
  have hl := spl_length h hy
  rw [nb_split (spl xs ys off len) off (by omega), spl_take h, spl_drop h, nb_app, nb_split xs off (by omega), nb_split (xs.drop off) len (by rw [List.length_drop]; omega), List.drop_drop, hy]
  generalize nb (xs.take off) = a
  generalize nb ((xs.drop off).take len) = b
  generalize nb (xs.drop (off + len)) = c
  generalize nb ys = d
  generalize B64 ^ off = p
  generalize B64 ^ len = q
  exact spl_ring a b c d p q
where
  spl_ring (a b c d p q : Nat) : a + p * (d + q * c) + p * b = a + p * (b + q * c) + p * d := by grind
structure LongI (A V : Nat) (n la : Nat) (q u : List Int) (m : Nat) : Prop where
  hm : m + n ≤ la + 1
  hq : q.length = la + 1 - n
  hql : Lim B64 q
  hu : u.length = la + 1
  hul : Lim B64 u
  hz : ∀ j, j < m → q.getD j 0 = 0
  he : A = V * nb q + nb u
  hs : nb (u.drop m) < V
theorem LongI.window {A V n la m : Nat} {q u v : List Int} (h : LongI A V n la q u (m + 1)) (hv : Lim B64 v) (hvn : v.length = n) (hV : nb v = V) (h2 : 2 ≤ n) (ht : 9223372036854775808 ≤ v.getD (n - 1) 0) :
    DigP ((u.drop m).take (n + 1)) v ∧ nb ((u.drop m).take (n + 1)) = nb (u.drop m) := by
  have hm := h.hm
  have hu := h.hu
  have hs := h.hs
  have e1 : nb (u.drop m) = (u.getD m 0).toNat + B64 * nb (u.drop (m + 1)) := nb_drop (by omega)
  have l1 := lim64 h.hul m
  have hlt : nb (u.drop m) < B64 * V := by
    have : B64 * (nb (u.drop (m + 1)) + 1) ≤ B64 * V := Nat.mul_le_mul_left _ (by omega)
    rw [Nat.mul_add, Nat.mul_one] at this
    have hB : B64 = 18446744073709551616 := rfl
    omega
  have hVlt : V < B64 ^ n := by rw [← hV]; exact nb_lt hv (by omega)
  have hw : nb ((u.drop m).take (n + 1)) = nb (u.drop m) := by
    have e2 := nb_split (u.drop m) (n + 1) (by rw [List.length_drop]; omega)
    have : nb ((u.drop m).drop (n + 1)) = 0 := by
      refine Classical.byContradiction fun hne => ?_
      have k1 : B64 ^ (n + 1) * 1 ≤ B64 ^ (n + 1) * nb ((u.drop m).drop (n + 1)) := Nat.mul_le_mul_left _ (by omega)
      have k2 : B64 * V < B64 * B64 ^ n := Nat.mul_lt_mul_of_pos_left hVlt (by decide)
      rw [Nat.pow_succ, Nat.mul_comm] at k1
      rw [Nat.pow_succ] at e2
      rw [Nat.mul_comm (B64 ^ n)] at e2 k1
      omega
    rw [this, Nat.mul_zero] at e2
    exact e2.symm
  refine ⟨⟨(h.hul.drop m).take _, hv, by omega, by rw [List.length_take, List.length_drop, hvn]; omega, by rw [hvn]; exact ht, by rw [hw, hV]; exact hlt⟩, hw⟩
theorem LongI.step {A V n la m : Nat} {q u : List Int} (h : LongI A V n la q u (m + 1)) (hV : 0 < V) (hVn : V < B64 ^ n) (hn : 0 < n) {W : Nat} (hW : nb ((u.drop m).take (n + 1)) = W) (hW2 : nb (u.drop m) = W) (hq : W / V < 18446744073709551616) :
    LongI A V n la (q.set m ((W / V : Nat) : Int)) (spl u (fixd B64 (n + 1) (W % V)) m (n + 1)) m := by
  have hm := h.hm
  have hu := h.hu
  have hql := h.hq
  have hr := Nat.mod_lt W hV
  have hB : B64 ^ n ≤ B64 ^ (n + 1) := Nat.pow_le_pow_right (by decide) (by omega)
  have hfl : (fixd B64 (n + 1) (W % V)).length = n + 1 := fixd_length ..
  have hfn : nb (fixd B64 (n + 1) (W % V)) = W % V := nv_fixd (by decide) _ _ (by omega)
  have hsl := spl_length (xs := u) (ys := fixd B64 (n + 1) (W % V)) (off := m) (len := n + 1) (by omega) hfl
  have hsn := spl_nb (xs := u) (ys := fixd B64 (n + 1) (W % V)) (off := m) (len := n + 1) (by omega) hfl
  have hqn := nb_set (xs := q) (i := m) (v := ((W / V : Nat) : Int)) (by omega)
  rw [h.hz m (by omega), Int.toNat_zero, Nat.mul_zero, Nat.add_zero, Int.toNat_natCast] at hqn
  rw [hW, hfn] at hsn
  refine ⟨by omega, by rw [List.length_set]; exact hql, lim_set h.hql _ ⟨Int.natCast_nonneg _, Int.ofNat_lt.2 hq⟩, by rw [hsl]; exact hu, spl_lim h.hul (lim_fixd (by decide) _ _), fun j hj => ?_, ?_, ?_⟩
  · rw [getD_set, if_neg (by omega)]; exact h.hz j (by omega)
  · have he := h.he
    have hd := Nat.div_add_mod W V
    rw [hqn]
    exact long_ring he hd hsn
  · rw [spl_drop (by omega), nb_app, hfn, hfl]
    have hz0 : nb (u.drop (m + (n + 1))) = 0 := by
      have e2 := nb_split (u.drop m) (n + 1) (by rw [List.length_drop]; omega)
      rw [hW, hW2, List.drop_drop] at e2
      have hp : 0 < B64 ^ (n + 1) := Nat.pow_pos (by decide)
      have : B64 ^ (n + 1) * nb (u.drop (m + (n + 1))) = 0 := by omega
      rcases Nat.mul_eq_zero.1 this with h1 | h1
      · omega
      · exact h1
    rw [hz0, Nat.mul_zero, Nat.add_zero]; exact hr
where
  long_ring {A V nq nu p W Q R ns : Nat} (he : A = V * nq + nu) (hd : V * Q + R = W) (hs : ns + p * W = nu + p * R) : A = V * (nq + p * Q) + ns := by
    have : ns + p * W = nu + p * R := hs
    subst hd
    subst he
    have e : p * (V * Q + R) = V * (p * Q) + p * R := by grind
    rw [e] at this
    grind
theorem LongI.done {A V n la : Nat} {q u : List Int} (h : LongI A V n la q u 0) : nb q = A / V ∧ nb u = A % V := by
  have hs := h.hs
  rw [List.drop_zero] at hs
  have e := h.he
  constructor
  · rw [e, Nat.mul_add_div (by omega), Nat.div_eq_of_lt hs]; rfl
  · rw [e, Nat.mul_add_mod, Nat.mod_eq_of_lt hs]
theorem long_start {A B : Nat} {b : List Int} {n la s : Nat} (hb : Lim B64 b) (hbn : b.length = n) (hn : 2 ≤ n) (hB : nb b = B) (hA : A < B64 ^ la) (hn2 : n ≤ la) (hs : s ≤ 63) (h1 : 9223372036854775808 ≤ (b.getD (n - 1) 0).toNat * 2 ^ s) (h2 : (b.getD (n - 1) 0).toNat * 2 ^ s < 18446744073709551616) :
    (dg (B * 2 ^ s)).length = n ∧ 9223372036854775808 ≤ (dg (B * 2 ^ s)).getD (n - 1) 0 ∧ (dg (A * 2 ^ s)).length ≤ la + 1 ∧ LongI (A * 2 ^ s) (B * 2 ^ s) n la (List.replicate (la + 1 - n) 0) (fixd B64 (la + 1) (A * 2 ^ s)) (la + 1 - n) ∧ 0 < B * 2 ^ s := by
  obtain ⟨k, rfl⟩ : ∃ k, n = k + 1 := ⟨n - 1, by omega⟩
  rw [Nat.add_sub_cancel] at h1 h2 ⊢
  have e := nb_last hbn
  rw [hB] at e
  have l1 := nb_take_lt hb k
  have hp : 0 < 2 ^ s := Nat.two_pow_pos s
  have hw : 0 < B64 ^ k := Nat.pow_pos (by decide)
  have hB0 : B * 2 ^ s = nb (b.take k) * 2 ^ s + B64 ^ k * ((b.getD k 0).toNat * 2 ^ s) := by rw [e, Nat.add_mul, Nat.mul_assoc]
  have hlo : B64 ^ k * 9223372036854775808 ≤ B * 2 ^ s := by
    have := Nat.mul_le_mul_left (B64 ^ k) h1
    omega
  have hhi : B * 2 ^ s < B64 ^ (k + 1) := by
    have hx : b.getD k 0 < 18446744073709551616 := (lim64 hb k).2
    have q1 : nb (b.take k) * 2 ^ s < B64 ^ k * 2 ^ s := Nat.mul_lt_mul_of_pos_right l1 hp
    have q2 : ((b.getD k 0).toNat + 1) * 2 ^ s ≤ 18446744073709551616 := by
      have e64 : 2 ^ s * 2 ^ (64 - s) = 18446744073709551616 := by rw [← Nat.pow_add, show s + (64 - s) = 64 by omega]
      have : (b.getD k 0).toNat < 2 ^ (64 - s) := by
        refine Nat.lt_of_mul_lt_mul_left (a := 2 ^ s) ?_
        rw [e64, Nat.mul_comm]; exact h2
      have := Nat.mul_le_mul_right (2 ^ s) this
      rw [Nat.mul_comm (2 ^ (64 - s)), e64] at this
      exact this
    rw [Nat.add_mul, Nat.one_mul] at q2
    have q3 := Nat.mul_le_mul_left (B64 ^ k) q2
    rw [Nat.mul_add] at q3
    rw [Nat.pow_succ]
    show _ < B64 ^ k * 18446744073709551616
    omega
  have hlen : (dg (B * 2 ^ s)).length = k + 1 := by
    have g1 : (dg (B * 2 ^ s)).length ≤ k + 1 := (digs_length_le (by decide) _ _).2 hhi
    have g2 : ¬ (dg (B * 2 ^ s)).length ≤ k := fun h => by
      have := (digs_length_le (B := B64) (by decide) (B * 2 ^ s) k).1 h
      have h3 : B64 ^ k * 1 ≤ B64 ^ k * 9223372036854775808 := Nat.mul_le_mul_left _ (by decide)
      omega
    omega
  have hlim : Lim B64 (dg (B * 2 ^ s)) := lim_digs (by decide) _
  have htop : 9223372036854775808 ≤ (dg (B * 2 ^ s)).getD k 0 := by
    have e2 := nb_last hlen
    rw [nb_dg] at e2
    have l2 := nb_take_lt hlim k
    have l3 := lim64 hlim k
    have : B64 ^ k * 9223372036854775808 < B64 ^ k * ((((dg (B * 2 ^ s)).getD k 0).toNat) + 1) := by
      rw [Nat.mul_add, Nat.mul_one]; omega
    have := Nat.lt_of_mul_lt_mul_left this
    omega
  have hAs : A * 2 ^ s < B64 ^ la * 2 ^ s := Nat.mul_lt_mul_of_pos_right hA hp
  have hs63 : 2 ^ s ≤ 9223372036854775808 := by
    have := Nat.pow_le_pow_right (show 0 < 2 by decide) hs
    simpa using this
  have hAl : A * 2 ^ s < B64 ^ (la + 1) := by
    have := Nat.mul_le_mul_left (B64 ^ la) hs63
    rw [Nat.pow_succ]
    have h3 : B64 ^ la * 9223372036854775808 ≤ B64 ^ la * B64 := Nat.mul_le_mul_left _ (by decide)
    omega
  have hfn : nb (fixd B64 (la + 1) (A * 2 ^ s)) = A * 2 ^ s := nv_fixd (by decide) _ _ hAl
  have hfl : (fixd B64 (la + 1) (A * 2 ^ s)).length = la + 1 := fixd_length ..
  have hBpos : 0 < B * 2 ^ s := by
    have : 0 < B64 ^ k * 9223372036854775808 := Nat.mul_pos hw (by decide)
    omega
  refine ⟨hlen, htop, (digs_length_le (by decide) _ _).2 hAl, ⟨by omega, List.length_replicate, Lim.zeros (by decide) _, hfl, lim_fixd (by decide) _ _, fun j _ => ?_, by rw [nb_zeros, hfn, Nat.mul_zero, Nat.zero_add], ?_⟩, hBpos⟩
  · simp only [List.getD_eq_getElem?_getD, List.getElem?_replicate]
    split <;> rfl
  · rw [nb_drop_div (lim_fixd (by decide) _ _) (by rw [hfl]; omega), hfn]
    refine (Nat.div_lt_iff_lt_mul (Nat.pow_pos (by decide))).2 ?_
    have h3 : B64 ^ k * 9223372036854775808 * B64 ^ (la + 1 - (k + 1)) ≤ B * 2 ^ s * B64 ^ (la + 1 - (k + 1)) := Nat.mul_le_mul_right _ hlo
    have h4 : B64 ^ k * 9223372036854775808 * B64 ^ (la + 1 - (k + 1)) = B64 ^ la * 9223372036854775808 := by
      rw [Nat.mul_right_comm, ← Nat.pow_add, show k + (la + 1 - (k + 1)) = la by omega]
    have := Nat.mul_le_mul_left (B64 ^ la) hs63
    omega
end Go.Hl

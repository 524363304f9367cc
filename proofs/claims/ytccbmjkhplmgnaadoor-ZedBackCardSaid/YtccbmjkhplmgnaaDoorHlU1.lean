/- The value of a text of digits; texts that are an integer's. -/
import Derived.Lib.SlTrimSet
import Derived.Lib.Strings
import Derived.Test.YtccbmjkhplmgnaaDoorHlZ5
set_option linter.unusedVariables false
set_option linter.unusedSimpArgs false
namespace Go.Hl
open Go

/-- A digit? -/
def isD (c : UInt8) : Bool := decide (48 ≤ c.toNat) && decide (c.toNat ≤ 57)
def dg10 (c : UInt8) : Nat := c.toNat - 48
/-- What digits say. -/
def dv (l : List UInt8) : Nat := l.foldl (fun a c => 10 * a + dg10 c) 0
theorem dv_from (l : List UInt8) : ∀ a, l.foldl (fun a c => 10 * a + dg10 c) a = a * 10 ^ l.length + dv l := by
  induction l with
  | nil => intro a; simp [dv]
  | cons c l ih =>
    intro a
    simp only [List.foldl_cons, dv, List.length_cons]
    rw [ih, ih (10 * 0 + dg10 c), Nat.pow_succ]
    grind
theorem dv_app (x y : List UInt8) : dv (x ++ y) = dv x * 10 ^ y.length + dv y := by
  unfold dv
  rw [List.foldl_append, dv_from]
  rfl
theorem dv_snoc (l : List UInt8) (c : UInt8) : dv (l ++ [c]) = 10 * dv l + dg10 c := by
  rw [dv_app]
  simp [dv]; omega
theorem dv_nil : dv [] = 0 := rfl
theorem isD_spec {c : UInt8} (h : isD c = true) : 48 ≤ c.toNat ∧ c.toNat ≤ 57 := by
  simpa [isD] using h
theorem dg10_lt {c : UInt8} (h : isD c = true) : dg10 c < 10 := by
  have := isD_spec h; unfold dg10; omega
theorem dv_cons (c : UInt8) (l : List UInt8) : dv (c :: l) = dg10 c * 10 ^ l.length + dv l := by
  have := dv_app [c] l
  simpa [dv] using this
theorem dv_lt : ∀ {l : List UInt8}, l.all isD = true → dv l < 10 ^ l.length
  | [], _ => by simp [dv]
  | c :: l, h => by
    rw [List.all_cons, Bool.and_eq_true] at h
    have h1 := dv_lt h.2
    have h3 := dg10_lt h.1
    rw [dv_cons, List.length_cons, Nat.pow_succ]
    generalize 10 ^ l.length = p at *
    have : dg10 c * p ≤ 9 * p := Nat.mul_le_mul_right _ (by omega)
    omega
theorem dv_zeros (k : Nat) (l : List UInt8) : dv (List.replicate k 48 ++ l) = dv l := by
  have : dv (List.replicate k 48) = 0 := by
    induction k with
    | zero => rfl
    | succ k ih => rw [List.replicate_succ', dv_snoc, ih]; rfl
  rw [dv_app, this]; omega

/-- A text's digits: what stands behind the sign. -/
def pN (l : List UInt8) : Bool := Lib.hasPrefix l [45]
def pD (l : List UInt8) : List UInt8 := Lib.trimPrefix l [45]
/-- Is it an integer's text? -/
def pO (l : List UInt8) : Bool := !(pD l).isEmpty && (pD l).all isD
/-- The integer. -/
def pV (l : List UInt8) : Int := if pO l = true then (if pN l = true then -(dv (pD l) : Int) else (dv (pD l) : Int)) else 0

theorem pN_cons (c : UInt8) (l : List UInt8) : pN (c :: l) = (c == 45) := by
  unfold pN Lib.hasPrefix
  rw [List.isPrefixOf_cons_cons]
  simp [List.isPrefixOf, BEq.comm]
theorem pD_eq (l : List UInt8) : pD l = if pN l = true then l.drop 1 else l := rfl

theorem ten_all : ∀ n, n < 256 → ([48, 49, 50, 51, 52, 53, 54, 55, 56, 57] : List UInt8).contains (UInt8.ofNat n) = isD (UInt8.ofNat n) := by decide +kernel
theorem ten_isD (c : UInt8) : ([48, 49, 50, 51, 52, 53, 54, 55, 56, 57] : List UInt8).contains c = isD c := by
  have := ten_all c.toNat c.toNat_lt
  rwa [UInt8.ofNat_toNat] at this

theorem dropWhile_nil {p : UInt8 → Bool} : ∀ {l : List UInt8}, l.dropWhile p = [] ↔ l.all p = true
  | [] => by simp
  | a :: l => by
    rw [List.dropWhile_cons, List.all_cons]
    cases h : p a with
    | true => simp only [if_true, Bool.true_and]; exact dropWhile_nil
    | false => simp
theorem dropWhile_head {p : UInt8 → Bool} : ∀ {l : List UInt8} {a : UInt8} {t : List UInt8}, l.dropWhile p = a :: t → p a = false
  | [], _, _, h => by simp at h
  | b :: l, a, t, h => by
    rw [List.dropWhile_cons] at h
    cases hb : p b with
    | true => rw [hb, if_pos rfl] at h; exact dropWhile_head h
    | false => rw [hb] at h; simp at h; rw [← h.1]; exact hb
theorem trim_nil (l : List UInt8) : Lib.trimS l [48, 49, 50, 51, 52, 53, 54, 55, 56, 57] = [] ↔ l.all isD = true := by
  have e : (fun c : UInt8 => ([48, 49, 50, 51, 52, 53, 54, 55, 56, 57] : List UInt8).contains c) = isD := funext ten_isD
  unfold Lib.trimS Lib.trimLeftS Lib.trimRightS
  rw [e, dropWhile_nil]
  constructor
  · intro h
    have h2 : l.reverse.dropWhile isD = [] := by
      cases hd : l.reverse.dropWhile isD with
      | nil => rfl
      | cons a t =>
        have h3 := dropWhile_head hd
        rw [hd, List.all_reverse, List.all_cons, h3] at h
        simp at h
    rw [dropWhile_nil, List.all_reverse] at h2
    exact h2
  · intro h
    have h2 : l.reverse.dropWhile isD = [] := by rw [dropWhile_nil, List.all_reverse]; exact h
    rw [h2]; rfl

/-! ### an integer's own text -/
theorem dx_step {M : Nat} (h : M ≠ 0) : dx M = dx (M / 10) ++ [UInt8.ofNat (48 + M % 10)] := by
  unfold dx
  have e : ((M : Int) % 10).toNat = M % 10 := by omega
  rw [digs_pos (by decide) h]
  simp [e]
theorem dx_zero : dx 0 = [] := by unfold dx; rw [digs_zero]; rfl
theorem ofNat_dig {d : Nat} (h : d < 10) : isD (UInt8.ofNat (48 + d)) = true ∧ dg10 (UInt8.ofNat (48 + d)) = d := by
  have e : (UInt8.ofNat (48 + d)).toNat = 48 + d := by rw [UInt8.toNat_ofNat']; omega
  unfold isD dg10
  rw [e]
  simp; omega
theorem dv_dx : ∀ n, dv (dx n) = n ∧ (dx n).all isD = true := by
  intro n
  induction n using Nat.strongRecOn with
  | ind n ih =>
    by_cases h : n = 0
    · subst h; rw [dx_zero]; exact ⟨rfl, rfl⟩
    · obtain ⟨h1, h2⟩ := ih (n / 10) (by omega)
      obtain ⟨h3, h4⟩ := ofNat_dig (d := n % 10) (by omega)
      rw [dx_step h]
      refine ⟨?_, ?_⟩
      · rw [dv_snoc, h1, h4]; omega
      · rw [List.all_append, h2]; simpa using h3
/-- The text of a number that is not below 0, noughts ahead: what it says. -/
theorem text_digits (n k : Nat) : dv (List.replicate k 48 ++ textL (n : Int)) = n ∧ (List.replicate k 48 ++ textL (n : Int)).all isD = true ∧ List.replicate k 48 ++ textL (n : Int) ≠ [] := by
  have hz : (List.replicate k (48 : UInt8)).all isD = true := by
    rw [List.all_eq_true]; intro x hx; rw [List.eq_of_mem_replicate hx]; rfl
  by_cases h : n = 0
  · subst h
    have : textL ((0 : Nat) : Int) = [48] := rfl
    rw [this, dv_zeros, List.all_append, hz]
    exact ⟨rfl, rfl, by simp⟩
  · have e : textL (n : Int) = dx n := by unfold textL; rw [if_neg (by omega), if_neg (by omega)]; simp
    obtain ⟨h1, h2⟩ := dv_dx n
    rw [e, dv_zeros, List.all_append, hz]
    exact ⟨h1, by simpa using h2, by simp [dx_ne h]⟩
theorem back_pos (n k : Nat) : pO (List.replicate k 48 ++ textL (n : Int)) = true ∧ pV (List.replicate k 48 ++ textL (n : Int)) = n := by
  obtain ⟨h1, h2, h3⟩ := text_digits n k
  obtain ⟨l, hl⟩ : ∃ l, List.replicate k 48 ++ textL (n : Int) = l := ⟨_, rfl⟩
  rw [hl] at h1 h2 h3 ⊢
  have hp : pN l = false := by
    cases l with
    | nil => exact absurd rfl h3
    | cons c l =>
      rw [pN_cons, beq_eq_false_iff_ne]
      rintro rfl
      rw [List.all_cons] at h2
      simp [isD] at h2
  have hd : pD l = l := by rw [pD_eq, hp]; rfl
  have ho : pO l = true := by unfold pO; rw [hd, h2]; cases l with | nil => exact absurd rfl h3 | cons => rfl
  exact ⟨ho, by unfold pV; rw [if_pos ho, hp, if_neg (by simp), hd, h1]⟩
theorem back_neg (n k : Nat) : pO (45 :: (List.replicate k 48 ++ textL (n : Int))) = true ∧ pV (45 :: (List.replicate k 48 ++ textL (n : Int))) = -(n : Int) := by
  obtain ⟨h1, h2, h3⟩ := text_digits n k
  obtain ⟨l, hl⟩ : ∃ l, List.replicate k 48 ++ textL (n : Int) = l := ⟨_, rfl⟩
  rw [hl] at h1 h2 h3 ⊢
  have hp : pN (45 :: l) = true := by rw [pN_cons]; rfl
  have hd : pD (45 :: l) = l := by rw [pD_eq, hp]; rfl
  have ho : pO (45 :: l) = true := by unfold pO; rw [hd, h2]; cases l with | nil => exact absurd rfl h3 | cons => rfl
  exact ⟨ho, by unfold pV; rw [if_pos ho, hp, if_pos rfl, hd, h1]⟩
end Go.Hl

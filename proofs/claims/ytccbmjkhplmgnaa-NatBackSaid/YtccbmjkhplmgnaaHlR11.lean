/- hairlineref01: Hex -/
import Derived.Test.YtccbmjkhplmgnaaHlR10
import Derived.Test.YtccbmjkhplmgnaaHlBb
import Derived.Test.YtccbmjkhplmgnaaHlM
set_option linter.unusedVariables false
set_option linter.unusedSimpArgs false
namespace Go.Hl
open Go Go.RowKit Go.Proofs
set_option maxHeartbeats 8000000

theorem nd_hex {A : List Int} (h : Lim B32 A) (q r : Nat) (hr : r < 8) : nd A / 16 ^ (8 * q + r) % 16 = (A.getD q 0).toNat / 2 ^ (4 * r) % 16 := by
  have e16 : (16 : Nat) ^ (8 * q + r) = 2 ^ (32 * q + 4 * r) := by rw [show (16 : Nat) = 2 ^ 4 from rfl, ← Nat.pow_mul]; congr 1; omega
  rw [e16]
  by_cases hq : q < A.length
  · rw [pow_B32, ← Nat.div_div_eq_div_mul, ← nd_drop_div h (by omega), nd_drop hq]
    have e : B32 = 2 ^ (4 * r) * (16 * 2 ^ (28 - 4 * r)) := by
      rw [show (16 : Nat) = 2 ^ 4 from rfl, ← Nat.pow_add, ← Nat.pow_add, show 4 * r + (4 + (28 - 4 * r)) = 32 by omega]
    generalize (A.getD q 0).toNat = x
    generalize nd (A.drop (q + 1)) = y
    rw [e, Nat.mul_assoc, Nat.add_mul_div_left _ _ (Nat.two_pow_pos _), Nat.mul_assoc]
    omega
  · rw [nd_over h (by omega), List.getD_eq_getElem?_getD, List.getElem?_eq_none (by omega)]
    simp
theorem hex_one : ∀ D, D < 16 → (⟨#[48, 49, 50, 51, 52, 53, 54, 55, 56, 57, 97, 98, 99, 100, 101, 102]⟩ : ByteArray).extract D (D + 1) = ⟨#[hexC D]⟩ := by decide
theorem str_app (h : List UInt8) (c : UInt8) : (⟨h.toArray⟩ : ByteArray) ++ (⟨#[c]⟩ : ByteArray) = ⟨(h ++ [c]).toArray⟩ := by
  apply ByteArray.ext
  simp [ByteArray.data_append]
theorem str_size (h : List UInt8) : (⟨h.toArray⟩ : ByteArray).size = h.length := by simp [ByteArray.size]
theorem str_nil (h : List UInt8) : ((⟨h.toArray⟩ : ByteArray).toList == (⟨#[]⟩ : ByteArray).toList) = decide (h = []) := by
  rw [ByteArray.toList_eq, ByteArray.toList_eq]
  rw [Bool.eq_iff_iff, beq_iff_eq, decide_eq_true_iff]

@[push_cast] def spRHex : Sp := spN 0 (fun xs => Lm xs ∧ xs.length < 100000000) (fun xs => .raw (.string ⟨(hexT (nb xs)).toArray⟩))

theorem hx_len (n k : Nat) (h : n < 16 ^ k) : (hx n).length ≤ k := by
  unfold hx
  rw [List.length_map, List.length_reverse, digs_length_le (by decide)]
  exact h

theorem rhex_ok : SpOK Try.prog 58 spRHex := by
  refine SpOK.N fun xs ⟨hx', hxl⟩ => ?_
  have hE := env (SOK.cons digits_ok (SOK.nil (P := Try.prog)))
  have h1 := d32_len hx'.1 (n := 200000000) (by omega)
  obtain ⟨N, hN⟩ : ∃ N, nb xs = N := ⟨_, rfl⟩
  rw [hN] at h1
  obtain ⟨d, hd⟩ : ∃ d, d32 N = d := ⟨_, rfl⟩
  have hdl : Lim B32 d := by rw [← hd]; exact lim_d32 _
  have hdn : nd d = N := by rw [← hd]; exact nd_d32 _
  rw [hd] at h1
  have hNlt : N < 16 ^ (8 * d.length) := by
    have := nd_lt hdl (Nat.le_refl _)
    rw [Nat.pow_mul, ← hdn]; exact this
  have hlen : ∀ p, (hx (N / 16 ^ p)).length ≤ 8 * d.length := fun p => hx_len _ _ (Nat.lt_of_le_of_lt (Nat.div_le_self _ _) hNlt)
  refine ACall.body hE Try.func58 Try.ntmps58 Try.results58 ?_
  rw [hN]
  have hstart : hx (N / 16 ^ (8 * d.length)) = [] := by rw [Nat.div_eq_of_lt hNlt, hx_zero]
  refine wk hE (And.intro hN hd) ?_
  refine AWp.loop (ι := {m : Nat // m ≤ d.length}) (fun m => ⟨[(3, .ns .u64 d), (4, .raw (.string ⟨(hx (N / 16 ^ (8 * m.1))).toArray⟩)), (5, .raw (.int .i64 ((m.1 : Int) - 1)))], []⟩) (fun m => m.1) ⟨d.length, Nat.le_refl _⟩ (Le.mk hstart) ?_
  rintro ⟨m, hm⟩
  dsimp only at hm ⊢
  cases m with
  | zero =>
    have hz : hx (N / 16 ^ (8 * 0)) = hx N := by rw [Nat.mul_zero, Nat.pow_zero, Nat.div_one]
    by_cases h0 : N = 0
    · have hnil : hx N = [] := hx_nil.2 h0
      have ht := str_nil []
      rw [decide_eq_true rfl] at ht
      refine wk hE (And.intro hz (And.intro hnil ht)) ?_
      refine PostL.mk trivial ?_
      rw [hexT, if_pos h0]
    · have hne : hx N ≠ [] := fun e => h0 (hx_nil.1 e)
      have ht := str_nil (hx N)
      rw [decide_eq_false hne] at ht
      refine wk hE (And.intro hz ht) ?_
      refine PostL.mk trivial ?_
      rw [hexT, if_neg h0]
  | succ m =>
    refine wk hE trivial ?_
    refine AWp.loop (ι := {k : Nat // k ≤ 8}) (fun k => ⟨[(3, .ns .u64 d), (4, .raw (.string ⟨(hx (N / 16 ^ (8 * m + k.1))).toArray⟩)), (5, .raw (.int .i64 (m : Int))), (6, .raw (.int .i64 ((k.1 : Int) - 1)))], []⟩) (fun k => k.1) ⟨8, Nat.le_refl _⟩ (Le.mk (show 8 * (m + 1) = 8 * m + 8 by omega)) ?_
    rintro ⟨k, hk⟩
    dsimp only at hk ⊢
    cases k with
    | zero =>
      refine wk hE trivial ?_
      exact ⟨⟨m, by omega⟩, Le.mk trivial, Nat.lt_succ_self m⟩
    | succ j =>
      have hdg := nd_hex hdl m j (by omega)
      rw [hdn] at hdg
      have l1 := lim32 hdl m
      obtain ⟨D, hD⟩ : ∃ D, N / 16 ^ (8 * m + j) % 16 = D := ⟨_, rfl⟩
      have hD16 : D < 16 := by omega
      have t2 : (4 * (j : Int)).toNat = 4 * j := by omega
      have h3 : 0 ≤ d.getD m 0 / 2 ^ (4 * j) ∧ d.getD m 0 / 2 ^ (4 * j) < 18446744073709551616 := shr_bd (by omega)
      have h4 : 0 ≤ (2 : Int) ^ (4 * j) := Int.le_of_lt (Int.pow_pos (by decide))
      have hDi : d.getD m 0 / 2 ^ (4 * j) % 16 = (D : Int) := by
        have e : d.getD m 0 / 2 ^ (4 * j) = (((d.getD m 0).toNat / 2 ^ (4 * j) : Nat) : Int) := by
          rw [Int.natCast_ediv, Int.toNat_of_nonneg l1.1, Int.natCast_pow]; rfl
        rw [e, ← hD, hdg]; rfl
      have e1 : 8 * m + (j + 1) = 8 * m + j + 1 := rfl
      obtain ⟨h, hh⟩ : ∃ h, hx (N / 16 ^ (8 * m + j + 1)) = h := ⟨_, rfl⟩
      have hhl := hlen (8 * m + j + 1)
      rw [hh] at hhl
      have ht := str_nil h
      by_cases hq : N / 16 ^ (8 * m + j) = 0
      · have hD0 : D = 0 := by rw [← hD, hq]
        subst hD0
        have hnil : h = [] := by rw [← hh]; exact hx_skip _ _ hq
        subst hnil
        rw [decide_eq_true rfl] at ht
        have hnext : hx (N / 16 ^ (8 * m + j)) = [] := hx_nil.2 hq
        refine wk hE (And.intro t2 (And.intro h4 (And.intro hDi (And.intro e1 (And.intro hh ht))))) ?_
        exact ⟨⟨j, by omega⟩, Le.mk hnext, Nat.lt_succ_self j⟩
      · have hnext : hx (N / 16 ^ (8 * m + j)) = h ++ [hexC D] := by rw [hx_next _ _ hq, hh, hD]
        have hex := hex_one D hD16
        have happ := str_app h (hexC D)
        have hsz := str_size h
        have hsz0 : (⟨#[48, 49, 50, 51, 52, 53, 54, 55, 56, 57, 97, 98, 99, 100, 101, 102]⟩ : ByteArray).size = 16 := rfl
        have hsz1 : (⟨#[hexC D]⟩ : ByteArray).size = 1 := rfl
        by_cases hn : h = []
        · rw [decide_eq_true hn] at ht
          have hDn : D ≠ 0 := by
            intro e
            have h0 : N / 16 ^ (8 * m + j + 1) = 0 := hx_nil.1 (hh.trans hn)
            rw [Nat.pow_succ, ← Nat.div_div_eq_div_mul] at h0
            have := Nat.div_add_mod (N / 16 ^ (8 * m + j)) 16
            omega
          have hDz : ((D : Int) == 0) = false := by rw [beq_eq_false_iff_ne]; omega
          refine wk hE (And.intro t2 (And.intro h4 (And.intro hDi (And.intro e1 (And.intro hh (And.intro ht (And.intro hDz (And.intro hex (And.intro happ (And.intro hsz (And.intro hsz1 hsz0))))))))))) ?_
          exact ⟨⟨j, by omega⟩, Le.mk hnext, Nat.lt_succ_self j⟩
        · rw [decide_eq_false hn] at ht
          refine wk hE (And.intro t2 (And.intro h4 (And.intro hDi (And.intro e1 (And.intro hh (And.intro ht (And.intro hex (And.intro happ (And.intro hsz (And.intro hsz1 hsz0)))))))))) ?_
          exact ⟨⟨j, by omega⟩, Le.mk hnext, Nat.lt_succ_self j⟩
end Go.Hl

/- hairlineref01: Trim, Digits, Limbs, Norm hairlineref01: CmpDigits, Cmp, Same, shift -/
import Derived.Test.YtccbmjkhplmgnaaGreatHlPa
import Derived.Test.YtccbmjkhplmgnaaGreatHlM
import Derived.Test.YtccbmjkhplmgnaaGreatHlT
import Derived.Test.YtccbmjkhplmgnaaGreatHlN
set_option linter.unusedVariables false
set_option linter.unusedSimpArgs false
namespace Go.Hl
open Go Go.RowKit Go.Proofs
set_option maxHeartbeats 4000000
attribute [push_cast] nd_d32
def Ld (xs : List Int) : Prop := Lim B32 xs ∧ xs.length < 1099511627776
theorem ld_d32 {n : Nat} (h : (d32 n).length < 1099511627776) : Ld (d32 n) := ⟨lim_d32 n, h⟩
@[push_cast] def spTrim32 : Sp := spN 0 (fun xs => Ld xs) (fun xs => .ns .u64 (d32 (nd xs)))
theorem trim32_ok : SpOK Tryz.prog 105 spTrim32 := by
  refine SpOK.N fun xs hp => ?_
  have hE := env (SOK.nil (P := Tryz.prog))
  have hlen := hp.2
  refine ACall.body hE Tryz.func105 Tryz.ntmps105 Tryz.results105 ?_
  refine wk hE trivial ?_
  refine AWp.loop (ι := {n : Nat // n ≤ xs.length ∧ nd (xs.take n) = nd xs}) (fun n => ⟨[(0, .ns .u64 xs), (3, .raw (.int .i64 (n.1 : Nat)))], []⟩) (fun n => n.1) ⟨xs.length, Nat.le_refl _, by rw [List.take_length]⟩ (Le.mk trivial) ?_
  rintro ⟨n, hn, hv⟩
  dsimp only
  cases n with
  | zero =>
    have hr : d32 (nd xs) = [] := by rw [← hv]; exact d32_zero
    refine wk hE trivial ?_
    refine PostL.mk trivial ?_
    rw [hr]
  | succ n =>
    have l1 := lim32 hp.1 n
    by_cases h0 : xs.getD n 0 = 0
    · have h0' : (xs.getD n 0 == 0) = true := by rw [h0]; rfl
      have hv2 : nd (xs.take n) = nd xs := by rw [← hv, nd_top, h0]; simp
      refine wk hE (And.intro h0' (show (0 : Int) < (n : Int) + 1 by omega)) ?_
      exact ⟨⟨n, by omega, hv2⟩, Le.mk trivial, by dsimp only; omega⟩
    · have h0' : (xs.getD n 0 == 0) = false := by rw [beq_eq_false_iff_ne]; exact h0
      have hr : xs.take (n + 1) = d32 (nd xs) := by
        rw [← hv]
        refine eq_digs (by decide) (hp.1.take _) (.inr ?_)
        rw [List.length_take, Nat.min_eq_left hn, Nat.add_sub_cancel, List.getD_eq_getElem?_getD, List.getElem?_take, if_pos (by omega), ← List.getD_eq_getElem?_getD]
        exact h0
      refine wk hE (And.intro h0' (And.intro (show (0 : Int) < (n : Int) + 1 by omega) hr)) ?_
      exact PostL.mk trivial rfl
@[push_cast] def spDigits : Sp := spN 0 (fun xs => Lm xs ∧ xs.length < 400000000) (fun xs => .ns .u64 (d32 (nb xs)))
theorem digits_ok : SpOK Tryz.prog 91 spDigits := by
  refine SpOK.N fun A ⟨hA, hAl⟩ => ?_
  have hE := env (SOK.cons trim32_ok (SOK.nil (P := Tryz.prog)))
  refine ACall.body hE Tryz.func91 Tryz.ntmps91 Tryz.results91 ?_
  refine wk hE trivial ?_
  refine AWp.loop (ι := {p : Nat × List Int // DigI A p.2 p.1}) (fun p => ⟨[(0, .ns .u64 A), (3, .os 8 1 0 (2 * A.length)), (4, .raw (.int .i64 (p.1.1 : Nat)))], [(8, ⟨true, .n .u64 p.1.2⟩)]⟩)
    (fun p => A.length - p.1.1) ⟨(0, List.replicate (2 * A.length) 0), by dsimp only; omega, by simp, Lim.zeros (by decide) _, ?_, by simp [nd, nb, nv_zeros, nv]⟩ (Le.mk trivial) ?_
  · intro j _
    simp only [List.getD_eq_getElem?_getD, List.getElem?_replicate]
    split <;> rfl
  rintro ⟨⟨i, out⟩, hI⟩
  dsimp only at hI ⊢
  have hol := hI.hl
  have l1 := lim64 hA.1 i
  by_cases hi : i < A.length
  · have hst := hI.step hA.1 hi rfl
    have t1 : (2 * (i : Int) + 1).toNat = 2 * i + 1 := by omega
    refine wk hE (And.intro (show (i : Int) < A.length by omega) t1) ?_
    exact ⟨⟨(i + 1, _), hst⟩, Le.mk trivial, by dsimp only; omega⟩
  · have hil : i = A.length := by have := hI.hi; omega
    subst hil
    have he := hI.he
    rw [List.take_length] at he
    have hld : Ld out := ⟨hI.hd, by omega⟩
    refine wk hE (And.intro (show ¬ (A.length : Int) < A.length by omega) he) ?_
    exact PostL.mk trivial rfl
theorem d32_len {xs : List Int} (h : Lim B64 xs) {n : Nat} (hl : 2 * xs.length < n) : (d32 (nb xs)).length < n := by
  refine Nat.lt_of_le_of_lt ((digs_length_le (by decide) _ _).2 ?_) hl
  have := nb_lt h (Nat.le_refl _)
  rw [Nat.pow_mul, show B32 ^ 2 = B64 from rfl]; exact this
@[push_cast] def spLimbs : Sp := spN 0 (fun xs => Ld xs ∧ xs.length < 1000000000) (fun xs => .ns .u64 (dg (nd xs)))
theorem limbs_ok : SpOK Tryz.prog 92 spLimbs := by
  refine SpOK.N fun xs ⟨hx, hxl⟩ => ?_
  have hE := env (SOK.cons trim32_ok (SOK.nil (P := Tryz.prog)))
  have hDl := d32_len_lt hx.1 hxl
  have hT : Top (d32 (nd xs)) := top_digs (by decide) _
  have hD := lim_d32 (nd xs)
  have eD := nd_d32 (nd xs)
  refine ACall.body hE Tryz.func92 Tryz.ntmps92 Tryz.results92 ?_
  obtain ⟨N, hN⟩ : ∃ N, nd xs = N := ⟨_, rfl⟩
  rw [hN] at hDl hT hD eD
  rw [hN]
  obtain ⟨D, hDe⟩ : ∃ D, d32 N = D := ⟨_, rfl⟩
  rw [hDe] at hDl hT hD eD
  refine wk hE (And.intro hN hDe) ?_
  refine AWp.bare 34 (.n .u64 []) trivial ?_
  refine AWp.loop (ι := {p : Nat × List Int // LimbI D p.2 p.1}) (fun p => ⟨[(0, .ns .u64 D), (3, .os 34 1 0 p.1.1), (4, .raw (.int .i64 ((2 * p.1.1 : Nat) : Int)))], [(34, ⟨true, .n .u64 p.1.2⟩)]⟩)
    (fun p => D.length + 1 - 2 * p.1.1) ⟨(0, []), by dsimp only; omega, rfl, Lim.nil, by simp [nd, nb, nv]⟩ (Le.mk trivial) ?_
  rintro ⟨⟨k, out⟩, hI⟩
  dsimp only at hI ⊢
  have hol := hI.hl
  have hk := hI.hk
  have l1 := lim32 hD (2 * k)
  have l2 := lim32 hD (2 * k + 1)
  by_cases hi : 2 * k < D.length
  · have hst := hI.step hD hi rfl
    obtain ⟨x, hx⟩ : ∃ x, D.getD (2 * k) 0 + 4294967296 * D.getD (2 * k + 1) 0 = x := ⟨_, rfl⟩
    rw [hx] at hst
    have t1 : (2 * (k : Int) + 1).toNat = 2 * k + 1 := by omega
    refine wk hE (show 2 * (k : Int) < D.length by omega) ?_
    refine AWp.join (ι := Unit) (fun _ => ⟨[(0, .ns .u64 D), (3, .os 34 1 0 k), (4, .raw (.int .i64 ((2 * k : Nat) : Int))), (5, .raw (.int .u64 x))], [(34, ⟨true, .n .u64 out⟩)]⟩) ?_ ?_
    · by_cases h1 : 2 * k + 1 < D.length
      · refine wk hE (And.intro (show 2 * (k : Int) + 1 < D.length by omega) (And.intro t1 hx)) ?_
        exact ⟨(), Le.mk trivial⟩
      · have h0 : D.getD (2 * k + 1) 0 = 0 := by rw [List.getD_eq_getElem?_getD, List.getElem?_eq_none (by omega)]; rfl
        rw [h0, Int.mul_zero, Int.add_zero] at hx
        refine wk hE (show ¬ 2 * (k : Int) + 1 < D.length by omega) ?_
        exact ⟨(), Le.mk hx⟩
    · rintro ⟨⟩
      refine wk hE trivial ?_
      have e3 : 2 * (k : Int) + 2 = 2 * ((k : Int) + 1) := by omega
      exact ⟨⟨(k + 1, out ++ [x]), hst⟩, Le.mk e3, by dsimp only; omega⟩
  · have hr := hI.done hD (by omega) hT
    rw [eD] at hr
    have htk : out.take k = out := List.take_of_length_le (by omega)
    refine wk hE (show ¬ 2 * (k : Int) < D.length by omega) ?_
    refine PostL.mk htk ?_
    rw [hr]
@[push_cast] def spRNorm : Sp := spN 0 (fun xs => Lm xs ∧ xs.length < 400000000) (fun xs => .ns .u64 (dg (nb xs)))
theorem rnorm_ok : SpOK Tryz.prog 79 spRNorm := by
  refine SpOK.N fun xs ⟨hx, hxl⟩ => ?_
  have hE := env (SOK.cons digits_ok (SOK.cons limbs_ok (SOK.nil (P := Tryz.prog))))
  have hl : (d32 (nb xs)).length < 1000000000 := d32_len hx.1 (by omega)
  have hld := ld_d32 (n := nb xs) (by omega)
  refine ACall.body hE Tryz.func79 Tryz.ntmps79 Tryz.results79 ?_
  refine wk hE trivial ?_
  exact PostL.mk trivial rfl
end Go.Hl

namespace Go.Hl
open Go Go.RowKit Go.Proofs
set_option maxHeartbeats 4000000
@[push_cast] def spCmpD : Sp := spNN 0 (fun xs ys => Ld xs ∧ Top xs ∧ Ld ys ∧ Top ys) (fun xs ys => .raw (.int .i64 (cmpI (nd xs) (nd ys))))
theorem cmpd_ok : SpOK Tryz.prog 93 spCmpD := by
  refine SpOK.NN fun A B ⟨hA, tA, hB, tB⟩ => ?_
  have hE := env (SOK.nil (P := Tryz.prog))
  have lt1 := nv_lt_of_len (B := B32) (by decide) hA.1 hB.1 tB
  have lt2 := nv_lt_of_len (B := B32) (by decide) hB.1 hA.1 tA
  have hAl := hA.2
  have hBl := hB.2
  refine ACall.body hE Tryz.func93 Tryz.ntmps93 Tryz.results93 ?_
  by_cases h1 : A.length < B.length
  · have e1 : ((A.length : Int) != (B.length : Int)) = true := by rw [bne_iff_ne]; omega
    refine wk hE (And.intro e1 (show (A.length : Int) < B.length by omega)) ?_
    refine PostL.mk trivial ?_
    have := lt1 h1
    unfold cmpI nd; rw [if_pos this]
  by_cases h2 : B.length < A.length
  · have e1 : ((A.length : Int) != (B.length : Int)) = true := by rw [bne_iff_ne]; omega
    refine wk hE (And.intro e1 (show ¬ (A.length : Int) < B.length by omega)) ?_
    refine PostL.mk trivial ?_
    have := lt2 h2
    unfold cmpI nd; rw [if_neg (by omega), if_pos this]
  have hl : B.length = A.length := by omega
  have e1 : ((A.length : Int) != (B.length : Int)) = false := by rw [hl]; simp
  refine wk hE e1 ?_
  refine AWp.loop (ι := {n : Nat // n ≤ A.length ∧ A.drop n = B.drop n}) (fun n => ⟨[(0, .ns .u64 A), (1, .ns .u64 B), (5, .raw (.int .i64 ((n.1 : Int) - 1)))], []⟩) (fun n => n.1) ⟨A.length, Nat.le_refl _, by rw [List.drop_length, ← hl, List.drop_length]⟩ (Le.mk trivial) ?_
  rintro ⟨n, hn, hdr⟩
  dsimp only
  cases n with
  | zero =>
    have hAB : A = B := by simpa using hdr
    refine wk hE trivial ?_
    refine PostL.mk trivial ?_
    subst hAB
    unfold cmpI; rw [if_neg (by omega), if_neg (by omega)]
  | succ n =>
    have a1 := lim32 hA.1 n
    have a2 := lim32 hB.1 n
    refine wk hE trivial ?_
    refine AWp.test trivial (fun h => ?_) (fun h => ?_)
    · have h3 := of_decide_eq_true h
      refine wk hE trivial ?_
      refine PostL.mk trivial ?_
      have := nv_lt_of (B := B32) (by decide) hA.1 hB.1 (n := n) (by omega) (by omega) hdr h3
      unfold cmpI nd; rw [if_pos (by omega)]
    have h3 := of_decide_eq_false h
    refine wk hE trivial ?_
    refine AWp.test trivial (fun h => ?_) (fun h => ?_)
    · have h4 := of_decide_eq_true h
      refine wk hE trivial ?_
      refine PostL.mk trivial ?_
      have := nv_lt_of (B := B32) (by decide) hB.1 hA.1 (n := n) (by omega) (by omega) hdr.symm h4
      unfold cmpI nd; rw [if_neg (by omega), if_pos (by omega)]
    have h4 := of_decide_eq_false h
    refine wk hE trivial ?_
    exact ⟨⟨n, by omega, drop_pred (by omega) (by omega) hdr (by omega)⟩, Le.mk trivial, by dsimp only; omega⟩
@[push_cast] def spRCmp : Sp := spNN 0 (fun xs ys => Lm xs ∧ Lm ys ∧ xs.length < 400000000 ∧ ys.length < 400000000) (fun xs ys => .raw (.int .i64 (cmpI (nb xs) (nb ys))))
theorem take_step {A B : List Int} {n : Nat} (h1 : n < A.length) (h2 : n < B.length) (h : A.take n = B.take n) (e : A.getD n 0 = B.getD n 0) : A.take (n + 1) = B.take (n + 1) := by
  rw [List.getD_eq_getElem?_getD, List.getElem?_eq_getElem h1, List.getD_eq_getElem?_getD, List.getElem?_eq_getElem h2] at e
  simp only [Option.getD_some] at e
  rw [List.take_succ_eq_append_getElem h1, List.take_succ_eq_append_getElem h2, h, e]
@[push_cast] def spSame : Sp := spNN 0 (fun xs ys => xs.length < 1000000000 ∧ ys.length < 1000000000) (fun xs ys => .raw (.bool (decide (xs = ys))))
theorem shift_min (n : Int) : (if 0 < (if 8192 < n then 8192 else n) then (if 8192 < n then 8192 else n) else 0) = ((sh n : Nat) : Int) := by unfold sh; split <;> split <;> omega
@[push_cast] def spShift : Sp := spI 0 (fun _ => True) (fun n => .raw (.int .i64 (sh n : Nat)))
theorem shift_ok : SpOK Tryz.prog 90 spShift := by
  refine SpOK.I fun n _ => ?_
  have hE := env (SOK.nil (P := Tryz.prog))
  refine ACall.body hE Tryz.func90 Tryz.ntmps90 Tryz.results90 ?_
  refine wk hE trivial ?_
  refine PostL.mk trivial ?_
  rw [← shift_min]
@[push_cast] def spRBitLen : Sp := spN 0 (fun xs => Lm xs ∧ xs.length < 400000000) (fun xs => .raw (.int .i64 (blen (nb xs) : Nat)))
theorem blen_half {n : Nat} (h : 0 < n) : blen n = blen (n / 2) + 1 := by
  by_cases h1 : n = 1
  · subst h1; rfl
  have := blen_div (n := n) (k := 1) (by rw [Nat.pow_one]; omega)
  rw [this, Nat.pow_one]; omega
theorem blen_d32 {A : List Int} (h : Lim B32 A) {n : Nat} (hl : A.length = n + 1) (ht : A.getD n 0 ≠ 0) : blen (nd A) = 32 * n + blen (A.getD n 0).toNat := by
  have e : nd A = nd (A.take n) + B32 ^ n * (A.getD n 0).toNat := by rw [← nd_top, List.take_of_length_le (by omega)]
  have h2 : nd (A.take n) < B32 ^ n := by
    have := nv_lt (h.take n)
    rw [List.length_take, Nat.min_eq_left (by omega)] at this
    exact this
  have h1 := lim32 h n
  have hp : 2 ^ (32 * n) = B32 ^ n := by rw [Nat.pow_mul]
  have hge : 2 ^ (32 * n) ≤ nd A := by
    rw [hp, e]
    have : B32 ^ n * 1 ≤ B32 ^ n * (A.getD n 0).toNat := Nat.mul_le_mul_left _ (by omega)
    omega
  rw [blen_div hge, hp, e, Nat.add_mul_div_left _ _ (Nat.pow_pos (by decide)), Nat.div_eq_of_lt h2, Nat.zero_add]
end Go.Hl

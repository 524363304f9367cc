/- nat.Shl, nat.Shr -/
import Derived.Test.YtccbmjkhplmgnaaGreatHlPa
import Derived.Test.YtccbmjkhplmgnaaGreatHlN
set_option linter.unusedVariables false
set_option linter.unusedSimpArgs false
namespace Go.Hl
open Go Go.RowKit Go.Proofs
set_option maxHeartbeats 2000000
@[push_cast] def spShl : Sp := spNI 0 (fun xs _ => Lm xs ∧ xs.length < 1000000000) (fun xs n => .ns .u64 (dg (nb xs * 2 ^ sh n)))
theorem sh_min (n : Int) : (if 0 < (if 8192 < n then 8192 else n) then (if 8192 < n then 8192 else n) else 0) = ((sh n : Nat) : Int) := by unfold sh; split <;> split <;> omega
theorem sh_le (n : Int) : sh n ≤ 8192 := by unfold sh; split <;> split <;> omega
theorem set_same {xs : List Int} {i : Nat} {v : Int} (h : xs.getD i 0 = v) : xs.set i v = xs := by
  apply List.ext_getElem?
  intro j
  rw [List.getElem?_set]
  split
  · rename_i e; subst e
    split
    · rename_i hl
      rw [List.getD_eq_getElem?_getD, List.getElem?_eq_getElem hl] at h
      rw [List.getElem?_eq_getElem hl]
      simp only [Option.getD_some] at h
      rw [h]
    · rename_i hl
      rw [List.getElem?_eq_none (by omega)]
  · rfl
theorem shl_ok : SpOK Tryz.prog 77 spShl := by
  refine SpOK.NI fun xs n ⟨hx, hxl⟩ => ?_
  have hE := env (SOK.cons trim_ok (SOK.nil (P := Tryz.prog)))
  have hAl := dg_len_lt hx hxl
  have hA := lm_dg (n := nb xs) (by omega)
  have eA := nb_dg (nb xs)
  have hm := sh_min n
  have hs := sh_le n
  refine ACall.body hE Tryz.func77 Tryz.ntmps77 Tryz.results77 ?_
  rw [← eA]
  refine wkR hE trivial ?_
  refine wkR hE trivial ?_
  generalize dg (nb xs) = A at *
  refine wkR hE hm ?_
  generalize sh n = s at *
  clear hm
  obtain ⟨q, hq⟩ : ∃ q, q = s / 64 := ⟨_, rfl⟩
  obtain ⟨l, hl⟩ : ∃ l, l = s % 64 := ⟨_, rfl⟩
  have hsq : s = 64 * q + l := by omega
  have hl64 : l < 64 := by omega
  have hq8 : q ≤ 128 := by omega
  have t1 : (s : Int) / 64 = q := by omega
  have t2 : (s : Int) % 64 = l := by omega
  have hw : IntKind.u64.wrap (s : Int) = s := wu64 (by omega) (by omega)
  clear hq hl
  refine wkR hE (And.intro t1 (And.intro hw t2)) ?_
  have tn1 : ((A.length : Int) + (q : Int) + 1).toNat = A.length + q + 1 := by omega
  refine wk hE tn1 ?_
  refine AWp.loop (ι := {p : Nat × List Int // ShlI A p.2 q l p.1}) (fun p => ⟨[(5, .raw (.int .i64 (q : Nat))), (6, .raw (.int .u64 (l : Nat))), (7, .os 25 1 0 (A.length + q + 1)), (26, .ns .u64 A), (27, .raw (.int .i64 (A.length : Nat))), (28, .raw (.int .i64 (p.1.1 : Nat)))], [(25, ⟨true, .n .u64 p.1.2⟩)]⟩)
    (fun p => A.length - p.1.1) ⟨(0, List.replicate (A.length + q + 1) 0), by dsimp only; omega, by simp, Lim.zeros (by decide) _, ?_, ?_, ?_⟩ (Le.mk trivial) ?_
  · intro j hj
    simp only [List.getD_eq_getElem?_getD, List.getElem?_replicate]
    split <;> rfl
  · have : (0 : Int) < 2 ^ l := Int.pow_pos (by decide)
    have e : (List.replicate (A.length + q + 1) (0 : Int)).getD (0 + q) 0 = 0 := by
      simp only [List.getD_eq_getElem?_getD, List.getElem?_replicate]
      split <;> rfl
    dsimp only
    omega
  · dsimp only
    rw [List.take_replicate]
    unfold nb
    rw [nv_zeros, List.take_zero]; rfl
  rintro ⟨⟨i, out⟩, hI⟩
  dsimp only at hI ⊢
  have hol := hI.hl
  have hxi := lim64 hA.1 i
  have hoi := lim64 hI.hd (i + q)
  by_cases hi : i < A.length
  · obtain ⟨hst, hsum, hmod⟩ := hI.step hA.1 hi hl64 rfl rfl
    have tn2 : ((i : Int) + (q : Int)).toNat = i + q := by omega
    have tn3 : ((i : Int) + (q : Int) + 1).toNat = i + q + 1 := by omega
    have hw2 : IntKind.u64.wrap (A.getD i 0 * 2 ^ l) = (A.getD i 0 * 2 ^ l) % 18446744073709551616 := IntKind.wrap_u64 _
    have hor : bits .or .u64 (out.getD (i + q) 0) ((A.getD i 0 * 2 ^ l) % 18446744073709551616) = out.getD (i + q) 0 + (A.getD i 0 * 2 ^ l) % 18446744073709551616 :=
      or_join' l _ _ (by omega) hmod (by omega) hoi.1 hI.hc hoi.2
    by_cases h0 : 0 < l
    · have tn4 : ((64 : Int) - (l : Int)).toNat = 64 - l := by omega
      have hsr : (A.getD i 0).fdiv (2 ^ (64 - l)) = (A.getD i 0 * 2 ^ l) / 18446744073709551616 := by
        rw [Int.fdiv_eq_ediv_of_nonneg _ (Int.le_of_lt (Int.pow_pos (by decide)))]
        have hp : (18446744073709551616 : Int) = 2 ^ (64 - l) * 2 ^ l := by rw [← Int.pow_add, show 64 - l + l = 64 by omega]; rfl
        rw [hp, Int.mul_ediv_mul_of_pos_left _ _ (Int.pow_pos (by decide))]
      refine wk hE (And.intro (show (i : Int) < A.length by omega) (And.intro tn2 (And.intro tn3 (And.intro hw2 (And.intro hor (And.intro (show (0 : Int) < l by omega) (And.intro tn4 hsr))))))) ?_
      exact ⟨⟨(i + 1, _), hst⟩, Le.mk trivial, by dsimp only; omega⟩
    · have l0 : l = 0 := by omega
      have hz : out.getD (i + q + 1) 0 = 0 := hI.hz _ (by omega)
      have hv2 : (A.getD i 0 * 2 ^ l) / 18446744073709551616 = 0 := by subst l0; rw [Int.pow_zero, Int.mul_one]; omega
      have hst2 : ((out.set (i + q) (out.getD (i + q) 0 + (A.getD i 0 * 2 ^ l) % 18446744073709551616)).set (i + q + 1) ((A.getD i 0 * 2 ^ l) / 18446744073709551616)) = (out.set (i + q) (out.getD (i + q) 0 + (A.getD i 0 * 2 ^ l) % 18446744073709551616)) := by
        rw [hv2]
        refine set_same ?_
        rw [getD_set, if_neg (by omega)]; exact hz
      rw [hst2] at hst
      refine wk hE (And.intro (show (i : Int) < A.length by omega) (And.intro tn2 (And.intro hw2 (And.intro hor (show ¬ (0 : Int) < l by omega))))) ?_
      exact ⟨⟨(i + 1, _), hst⟩, Le.mk trivial, by dsimp only; omega⟩
  · have hil : i = A.length := by have := hI.hi; omega
    subst hil
    have htk : out.take (A.length + q + 1) = out := List.take_of_length_le (by omega)
    have hlm : Lm out := ⟨hI.hd, by omega⟩
    have hres : nb out = nb A * 2 ^ s := by
      have := hI.he
      rw [htk, List.take_length] at this
      rw [this, hsq, pow_B64]
      exact Nat.mul_comm _ _
    refine wk hE (And.intro (show ¬ (A.length : Int) < A.length by omega) (And.intro htk hres)) ?_
    exact PostL.mk trivial rfl
@[push_cast] def spShr : Sp := spNI 0 (fun xs _ => Lm xs ∧ xs.length < 1000000000) (fun xs n => .ns .u64 (dg (nb xs / 2 ^ sh n)))
theorem shr_ok : SpOK Tryz.prog 76 spShr := by
  refine SpOK.NI fun xs n ⟨hx, hxl⟩ => ?_
  have hE := env (SOK.cons trim_ok (SOK.cons clone_ok (SOK.nil (P := Tryz.prog))))
  have hAl := dg_len_lt hx hxl
  have hA := lm_dg (n := nb xs) (by omega)
  have eA := nb_dg (nb xs)
  have hm := sh_min n
  have hs := sh_le n
  refine ACall.body hE Tryz.func76 Tryz.ntmps76 Tryz.results76 ?_
  rw [← eA]
  refine wkR hE trivial ?_
  refine wkR hE trivial ?_
  generalize dg (nb xs) = A at *
  refine wkR hE hm ?_
  generalize sh n = s at *
  clear hm
  obtain ⟨q, hq⟩ : ∃ q, q = s / 64 := ⟨_, rfl⟩
  obtain ⟨l, hl⟩ : ∃ l, l = s % 64 := ⟨_, rfl⟩
  have hsq : s = 64 * q + l := by omega
  have hl64 : l < 64 := by omega
  have hq8 : q ≤ 128 := by omega
  have t1 : (s : Int) / 64 = q := by omega
  have t2 : (s : Int) % 64 = l := by omega
  have hw : IntKind.u64.wrap (s : Int) = s := wu64 (by omega) (by omega)
  clear hq hl
  have hpl : (0 : Int) ≤ 2 ^ l := Int.le_of_lt (Int.pow_pos (by decide))
  by_cases hql : A.length ≤ q
  · refine wk hE (And.intro t1 (And.intro hw (And.intro t2 (show (A.length : Int) ≤ q by omega)))) ?_
    refine PostL.mk trivial ?_
    rw [hsq, nb_over hA.1 hql]
    simp [dg, digs_zero]
  obtain ⟨D, hD⟩ : ∃ D, D = A.drop q := ⟨_, rfl⟩
  have hDd : (A.take A.length).drop q = D := by rw [List.take_length, hD]
  have hDl : D.length = A.length - q := by rw [hD, List.length_drop]
  have hDlim : Lim B64 D := by rw [hD]; exact hA.1.drop q
  refine wk hE (And.intro t1 (And.intro hw (And.intro t2 (And.intro (show ¬ (A.length : Int) ≤ q by omega) hD.symm)))) ?_
  refine AWp.loop (ι := {p : Nat × List Int // ShrI D p.2 l p.1}) (fun p => ⟨[(0, .ns .u64 A), (5, .raw (.int .i64 (q : Nat))), (6, .raw (.int .u64 (l : Nat))), (7, .os 26 1 0 D.length), (28, .raw (.int .i64 (D.length : Nat))), (29, .raw (.int .i64 (p.1.1 : Nat)))], [(26, ⟨true, .n .u64 p.1.2⟩)]⟩)
    (fun p => D.length - p.1.1) ⟨(0, D), by dsimp only; omega, rfl, hDlim, fun _ _ => rfl, ?_⟩ (Le.mk trivial) ?_
  · simp only [List.take_zero, nb, nv_nil, Nat.mul_zero, Nat.zero_add, Nat.pow_zero, Nat.one_mul]
  rintro ⟨⟨i, out⟩, hI⟩
  dsimp only at hI ⊢
  have hol := hI.hl
  by_cases hi : i < D.length
  · have hz := hI.hz i (Nat.le_refl _)
    have h1 := lim64 hDlim i
    have h2 := lim64 hDlim (i + 1)
    obtain ⟨k1, k2, k3, k4, k5⟩ := shrL_spec (show l ≤ 64 by omega) h1 h2
    have hst := hI.step hDlim hi (show l ≤ 64 by omega) rfl rfl
    have hy : A.getD (i + 1 + q) 0 = D.getD (i + 1) 0 := by
      rw [hD, List.getD_eq_getElem?_getD, List.getD_eq_getElem?_getD, List.getElem?_drop]
      congr 2; omega
    have hss : ∀ a b : Int, (out.set i a).set i b = out.set i b := fun a b => List.set_set ..
    by_cases hc : 0 < l ∧ i + 1 + q < A.length
    · have tn : ((i : Int) + 1 + (q : Int)).toNat = i + 1 + q := by omega
      have tn4 : ((64 : Int) - (l : Int)).toNat = 64 - l := by omega
      have hw2 : IntKind.u64.wrap (D.getD (i + 1) 0 * 2 ^ (64 - l)) = (D.getD (i + 1) 0 * 2 ^ (64 - l)) % 18446744073709551616 := IntKind.wrap_u64 _
      have hg : (out.set i (D.getD i 0 / 2 ^ l)).getD i 0 = D.getD i 0 / 2 ^ l := getD_set_self (by omega)
      have hp : (2 : Int) ^ (64 - l) ≤ 2 ^ 64 := by exact_mod_cast Nat.pow_le_pow_right (show 0 < 2 by decide) (show 64 - l ≤ 64 by omega)
      have hor : bits .or .u64 (D.getD i 0 / 2 ^ l) ((D.getD (i + 1) 0 * 2 ^ (64 - l)) % 18446744073709551616) = shrL (D.getD i 0) (D.getD (i + 1) 0) l :=
        or_join' (64 - l) _ _ (by omega) k5 (by omega) k4.1 k4.2 (by omega)
      refine wk hE (And.intro (show (i : Int) < D.length by omega) (And.intro hz (And.intro hpl (And.intro (show (0 : Int) < l by omega) (And.intro (show (i : Int) + 1 + q < A.length by omega) (And.intro tn (And.intro hg (And.intro hy (And.intro tn4 (And.intro hw2 (And.intro hor hss))))))))))) ?_
      exact ⟨⟨(i + 1, _), hst⟩, Le.mk hss, by dsimp only; omega⟩
    · have he : shrL (D.getD i 0) (D.getD (i + 1) 0) l = D.getD i 0 / 2 ^ l := by
        unfold shrL
        by_cases h0 : l = 0
        · subst h0
          rw [show (2 : Int) ^ (64 - 0) = 18446744073709551616 from rfl, Int.mul_emod_left, Int.add_zero]
        · have : D.getD (i + 1) 0 = 0 := by rw [List.getD_eq_getElem?_getD, List.getElem?_eq_none (by omega)]; rfl
          rw [this, Int.zero_mul]; simp
      rw [he] at hst
      by_cases h0 : 0 < l
      · refine wk hE (And.intro (show (i : Int) < D.length by omega) (And.intro hz (And.intro hpl (And.intro (show (0 : Int) < l by omega) (show ¬ (i : Int) + 1 + q < A.length by omega))))) ?_
        exact ⟨⟨(i + 1, _), hst⟩, Le.mk trivial, by dsimp only; omega⟩
      · refine wk hE (And.intro (show (i : Int) < D.length by omega) (And.intro hz (And.intro hpl (show ¬ (0 : Int) < l by omega)))) ?_
        exact ⟨⟨(i + 1, _), hst⟩, Le.mk trivial, by dsimp only; omega⟩
  · have hil : i = D.length := by have := hI.hi; omega
    subst hil
    have htk : out.take D.length = out := List.take_of_length_le (by omega)
    have hlm : Lm out := ⟨hI.hd, by omega⟩
    have hres : nb out = nb A / 2 ^ s := by
      rw [hI.done, hD, nb_drop_div hA.1 (by omega), hsq, pow_B64, Nat.div_div_eq_div_mul]
    refine wk hE (And.intro (show ¬ (D.length : Int) < D.length by omega) (And.intro htk hres)) ?_
    exact PostL.mk trivial rfl
end Go.Hl

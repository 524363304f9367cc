/- hairlineref01: times, Shl hairlineref01: Shr hairlineref01: DivMod, Gcd -/
import Derived.Test.YtccbmjkhplmgnaaGreatHlRb
import Derived.Test.YtccbmjkhplmgnaaGreatHlM
import Derived.Test.YtccbmjkhplmgnaaGreatHlPb
import Derived.Test.YtccbmjkhplmgnaaGreatHlPf
set_option linter.unusedVariables false
set_option linter.unusedSimpArgs false
namespace Go.Hl
open Go Go.RowKit Go.Proofs
set_option maxHeartbeats 4000000
@[push_cast] def spTimes : Sp := spNU 0 (fun xs m => Ld xs ∧ xs.length < 1000000000 ∧ 0 ≤ m ∧ m < 4294967296) (fun xs m => .ns .u64 (d32 (nd xs * m.toNat)))
theorem times_ok : SpOK Tryz.prog 95 spTimes := by
  refine SpOK.NU fun A m ⟨hA, hAl, hm0, hm1⟩ => ?_
  have hE := env (SOK.cons trim32_ok (SOK.nil (P := Tryz.prog)))
  refine ACall.body hE Tryz.func95 Tryz.ntmps95 Tryz.results95 ?_
  refine wk hE trivial ?_
  refine AWp.bare 36 (.n .u64 []) trivial ?_
  refine AWp.loop (ι := {p : Nat × List Int × Int // TimR A p.2.1 m p.1 p.2.2}) (fun p => ⟨[(0, .ns .u64 A), (1, .raw (.int .u64 m)), (5, .os 36 1 0 p.1.1), (6, .raw (.int .u64 p.1.2.2)), (7, .raw (.int .i64 (p.1.1 : Nat)))], [(36, ⟨true, .n .u64 p.1.2.1⟩)]⟩)
    (fun p => A.length + 2 - p.1.1) ⟨(0, [], 0), rfl, Lim.nil, by dsimp only; omega, by simp [nd, nv], .inl (Nat.zero_le _)⟩ (Le.mk trivial) ?_
  rintro ⟨⟨i, out, c⟩, hI⟩
  dsimp only at hI ⊢
  have hol := hI.hl
  have hc := hI.hc
  have l1 := lim32 hA.1 i
  have hib : i ≤ A.length + 1 := by
    rcases hI.hi with g | g <;> omega
  by_cases hgo : i < A.length ∨ 0 < c
  · obtain ⟨hst, hp0, hp1⟩ := hI.step hA.1 ⟨hm0, hm1⟩ rfl hgo
    obtain ⟨x, hx⟩ : ∃ x, A.getD i 0 = x := ⟨_, rfl⟩
    rw [hx] at hst hp0 hp1 l1
    refine AWp.seq (AWp.join (ι := Unit) (fun _ => ⟨[(0, .ns .u64 A), (1, .raw (.int .u64 m)), (5, .os 36 1 0 i), (6, .raw (.int .u64 c)), (7, .raw (.int .i64 (i : Nat)))], [(36, ⟨true, .n .u64 out⟩)]⟩) ?_ ?_)
    · by_cases h1 : i < A.length
      · refine wk hE (show (i : Int) < A.length by omega) ?_
        exact ⟨(), Le.mk trivial⟩
      · refine wk hE (And.intro (show ¬ (i : Int) < A.length by omega) (show 0 < c by omega)) ?_
        exact ⟨(), Le.mk trivial⟩
    rintro ⟨⟩
    refine wk hE trivial ?_
    refine AWp.join (ι := Unit) (fun _ => ⟨[(0, .ns .u64 A), (1, .raw (.int .u64 m)), (5, .os 36 1 0 i), (7, .raw (.int .i64 (i : Nat))), (8, .raw (.int .u64 (c + x * m)))], [(36, ⟨true, .n .u64 out⟩)]⟩) ?_ ?_
    · by_cases h1 : i < A.length
      · refine wk hE (And.intro (show (i : Int) < A.length by omega) hx) ?_
        exact ⟨(), Le.mk trivial⟩
      · have hx0 : c + x * m = c := by rw [← hx, getD_over h1]; simp
        refine wk hE (show ¬ (i : Int) < A.length by omega) ?_
        exact ⟨(), Le.mk hx0⟩
    rintro ⟨⟩
    refine wk hE trivial ?_
    exact ⟨⟨(i + 1, _, _), hst⟩, Le.mk trivial, by dsimp only; omega⟩
  · have hc0 : c = 0 := by omega
    subst hc0
    have hr := hI.done (by omega)
    have hld : Ld out := ⟨hI.hd, by omega⟩
    refine wk hE (And.intro (show ¬ (i : Int) < A.length by omega) hr) ?_
    exact PostL.mk trivial rfl
theorem d32_mul1_len {N m n : Nat} (h : (d32 N).length ≤ n) (hm : m < 4294967296) : (d32 (N * m)).length ≤ n + 1 := by
  refine (digs_length_le (by decide) _ _).2 ?_
  have : N < B32 ^ n := (digs_length_le (B := B32) (by decide) _ _).1 h
  have h5 : N * m < B32 ^ n * B32 := Nat.mul_lt_mul'' this hm
  rw [Nat.pow_succ]
  exact h5
@[push_cast] def spRShl : Sp := spNI 0 (fun xs _ => Lm xs ∧ xs.length < 100000000) (fun xs n => .ns .u64 (dg (nb xs * 2 ^ sh n)))
theorem rshl_ok : SpOK Tryz.prog 72 spRShl := by
  refine SpOK.NI fun xs n ⟨hx, hxl⟩ => ?_
  have hE := env (SOK.cons shift_ok (SOK.cons digits_ok (SOK.cons times_ok (SOK.cons limbs_ok (SOK.nil (P := Tryz.prog))))))
  have hs := sh_le n
  obtain ⟨s, hse⟩ : ∃ s, sh n = s := ⟨_, rfl⟩
  rw [hse] at hs
  obtain ⟨q, hq⟩ : ∃ q, q = s / 32 := ⟨_, rfl⟩
  obtain ⟨l, hl⟩ : ∃ l, l = s % 32 := ⟨_, rfl⟩
  have hsq : s = 32 * q + l := by omega
  have hl32 : l < 32 := by omega
  have hq8 : q ≤ 256 := by omega
  have t1 : (s : Int) / 32 = q := by omega
  have t2 : (s : Int) % 32 = l := by omega
  clear hq hl
  have hpl : (1 : Int) * 2 ^ l = ((2 ^ l : Nat) : Int) := by rw [Int.one_mul]; exact (Int.natCast_pow 2 l).symm
  have hp32 : 2 ^ l < 4294967296 := by
    have := Nat.pow_lt_pow_right (show 1 < 2 by decide) hl32
    simpa using this
  obtain ⟨m, hm⟩ : ∃ m, 2 ^ l = m := ⟨_, rfl⟩
  rw [hm] at hpl hp32
  have h1 := d32_len hx.1 (n := 200000000) (by omega)
  have h3 := ld_d32 (n := nb xs) (by omega)
  have h4 : (d32 (nb xs * m)).length ≤ 200000000 + 1 := d32_mul1_len (Nat.le_of_lt h1) hp32
  obtain ⟨d, hd⟩ : ∃ d, d32 (nb xs * m) = d := ⟨_, rfl⟩
  have hdl : Lim B32 d := by rw [← hd]; exact lim_d32 _
  have hdn : nd d = nb xs * m := by rw [← hd]; exact nd_d32 _
  rw [hd] at h4
  have h7 : Ld (List.replicate q 0 ++ d) := ⟨(Lim.zeros (by decide) q).append hdl, by simp; omega⟩
  have h8 : nd (List.replicate q 0 ++ d) = nb xs * 2 ^ s := by
    rw [nd_app, nd_zeros, List.length_replicate, hdn, hsq, pow_B32, hm, Nat.zero_add]
    generalize nb xs = N
    generalize B32 ^ q = p
    grind
  have h9 : (List.replicate q (0 : Int) ++ d).length = q + d.length := by simp
  refine ACall.body hE Tryz.func72 Tryz.ntmps72 Tryz.results72 ?_
  rw [hse]
  refine wk hE (And.intro hse (And.intro t1 (And.intro t2 (And.intro hpl (And.intro hd h8))))) ?_
  exact PostL.mk trivial rfl
end Go.Hl

namespace Go.Hl
open Go Go.RowKit Go.Proofs
set_option maxHeartbeats 4000000
@[push_cast] def spRShr : Sp := spNI 0 (fun xs _ => Lm xs ∧ xs.length < 100000000) (fun xs n => .ns .u64 (dg (nb xs / 2 ^ sh n)))
theorem getD_take {D Q : List Int} {m n : Nat} (h : Q.take (m + 1) = D.take (m + 1)) (hn : n = m) : Q.getD n 0 = D.getD n 0 := by
  subst hn
  have : (Q.take (n + 1)).getD n 0 = (D.take (n + 1)).getD n 0 := by rw [h]
  simpa [List.getD_eq_getElem?_getD, List.getElem?_take] using this
theorem take_set_lt {Q : List Int} {m : Nat} {v : Int} : (Q.set m v).take m = Q.take m := by
  rw [List.take_set, List.set_eq_of_length_le (by rw [List.length_take]; omega)]
theorem rshr_ok : SpOK Tryz.prog 70 spRShr := by
  refine SpOK.NI fun xs n ⟨hx, hxl⟩ => ?_
  have hE := env (SOK.cons shift_ok (SOK.cons digits_ok (SOK.cons limbs_ok (SOK.nil (P := Tryz.prog)))))
  have hs := sh_le n
  obtain ⟨s, hse⟩ : ∃ s, sh n = s := ⟨_, rfl⟩
  rw [hse] at hs
  obtain ⟨q, hq⟩ : ∃ q, q = s / 32 := ⟨_, rfl⟩
  obtain ⟨l, hl⟩ : ∃ l, l = s % 32 := ⟨_, rfl⟩
  have hsq : s = 32 * q + l := by omega
  have hl32 : l < 32 := by omega
  have hq8 : q ≤ 256 := by omega
  have t1 : (s : Int) / 32 = q := by omega
  have t2 : (s : Int) % 32 = l := by omega
  clear hq hl
  have hpl : (1 : Int) * 2 ^ l = ((2 ^ l : Nat) : Int) := by rw [Int.one_mul]; exact (Int.natCast_pow 2 l).symm
  have hp32 : 2 ^ l < 4294967296 := by
    have := Nat.pow_lt_pow_right (show 1 < 2 by decide) hl32
    simpa using this
  obtain ⟨m, hm⟩ : ∃ m, 2 ^ l = m := ⟨_, rfl⟩
  have hm0 : 0 < m := by rw [← hm]; exact Nat.two_pow_pos l
  rw [hm] at hpl hp32
  have h1 := d32_len hx.1 (n := 200000000) (by omega)
  obtain ⟨N, hN⟩ : ∃ N, nb xs = N := ⟨_, rfl⟩
  rw [hN] at h1
  obtain ⟨d, hd⟩ : ∃ d, d32 N = d := ⟨_, rfl⟩
  have hdl : Lim B32 d := by rw [← hd]; exact lim_d32 _
  have hdn : nd d = N := by rw [← hd]; exact nd_d32 _
  rw [hd] at h1
  refine ACall.body hE Tryz.func70 Tryz.ntmps70 Tryz.results70 ?_
  rw [hse, hN]
  by_cases hql : d.length ≤ q
  · have h0 : dg (N / 2 ^ s) = [] := by rw [hsq, ← hdn, nd_over hdl hql]; exact digs_zero
    refine wk hE (And.intro hse (And.intro t1 (And.intro hN (And.intro hd (show (d.length : Int) ≤ q by omega))))) ?_
    refine PostL.mk trivial ?_
    rw [h0]
  · obtain ⟨D, hD⟩ : ∃ D, d.drop q = D := ⟨_, rfl⟩
    have hDl : D.length = d.length - q := by rw [← hD, List.length_drop]
    have hDL : Lim B32 D := by rw [← hD]; exact hdl.drop q
    have hDn : nd D = N / B32 ^ q := by rw [← hD, nd_drop_div hdl (by omega), hdn]
    have hres : N / B32 ^ q / m = N / 2 ^ s := by rw [hsq, pow_B32, Nat.div_div_eq_div_mul, hm]
    refine wk hE (And.intro hse (And.intro t1 (And.intro t2 (And.intro hN (And.intro hd (And.intro hD (And.intro hpl (show ¬ (d.length : Int) ≤ q by omega)))))))) ?_
    refine AWp.loop (ι := {p : Nat × List Int × Int // ShortR D p.2.1 (m : Int) p.2.2 p.1 ∧ p.2.1.take p.1 = D.take p.1}) (fun p => ⟨[(5, .os 24 1 0 D.length), (6, .raw (.int .u64 (m : Nat))), (7, .raw (.int .u64 p.1.2.2)), (8, .raw (.int .i64 ((p.1.1 : Int) - 1)))], [(24, ⟨true, .n .u64 p.1.2.1⟩)]⟩)
      (fun p => p.1.1) ⟨(D.length, D, 0), ShortR.start rfl hDL (by omega), rfl⟩ (Le.mk trivial) ?_
    rintro ⟨⟨k, Q, r⟩, hI, hT⟩
    dsimp only at hI hT ⊢
    have hQl := hI.hl
    have hkn := hI.hn
    have hr := hI.hr
    cases k with
    | succ k =>
      have hx1 : Q.getD k 0 = D.getD k 0 := getD_take hT rfl
      have l1 := lim32 hDL k
      obtain ⟨hst, d1, d2⟩ := hI.step hDL rfl
      obtain ⟨x, hxx⟩ : ∃ x, D.getD k 0 = x := ⟨_, rfl⟩
      rw [hxx] at hx1 l1 hst d1 d2
      obtain ⟨y, hy⟩ : ∃ y, r * 4294967296 + x = y := ⟨_, rfl⟩
      rw [hy] at hst d1 d2
      have hy1 : 0 ≤ y ∧ y < 18446744073709551616 := by omega
      obtain ⟨d', hd'⟩ : ∃ d', y / (m : Int) = d' := ⟨_, rfl⟩
      obtain ⟨r', hr'⟩ : ∃ r', y % (m : Int) = r' := ⟨_, rfl⟩
      rw [hd'] at hst d1 d2
      rw [hr'] at hst
      refine wk hE (And.intro hx1 (And.intro hy (And.intro hd' hr'))) ?_
      exact ⟨⟨(k, Q.set k d', r'), hst, by dsimp only; rw [take_set_lt]; have := congrArg (List.take k) hT; simpa [List.take_take, Nat.min_eq_left (Nat.le_succ k)] using this⟩, Le.mk trivial, by dsimp only; omega⟩
    | zero =>
      obtain ⟨d1, _⟩ := hI.done
      rw [hDn, Int.toNat_natCast, hres] at d1
      have hld : Ld Q := ⟨hI.hd, by omega⟩
      refine wk hE d1 ?_
      exact PostL.mk trivial rfl
end Go.Hl

namespace Go.Hl
open Go Go.RowKit Go.Proofs
set_option maxHeartbeats 8000000
@[push_cast] def spRDivMod : Sp := spNN 0 (fun xs ys => Lm xs ∧ Lm ys ∧ xs.length < 100000000 ∧ ys.length < 100000000)
  (fun xs ys => .tup [.ns .u64 (dg (nb xs / nb ys)), .ns .u64 (dg (rm (nb xs) (nb ys))), .raw (.bool (decide (nb ys ≠ 0)))])
theorem d32_mono_len {a b n : Nat} (h : a ≤ b) (hb : (d32 b).length ≤ n) : (d32 a).length ≤ n :=
  (digs_length_le (by decide) _ _).2 (Nat.lt_of_le_of_lt h ((digs_length_le (B := B32) (by decide) _ _).1 hb))
theorem cmpI_le {a b : Nat} (h : a ≤ b) : cmpI a b ≤ 0 := by unfold cmpI; split; decide; rw [if_neg (by omega)]; decide
theorem cmpI_gt {a b : Nat} (h : b < a) : ¬ cmpI a b ≤ 0 := by unfold cmpI; rw [if_neg (by omega), if_pos h]; decide
theorem rdivmod_ok : SpOK Tryz.prog 98 spRDivMod := by
  refine SpOK.NN fun xs ys ⟨hx, hy, hxl, hyl⟩ => ?_
  have hE := env (SOK.cons digits_ok (SOK.cons limbs_ok (SOK.cons trim32_ok (SOK.cons times_ok (SOK.cons cmpd_ok (SOK.cons sub32_ok (SOK.nil (P := Tryz.prog))))))))
  have h1 := d32_len hx.1 (n := 200000000) (by omega)
  have h2 := d32_len hy.1 (n := 200000000) (by omega)
  obtain ⟨X, hX⟩ : ∃ X, nb xs = X := ⟨_, rfl⟩
  obtain ⟨Y, hY⟩ : ∃ Y, nb ys = Y := ⟨_, rfl⟩
  rw [hX] at h1
  rw [hY] at h2
  have hYlen := h2
  obtain ⟨x, hxd⟩ : ∃ x, d32 X = x := ⟨_, rfl⟩
  obtain ⟨y, hyd⟩ : ∃ y, d32 Y = y := ⟨_, rfl⟩
  have hxL : Lim B32 x := by rw [← hxd]; exact lim_d32 _
  have hyL : Lim B32 y := by rw [← hyd]; exact lim_d32 _
  have hyLd : Ld y := ⟨hyL, by rw [← hyd]; omega⟩
  have hyT : Top y := by rw [← hyd]; exact top_d32 _
  have hxn : nd x = X := by rw [← hxd]; exact nd_d32 _
  have hyn : nd y = Y := by rw [← hyd]; exact nd_d32 _
  rw [hxd] at h1
  rw [hyd] at h2
  refine ACall.body hE Tryz.func98 Tryz.ntmps98 Tryz.results98 ?_
  rw [hX, hY]
  by_cases hY0 : Y = 0
  · have hy0 : y = [] := by rw [← hyd, hY0]; exact d32_zero
    subst hy0
    refine wk hE (And.intro hX (And.intro hY (And.intro hxd hyd))) ?_
    refine PostL.mk trivial ?_
    simp [rm, hY0, dg_zero]
  have hyne : y ≠ [] := fun h => hY0 (by rw [← hyn, h]; rfl)
  have hylen : 0 < y.length := List.length_pos_iff.2 hyne
  have hr : rm X Y = X % Y := if_neg hY0
  rw [hr, decide_eq_true hY0]
  have z0 : ((y.length : Int) == 0) = false := by rw [beq_eq_false_iff_ne]; omega
  by_cases hy1 : y.length = 1
  · obtain ⟨b, rfl⟩ : ∃ b, y = [b] := List.length_eq_one_iff.1 hy1
    have hb := hyL.head
    rw [hB32] at hb
    have hbY : b.toNat = Y := by rw [← hyn]; simp [nd, nv]
    have hb0 : 0 < b := by omega
    refine wk hE (And.intro hX (And.intro hY (And.intro hxd hyd))) ?_
    refine AWp.loop (ι := {p : Nat × List Int × Int // ShortR x p.2.1 b p.2.2 p.1}) (fun p => ⟨[(7, .ns .u64 x), (8, .ns .u64 [b]), (9, .os 26 1 0 x.length), (10, .raw (.int .u64 p.1.2.2)), (11, .raw (.int .i64 ((p.1.1 : Int) - 1)))], [(26, ⟨true, .n .u64 p.1.2.1⟩)]⟩)
      (fun p => p.1.1) ⟨(x.length, List.replicate x.length 0, 0), ShortR.start (by simp) (Lim.zeros (by decide) _) hb0⟩ (Le.mk trivial) ?_
    rintro ⟨⟨k, Q, r⟩, hI⟩
    dsimp only at hI ⊢
    have hQl := hI.hl
    have hkn := hI.hn
    have hr := hI.hr
    cases k with
    | succ k =>
      have l1 := lim32 hxL k
      obtain ⟨hst, d1, d2⟩ := hI.step hxL rfl
      obtain ⟨x', hxx⟩ : ∃ x', x.getD k 0 = x' := ⟨_, rfl⟩
      rw [hxx] at l1 hst d1 d2
      obtain ⟨t, ht⟩ : ∃ t, r * 4294967296 + x' = t := ⟨_, rfl⟩
      rw [ht] at hst d1 d2
      have ht1 : 0 ≤ t ∧ t < 18446744073709551616 := by omega
      obtain ⟨d', hd'⟩ : ∃ d', t / b = d' := ⟨_, rfl⟩
      obtain ⟨r', hr'⟩ : ∃ r', t % b = r' := ⟨_, rfl⟩
      rw [hd'] at hst d1 d2
      rw [hr'] at hst
      refine wk hE (And.intro hxx (And.intro ht (And.intro hd' hr'))) ?_
      exact ⟨⟨(k, Q.set k d', r'), hst⟩, Le.mk trivial, by dsimp only; omega⟩
    | zero =>
      obtain ⟨d1, d2⟩ := hI.done
      rw [hxn, hbY] at d1 d2
      have hld : Ld Q := ⟨hI.hd, by omega⟩
      have hlr : Ld [r] := ⟨Lim.cons (by rw [hB32]; omega) Lim.nil, by simp⟩
      have hrn : nd [r] = X % Y := by rw [← d2]; simp [nd, nv]
      refine wk hE (And.intro d1 hrn) ?_
      exact PostL.mk trivial rfl
  · have z1 : ((y.length : Int) == 1) = false := by rw [beq_eq_false_iff_ne]; omega
    refine wk hE (And.intro hX (And.intro hY (And.intro hxd (And.intro hyd (And.intro z0 z1))))) ?_
    have hYpos : 0 < Y := by omega
    refine AWp.loop (ι := {p : Nat × List Int × Nat // LongR x p.2.1 Y p.2.2 p.1}) (fun p => ⟨[(7, .ns .u64 x), (8, .ns .u64 y), (9, .os 26 1 0 x.length), (12, .ns .u64 (d32 p.1.2.2)), (13, .raw (.int .i64 ((p.1.1 : Int) - 1)))], [(26, ⟨true, .n .u64 p.1.2.1⟩)]⟩)
      (fun p => p.1.1) ⟨(x.length, List.replicate x.length 0, 0), LongR.start hYpos⟩ (Le.mk d32_zero) ?_
    rintro ⟨⟨k, Q, R⟩, hI⟩
    dsimp only at hI ⊢
    have hQl := hI.hl
    have hkn := hI.hn
    have hr := hI.hr
    have hRl : (d32 R).length ≤ 200000000 := d32_mono_len (Nat.le_of_lt hr) (by omega)
    cases k with
    | zero =>
      obtain ⟨d1, d2⟩ := hI.done
      rw [hxn] at d1 d2
      have hld : Ld Q := ⟨hI.hd, by omega⟩
      have hlr := ld_d32 (n := R) (by omega)
      refine wk hE d1 ?_
      refine PostL.mk trivial ?_
      rw [d2]
    | succ k =>
      have l1 := lim32 hxL k
      have hbd := hI.bound hxL
      obtain ⟨x', hxx⟩ : ∃ x' : Nat, x.getD k 0 = x' := Int.eq_ofNat_of_zero_le l1.1
      have hst := fun W => hI.step (W := W) hxL
      rw [hxx] at l1 hbd
      rw [hxx, Int.toNat_natCast] at hst
      rw [Int.toNat_natCast] at hbd
      have hW : nd ((x' : Int) :: d32 R) = x' + 4294967296 * R := by
        show (x' : Int).toNat + B32 * nd (d32 R) = _
        rw [nd_d32]; rfl
      obtain ⟨W, hWe⟩ : ∃ W, x' + 4294967296 * R = W := ⟨_, rfl⟩
      rw [hWe] at hW hbd
      have hst := hst W hWe
      have hWL : Ld ((x' : Int) :: d32 R) := ⟨Lim.cons (by rw [hB32]; omega) (lim_d32 _), by rw [List.length_cons]; omega⟩
      have hWl : (d32 W).length ≤ 200000001 := by
        have := d32_len_lt hWL.1 (n := 200000002) (by rw [List.length_cons]; omega)
        rw [hW] at this; omega
      have hWld := ld_d32 (n := W) (by omega)
      have hWT := top_d32 W
      obtain ⟨Z, hZ⟩ : ∃ Z, (x' : Int) :: d32 R = Z := ⟨_, rfl⟩
      have hZl : 1 + (d32 R).length = Z.length := by rw [← hZ, List.length_cons]; omega
      rw [hZ] at hW hWL
      have hZlt : Z.length ≤ 200000001 := by omega
      refine wk hE (And.intro hxx (And.intro hZ (And.intro hZl hW))) ?_
      refine AWp.loop (ι := {p : Nat × Nat // HalfR Y W p.1 p.2}) (fun p => ⟨[(7, .ns .u64 x), (8, .ns .u64 y), (9, .os 26 1 0 x.length), (12, .ns .u64 (d32 W)), (13, .raw (.int .i64 (k : Int))), (14, .raw (.int .u64 (p.1.1 : Nat))), (15, .raw (.int .u64 (p.1.2 : Nat)))], [(26, ⟨true, .n .u64 Q⟩)]⟩)
        (fun p => p.1.2 - p.1.1) ⟨(0, 4294967295), Nat.zero_le _, Nat.le_of_lt_succ hbd, by decide⟩ (Le.mk trivial) ?_
      rintro ⟨⟨lo, hi⟩, hH⟩
      dsimp only at hH ⊢
      have hh3 := hH.h3
      have hh1 := hH.h1
      have hh2 := hH.h2
      by_cases hlt : lo < hi
      · obtain ⟨mid, hmid⟩ : ∃ mid : Nat, (lo + hi + 1) / 2 = mid := ⟨_, rfl⟩
        have hmi : ((lo : Int) + hi + 1) / 2 = (mid : Int) := by rw [← hmid]; omega
        have hml : (d32 (Y * mid)).length ≤ 200000000 + 1 := d32_mul1_len (by omega) (by omega)
        have hmL := ld_d32 (n := Y * mid) (by omega)
        have hmT := top_d32 (Y * mid)
        by_cases hc : Y * mid ≤ W
        · refine wk hE (And.intro (show (lo : Int) < hi by omega) (And.intro hmi (And.intro hyn (cmpI_le hc)))) ?_
          exact ⟨⟨(mid, hi), hH.up hYpos hc⟩, Le.mk trivial, by dsimp only; omega⟩
        · obtain ⟨mp, hmp⟩ : ∃ mp, mid = mp + 1 := by
            rcases Nat.eq_zero_or_pos mid with h | h
            · rw [h] at hc; omega
            · exact ⟨mid - 1, by omega⟩
          subst hmp
          have hgt := cmpI_gt (show W < Y * (mp + 1) by omega)
          have hdn := hH.down hYpos (m := mp + 1) (by omega) (by omega)
          refine wk hE (And.intro (show (lo : Int) < hi by omega) (And.intro hmi (And.intro hyn hgt))) ?_
          exact ⟨⟨(lo, mp), hdn⟩, Le.mk trivial, by dsimp only; omega⟩
      · have hlo := hH.done hlt
        have hml : (d32 (Y * lo)).length ≤ 200000000 + 1 := d32_mul1_len (by omega) (by omega)
        have hmL := ld_d32 (n := Y * lo) (by omega)
        have hle : Y * lo ≤ W := by rw [hlo]; exact Nat.mul_div_le W Y
        have hlen : (d32 (Y * lo)).length ≤ (d32 W).length := d32_mono_len hle (Nat.le_refl _)
        have hsub : W - Y * lo = W % Y := by rw [hlo]; have := Nat.div_add_mod W Y; omega
        rw [← hlo] at hst
        refine wk hE (And.intro (show ¬ (lo : Int) < hi by omega) (And.intro hyn hsub)) ?_
        exact ⟨⟨(k, Q.set k (lo : Int), W % Y), hst⟩, Le.mk trivial, by dsimp only; omega⟩
@[push_cast] def spRGcd : Sp := spNN 0 (fun xs ys => Lm xs ∧ Lm ys ∧ xs.length < 100000000 ∧ ys.length < 100000000) (fun xs ys => .ns .u64 (dg (Nat.gcd (nb xs) (nb ys))))
end Go.Hl

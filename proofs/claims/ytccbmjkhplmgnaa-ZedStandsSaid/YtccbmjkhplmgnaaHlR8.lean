/- hairlineref01: Shr -/
import Derived.Test.YtccbmjkhplmgnaaHlRc
import Derived.Test.YtccbmjkhplmgnaaHlM
set_option linter.unusedVariables false
set_option linter.unusedSimpArgs false
namespace Go.Hl
open Go Go.RowKit Go.Proofs
set_option maxHeartbeats 4000000

@[push_cast] def spRShr : Sp := spNI 0 (fun xs _ => Lm xs ∧ xs.length < 100000000) (fun xs n => .ns .u64 (dg (nb xs / 2 ^ sh n)))

theorem getD_take {D Q : List Int} {m n : Nat} (h : Q.take (m + 1) = D.take (m + 1)) (hn : n = m) : Q.getD n 0 = D.getD n 0 := by
  subst hn
  have : (Q.take (n + 1)).getD n 0 = (D.take (n + 1)).getD n 0 := by rw [h]
  simpa [List.getD_eq_getElem?_getD, List.getElem?_take] using this
theorem take_set_lt {Q : List Int} {m : Nat} {v : Int} : (Q.set m v).take m = Q.take m := by
  rw [List.take_set, List.set_eq_of_length_le (by rw [List.length_take]; omega)]

theorem rshr_ok : SpOK Try.prog 36 spRShr := by
  refine SpOK.NI fun xs n ⟨hx, hxl⟩ => ?_
  have hE := env (SOK.cons shift_ok (SOK.cons digits_ok (SOK.cons limbs_ok (SOK.nil (P := Try.prog)))))
  have hs := sh_le n
  obtain ⟨s, hse⟩ : ∃ s, sh n = s := ⟨_, rfl⟩
  rw [hse] at hs
  obtain ⟨q, hq⟩ : ∃ q, q = s / 32 := ⟨_, rfl⟩
  obtain ⟨l, hl⟩ : ∃ l, l = s % 32 := ⟨_, rfl⟩
  have hsq : s = 32 * q + l := by omega
  have hl32 : l < 32 := by omega
  have hq8 : q ≤ 256 := by omega
  have t1 : (s : Int) / 32 = q := by omega
  have t2 : (s : Int) % 32 = l := by omega
  clear hq hl
  have hpl : (1 : Int) * 2 ^ l = ((2 ^ l : Nat) : Int) := by rw [Int.one_mul]; exact (Int.natCast_pow 2 l).symm
  have hp32 : 2 ^ l < 4294967296 := by
    have := Nat.pow_lt_pow_right (show 1 < 2 by decide) hl32
    simpa using this
  obtain ⟨m, hm⟩ : ∃ m, 2 ^ l = m := ⟨_, rfl⟩
  have hm0 : 0 < m := by rw [← hm]; exact Nat.two_pow_pos l
  rw [hm] at hpl hp32
  have h1 := d32_len hx.1 (n := 200000000) (by omega)
  obtain ⟨N, hN⟩ : ∃ N, nb xs = N := ⟨_, rfl⟩
  rw [hN] at h1
  obtain ⟨d, hd⟩ : ∃ d, d32 N = d := ⟨_, rfl⟩
  have hdl : Lim B32 d := by rw [← hd]; exact lim_d32 _
  have hdn : nd d = N := by rw [← hd]; exact nd_d32 _
  rw [hd] at h1
  refine ACall.body hE Try.func36 Try.ntmps36 Try.results36 ?_
  rw [hse, hN]
  by_cases hql : d.length ≤ q
  · have h0 : dg (N / 2 ^ s) = [] := by rw [hsq, ← hdn, nd_over hdl hql]; exact digs_zero
    refine wk hE (And.intro hse (And.intro t1 (And.intro hN (And.intro hd (show (d.length : Int) ≤ q by omega))))) ?_
    refine PostL.mk trivial ?_
    rw [h0]
  · obtain ⟨D, hD⟩ : ∃ D, d.drop q = D := ⟨_, rfl⟩
    have hDl : D.length = d.length - q := by rw [← hD, List.length_drop]
    have hDL : Lim B32 D := by rw [← hD]; exact hdl.drop q
    have hDn : nd D = N / B32 ^ q := by rw [← hD, nd_drop_div hdl (by omega), hdn]
    have hres : N / B32 ^ q / m = N / 2 ^ s := by rw [hsq, pow_B32, Nat.div_div_eq_div_mul, hm]
    refine wk hE (And.intro hse (And.intro t1 (And.intro t2 (And.intro hN (And.intro hd (And.intro hD (And.intro hpl (show ¬ (d.length : Int) ≤ q by omega)))))))) ?_
    refine AWp.loop (ι := {p : Nat × List Int × Int // ShortR D p.2.1 (m : Int) p.2.2 p.1 ∧ p.2.1.take p.1 = D.take p.1}) (fun p => ⟨[(5, .os 24 1 0 D.length), (6, .raw (.int .u64 (m : Nat))), (7, .raw (.int .u64 p.1.2.2)), (8, .raw (.int .i64 ((p.1.1 : Int) - 1)))], [(24, ⟨true, .n .u64 p.1.2.1⟩)]⟩)
      (fun p => p.1.1) ⟨(D.length, D, 0), ShortR.start rfl hDL (by omega), rfl⟩ (Le.mk trivial) ?_
    rintro ⟨⟨k, Q, r⟩, hI, hT⟩
    dsimp only at hI hT ⊢
    have hQl := hI.hl
    have hkn := hI.hn
    have hr := hI.hr
    cases k with
    | succ k =>
      have hx1 : Q.getD k 0 = D.getD k 0 := getD_take hT rfl
      have l1 := lim32 hDL k
      obtain ⟨hst, d1, d2⟩ := hI.step hDL rfl
      obtain ⟨x, hxx⟩ : ∃ x, D.getD k 0 = x := ⟨_, rfl⟩
      rw [hxx] at hx1 l1 hst d1 d2
      obtain ⟨y, hy⟩ : ∃ y, r * 4294967296 + x = y := ⟨_, rfl⟩
      rw [hy] at hst d1 d2
      have hy1 : 0 ≤ y ∧ y < 18446744073709551616 := by omega
      obtain ⟨d', hd'⟩ : ∃ d', y / (m : Int) = d' := ⟨_, rfl⟩
      obtain ⟨r', hr'⟩ : ∃ r', y % (m : Int) = r' := ⟨_, rfl⟩
      rw [hd'] at hst d1 d2
      rw [hr'] at hst
      refine wk hE (And.intro hx1 (And.intro hy (And.intro hd' hr'))) ?_
      exact ⟨⟨(k, Q.set k d', r'), hst, by dsimp only; rw [take_set_lt]; have := congrArg (List.take k) hT; simpa [List.take_take, Nat.min_eq_left (Nat.le_succ k)] using this⟩, Le.mk trivial, by dsimp only; omega⟩
    | zero =>
      obtain ⟨d1, _⟩ := hI.done
      rw [hDn, Int.toNat_natCast, hres] at d1
      have hld : Ld Q := ⟨hI.hd, by omega⟩
      refine wk hE d1 ?_
      exact PostL.mk trivial rfl
end Go.Hl

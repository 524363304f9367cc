/- hairlineref01: times, Shl -/
import Derived.Test.YtccbmjkhplmgnaaHlRb
import Derived.Test.YtccbmjkhplmgnaaHlM
import Derived.Test.YtccbmjkhplmgnaaHlPb
set_option linter.unusedVariables false
set_option linter.unusedSimpArgs false
namespace Go.Hl
open Go Go.RowKit Go.Proofs
set_option maxHeartbeats 4000000

@[push_cast] def spTimes : Sp := spNU 0 (fun xs m => Ld xs ∧ xs.length < 1000000000 ∧ 0 ≤ m ∧ m < 4294967296) (fun xs m => .ns .u64 (d32 (nd xs * m.toNat)))

theorem times_ok : SpOK Try.prog 116 spTimes := by
  refine SpOK.NU fun A m ⟨hA, hAl, hm0, hm1⟩ => ?_
  have hE := env (SOK.cons trim32_ok (SOK.nil (P := Try.prog)))
  refine ACall.body hE Try.func116 Try.ntmps116 Try.results116 ?_
  refine wk hE trivial ?_
  refine AWp.bare 36 (.n .u64 []) trivial ?_
  refine AWp.loop (ι := {p : Nat × List Int × Int // TimR A p.2.1 m p.1 p.2.2}) (fun p => ⟨[(0, .ns .u64 A), (1, .raw (.int .u64 m)), (5, .os 36 1 0 p.1.1), (6, .raw (.int .u64 p.1.2.2)), (7, .raw (.int .i64 (p.1.1 : Nat)))], [(36, ⟨true, .n .u64 p.1.2.1⟩)]⟩)
    (fun p => A.length + 2 - p.1.1) ⟨(0, [], 0), rfl, Lim.nil, by dsimp only; omega, by simp [nd, nv], .inl (Nat.zero_le _)⟩ (Le.mk trivial) ?_
  rintro ⟨⟨i, out, c⟩, hI⟩
  dsimp only at hI ⊢
  have hol := hI.hl
  have hc := hI.hc
  have l1 := lim32 hA.1 i
  have hib : i ≤ A.length + 1 := by
    rcases hI.hi with g | g <;> omega
  by_cases hgo : i < A.length ∨ 0 < c
  · obtain ⟨hst, hp0, hp1⟩ := hI.step hA.1 ⟨hm0, hm1⟩ rfl hgo
    obtain ⟨x, hx⟩ : ∃ x, A.getD i 0 = x := ⟨_, rfl⟩
    rw [hx] at hst hp0 hp1 l1
    refine AWp.seq (AWp.join (ι := Unit) (fun _ => ⟨[(0, .ns .u64 A), (1, .raw (.int .u64 m)), (5, .os 36 1 0 i), (6, .raw (.int .u64 c)), (7, .raw (.int .i64 (i : Nat)))], [(36, ⟨true, .n .u64 out⟩)]⟩) ?_ ?_)
    · by_cases h1 : i < A.length
      · refine wk hE (show (i : Int) < A.length by omega) ?_
        exact ⟨(), Le.mk trivial⟩
      · refine wk hE (And.intro (show ¬ (i : Int) < A.length by omega) (show 0 < c by omega)) ?_
        exact ⟨(), Le.mk trivial⟩
    rintro ⟨⟩
    refine wk hE trivial ?_
    refine AWp.join (ι := Unit) (fun _ => ⟨[(0, .ns .u64 A), (1, .raw (.int .u64 m)), (5, .os 36 1 0 i), (7, .raw (.int .i64 (i : Nat))), (8, .raw (.int .u64 (c + x * m)))], [(36, ⟨true, .n .u64 out⟩)]⟩) ?_ ?_
    · by_cases h1 : i < A.length
      · refine wk hE (And.intro (show (i : Int) < A.length by omega) hx) ?_
        exact ⟨(), Le.mk trivial⟩
      · have hx0 : c + x * m = c := by rw [← hx, getD_over h1]; simp
        refine wk hE (show ¬ (i : Int) < A.length by omega) ?_
        exact ⟨(), Le.mk hx0⟩
    rintro ⟨⟩
    refine wk hE trivial ?_
    exact ⟨⟨(i + 1, _, _), hst⟩, Le.mk trivial, by dsimp only; omega⟩
  · have hc0 : c = 0 := by omega
    subst hc0
    have hr := hI.done (by omega)
    have hld : Ld out := ⟨hI.hd, by omega⟩
    refine wk hE (And.intro (show ¬ (i : Int) < A.length by omega) hr) ?_
    exact PostL.mk trivial rfl

theorem d32_mul1_len {N m n : Nat} (h : (d32 N).length ≤ n) (hm : m < 4294967296) : (d32 (N * m)).length ≤ n + 1 := by
  refine (digs_length_le (by decide) _ _).2 ?_
  have : N < B32 ^ n := (digs_length_le (B := B32) (by decide) _ _).1 h
  have h5 : N * m < B32 ^ n * B32 := Nat.mul_lt_mul'' this hm
  rw [Nat.pow_succ]
  exact h5

@[push_cast] def spRShl : Sp := spNI 0 (fun xs _ => Lm xs ∧ xs.length < 100000000) (fun xs n => .ns .u64 (dg (nb xs * 2 ^ sh n)))

theorem rshl_ok : SpOK Try.prog 34 spRShl := by
  refine SpOK.NI fun xs n ⟨hx, hxl⟩ => ?_
  have hE := env (SOK.cons shift_ok (SOK.cons digits_ok (SOK.cons times_ok (SOK.cons limbs_ok (SOK.nil (P := Try.prog))))))
  have hs := sh_le n
  obtain ⟨s, hse⟩ : ∃ s, sh n = s := ⟨_, rfl⟩
  rw [hse] at hs
  obtain ⟨q, hq⟩ : ∃ q, q = s / 32 := ⟨_, rfl⟩
  obtain ⟨l, hl⟩ : ∃ l, l = s % 32 := ⟨_, rfl⟩
  have hsq : s = 32 * q + l := by omega
  have hl32 : l < 32 := by omega
  have hq8 : q ≤ 256 := by omega
  have t1 : (s : Int) / 32 = q := by omega
  have t2 : (s : Int) % 32 = l := by omega
  clear hq hl
  have hpl : (1 : Int) * 2 ^ l = ((2 ^ l : Nat) : Int) := by rw [Int.one_mul]; exact (Int.natCast_pow 2 l).symm
  have hp32 : 2 ^ l < 4294967296 := by
    have := Nat.pow_lt_pow_right (show 1 < 2 by decide) hl32
    simpa using this
  obtain ⟨m, hm⟩ : ∃ m, 2 ^ l = m := ⟨_, rfl⟩
  rw [hm] at hpl hp32
  have h1 := d32_len hx.1 (n := 200000000) (by omega)
  have h3 := ld_d32 (n := nb xs) (by omega)
  have h4 : (d32 (nb xs * m)).length ≤ 200000000 + 1 := d32_mul1_len (Nat.le_of_lt h1) hp32
  obtain ⟨d, hd⟩ : ∃ d, d32 (nb xs * m) = d := ⟨_, rfl⟩
  have hdl : Lim B32 d := by rw [← hd]; exact lim_d32 _
  have hdn : nd d = nb xs * m := by rw [← hd]; exact nd_d32 _
  rw [hd] at h4
  have h7 : Ld (List.replicate q 0 ++ d) := ⟨(Lim.zeros (by decide) q).append hdl, by simp; omega⟩
  have h8 : nd (List.replicate q 0 ++ d) = nb xs * 2 ^ s := by
    rw [nd_app, nd_zeros, List.length_replicate, hdn, hsq, pow_B32, hm, Nat.zero_add]
    generalize nb xs = N
    generalize B32 ^ q = p
    grind
  have h9 : (List.replicate q (0 : Int) ++ d).length = q + d.length := by simp
  refine ACall.body hE Try.func34 Try.ntmps34 Try.results34 ?_
  rw [hse]
  refine wk hE (And.intro hse (And.intro t1 (And.intro t2 (And.intro hpl (And.intro hd h8))))) ?_
  exact PostL.mk trivial rfl
end Go.Hl

/- hairlineref01: times, Shl -/
import Derived.Test.YtccbmjkhplmgnaaDoorHlRb
import Derived.Test.YtccbmjkhplmgnaaDoorHlM
import Derived.Test.YtccbmjkhplmgnaaDoorHlPb
set_option linter.unusedVariables false
set_option linter.unusedSimpArgs false
namespace Go.Hl
open Go Go.RowKit Go.Proofs
set_option maxHeartbeats 4000000

@[push_cast] def spTimes : Sp := spNU 0 (fun xs m => Ld xs ∧ xs.length < 1000000000 ∧ 0 ≤ m ∧ m < 4294967296) (fun xs m => .ns .u64 (d32 (nd xs * m.toNat)))

theorem times_ok : SpOK Tryd.prog 66 spTimes := by
  refine SpOK.NU fun A m ⟨hA, hAl, hm0, hm1⟩ => ?_
  have hE := env (SOK.cons trim32_ok (SOK.nil (P := Tryd.prog)))
  refine ACall.body hE Tryd.func66 Tryd.ntmps66 Tryd.results66 ?_
  refine wk hE trivial ?_
  refine AWp.bare 36 (.n .u64 []) trivial ?_
  refine AWp.loop (ι := {p : Nat × List Int × Int // TimR A p.2.1 m p.1 p.2.2}) (fun p => ⟨[(0, .ns .u64 A), (1, .raw (.int .u64 m)), (5, .os 36 1 0 p.1.1), (6, .raw (.int .u64 p.1.2.2)), (7, .raw (.int .i64 (p.1.1 : Nat)))], [(36, ⟨true, .n .u64 p.1.2.1⟩)]⟩)
    (fun p => A.length + 2 - p.1.1) ⟨(0, [], 0), rfl, Lim.nil, by dsimp only; omega, by simp [nd, nv], .inl (Nat.zero_le _)⟩ (Le.mk trivial) ?_
  rintro ⟨⟨i, out, c⟩, hI⟩
  dsimp only at hI ⊢
  have hol := hI.hl
  have hc := hI.hc
  have l1 := lim32 hA.1 i
  have hib : i ≤ A.length + 1 := by
    rcases hI.hi with g | g <;> omega
  by_cases hgo : i < A.length ∨ 0 < c
  · obtain ⟨hst, hp0, hp1⟩ := hI.step hA.1 ⟨hm0, hm1⟩ rfl hgo
    obtain ⟨x, hx⟩ : ∃ x, A.getD i 0 = x := ⟨_, rfl⟩
    rw [hx] at hst hp0 hp1 l1
    refine AWp.seq (AWp.join (ι := Unit) (fun _ => ⟨[(0, .ns .u64 A), (1, .raw (.int .u64 m)), (5, .os 36 1 0 i), (6, .raw (.int .u64 c)), (7, .raw (.int .i64 (i : Nat)))], [(36, ⟨true, .n .u64 out⟩)]⟩) ?_ ?_)
    · by_cases h1 : i < A.length
      · refine wk hE (show (i : Int) < A.length by omega) ?_
        exact ⟨(), Le.mk trivial⟩
      · refine wk hE (And.intro (show ¬ (i : Int) < A.length by omega) (show 0 < c by omega)) ?_
        exact ⟨(), Le.mk trivial⟩
    rintro ⟨⟩
    refine wk hE trivial ?_
    refine AWp.join (ι := Unit) (fun _ => ⟨[(0, .ns .u64 A), (1, .raw (.int .u64 m)), (5, .os 36 1 0 i), (7, .raw (.int .i64 (i : Nat))), (8, .raw (.int .u64 (c + x * m)))], [(36, ⟨true, .n .u64 out⟩)]⟩) ?_ ?_
    · by_cases h1 : i < A.length
      · refine wk hE (And.intro (show (i : Int) < A.length by omega) hx) ?_
        exact ⟨(), Le.mk trivial⟩
      · have hx0 : c + x * m = c := by rw [← hx, getD_over h1]; simp
        refine wk hE (show ¬ (i : Int) < A.length by omega) ?_
        exact ⟨(), Le.mk hx0⟩
    rintro ⟨⟩
    refine wk hE trivial ?_
    exact ⟨⟨(i + 1, _, _), hst⟩, Le.mk trivial, by dsimp only; omega⟩
  · have hc0 : c = 0 := by omega
    subst hc0
    have hr := hI.done (by omega)
    have hld : Ld out := ⟨hI.hd, by omega⟩
    refine wk hE (And.intro (show ¬ (i : Int) < A.length by omega) hr) ?_
    exact PostL.mk trivial rfl

theorem d32_mul1_len {N m n : Nat} (h : (d32 N).length ≤ n) (hm : m < 4294967296) : (d32 (N * m)).length ≤ n + 1 := by
  refine (digs_length_le (by decide) _ _).2 ?_
  have : N < B32 ^ n := (digs_length_le (B := B32) (by decide) _ _).1 h
  have h5 : N * m < B32 ^ n * B32 := Nat.mul_lt_mul'' this hm
  rw [Nat.pow_succ]
  exact h5

@[push_cast] def spRShl : Sp := spNI 0 (fun xs _ => Lm xs ∧ xs.length < 100000000) (fun xs n => .ns .u64 (dg (nb xs * 2 ^ sh n)))

end Go.Hl

/- hairlineref01: add, sub, Add, Sub hairlineref01: sub, Sub hairlineref01: mul, Mul -/
import Derived.Test.YtccbmjkhplmgnaaGreatHlRa
import Derived.Test.YtccbmjkhplmgnaaGreatHlM
set_option linter.unusedVariables false
set_option linter.unusedSimpArgs false
namespace Go.Hl
open Go Go.RowKit Go.Proofs
set_option maxHeartbeats 4000000
@[push_cast] def spAdd32 : Sp := spNN 0 (fun xs ys => Ld xs ∧ Top xs ∧ Ld ys ∧ Top ys ∧ xs.length < 1000000000 ∧ ys.length < 1000000000) (fun xs ys => .ns .u64 (d32 (nd xs + nd ys)))
theorem getD_over {xs : List Int} {i : Nat} (h : ¬ i < xs.length) : xs.getD i 0 = 0 := by
  rw [List.getD_eq_getElem?_getD, List.getElem?_eq_none (by omega)]; rfl
theorem add32_ok : SpOK Tryz.prog 96 spAdd32 := by
  refine SpOK.NN fun A C ⟨hA, tA, hC, tC, hAl, hCl⟩ => ?_
  have hE := env (SOK.nil (P := Tryz.prog))
  refine ACall.body hE Tryz.func96 Tryz.ntmps96 Tryz.results96 ?_
  refine wk hE trivial ?_
  refine AWp.bare 50 (.n .u64 []) trivial ?_
  refine AWp.loop (ι := {p : Nat × List Int × Int // AddR A C p.2.1 p.1 p.2.2}) (fun p => ⟨[(0, .ns .u64 A), (1, .ns .u64 C), (5, .os 50 1 0 p.1.1), (6, .raw (.int .u64 p.1.2.2)), (7, .raw (.int .i64 (p.1.1 : Nat)))], [(50, ⟨true, .n .u64 p.1.2.1⟩)]⟩)
    (fun p => A.length + C.length + 2 - p.1.1) ⟨(0, [], 0), rfl, Lim.nil, by dsimp only; omega, by simp [nd, nv], .inl (Nat.zero_le _)⟩ (Le.mk trivial) ?_
  rintro ⟨⟨i, out, c⟩, hI⟩
  dsimp only at hI ⊢
  have hol := hI.hl
  have hc := hI.hc
  have l1 := lim32 hA.1 i
  have l2 := lim32 hC.1 i
  have hib : i ≤ A.length + C.length + 1 := by
    rcases hI.hi with g | g | ⟨_, j, g, _, _, g2, _⟩ <;> omega
  by_cases hgo : i < A.length ∨ i < C.length ∨ 0 < c
  · have hst := hI.step hA.1 hC.1 rfl rfl hgo
    obtain ⟨x, hx⟩ : ∃ x, A.getD i 0 = x := ⟨_, rfl⟩
    obtain ⟨y, hy⟩ : ∃ y, C.getD i 0 = y := ⟨_, rfl⟩
    rw [hx, hy] at hst
    rw [hx] at l1
    rw [hy] at l2
    have hib2 : i + 1 ≤ A.length + C.length + 2 := by omega
    refine AWp.seq (AWp.join (ι := Unit) (fun _ => ⟨[(0, .ns .u64 A), (1, .ns .u64 C), (5, .os 50 1 0 i), (6, .raw (.int .u64 c)), (7, .raw (.int .i64 (i : Nat)))], [(50, ⟨true, .n .u64 out⟩)]⟩) ?_ ?_)
    · by_cases h1 : i < A.length
      · refine wk hE (show (i : Int) < A.length by omega) ?_
        exact ⟨(), Le.mk trivial⟩
      by_cases h2 : i < C.length
      · refine wk hE (And.intro (show ¬ (i : Int) < A.length by omega) (show (i : Int) < C.length by omega)) ?_
        exact ⟨(), Le.mk trivial⟩
      · refine wk hE (And.intro (show ¬ (i : Int) < A.length by omega) (And.intro (show ¬ (i : Int) < C.length by omega) (show 0 < c by omega))) ?_
        exact ⟨(), Le.mk trivial⟩
    rintro ⟨⟩
    refine wk hE trivial ?_
    refine AWp.join (ι := Unit) (fun _ => ⟨[(0, .ns .u64 A), (1, .ns .u64 C), (5, .os 50 1 0 i), (7, .raw (.int .i64 (i : Nat))), (8, .raw (.int .u64 (c + x)))], [(50, ⟨true, .n .u64 out⟩)]⟩) ?_ ?_
    · by_cases h1 : i < A.length
      · refine wk hE (And.intro (show (i : Int) < A.length by omega) hx) ?_
        exact ⟨(), Le.mk trivial⟩
      · have hx0 : c + x = c := by rw [← hx, getD_over h1]; omega
        refine wk hE (show ¬ (i : Int) < A.length by omega) ?_
        exact ⟨(), Le.mk hx0⟩
    rintro ⟨⟩
    refine wk hE trivial ?_
    refine AWp.join (ι := Unit) (fun _ => ⟨[(0, .ns .u64 A), (1, .ns .u64 C), (5, .os 50 1 0 i), (7, .raw (.int .i64 (i : Nat))), (8, .raw (.int .u64 (c + x + y)))], [(50, ⟨true, .n .u64 out⟩)]⟩) ?_ ?_
    · by_cases h2 : i < C.length
      · refine wk hE (And.intro (show (i : Int) < C.length by omega) hy) ?_
        exact ⟨(), Le.mk trivial⟩
      · have hy0 : c + x + y = c + x := by rw [← hy, getD_over h2]; omega
        refine wk hE (show ¬ (i : Int) < C.length by omega) ?_
        exact ⟨(), Le.mk hy0⟩
    rintro ⟨⟩
    refine wk hE trivial ?_
    exact ⟨⟨(i + 1, _, _), hst⟩, Le.mk trivial, by dsimp only; omega⟩
  · have hc0 : c = 0 := by omega
    subst hc0
    have hr := hI.done hA.1 hC.1 tA tC (by omega) (by omega)
    refine wk hE (And.intro (show ¬ (i : Int) < A.length by omega) (show ¬ (i : Int) < C.length by omega)) ?_
    refine PostL.mk trivial ?_
    rw [← hr]
@[push_cast] def spRAdd : Sp := spNN 0 (fun xs ys => Lm xs ∧ Lm ys ∧ xs.length < 200000000 ∧ ys.length < 200000000) (fun xs ys => .ns .u64 (dg (nb xs + nb ys)))
theorem d32_add_len {a b n : Nat} (ha : (d32 a).length < n) (hb : (d32 b).length < n) : (d32 (a + b)).length < n + 1 := by
  have h1 : a < B32 ^ (n - 1) := (digs_length_le (B := B32) (by decide) a _).1 (by unfold d32 at ha; omega)
  have h2 : b < B32 ^ (n - 1) := (digs_length_le (B := B32) (by decide) b _).1 (by unfold d32 at hb; omega)
  refine Nat.lt_succ_of_le ((digs_length_le (by decide) _ _).2 ?_)
  obtain ⟨m, rfl⟩ : ∃ m, n = m + 1 := ⟨n - 1, by omega⟩
  rw [Nat.add_sub_cancel] at h1 h2
  rw [Nat.pow_succ]
  have : B32 ^ m * 2 ≤ B32 ^ m * B32 := Nat.mul_le_mul_left _ (by decide)
  omega
theorem radd_ok : SpOK Tryz.prog 73 spRAdd := by
  refine SpOK.NN fun xs ys ⟨hx, hy, hxl, hyl⟩ => ?_
  have hE := env (SOK.cons digits_ok (SOK.cons add32_ok (SOK.cons limbs_ok (SOK.nil (P := Tryz.prog)))))
  have h1 := d32_len hx.1 (n := 400000000) (by omega)
  have h2 := d32_len hy.1 (n := 400000000) (by omega)
  have h3 := ld_d32 (n := nb xs) (by omega)
  have h4 := ld_d32 (n := nb ys) (by omega)
  have h5 := top_d32 (nb xs)
  have h6 := top_d32 (nb ys)
  have h7 := d32_add_len h1 h2
  have h8 := ld_d32 (n := nb xs + nb ys) (by omega)
  refine ACall.body hE Tryz.func73 Tryz.ntmps73 Tryz.results73 ?_
  refine wk hE trivial ?_
  exact PostL.mk trivial rfl
end Go.Hl

namespace Go.Hl
open Go Go.RowKit Go.Proofs
set_option maxHeartbeats 4000000
@[push_cast] def spSub32 : Sp := spNN 0 (fun xs ys => Ld xs ∧ Ld ys ∧ xs.length < 1000000000 ∧ ys.length ≤ xs.length ∧ nd ys ≤ nd xs) (fun xs ys => .ns .u64 (d32 (nd xs - nd ys)))
theorem sub32_ok : SpOK Tryz.prog 94 spSub32 := by
  refine SpOK.NN fun A C ⟨hA, hC, hAl, hCl, hle⟩ => ?_
  have hE := env (SOK.cons trim32_ok (SOK.nil (P := Tryz.prog)))
  refine ACall.body hE Tryz.func94 Tryz.ntmps94 Tryz.results94 ?_
  refine wk hE trivial ?_
  refine AWp.bare 41 (.n .u64 []) trivial ?_
  refine AWp.loop (ι := {p : Nat × List Int × Int // SubR A C p.2.1 p.1 p.2.2}) (fun p => ⟨[(0, .ns .u64 A), (1, .ns .u64 C), (5, .os 41 1 0 p.1.1), (6, .raw (.int .u64 p.1.2.2)), (7, .raw (.int .i64 (p.1.1 : Nat)))], [(41, ⟨true, .n .u64 p.1.2.1⟩)]⟩)
    (fun p => A.length - p.1.1) ⟨(0, [], 0), Nat.zero_le _, rfl, Lim.nil, by dsimp only; omega, by simp [nd, nv]⟩ (Le.mk trivial) ?_
  rintro ⟨⟨i, out, b⟩, hI⟩
  dsimp only at hI ⊢
  have hol := hI.hl
  have hb := hI.hb
  have l1 := lim32 hA.1 i
  have l2 := lim32 hC.1 i
  by_cases hi : i < A.length
  · obtain ⟨x, hx⟩ : ∃ x, A.getD i 0 = x := ⟨_, rfl⟩
    obtain ⟨y, hy⟩ : ∃ y, C.getD i 0 = y := ⟨_, rfl⟩
    rw [hx] at l1
    rw [hy] at l2
    refine wk hE (show (i : Int) < A.length by omega) ?_
    refine AWp.join (ι := Unit) (fun _ => ⟨[(0, .ns .u64 A), (1, .ns .u64 C), (5, .os 41 1 0 i), (7, .raw (.int .i64 (i : Nat))), (8, .raw (.int .u64 (b + y)))], [(41, ⟨true, .n .u64 out⟩)]⟩) ?_ ?_
    · by_cases h2 : i < C.length
      · refine wk hE (And.intro (show (i : Int) < C.length by omega) hy) ?_
        exact ⟨(), Le.mk trivial⟩
      · have hy0 : b + y = b := by rw [← hy, getD_over h2]; omega
        refine wk hE (show ¬ (i : Int) < C.length by omega) ?_
        exact ⟨(), Le.mk hy0⟩
    rintro ⟨⟩
    by_cases hlt : x < b + y
    · have hst := hI.step (d := x + 4294967296 - (b + y)) (b' := 1) hA.1 hC.1 hi hx.symm hy.symm (by omega) (by omega) (by omega)
      refine wk hE (And.intro hx hlt) ?_
      exact ⟨⟨(i + 1, _, _), hst⟩, Le.mk trivial, by dsimp only; omega⟩
    · have hst := hI.step (d := x - (b + y)) (b' := 0) hA.1 hC.1 hi hx.symm hy.symm (by omega) (by omega) (by omega)
      refine wk hE (And.intro hx hlt) ?_
      exact ⟨⟨(i + 1, _, _), hst⟩, Le.mk trivial, by dsimp only; omega⟩
  · have hil : i = A.length := by have := hI.hi; omega
    subst hil
    have hr := hI.done hCl hle
    have hld : Ld out := ⟨hI.hd, by omega⟩
    refine wk hE (And.intro (show ¬ (A.length : Int) < A.length by omega) hr) ?_
    exact PostL.mk trivial rfl
@[push_cast] def spRSub : Sp := spNN 0 (fun xs ys => Lm xs ∧ Lm ys ∧ xs.length < 200000000 ∧ ys.length < 200000000) (fun xs ys => .tup [.ns .u64 (dg (nb xs - nb ys)), .raw (.bool (decide (nb ys ≤ nb xs)))])
theorem rsub_ok : SpOK Tryz.prog 71 spRSub := by
  refine SpOK.NN fun xs ys ⟨hx, hy, hxl, hyl⟩ => ?_
  have hE := env (SOK.cons digits_ok (SOK.cons cmpd_ok (SOK.cons sub32_ok (SOK.cons limbs_ok (SOK.nil (P := Tryz.prog))))))
  have h1 := d32_len hx.1 (n := 400000000) (by omega)
  have h2 := d32_len hy.1 (n := 400000000) (by omega)
  have h3 := ld_d32 (n := nb xs) (by omega)
  have h4 := ld_d32 (n := nb ys) (by omega)
  have h5 := top_d32 (nb xs)
  have h6 := top_d32 (nb ys)
  refine ACall.body hE Tryz.func71 Tryz.ntmps71 Tryz.results71 ?_
  by_cases h : nb xs < nb ys
  · have e1 : cmpI (nb xs) (nb ys) = -1 := by unfold cmpI; rw [if_pos h]
    have e2 : dg (nb xs - nb ys) = [] := by rw [Nat.sub_eq_zero_of_le (by omega)]; exact digs_zero
    refine wk hE e1 ?_
    refine PostL.mk trivial ?_
    rw [e2, decide_eq_false (by omega)]
  · have e1 : ¬ cmpI (nb xs) (nb ys) < 0 := by unfold cmpI; rw [if_neg h]; split <;> decide
    have hle : (d32 (nb ys)).length ≤ (d32 (nb xs)).length := by
      have := nv_lt_of_len (B := B32) (by decide) h3.1 h4.1 h6
      have q1 : nv B32 (d32 (nb xs)) = nb xs := nd_d32 _
      have q2 : nv B32 (d32 (nb ys)) = nb ys := nd_d32 _
      omega
    have hnn : nb ys ≤ nb xs := by omega
    have h9 : (d32 (nb xs - nb ys)).length ≤ (d32 (nb xs)).length :=
      (digs_length_le (by decide) _ _).2 (Nat.lt_of_le_of_lt (Nat.sub_le _ _) ((digs_length_le (B := B32) (by decide) (nb xs) _).1 (Nat.le_refl _)))
    have h8 := ld_d32 (n := nb xs - nb ys) (by omega)
    refine wk hE e1 ?_
    refine PostL.mk trivial ?_
    rw [decide_eq_true hnn]
end Go.Hl

namespace Go.Hl
open Go Go.RowKit Go.Proofs
set_option maxHeartbeats 4000000
@[push_cast] def spMul32 : Sp := spNN 0 (fun xs ys => Ld xs ∧ Ld ys ∧ xs.length < 1000000000 ∧ ys.length < 1000000000) (fun xs ys => .ns .u64 (d32 (nd xs * nd ys)))
structure MulRO (A C out : List Int) (i : Nat) : Prop where
  hi : i ≤ A.length
  hl : out.length = A.length + C.length + 1
  hd : Lim B32 out
  hz : ∀ j, i + C.length ≤ j → out.getD j 0 = 0
  he : nd out = nd (A.take i) * nd C
theorem mul32_ok : SpOK Tryz.prog 101 spMul32 := by
  refine SpOK.NN fun A C ⟨hA, hC, hAl, hCl⟩ => ?_
  have hE := env (SOK.cons trim32_ok (SOK.nil (P := Tryz.prog)))
  refine ACall.body hE Tryz.func101 Tryz.ntmps101 Tryz.results101 ?_
  have tn : ((A.length : Int) + (C.length : Int) + 1).toNat = A.length + C.length + 1 := by omega
  refine wk hE tn ?_
  refine AWp.loop (ι := {p : Nat × List Int // MulRO A C p.2 p.1}) (fun p => ⟨[(0, .ns .u64 A), (1, .ns .u64 C), (5, .os 16 1 0 (A.length + C.length + 1)), (6, .raw (.int .i64 (p.1.1 : Nat)))], [(16, ⟨true, .n .u64 p.1.2⟩)]⟩)
    (fun p => A.length - p.1.1) ⟨(0, List.replicate (A.length + C.length + 1) 0), by dsimp only; omega, by simp, Lim.zeros (by decide) _, ?_, by simp only [nd_zeros, List.take_zero, nd, nv_nil, nv_zeros, Nat.zero_mul]⟩ (Le.mk trivial) ?_
  · intro j _
    simp only [List.getD_eq_getElem?_getD, List.getElem?_replicate]
    split <;> rfl
  rintro ⟨⟨i, out0⟩, hO⟩
  dsimp only at hO ⊢
  have hol := hO.hl
  have hAi := lim32 hA.1 i
  by_cases hi : i < A.length
  · refine wk hE (show (i : Int) < A.length by omega) ?_
    refine AWp.loop (ι := {p : Nat × List Int × Int // MulR A C p.2.1 (A.getD i 0) i p.1 p.2.2}) (fun p => ⟨[(0, .ns .u64 A), (1, .ns .u64 C), (5, .os 16 1 0 (A.length + C.length + 1)), (6, .raw (.int .i64 (i : Nat))), (7, .raw (.int .u64 p.1.2.2)), (8, .raw (.int .i64 (p.1.1 : Nat)))], [(16, ⟨true, .n .u64 p.1.2.1⟩)]⟩)
      (fun p => C.length - p.1.1) ⟨(0, out0, 0), by dsimp only; omega, hO.hl, hO.hd, by dsimp only; omega, hO.hz, by dsimp only; rw [hO.he]; simp [nd, nv]⟩ (Le.mk trivial) ?_
    rintro ⟨⟨k, out, c⟩, hI⟩
    dsimp only at hI ⊢
    have hl2 := hI.hl
    have hCk := lim32 hC.1 k
    have hok := lim32 hI.hd (i + k)
    have hc := hI.hc
    by_cases hk : k < C.length
    · have tn2 : ((i : Int) + (k : Int)).toNat = i + k := by omega
      obtain ⟨hst, hp0, hp1⟩ := hI.step hC.1 hi hAi hk rfl rfl
      refine wk hE (And.intro (show (k : Int) < C.length by omega) tn2) ?_
      exact ⟨⟨(k + 1, _, _), hst⟩, Le.mk trivial, by dsimp only; omega⟩
    · have hkl : k = C.length := by have := hI.hk; omega
      subst hkl
      have tn2 : ((i : Int) + (C.length : Int)).toNat = i + C.length := by omega
      obtain ⟨d1, d2, d3, d4⟩ := hI.done hi rfl
      have hz := hI.hz _ (Nat.le_refl (i + C.length))
      refine wk hE (And.intro (show ¬ (C.length : Int) < C.length by omega) (And.intro tn2 (And.intro hz (Int.zero_add c)))) ?_
      exact ⟨⟨(i + 1, _), ⟨hi, d1, d2, d3, d4⟩⟩, Le.mk trivial, by dsimp only; omega⟩
  · have hil : i = A.length := by have := hO.hi; omega
    subst hil
    have hv := hO.he
    rw [List.take_length] at hv
    have hld : Ld out0 := ⟨hO.hd, by omega⟩
    refine wk hE (And.intro (show ¬ (A.length : Int) < A.length by omega) hv) ?_
    exact PostL.mk trivial rfl
@[push_cast] def spRMul : Sp := spNN 0 (fun xs ys => Lm xs ∧ Lm ys ∧ xs.length < 100000000 ∧ ys.length < 100000000) (fun xs ys => .ns .u64 (dg (nb xs * nb ys)))
theorem d32_mul_len {a b n : Nat} (ha : (d32 a).length ≤ n) (hb : (d32 b).length ≤ n) : (d32 (a * b)).length ≤ n + n := by
  have h1 : a < B32 ^ n := (digs_length_le (B := B32) (by decide) a _).1 ha
  have h2 : b < B32 ^ n := (digs_length_le (B := B32) (by decide) b _).1 hb
  refine (digs_length_le (by decide) _ _).2 ?_
  rw [Nat.pow_add]
  exact Nat.mul_lt_mul'' h1 h2
theorem rmul_ok : SpOK Tryz.prog 84 spRMul := by
  refine SpOK.NN fun xs ys ⟨hx, hy, hxl, hyl⟩ => ?_
  have hE := env (SOK.cons digits_ok (SOK.cons mul32_ok (SOK.cons limbs_ok (SOK.nil (P := Tryz.prog)))))
  have h1 := d32_len hx.1 (n := 200000000) (by omega)
  have h2 := d32_len hy.1 (n := 200000000) (by omega)
  have h3 := ld_d32 (n := nb xs) (by omega)
  have h4 := ld_d32 (n := nb ys) (by omega)
  have h7 := d32_mul_len (n := 200000000) (Nat.le_of_lt h1) (Nat.le_of_lt h2)
  have h8 := ld_d32 (n := nb xs * nb ys) (by omega)
  refine ACall.body hE Tryz.func84 Tryz.ntmps84 Tryz.results84 ?_
  refine wk hE trivial ?_
  exact PostL.mk trivial rfl
end Go.Hl

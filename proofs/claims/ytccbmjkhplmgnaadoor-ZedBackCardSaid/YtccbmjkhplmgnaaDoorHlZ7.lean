/- zed.Small; hairlinelaw02: shown -/
import Derived.Test.YtccbmjkhplmgnaaDoorHlZ6
import Derived.Test.YtccbmjkhplmgnaaDoorHlL1
set_option linter.unusedVariables false
set_option linter.unusedSimpArgs false
namespace Go.Hl
open Go Go.RowKit Go.Proofs
set_option maxHeartbeats 8000000

def fits64 (z : Int) : Bool := decide (-9223372036854775808 ≤ z ∧ z < 9223372036854775808)
@[push_cast] def spSmall : Sp := spZ 0 (fun _ x => Lm x ∧ x.length < 10000000) (fun b x => .tup [.raw (.int .i64 (if fits64 (zv b x) = true then zv b x else 0)), .raw (.bool (fits64 (zv b x)))])

theorem wrap_top {n : Int} (h1 : 9223372036854775808 ≤ n) (h2 : n < 18446744073709551616) : IntKind.i64.wrap n = n - 18446744073709551616 := by
  rw [IntKind.wrap_i64]; omega
theorem small_ok : SpOK Tryd.prog 19 spSmall := by
  refine SpOK.Z fun b x ⟨hx, hxl⟩ => ?_
  have hE := env (SOK.cons norm0_ok (SOK.nil (P := Tryd.prog)))
  have hd := dg_len_lt hx hxl
  refine ACall.body hE Tryd.func19 Tryd.ntmps19 Tryd.results19 ?_
  unfold zv
  obtain ⟨N, hN⟩ : ∃ N, nb x = N := ⟨_, rfl⟩
  rw [hN] at hd ⊢
  by_cases h0 : N = 0
  · have hz : (((dg N).length : Int) == 0) = true := by rw [h0, dg_zero]; rfl
    refine wk hE (And.intro hN hz) ?_
    refine PostL.mk trivial ?_
    rw [(zs_zero b N).2 h0]; rfl
  have hz : (((dg N).length : Int) == 0) = false := by
    have := List.length_pos_iff.2 (fun h => h0 (dg_nil.1 h))
    rw [beq_eq_false_iff_ne]; omega
  have hl0 : 0 < (dg N).length := List.length_pos_iff.2 (fun h => h0 (dg_nil.1 h))
  by_cases h1 : N < 18446744073709551616
  · have hl1 : (dg N).length = 1 := by
      have := dg_one h1; omega
    have hgd := dg_getD h1
    have hl2 : ¬ (1 : Int) < (dg N).length := by omega
    cases b
    · have hzs : zs false N = (N : Int) := rfl
      by_cases h2 : N < 9223372036854775808
      · have hf : fits64 (zs false N) = true := by rw [hzs]; exact decide_eq_true (by omega)
        have e1 : IntKind.i64.wrap (N : Int) = N := w64 (by omega) (by omega)
        refine wk hE (And.intro hN (And.intro hz (And.intro hgd (And.intro e1 (And.intro hl2 (show ¬ (N : Int) < 0 by omega)))))) ?_
        refine PostL.mk trivial ?_
        rw [hf]; rfl
      · have hf : fits64 (zs false N) = false := by rw [hzs]; exact decide_eq_false (by omega)
        obtain ⟨v, hv⟩ : ∃ v, IntKind.i64.wrap (N : Int) = v := ⟨_, rfl⟩
        have hv0 : v < 0 := by rw [← hv, IntKind.wrap_i64]; omega
        refine wk hE (And.intro hN (And.intro hz (And.intro hgd (And.intro hv (And.intro hl2 hv0))))) ?_
        refine PostL.mk trivial ?_
        rw [hf]; rfl
    · have hzs : zs true N = -(N : Int) := rfl
      obtain ⟨v, hv⟩ : ∃ v, IntKind.i64.wrap (N : Int) = v := ⟨_, rfl⟩
      obtain ⟨u, hu⟩ : ∃ u, IntKind.i64.wrap (0 - v) = u := ⟨_, rfl⟩
      by_cases h2 : N ≤ 9223372036854775808
      · have hf : fits64 (zs true N) = true := by rw [hzs]; exact decide_eq_true (by omega)
        have hu0 : u = -(N : Int) := by
          rcases Nat.lt_or_ge N 9223372036854775808 with h3 | h3
          · rw [w64 (by omega) (by omega)] at hv
            rw [← hv, w64 (by omega) (by omega)] at hu
            omega
          · rw [wrap_top (by omega) (by omega)] at hv
            have h4 : (0 : Int) - v = 9223372036854775808 := by omega
            rw [h4, wrap_top (by omega) (by omega)] at hu
            omega
        subst hu0
        refine wk hE (And.intro hN (And.intro hz (And.intro hgd (And.intro hv (And.intro hu (And.intro hl2 (show -(N : Int) < 0 by omega))))))) ?_
        refine PostL.mk trivial ?_
        rw [hf]; rfl
      · have hf : fits64 (zs true N) = false := by rw [hzs]; exact decide_eq_false (by omega)
        have hu0 : ¬ u < 0 := by
          rw [wrap_top (by omega) (by omega)] at hv
          rw [w64 (by omega) (by omega)] at hu
          omega
        refine wk hE (And.intro hN (And.intro hz (And.intro hgd (And.intro hv (And.intro hu (And.intro hl2 hu0)))))) ?_
        refine PostL.mk trivial ?_
        rw [hf]; rfl
  · have hl2 : (1 : Int) < (dg N).length := by
      have : ¬ (dg N).length ≤ 1 := fun h => h1 (by have := (digs_length_le (B := B64) (by decide) N 1).1 h; rwa [Nat.pow_one] at this)
      omega
    have hgd := lim64 (lim_digs (B := B64) (by decide) N) 0
    have hf : fits64 (zs b N) = false := by
      refine decide_eq_false ?_
      unfold zs; split <;> omega
    obtain ⟨v, hv⟩ : ∃ v, (dg N).getD 0 0 = v := ⟨_, rfl⟩
    cases b
    · refine wk hE (And.intro hN (And.intro hz (And.intro hv hl2))) ?_
      refine PostL.mk trivial ?_
      rw [hf]; rfl
    · refine wk hE (And.intro hN (And.intro hz (And.intro hv hl2))) ?_
      refine PostL.mk trivial ?_
      rw [hf]; rfl

theorem zv_lit (z : Int) {b : Bool} {n : Nat} (h : zs b n = z) : zv b (dg n) = z := by rw [zv_dg, h]
theorem digs10_one {n : Nat} (h : n < 10) (h0 : n ≠ 0) : digs 10 n = [(n : Int)] := by
  rw [digs_pos (by decide) h0, Nat.div_eq_of_lt h, digs_zero, Nat.mod_eq_of_lt h]
theorem textL_one {n : Nat} (h : n < 10) (h0 : n ≠ 0) : textL n = [UInt8.ofNat (48 + n)] ∧ textL (-(n : Int)) = [45, UInt8.ofNat (48 + n)] := by
  have e : dx n = [UInt8.ofNat (48 + n)] := by unfold dx; rw [digs10_one h h0]; rfl
  constructor
  · unfold textL
    rw [if_neg (by omega), if_neg (by omega), Int.natAbs_natCast, e]; rfl
  · unfold textL
    rw [if_neg (by omega), if_pos (by omega), Int.natAbs_neg, Int.natAbs_natCast, e]; rfl

@[push_cast] def spShown2 : Sp := sp0 0 (.raw (.bool true))
theorem shown2_ok : SpOK Tryd.prog 5 spShown2 := by
  refine SpOK.O ?_
  have hE := env (SOK.cons of_ok (SOK.cons zdivmod_ok (SOK.cons round_ok (SOK.cons up_ok (SOK.cons small_ok (SOK.cons zshr_ok (SOK.cons text_ok (SOK.nil (P := Tryd.prog)))))))))
  refine ACall.body hE Tryd.func5 Tryd.ntmps5 Tryd.results5 ?_
  have a1 : zv true (dg (Int.natAbs (-7))) = -7 := zv_lit _ rfl
  have a2 : zv false (dg (Int.natAbs 2)) = 2 := zv_lit _ rfl
  have a3 : zv true (dg (Int.natAbs (-2))) = -2 := zv_lit _ rfl
  have a4 : zv false (dg (Int.natAbs 7)) = 7 := zv_lit _ rfl
  have a5 : zv true (dg (Int.natAbs (-5))) = -5 := zv_lit _ rfl
  have b1 : zv true (dg (Int.natAbs (-4))) = -4 := zv_lit _ rfl
  have b2 : zv false (dg (Int.natAbs 1)) = 1 := zv_lit _ rfl
  have b3 : zv false (dg (Int.natAbs 4)) = 4 := zv_lit _ rfl
  have b4 : zv true (dg (Int.natAbs (-3))) = -3 := zv_lit _ rfl
  have b5 : zv false [9223372036854775808] = 9223372036854775808 := by simp [zv, zs, nb, nv]
  have lms : ∀ n : Nat, n < 18446744073709551616 → Lm (dg n) ∧ (dg n).length ≤ 1 := fun n h => ⟨lm_dg (by have := dg_one h; omega), dg_one h⟩
  obtain ⟨c1, c1'⟩ := lms (Int.natAbs (-7)) (by decide)
  obtain ⟨c2, c2'⟩ := lms (Int.natAbs 2) (by decide)
  obtain ⟨c3, c3'⟩ := lms (Int.natAbs (-2)) (by decide)
  obtain ⟨c4, c4'⟩ := lms (Int.natAbs 7) (by decide)
  obtain ⟨c5, c5'⟩ := lms (Int.natAbs (-5)) (by decide)
  obtain ⟨c6, c6'⟩ := lms (Int.natAbs (-4)) (by decide)
  obtain ⟨c7, c7'⟩ := lms (Int.natAbs 1) (by decide)
  obtain ⟨c8, c8'⟩ := lms (Int.natAbs 4) (by decide)
  obtain ⟨c9, c9'⟩ := lms (Int.natAbs (-3)) (by decide)
  have c10 : Lm [9223372036854775808] := ⟨lim1 (by omega), by simp⟩
  have d1 : (-7 : Int) / 2 = -4 := by decide
  have d2 : rz (-7) 2 = 1 := by decide
  have d3 : (-7 : Int) / (-2) = 4 := by decide
  have d4 : rz (-7) (-2) = 1 := by decide
  have d5 : (-12 : Int) / 4 = -3 := by decide
  have d6 : -((-7 : Int).fdiv 2) = 4 := by decide
  have d7 : (-5 : Int) / 2 ^ sh 1 = -3 := by decide
  have d8 : fits64 9223372036854775808 = false := by decide
  have t1 := (textL_one (n := 4) (by decide) (by decide)).2
  have t2 := (textL_one (n := 1) (by decide) (by decide)).1
  have t3 := (textL_one (n := 4) (by decide) (by decide)).1
  have t4 := (textL_one (n := 3) (by decide) (by decide)).2
  have q1 : ((ByteArray.mk (textL (-4)).toArray).toList == (ByteArray.mk #[45, 52]).toList) = true := by rw [show textL (-4) = _ from t1]; exact beq_self_eq_true _
  have q2 : ((ByteArray.mk (textL 1).toArray).toList == (ByteArray.mk #[49]).toList) = true := by rw [show textL 1 = _ from t2]; exact beq_self_eq_true _
  have q3 : ((ByteArray.mk (textL 4).toArray).toList == (ByteArray.mk #[52]).toList) = true := by rw [show textL 4 = _ from t3]; exact beq_self_eq_true _
  have q4 : ((ByteArray.mk (textL (-3)).toArray).toList == (ByteArray.mk #[45, 51]).toList) = true := by rw [show textL (-3) = _ from t4]; exact beq_self_eq_true _
  have r1 : decide ((2 : Int) ≠ 0) = true := rfl
  have r2 : decide ((-2 : Int) ≠ 0) = true := rfl
  have r3 : decide ((4 : Int) ≠ 0) = true := rfl
  refine wk hE (And.intro q1 (And.intro q2 (And.intro q3 (And.intro q4 (And.intro r1 (And.intro r2 (And.intro r3 (And.intro a1 (And.intro a2 (And.intro a3 (And.intro a4 (And.intro a5 (And.intro b1 (And.intro b2 (And.intro b3 (And.intro b4 (And.intro b5 (And.intro d1 (And.intro d2 (And.intro d3 (And.intro d4 (And.intro d5 (And.intro d6 (And.intro d7 d8)))))))))))))))))))))))) ?_
  exact PostL.mk trivial rfl
end Go.Hl

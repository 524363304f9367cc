/- zed.Small; hairlinelaw02: shown hairlinelaw02: equal; ref02: Make, Of, Norm; the law of small ones hairlinelaw02: cut -/
import Derived.Test.YtccbmjkhplmgnaaHlZ6
import Derived.Test.YtccbmjkhplmgnaaHlL1
import Derived.Test.YtccbmjkhplmgnaaHlRa
import Derived.Test.YtccbmjkhplmgnaaHlAv31
set_option linter.unusedVariables false
set_option linter.unusedSimpArgs false
namespace Go.Hl
open Go Go.RowKit Go.Proofs
set_option maxHeartbeats 8000000
def fits64 (z : Int) : Bool := decide (-9223372036854775808 ≤ z ∧ z < 9223372036854775808)
@[push_cast] def spSmall : Sp := spZ 0 (fun _ x => Lm x ∧ x.length < 10000000) (fun b x => .tup [.raw (.int .i64 (if fits64 (zv b x) = true then zv b x else 0)), .raw (.bool (fits64 (zv b x)))])
theorem wrap_top {n : Int} (h1 : 9223372036854775808 ≤ n) (h2 : n < 18446744073709551616) : IntKind.i64.wrap n = n - 18446744073709551616 := by
  rw [IntKind.wrap_i64]; omega
theorem small_ok : SpOK Try.prog 61 spSmall := by
  refine SpOK.Z fun b x ⟨hx, hxl⟩ => ?_
  have hE := env (SOK.cons norm0_ok (SOK.nil (P := Try.prog)))
  have hd := dg_len_lt hx hxl
  refine ACall.body hE Try.func61 Try.ntmps61 Try.results61 ?_
  unfold zv
  obtain ⟨N, hN⟩ : ∃ N, nb x = N := ⟨_, rfl⟩
  rw [hN] at hd ⊢
  by_cases h0 : N = 0
  · have hz : (((dg N).length : Int) == 0) = true := by rw [h0, dg_zero]; rfl
    refine wk hE (And.intro hN hz) ?_
    refine PostL.mk trivial ?_
    rw [(zs_zero b N).2 h0]; rfl
  have hz : (((dg N).length : Int) == 0) = false := by
    have := List.length_pos_iff.2 (fun h => h0 (dg_nil.1 h))
    rw [beq_eq_false_iff_ne]; omega
  have hl0 : 0 < (dg N).length := List.length_pos_iff.2 (fun h => h0 (dg_nil.1 h))
  by_cases h1 : N < 18446744073709551616
  · have hl1 : (dg N).length = 1 := by
      have := dg_one h1; omega
    have hgd := dg_getD h1
    have hl2 : ¬ (1 : Int) < (dg N).length := by omega
    cases b
    · have hzs : zs false N = (N : Int) := rfl
      by_cases h2 : N < 9223372036854775808
      · have hf : fits64 (zs false N) = true := by rw [hzs]; exact decide_eq_true (by omega)
        have e1 : IntKind.i64.wrap (N : Int) = N := w64 (by omega) (by omega)
        refine wk hE (And.intro hN (And.intro hz (And.intro hgd (And.intro e1 (And.intro hl2 (show ¬ (N : Int) < 0 by omega)))))) ?_
        refine PostL.mk trivial ?_
        rw [hf]; rfl
      · have hf : fits64 (zs false N) = false := by rw [hzs]; exact decide_eq_false (by omega)
        obtain ⟨v, hv⟩ : ∃ v, IntKind.i64.wrap (N : Int) = v := ⟨_, rfl⟩
        have hv0 : v < 0 := by rw [← hv, IntKind.wrap_i64]; omega
        refine wk hE (And.intro hN (And.intro hz (And.intro hgd (And.intro hv (And.intro hl2 hv0))))) ?_
        refine PostL.mk trivial ?_
        rw [hf]; rfl
    · have hzs : zs true N = -(N : Int) := rfl
      obtain ⟨v, hv⟩ : ∃ v, IntKind.i64.wrap (N : Int) = v := ⟨_, rfl⟩
      obtain ⟨u, hu⟩ : ∃ u, IntKind.i64.wrap (0 - v) = u := ⟨_, rfl⟩
      by_cases h2 : N ≤ 9223372036854775808
      · have hf : fits64 (zs true N) = true := by rw [hzs]; exact decide_eq_true (by omega)
        have hu0 : u = -(N : Int) := by
          rcases Nat.lt_or_ge N 9223372036854775808 with h3 | h3
          · rw [w64 (by omega) (by omega)] at hv
            rw [← hv, w64 (by omega) (by omega)] at hu
            omega
          · rw [wrap_top (by omega) (by omega)] at hv
            have h4 : (0 : Int) - v = 9223372036854775808 := by omega
            rw [h4, wrap_top (by omega) (by omega)] at hu
            omega
        subst hu0
        refine wk hE (And.intro hN (And.intro hz (And.intro hgd (And.intro hv (And.intro hu (And.intro hl2 (show -(N : Int) < 0 by omega))))))) ?_
        refine PostL.mk trivial ?_
        rw [hf]; rfl
      · have hf : fits64 (zs true N) = false := by rw [hzs]; exact decide_eq_false (by omega)
        have hu0 : ¬ u < 0 := by
          rw [wrap_top (by omega) (by omega)] at hv
          rw [w64 (by omega) (by omega)] at hu
          omega
        refine wk hE (And.intro hN (And.intro hz (And.intro hgd (And.intro hv (And.intro hu (And.intro hl2 hu0)))))) ?_
        refine PostL.mk trivial ?_
        rw [hf]; rfl
  · have hl2 : (1 : Int) < (dg N).length := by
      have : ¬ (dg N).length ≤ 1 := fun h => h1 (by have := (digs_length_le (B := B64) (by decide) N 1).1 h; rwa [Nat.pow_one] at this)
      omega
    have hgd := lim64 (lim_digs (B := B64) (by decide) N) 0
    have hf : fits64 (zs b N) = false := by
      refine decide_eq_false ?_
      unfold zs; split <;> omega
    obtain ⟨v, hv⟩ : ∃ v, (dg N).getD 0 0 = v := ⟨_, rfl⟩
    cases b
    · refine wk hE (And.intro hN (And.intro hz (And.intro hv hl2))) ?_
      refine PostL.mk trivial ?_
      rw [hf]; rfl
    · refine wk hE (And.intro hN (And.intro hz (And.intro hv hl2))) ?_
      refine PostL.mk trivial ?_
      rw [hf]; rfl
theorem zv_lit (z : Int) {b : Bool} {n : Nat} (h : zs b n = z) : zv b (dg n) = z := by rw [zv_dg, h]
theorem digs10_one {n : Nat} (h : n < 10) (h0 : n ≠ 0) : digs 10 n = [(n : Int)] := by
  rw [digs_pos (by decide) h0, Nat.div_eq_of_lt h, digs_zero, Nat.mod_eq_of_lt h]
theorem textL_one {n : Nat} (h : n < 10) (h0 : n ≠ 0) : textL n = [UInt8.ofNat (48 + n)] ∧ textL (-(n : Int)) = [45, UInt8.ofNat (48 + n)] := by
  have e : dx n = [UInt8.ofNat (48 + n)] := by unfold dx; rw [digs10_one h h0]; rfl
  constructor
  · unfold textL
    rw [if_neg (by omega), if_neg (by omega), Int.natAbs_natCast, e]; rfl
  · unfold textL
    rw [if_neg (by omega), if_pos (by omega), Int.natAbs_neg, Int.natAbs_natCast, e]; rfl
@[push_cast] def spShown2 : Sp := sp0 0 (.raw (.bool true))
theorem shown2_ok : SpOK Try.prog 59 spShown2 := by
  refine SpOK.O ?_
  have hE := env (SOK.cons of_ok (SOK.cons zdivmod_ok (SOK.cons round_ok (SOK.cons up_ok (SOK.cons small_ok (SOK.cons zshr_ok (SOK.cons text_ok (SOK.nil (P := Try.prog)))))))))
  refine ACall.body hE Try.func59 Try.ntmps59 Try.results59 ?_
  have a1 : zv true (dg (Int.natAbs (-7))) = -7 := zv_lit _ rfl
  have a2 : zv false (dg (Int.natAbs 2)) = 2 := zv_lit _ rfl
  have a3 : zv true (dg (Int.natAbs (-2))) = -2 := zv_lit _ rfl
  have a4 : zv false (dg (Int.natAbs 7)) = 7 := zv_lit _ rfl
  have a5 : zv true (dg (Int.natAbs (-5))) = -5 := zv_lit _ rfl
  have b1 : zv true (dg (Int.natAbs (-4))) = -4 := zv_lit _ rfl
  have b2 : zv false (dg (Int.natAbs 1)) = 1 := zv_lit _ rfl
  have b3 : zv false (dg (Int.natAbs 4)) = 4 := zv_lit _ rfl
  have b4 : zv true (dg (Int.natAbs (-3))) = -3 := zv_lit _ rfl
  have b5 : zv false [9223372036854775808] = 9223372036854775808 := by simp [zv, zs, nb, nv]
  have lms : ∀ n : Nat, n < 18446744073709551616 → Lm (dg n) ∧ (dg n).length ≤ 1 := fun n h => ⟨lm_dg (by have := dg_one h; omega), dg_one h⟩
  obtain ⟨c1, c1'⟩ := lms (Int.natAbs (-7)) (by decide)
  obtain ⟨c2, c2'⟩ := lms (Int.natAbs 2) (by decide)
  obtain ⟨c3, c3'⟩ := lms (Int.natAbs (-2)) (by decide)
  obtain ⟨c4, c4'⟩ := lms (Int.natAbs 7) (by decide)
  obtain ⟨c5, c5'⟩ := lms (Int.natAbs (-5)) (by decide)
  obtain ⟨c6, c6'⟩ := lms (Int.natAbs (-4)) (by decide)
  obtain ⟨c7, c7'⟩ := lms (Int.natAbs 1) (by decide)
  obtain ⟨c8, c8'⟩ := lms (Int.natAbs 4) (by decide)
  obtain ⟨c9, c9'⟩ := lms (Int.natAbs (-3)) (by decide)
  have c10 : Lm [9223372036854775808] := ⟨lim1 (by omega), by simp⟩
  have d1 : (-7 : Int) / 2 = -4 := by decide
  have d2 : rz (-7) 2 = 1 := by decide
  have d3 : (-7 : Int) / (-2) = 4 := by decide
  have d4 : rz (-7) (-2) = 1 := by decide
  have d5 : (-12 : Int) / 4 = -3 := by decide
  have d6 : -((-7 : Int).fdiv 2) = 4 := by decide
  have d7 : (-5 : Int) / 2 ^ sh 1 = -3 := by decide
  have d8 : fits64 9223372036854775808 = false := by decide
  have t1 := (textL_one (n := 4) (by decide) (by decide)).2
  have t2 := (textL_one (n := 1) (by decide) (by decide)).1
  have t3 := (textL_one (n := 4) (by decide) (by decide)).1
  have t4 := (textL_one (n := 3) (by decide) (by decide)).2
  have q1 : ((ByteArray.mk (textL (-4)).toArray).toList == (ByteArray.mk #[45, 52]).toList) = true := by rw [show textL (-4) = _ from t1]; exact beq_self_eq_true _
  have q2 : ((ByteArray.mk (textL 1).toArray).toList == (ByteArray.mk #[49]).toList) = true := by rw [show textL 1 = _ from t2]; exact beq_self_eq_true _
  have q3 : ((ByteArray.mk (textL 4).toArray).toList == (ByteArray.mk #[52]).toList) = true := by rw [show textL 4 = _ from t3]; exact beq_self_eq_true _
  have q4 : ((ByteArray.mk (textL (-3)).toArray).toList == (ByteArray.mk #[45, 51]).toList) = true := by rw [show textL (-3) = _ from t4]; exact beq_self_eq_true _
  have r1 : decide ((2 : Int) ≠ 0) = true := rfl
  have r2 : decide ((-2 : Int) ≠ 0) = true := rfl
  have r3 : decide ((4 : Int) ≠ 0) = true := rfl
  refine wk hE (And.intro q1 (And.intro q2 (And.intro q3 (And.intro q4 (And.intro r1 (And.intro r2 (And.intro r3 (And.intro a1 (And.intro a2 (And.intro a3 (And.intro a4 (And.intro a5 (And.intro b1 (And.intro b2 (And.intro b3 (And.intro b4 (And.intro b5 (And.intro d1 (And.intro d2 (And.intro d3 (And.intro d4 (And.intro d5 (And.intro d6 (And.intro d7 d8)))))))))))))))))))))))) ?_
  exact PostL.mk trivial rfl
end Go.Hl

namespace Go.Hl
open Go Go.RowKit Go.Proofs
set_option maxHeartbeats 8000000
@[push_cast] def spZEqual : Sp := spZZ 0 (fun _ x _ y => x.length < 1000000000 ∧ y.length < 1000000000) (fun b x c y => .raw (.bool (decide (x = y) && (b == c))))
theorem zequal_ok : SpOK Try.prog 136 spZEqual := by
  refine SpOK.ZZ fun b x c y ⟨hx, hy⟩ => ?_
  have hE := env (SOK.cons same_ok (SOK.nil (P := Try.prog)))
  refine ACall.body hE Try.func136 Try.ntmps136 Try.results136 ?_
  by_cases h : x = y
  · have hd : decide (x = y) = true := decide_eq_true h
    refine wk hE hd ?_
    refine PostL.mk trivial ?_
    rw [hd]; rfl
  · have hd : decide (x = y) = false := decide_eq_false h
    refine wk hE hd ?_
    refine PostL.mk trivial ?_
    rw [hd]; rfl
theorem equal_ok : SpOK Try.prog 62 spZEqual := by
  refine SpOK.ZZ fun b x c y ⟨hx, hy⟩ => ?_
  have hE := env (SOK.cons zequal_ok (SOK.nil (P := Try.prog)))
  refine ACall.body hE Try.func62 Try.ntmps62 Try.results62 ?_
  refine wk hE trivial ?_
  refine PostL.mk trivial ?_
  rfl
@[push_cast] def spRMade : Sp := spBN 0 (fun _ m => Lm m ∧ m.length < 400000000) (fun b m => zi (zs b (nb m)))
theorem rmade_ok : SpOK Try.prog 137 spRMade := by
  refine SpOK.BN fun b m ⟨hm, hl⟩ => ?_
  have hE := env (SOK.cons rnorm_ok (SOK.nil (P := Try.prog)))
  obtain ⟨n, hn⟩ : ∃ n, nb m = n := ⟨_, rfl⟩
  refine ACall.body hE Try.func137 Try.ntmps137 Try.results137 ?_
  rw [hn, ← zi_zs]
  have hp := nat_pos (dg n).length
  cases b
  · refine wk hE hn ?_
    exact PostL.mk trivial rfl
  · refine wk hE (And.intro hn hp) ?_
    exact PostL.mk trivial rfl
theorem rzof_ok : SpOK Try.prog 63 spOf := by
  refine SpOK.I fun n ⟨h1, h2⟩ => ?_
  have hE := env (SOK.cons rmade_ok (SOK.nil (P := Try.prog)))
  refine ACall.body hE Try.func63 Try.ntmps63 Try.results63 ?_
  obtain ⟨k, hk⟩ : ∃ k, n.natAbs = k := ⟨_, rfl⟩
  have hn1 := nb_one k
  have hlm : Lm [(k : Int)] := ⟨Lim.cons (by rw [hB64]; omega) Lim.nil, by simp⟩
  by_cases h0 : n < 0
  · obtain ⟨m, hm⟩ : ∃ m, n + 1 = m := ⟨_, rfl⟩
    obtain ⟨q, hq⟩ : ∃ q, 0 - m = q := ⟨_, rfl⟩
    have hqk : q + 1 = (k : Int) := by omega
    have hz : zs true k = n := by unfold zs; simp; omega
    have hg : ¬ 0 ≤ n := by omega
    refine wk hE (And.intro hg (And.intro hm (And.intro hq (And.intro hqk hn1)))) ?_
    refine PostL.mk trivial ?_
    exact congrArg zi hz
  · have e1 : IntKind.u64.wrap n = (k : Int) := by rw [IntKind.wrap_u64]; omega
    have hz : zs false k = n := by unfold zs; simp; omega
    have hg : 0 ≤ n := by omega
    refine wk hE (And.intro hg (And.intro e1 hn1)) ?_
    refine PostL.mk trivial ?_
    exact congrArg zi hz
theorem rng64 {n : Int} (h : (Lit.int .i64 n).wf = true) : -9223372036854775808 ≤ n ∧ n < 9223372036854775808 := by
  have h : (decide (IntKind.i64.min ≤ n) && decide (n ≤ IntKind.i64.max)) = true := h
  rw [Bool.and_eq_true, decide_eq_true_iff, decide_eq_true_iff, show IntKind.i64.min = -9223372036854775808 from rfl, show IntKind.i64.max = 9223372036854775807 from rfl] at h
  omega
theorem zedSmalls_ok {n : Int} (hn : (Lit.int .i64 n).wf = true) : ACall Try.prog 14 [.raw (.int .i64 n)] (.raw (.bool true)) := by
  have h1 : -9223372036854775808 ≤ n ∧ n < 9223372036854775808 := rng64 hn
  obtain ⟨h1, h2⟩ := h1
  have hE := env (SOK.cons shown2_ok (SOK.cons of_ok (SOK.cons small_ok (SOK.cons rzof_ok (SOK.cons equal_ok (SOK.nil (P := Try.prog)))))))
  refine ACall.body hE Try.func14 Try.ntmps14 Try.results14 ?_
  have hf : fits64 n = true := decide_eq_true ⟨h1, h2⟩
  have hd := dg_one (n := n.natAbs) (by omega)
  have hl := lm_dg (n := n.natAbs) (by omega)
  have hbb : (decide (n < 0) == decide (n < 0)) = true := beq_self_eq_true _
  have hb2 : decide (dg n.natAbs = dg n.natAbs) = true := decide_eq_true rfl
  refine wk hE (And.intro hf (And.intro hbb hb2)) ?_
  refine PostL.mk trivial ?_
  rfl
end Go.Hl

namespace Go.Hl
open Go Go.RowKit Go.Proofs
set_option maxHeartbeats 8000000
@[push_cast] def spZCut : Sp := spZI 0 (fun _ _ n => 0 ≤ n ∧ n ≤ 1000) (fun b x n => .agg [.raw (.bool b), .ns .u64 (x.take n.toNat)])
theorem zcut_ok : SpOK Try.prog 64 spZCut := by
  refine SpOK.ZI fun b x n ⟨hn, hn2⟩ => ?_
  have hE := env (SOK.nil (P := Try.prog))
  obtain ⟨n, rfl⟩ := Int.eq_ofNat_of_zero_le hn
  have hlen : (x.take n).length < 10000000 := by have := List.length_take_le n x; omega
  refine ACall.body hE Try.func64 Try.ntmps64 Try.results64 ?_
  refine wk hE trivial ?_
  refine AWp.test trivial (fun h => ?_) (fun h => ?_)
  · have h := of_decide_eq_true h
    refine wkR hE (show (n : Int) < x.length from h) ?_
    change AWp _ _ _ (.seq _ _) _ _
    refine AWp.seq ?_
    refine AWp.regionT 18 (t := 22) (e := 31) (d2 := 17) (p := 5) (i2 := 2) (i3 := 3) (by_ := 8) (k := .u64) (ys := x.take n) hE.hT hE.hS hE.hm rfl (by omega) (by omega) (by rfl)
      (fun j o h => ?_) (by exact ⟨_, rfl, rfl, rfl, rfl⟩) (by exact ⟨_, rfl, rfl, rfl, rfl⟩) (fun j o h => ?_) (fun j o h ho => ?_) ?_
    · rcases j with _ | _ | _ | _ | _ | _ | _ | j <;> first
        | (cases h; first | exact ⟨_, rfl, rfl, rfl, rfl, rfl, .inl rfl⟩ | exact ⟨_, rfl, rfl, rfl, rfl, rfl, .inr (.inl ⟨rfl, rfl⟩)⟩ | exact ⟨_, rfl, rfl, rfl, rfl, rfl, .inr (.inr ⟨rfl, rfl⟩)⟩)
        | (cases h)
    · rcases j with _ | _ | _ | _ | _ | _ | _ | j <;> first
        | (cases h; exact ⟨fun e => absurd e (by decide), fun e => by first | rfl | exact absurd e (by decide), fun e => by first | rfl | exact absurd e (by decide)⟩)
        | (cases h)
    · rcases j with _ | _ | _ | _ | _ | _ | _ | j <;> first
        | (cases h; cases ho; done)
        | (cases h; exact ⟨_, rfl, ⟨⟨2, .data⟩, Array.mem_of_getElem? (i := 0) rfl, rfl, rfl⟩, ⟨⟨3, .data⟩, Array.mem_of_getElem? (i := 1) rfl, rfl, rfl⟩⟩)
        | (cases h)
    · simp only [List.map, twO]
      refine wk hE trivial ?_
      exact PostL.mk trivial rfl
  · have h := of_decide_eq_false h
    refine AWp.skip ?_
    change AWp _ _ _ (.seq _ _) _ _
    refine AWp.seq ?_
    refine AWp.regionT 18 (t := 22) (e := 31) (d2 := 17) (p := 5) (i2 := 2) (i3 := 3) (by_ := 8) (k := .u64) (ys := x) hE.hT hE.hS hE.hm rfl (by omega) (by omega) (by rfl)
      (fun j o h => ?_) (by exact ⟨_, rfl, rfl, rfl, rfl⟩) (by exact ⟨_, rfl, rfl, rfl, rfl⟩) (fun j o h => ?_) (fun j o h ho => ?_) ?_
    · rcases j with _ | _ | _ | _ | _ | _ | _ | j <;> first
        | (cases h; first | exact ⟨_, rfl, rfl, rfl, rfl, rfl, .inl rfl⟩ | exact ⟨_, rfl, rfl, rfl, rfl, rfl, .inr (.inl ⟨rfl, rfl⟩)⟩ | exact ⟨_, rfl, rfl, rfl, rfl, rfl, .inr (.inr ⟨rfl, rfl⟩)⟩)
        | (cases h)
    · rcases j with _ | _ | _ | _ | _ | _ | _ | j <;> first
        | (cases h; exact ⟨fun e => absurd e (by decide), fun e => by first | rfl | exact absurd e (by decide), fun e => by first | rfl | exact absurd e (by decide)⟩)
        | (cases h)
    · rcases j with _ | _ | _ | _ | _ | _ | _ | j <;> first
        | (cases h; cases ho; done)
        | (cases h; exact ⟨_, rfl, ⟨⟨2, .data⟩, Array.mem_of_getElem? (i := 0) rfl, rfl, rfl⟩, ⟨⟨3, .data⟩, Array.mem_of_getElem? (i := 1) rfl, rfl, rfl⟩⟩)
        | (cases h)
    · simp only [List.map, twO]
      refine wk hE trivial ?_
      refine PostL.mk trivial ?_
      rw [Int.toNat_natCast, List.take_of_length_le (by omega)]
end Go.Hl

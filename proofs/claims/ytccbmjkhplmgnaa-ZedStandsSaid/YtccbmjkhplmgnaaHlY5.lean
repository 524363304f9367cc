/- ref02: Cmp, Same, BitLen, Small -/
import Derived.Test.YtccbmjkhplmgnaaHlY4
import Derived.Test.YtccbmjkhplmgnaaHlRa
set_option linter.unusedVariables false
set_option linter.unusedSimpArgs false
namespace Go.Hl
open Go Go.RowKit Go.Proofs
set_option maxHeartbeats 8000000

theorem sign_cmpZ (X Y : Int) : (X - Y).sign = cmpZ X Y := by
  unfold cmpZ
  rcases sign_cases (X - Y) with h | h | h
  · rw [if_pos (by omega)]; exact h.2
  · rw [if_neg (by omega), if_neg (by omega)]; exact h.2
  · rw [if_neg (by omega), if_pos (by omega)]; exact h.2
@[push_cast] def spRZCmp : Sp := spZZ 0 (fun _ x _ y => Lm x ∧ x.length < 1000000 ∧ Lm y ∧ y.length < 1000000) (fun b x c y => .raw (.int .i64 (cmpZ (zv b x) (zv c y))))
theorem rzcmp_ok : SpOK Try.prog 93 spRZCmp := by
  refine SpOK.ZZ fun b x c y ⟨hx, hxl, hy, hyl⟩ => ?_
  have hE := env (SOK.cons rzsub_ok (SOK.cons rzsign_ok (SOK.nil (P := Try.prog))))
  obtain ⟨l, hl⟩ : ∃ l, l = 1000000 := ⟨_, rfl⟩
  have bX := zv_abs_lt (b := b) hx (l := l) (by omega)
  have bY := zv_abs_lt (b := c) hy (l := l) (by omega)
  obtain ⟨X, eX⟩ : ∃ X, zv b x = X := ⟨_, rfl⟩
  obtain ⟨Y, eY⟩ : ∃ Y, zv c y = Y := ⟨_, rfl⟩
  rw [eX] at bX ⊢
  rw [eY] at bY ⊢
  obtain ⟨f1, f1'⟩ := nat_abs_lt (abs_sub_lt bX bY) (by omega)
  have e := sign_cmpZ X Y
  clear bX bY
  refine ACall.body hE Try.func93 Try.ntmps93 Try.results93 ?_
  refine wk hE (And.intro eX (And.intro eY e)) ?_
  exact PostL.mk trivial rfl
@[push_cast] def spRZSame : Sp := spZZ 0 (fun _ x _ y => Lm x ∧ x.length < 1000000 ∧ Lm y ∧ y.length < 1000000) (fun b x c y => .raw (.bool (decide (zv b x = zv c y))))
theorem rzsame_ok : SpOK Try.prog 95 spRZSame := by
  refine SpOK.ZZ fun b x c y ⟨hx, hxl, hy, hyl⟩ => ?_
  have hE := env (SOK.cons rzcmp_ok (SOK.nil (P := Try.prog)))
  refine ACall.body hE Try.func95 Try.ntmps95 Try.results95 ?_
  obtain ⟨z, hz⟩ : ∃ z, zv b x = z := ⟨_, rfl⟩
  obtain ⟨w, hw⟩ : ∃ w, zv c y = w := ⟨_, rfl⟩
  rw [hz, hw]
  have he : (cmpZ z w == 0) = decide (z = w) := by
    unfold cmpZ
    by_cases h : z = w
    · subst h; simp
    · rw [decide_eq_false h, beq_eq_false_iff_ne]; split; omega; split <;> omega
  refine wk hE (And.intro hz (And.intro hw he)) ?_
  exact PostL.mk trivial rfl
theorem rzbitlen_ok : SpOK Try.prog 97 (spZ 0 (fun _ x => Lm x ∧ x.length < 1000000) (fun b x => .raw (.int .i64 (blen (zv b x).natAbs : Nat)))) := by
  refine SpOK.Z fun b x ⟨hx, hxl⟩ => ?_
  have hE := env (SOK.cons rbitlen_ok (SOK.nil (P := Try.prog)))
  refine ACall.body hE Try.func97 Try.ntmps97 Try.results97 ?_
  unfold zv
  rw [zs_abs]
  refine wk hE trivial ?_
  exact PostL.mk trivial rfl

theorem rzsmall_ok : SpOK Try.prog 89 spSmall := by
  refine SpOK.Z fun b x ⟨hx, hxl⟩ => ?_
  have hE := env (SOK.cons rznorm_ok (SOK.nil (P := Try.prog)))
  refine ACall.body hE Try.func89 Try.ntmps89 Try.results89 ?_
  obtain ⟨X, eX⟩ : ∃ X, zv b x = X := ⟨_, rfl⟩
  rw [eX]
  obtain ⟨N, hN⟩ : ∃ N, X.natAbs = N := ⟨_, rfl⟩
  by_cases h0 : N = 0
  · have hz : (((dg N).length : Int) == 0) = true := by rw [h0, dg_zero]; rfl
    refine wk hE (And.intro eX (And.intro hN hz)) ?_
    refine PostL.mk trivial ?_
    have : X = 0 := by omega
    rw [this]; rfl
  have hz : (((dg N).length : Int) == 0) = false := by
    have := List.length_pos_iff.2 (fun h => h0 (dg_nil.1 h))
    rw [beq_eq_false_iff_ne]; omega
  have hl0 : 0 < (dg N).length := List.length_pos_iff.2 (fun h => h0 (dg_nil.1 h))
  by_cases h1 : N < 18446744073709551616
  · have hl1 : (dg N).length = 1 := by
      have := dg_one h1; omega
    have hgd := dg_getD h1
    have hl2 : ¬ (1 : Int) < (dg N).length := by omega
    by_cases hn : X < 0
    · have hb : decide (X < 0) = true := decide_eq_true hn
      obtain ⟨m, hm⟩ : ∃ m, (N : Int) - 1 = m := ⟨_, rfl⟩
      obtain ⟨q, hq⟩ : ∃ q, 0 - m = q := ⟨_, rfl⟩
      have hqX : q - 1 = X := by omega
      by_cases h2 : N < 9223372036854775808
      · have hf : fits64 X = true := decide_eq_true (by omega)
        refine wk hE (And.intro eX (And.intro hN (And.intro hz (And.intro hgd (And.intro hl2 (And.intro hb (And.intro (show (N : Int) < 9223372036854775808 by omega) (And.intro (show (N : Int) ≤ 9223372036854775808 by omega) (And.intro hm (And.intro hq hqX)))))))))) ?_
        refine PostL.mk trivial ?_
        rw [hf]; rfl
      · by_cases h3 : N = 9223372036854775808
        · have hf : fits64 X = true := decide_eq_true (by omega)
          refine wk hE (And.intro eX (And.intro hN (And.intro hz (And.intro hgd (And.intro hl2 (And.intro hb (And.intro (show ¬ (N : Int) < 9223372036854775808 by omega) (And.intro (show (N : Int) ≤ 9223372036854775808 by omega) (And.intro hm (And.intro hq hqX)))))))))) ?_
          refine PostL.mk trivial ?_
          rw [hf]; rfl
        · have hf : fits64 X = false := decide_eq_false (by omega)
          refine wk hE (And.intro eX (And.intro hN (And.intro hz (And.intro hgd (And.intro hl2 (And.intro hb (And.intro (show ¬ (N : Int) < 9223372036854775808 by omega) (show ¬ (N : Int) ≤ 9223372036854775808 by omega)))))))) ?_
          refine PostL.mk trivial ?_
          rw [hf]; rfl
    · have hb : decide (X < 0) = false := decide_eq_false hn
      have hNX : (N : Int) = X := by omega
      by_cases h2 : N < 9223372036854775808
      · have hf : fits64 X = true := decide_eq_true (by omega)
        have e1 : IntKind.i64.wrap (N : Int) = X := by rw [hNX]; exact w64 (by omega) (by omega)
        refine wk hE (And.intro eX (And.intro hN (And.intro hz (And.intro hgd (And.intro hl2 (And.intro hb (And.intro (show (N : Int) < 9223372036854775808 by omega) e1))))))) ?_
        refine PostL.mk trivial ?_
        rw [hf]; rfl
      · have hf : fits64 X = false := decide_eq_false (by omega)
        by_cases h3 : N = 9223372036854775808
        · refine wk hE (And.intro eX (And.intro hN (And.intro hz (And.intro hgd (And.intro hl2 (And.intro hb (And.intro (show ¬ (N : Int) < 9223372036854775808 by omega) (show (N : Int) ≤ 9223372036854775808 by omega)))))))) ?_
          refine PostL.mk trivial ?_
          rw [hf]; rfl
        · refine wk hE (And.intro eX (And.intro hN (And.intro hz (And.intro hgd (And.intro hl2 (And.intro hb (And.intro (show ¬ (N : Int) < 9223372036854775808 by omega) (show ¬ (N : Int) ≤ 9223372036854775808 by omega)))))))) ?_
          refine PostL.mk trivial ?_
          rw [hf]; rfl
  · have hl2 : (1 : Int) < (dg N).length := by
      have : ¬ (dg N).length ≤ 1 := fun h => h1 (by have := (digs_length_le (B := B64) (by decide) N 1).1 h; rwa [Nat.pow_one] at this)
      omega
    have hf : fits64 X = false := decide_eq_false (by omega)
    refine wk hE (And.intro eX (And.intro hN (And.intro hz hl2))) ?_
    refine PostL.mk trivial ?_
    rw [hf]; rfl
end Go.Hl

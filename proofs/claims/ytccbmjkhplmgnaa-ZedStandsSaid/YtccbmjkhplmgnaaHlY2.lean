/- ref02: Shr -/
import Derived.Test.YtccbmjkhplmgnaaHlY1
set_option linter.unusedVariables false
set_option linter.unusedSimpArgs false
namespace Go.Hl
open Go Go.RowKit Go.Proofs
set_option maxHeartbeats 8000000

theorem rzshr_ok : SpOK Try.prog 68 spZShr := by
  refine SpOK.ZI fun b x n ⟨hx, hxl⟩ => ?_
  have hE := env (SOK.cons rznorm_ok (SOK.cons rshr_ok (SOK.cons rshl_ok (SOK.cons rsub_ok (SOK.cons radd_ok (SOK.cons rmade_ok (SOK.nil (P := Try.prog))))))))
  refine ACall.body hE Try.func68 Try.ntmps68 Try.results68 ?_
  obtain ⟨l, hl⟩ : ∃ l, l = 10000000 := ⟨_, rfl⟩
  have bX := zv_abs_lt (b := b) hx (l := l) (by omega)
  obtain ⟨X, eX⟩ : ∃ X, zv b x = X := ⟨_, rfl⟩
  rw [eX] at bX ⊢
  have hpi : (2 : Int) ^ sh n = ((2 ^ sh n : Nat) : Int) := (Int.natCast_pow 2 _).symm
  have hp0 : 0 < 2 ^ sh n := Nat.two_pow_pos _
  have bp := sh_pow_lt n
  rw [hpi]
  obtain ⟨A, eA⟩ : ∃ A, X.natAbs = A := ⟨_, rfl⟩
  rw [eA] at bX
  have hX : X = zs (decide (X < 0)) A := by unfold zs; split <;> (rename_i h; simp at h; omega)
  obtain ⟨h1, h1'⟩ : Lm (dg A) ∧ (dg A).length < 100000000 := by obtain ⟨a, _, c⟩ := dgl bX (by omega); exact ⟨a, by omega⟩
  obtain ⟨s1, s2, s3⟩ := dgl (n := A / 2 ^ sh n) (Nat.lt_of_le_of_lt (Nat.div_le_self _ _) bX) (by omega)
  obtain ⟨p, hp⟩ : ∃ p, 2 ^ sh n = p := ⟨_, rfl⟩
  rw [hp] at hp0 s1 s2 s3 bp ⊢
  have n1 : nb (dg A) = A := nb_dg _
  have k1 : nb [1] = 1 := by simp [nb, nv]
  have l1 : Lm [1] := ⟨lim1 (by omega), by simp⟩
  have k2 : 1 * p = p := Nat.one_mul p
  obtain ⟨t1, t2, t3⟩ := dgl bp (by omega)
  obtain ⟨u1, u2, u3⟩ := dgl (n := p - 1) (Nat.lt_of_le_of_lt (Nat.sub_le _ _) bp) (by omega)
  have bs : A + (p - 1) < B64 ^ (l + 1) := powA bX (Nat.lt_of_lt_of_le (Nat.lt_of_le_of_lt (Nat.sub_le _ _) bp) (Nat.pow_le_pow_right (by decide) (by omega)))
  obtain ⟨v1, v2, v3⟩ := dgl bs (by omega)
  obtain ⟨w1, w2, w3⟩ := dgl (n := (A + (p - 1)) / p) (Nat.lt_of_le_of_lt (Nat.div_le_self _ _) bs) (by omega)
  have d0 : decide (1 ≤ p) = true := decide_eq_true hp0
  by_cases hn : X < 0
  · have hb : decide (X < 0) = true := decide_eq_true hn
    rw [hb] at hX
    have hq : zs true ((A + (p - 1)) / p) = X / (p : Int) := by
      rw [hX]
      have hx : zs true A = -(A : Int) := rfl
      have hy : zs true ((A + (p - 1)) / p) = -(((A + (p - 1)) / p : Nat) : Int) := rfl
      rw [hx, hy, (neg_div (a := A) hp0).1]
      congr 1
      have e1 := Nat.div_add_mod A p
      have e2 := Nat.mod_lt A hp0
      by_cases h0 : A % p = 0
      · rw [if_pos h0]
        congr 1
        rw [h0] at e1
        have e3 : A + (p - 1) = p * (A / p) + (p - 1) := by omega
        rw [e3, Nat.mul_add_div hp0, Nat.div_eq_of_lt (show p - 1 < p by omega)]
      · rw [if_neg h0]
        congr 1
        have e4 : p * (A / p + 1) = p * (A / p) + p := by rw [Nat.mul_add, Nat.mul_one]
        have e3 : A + (p - 1) = p * (A / p + 1) + (A % p - 1) := by omega
        rw [e3, Nat.mul_add_div hp0, Nat.div_eq_of_lt (show A % p - 1 < p by omega)]
    clear bX bs bp
    refine wk hE (And.intro eX (And.intro eA (And.intro hb (And.intro n1 (And.intro hp (And.intro k1 (And.intro k2 d0))))))) ?_
    refine PostL.mk trivial ?_
    exact congrArg zi hq
  · have hb : decide (X < 0) = false := decide_eq_false hn
    rw [hb] at hX
    have hq : zs false (A / p) = X / (p : Int) := by
      rw [hX]
      unfold zs; simp
    clear bX bs bp
    refine wk hE (And.intro eX (And.intro eA (And.intro hb (And.intro n1 (And.intro hp (And.intro k1 (And.intro k2 d0))))))) ?_
    refine PostL.mk trivial ?_
    exact congrArg zi hq

theorem rzsign_ok : SpOK Try.prog 91 (spZ 0 (fun _ x => Lm x ∧ x.length < 10000000) (fun b x => .raw (.int .i64 (zv b x).sign))) := by
  refine SpOK.Z fun b x ⟨hx, hxl⟩ => ?_
  have hE := env (SOK.cons rznorm_ok (SOK.nil (P := Try.prog)))
  refine ACall.body hE Try.func91 Try.ntmps91 Try.results91 ?_
  obtain ⟨X, eX⟩ : ∃ X, zv b x = X := ⟨_, rfl⟩
  rw [eX]
  rcases sign_cases X with ⟨h, k⟩ | ⟨h, k⟩ | ⟨h, k⟩
  · have hz : (((dg X.natAbs).length : Int) == 0) = false := by
      have := List.length_pos_iff.2 (fun h => (show X.natAbs ≠ 0 by omega) (dg_nil.1 h))
      rw [beq_eq_false_iff_ne]; omega
    have hb : decide (X < 0) = true := decide_eq_true h
    refine wk hE (And.intro eX (And.intro hz hb)) ?_
    refine PostL.mk trivial ?_
    rw [k]
  · have hz : (((dg X.natAbs).length : Int) == 0) = true := by rw [h, Int.natAbs_zero, dg_zero]; rfl
    refine wk hE (And.intro eX hz) ?_
    refine PostL.mk trivial ?_
    rw [k]
  · have hz : (((dg X.natAbs).length : Int) == 0) = false := by
      have := List.length_pos_iff.2 (fun h => (show X.natAbs ≠ 0 by omega) (dg_nil.1 h))
      rw [beq_eq_false_iff_ne]; omega
    have hb : decide (X < 0) = false := decide_eq_false (by omega)
    refine wk hE (And.intro eX (And.intro hz hb)) ?_
    refine PostL.mk trivial ?_
    rw [k]
end Go.Hl

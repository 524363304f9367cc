/- ref02: Norm, Abs, Neg, Sign, BitLen, Add, Sub, Mul, Shl, Gcd ref02: Shr ref02: DivMod, floor, Round, Up ref02: floor, Round, Up ref02: Cmp, Same, BitLen, Small -/
import Derived.Test.YtccbmjkhplmgnaaGreatHlZc
import Derived.Test.YtccbmjkhplmgnaaGreatHlRb
import Derived.Test.YtccbmjkhplmgnaaGreatHlRd
import Derived.Test.YtccbmjkhplmgnaaGreatHlRa
set_option linter.unusedVariables false
set_option linter.unusedSimpArgs false
namespace Go.Hl
open Go Go.RowKit Go.Proofs
set_option maxHeartbeats 8000000
theorem rznorm_ok : SpOK Tryz.prog 49 spZNorm := by
  refine SpOK.Z fun b x ⟨hx, hl⟩ => ?_
  have hE := env (SOK.cons rmade_ok (SOK.nil (P := Tryz.prog)))
  refine ACall.body hE Tryz.func49 Tryz.ntmps49 Tryz.results49 ?_
  refine wk hE trivial ?_
  exact PostL.mk trivial rfl
theorem rzneg_ok : SpOK Tryz.prog 28 spZNeg := by
  refine SpOK.Z fun b x ⟨hx, hxl⟩ => ?_
  have hE := env (SOK.cons rmade_ok (SOK.nil (P := Tryz.prog)))
  refine ACall.body hE Tryz.func28 Tryz.ntmps28 Tryz.results28 ?_
  refine wk hE trivial ?_
  refine PostL.mk trivial ?_
  exact congrArg zi (zs_not b _)
theorem rzabs_ok : SpOK Tryz.prog 99 spZAbs := by
  refine SpOK.Z fun b x ⟨hx, hxl⟩ => ?_
  have hE := env (SOK.cons rmade_ok (SOK.nil (P := Tryz.prog)))
  refine ACall.body hE Tryz.func99 Tryz.ntmps99 Tryz.results99 ?_
  refine wk hE trivial ?_
  refine PostL.mk trivial ?_
  refine congrArg zi ?_
  unfold zv
  rw [zs_abs]; rfl
theorem rzmul_ok : SpOK Tryz.prog 65 spZMul := by
  refine SpOK.ZZ fun b x c y ⟨hx, hxl, hy, hyl⟩ => ?_
  have hE := env (SOK.cons rmul_ok (SOK.cons rmade_ok (SOK.nil (P := Tryz.prog))))
  refine ACall.body hE Tryz.func65 Tryz.ntmps65 Tryz.results65 ?_
  obtain ⟨l, hl⟩ : ∃ l, l = 10000000 := ⟨_, rfl⟩
  have bA := nbl hx (l := l) (by omega)
  have bB := nbl hy (l := l) (by omega)
  obtain ⟨s1, s2, s3⟩ := dgl (powM bA bB) (by omega)
  refine wk hE trivial ?_
  refine PostL.mk trivial ?_
  refine congrArg zi ?_
  unfold zv
  rw [← zs_mul]
  cases b <;> cases c <;> rfl
theorem rzadd_ok : SpOK Tryz.prog 51 spZAdd := by
  refine SpOK.ZZ fun b x c y ⟨hx, hxl, hy, hyl⟩ => ?_
  have hE := env (SOK.cons rznorm_ok (SOK.cons radd_ok (SOK.cons rsub_ok (SOK.cons rmade_ok (SOK.nil (P := Tryz.prog))))))
  refine ACall.body hE Tryz.func51 Tryz.ntmps51 Tryz.results51 ?_
  obtain ⟨l, hl⟩ : ∃ l, l = 10000000 := ⟨_, rfl⟩
  have bX := zv_abs_lt (b := b) hx (l := l) (by omega)
  have bY := zv_abs_lt (b := c) hy (l := l) (by omega)
  obtain ⟨X, eX⟩ : ∃ X, zv b x = X := ⟨_, rfl⟩
  obtain ⟨Y, eY⟩ : ∃ Y, zv c y = Y := ⟨_, rfl⟩
  rw [eX] at bX ⊢
  rw [eY] at bY ⊢
  obtain ⟨h1, h1'⟩ : Lm (dg X.natAbs) ∧ (dg X.natAbs).length < 100000000 := by obtain ⟨a, _, c⟩ := dgl bX (by omega); exact ⟨a, by omega⟩
  obtain ⟨h2, h2'⟩ : Lm (dg Y.natAbs) ∧ (dg Y.natAbs).length < 100000000 := by obtain ⟨a, _, c⟩ := dgl bY (by omega); exact ⟨a, by omega⟩
  obtain ⟨s1, s2, s3⟩ := dgl (powA bX bY) (by omega)
  obtain ⟨t1, t2, t3⟩ := dgl (n := X.natAbs - Y.natAbs) (Nat.lt_of_le_of_lt (Nat.sub_le _ _) bX) (by omega)
  obtain ⟨u1, u2, u3⟩ := dgl (n := Y.natAbs - X.natAbs) (Nat.lt_of_le_of_lt (Nat.sub_le _ _) bY) (by omega)
  have n1 : nb (dg X.natAbs) = X.natAbs := nb_dg _
  have n2 : nb (dg Y.natAbs) = Y.natAbs := nb_dg _
  clear bX bY
  by_cases hbc : decide (X < 0) = decide (Y < 0)
  · have hb : (decide (X < 0) == decide (Y < 0)) = true := by rw [hbc]; exact beq_self_eq_true _
    refine wk hE (And.intro eX (And.intro eY (And.intro hb (And.intro n1 n2)))) ?_
    refine PostL.mk trivial ?_
    refine congrArg zi ?_
    have hbc := decide_eq_decide.1 hbc
    unfold zs
    split <;> (rename_i h; simp at h; omega)
  · have hb : (decide (X < 0) == decide (Y < 0)) = false := by rw [beq_eq_false_iff_ne]; exact hbc
    have hbc : ¬ (X < 0 ↔ Y < 0) := fun h => hbc (decide_eq_decide.2 h)
    by_cases hle : Y.natAbs ≤ X.natAbs
    · have hd : decide (Y.natAbs ≤ X.natAbs) = true := decide_eq_true hle
      refine wk hE (And.intro eX (And.intro eY (And.intro hb (And.intro n1 (And.intro n2 hd))))) ?_
      refine PostL.mk trivial ?_
      refine congrArg zi ?_
      unfold zs
      split <;> (rename_i h; simp at h; omega)
    · have hd : decide (Y.natAbs ≤ X.natAbs) = false := decide_eq_false hle
      refine wk hE (And.intro eX (And.intro eY (And.intro hb (And.intro n1 (And.intro n2 hd))))) ?_
      refine PostL.mk trivial ?_
      refine congrArg zi ?_
      unfold zs
      split <;> (rename_i h; simp at h; omega)
theorem rzsub_ok : SpOK Tryz.prog 39 spZSub := by
  refine SpOK.ZZ fun b x c y ⟨hx, hxl, hy, hyl⟩ => ?_
  have hE := env (SOK.cons rzadd_ok (SOK.cons rzneg_ok (SOK.nil (P := Tryz.prog))))
  obtain ⟨l, hl⟩ : ∃ l, l + 1 = 10000000 := ⟨_, rfl⟩
  have hY2 : (-zv c y).natAbs = nb y := by rw [Int.natAbs_neg]; exact zs_abs c _
  have h1 : Lm (dg (-zv c y).natAbs) ∧ (dg (-zv c y).natAbs).length < 10000000 := by
    rw [hY2]
    have := dg_len_lt hy hyl
    exact ⟨lm_dg (by omega), this⟩
  obtain ⟨h1, h1'⟩ := h1
  refine ACall.body hE Tryz.func39 Tryz.ntmps39 Tryz.results39 ?_
  refine wk hE trivial ?_
  refine PostL.mk trivial ?_
  exact congrArg zi (Int.sub_eq_add_neg).symm
end Go.Hl

namespace Go.Hl
open Go Go.RowKit Go.Proofs
set_option maxHeartbeats 8000000
theorem rzshr_ok : SpOK Tryz.prog 50 spZShr := by
  refine SpOK.ZI fun b x n ⟨hx, hxl⟩ => ?_
  have hE := env (SOK.cons rznorm_ok (SOK.cons rshr_ok (SOK.cons rshl_ok (SOK.cons rsub_ok (SOK.cons radd_ok (SOK.cons rmade_ok (SOK.nil (P := Tryz.prog))))))))
  refine ACall.body hE Tryz.func50 Tryz.ntmps50 Tryz.results50 ?_
  obtain ⟨l, hl⟩ : ∃ l, l = 10000000 := ⟨_, rfl⟩
  have bX := zv_abs_lt (b := b) hx (l := l) (by omega)
  obtain ⟨X, eX⟩ : ∃ X, zv b x = X := ⟨_, rfl⟩
  rw [eX] at bX ⊢
  have hpi : (2 : Int) ^ sh n = ((2 ^ sh n : Nat) : Int) := (Int.natCast_pow 2 _).symm
  have hp0 : 0 < 2 ^ sh n := Nat.two_pow_pos _
  have bp := sh_pow_lt n
  rw [hpi]
  obtain ⟨A, eA⟩ : ∃ A, X.natAbs = A := ⟨_, rfl⟩
  rw [eA] at bX
  have hX : X = zs (decide (X < 0)) A := by unfold zs; split <;> (rename_i h; simp at h; omega)
  obtain ⟨h1, h1'⟩ : Lm (dg A) ∧ (dg A).length < 100000000 := by obtain ⟨a, _, c⟩ := dgl bX (by omega); exact ⟨a, by omega⟩
  obtain ⟨s1, s2, s3⟩ := dgl (n := A / 2 ^ sh n) (Nat.lt_of_le_of_lt (Nat.div_le_self _ _) bX) (by omega)
  obtain ⟨p, hp⟩ : ∃ p, 2 ^ sh n = p := ⟨_, rfl⟩
  rw [hp] at hp0 s1 s2 s3 bp ⊢
  have n1 : nb (dg A) = A := nb_dg _
  have k1 : nb [1] = 1 := by simp [nb, nv]
  have l1 : Lm [1] := ⟨lim1 (by omega), by simp⟩
  have k2 : 1 * p = p := Nat.one_mul p
  obtain ⟨t1, t2, t3⟩ := dgl bp (by omega)
  obtain ⟨u1, u2, u3⟩ := dgl (n := p - 1) (Nat.lt_of_le_of_lt (Nat.sub_le _ _) bp) (by omega)
  have bs : A + (p - 1) < B64 ^ (l + 1) := powA bX (Nat.lt_of_lt_of_le (Nat.lt_of_le_of_lt (Nat.sub_le _ _) bp) (Nat.pow_le_pow_right (by decide) (by omega)))
  obtain ⟨v1, v2, v3⟩ := dgl bs (by omega)
  obtain ⟨w1, w2, w3⟩ := dgl (n := (A + (p - 1)) / p) (Nat.lt_of_le_of_lt (Nat.div_le_self _ _) bs) (by omega)
  have d0 : decide (1 ≤ p) = true := decide_eq_true hp0
  by_cases hn : X < 0
  · have hb : decide (X < 0) = true := decide_eq_true hn
    rw [hb] at hX
    have hq : zs true ((A + (p - 1)) / p) = X / (p : Int) := by
      rw [hX]
      have hx : zs true A = -(A : Int) := rfl
      have hy : zs true ((A + (p - 1)) / p) = -(((A + (p - 1)) / p : Nat) : Int) := rfl
      rw [hx, hy, (neg_div (a := A) hp0).1]
      congr 1
      have e1 := Nat.div_add_mod A p
      have e2 := Nat.mod_lt A hp0
      by_cases h0 : A % p = 0
      · rw [if_pos h0]
        congr 1
        rw [h0] at e1
        have e3 : A + (p - 1) = p * (A / p) + (p - 1) := by omega
        rw [e3, Nat.mul_add_div hp0, Nat.div_eq_of_lt (show p - 1 < p by omega)]
      · rw [if_neg h0]
        congr 1
        have e4 : p * (A / p + 1) = p * (A / p) + p := by rw [Nat.mul_add, Nat.mul_one]
        have e3 : A + (p - 1) = p * (A / p + 1) + (A % p - 1) := by omega
        rw [e3, Nat.mul_add_div hp0, Nat.div_eq_of_lt (show A % p - 1 < p by omega)]
    clear bX bs bp
    refine wk hE (And.intro eX (And.intro eA (And.intro hb (And.intro n1 (And.intro hp (And.intro k1 (And.intro k2 d0))))))) ?_
    refine PostL.mk trivial ?_
    exact congrArg zi hq
  · have hb : decide (X < 0) = false := decide_eq_false hn
    rw [hb] at hX
    have hq : zs false (A / p) = X / (p : Int) := by
      rw [hX]
      unfold zs; simp
    clear bX bs bp
    refine wk hE (And.intro eX (And.intro eA (And.intro hb (And.intro n1 (And.intro hp (And.intro k1 (And.intro k2 d0))))))) ?_
    refine PostL.mk trivial ?_
    exact congrArg zi hq
theorem rzsign_ok : SpOK Tryz.prog 24 (spZ 0 (fun _ x => Lm x ∧ x.length < 10000000) (fun b x => .raw (.int .i64 (zv b x).sign))) := by
  refine SpOK.Z fun b x ⟨hx, hxl⟩ => ?_
  have hE := env (SOK.cons rznorm_ok (SOK.nil (P := Tryz.prog)))
  refine ACall.body hE Tryz.func24 Tryz.ntmps24 Tryz.results24 ?_
  obtain ⟨X, eX⟩ : ∃ X, zv b x = X := ⟨_, rfl⟩
  rw [eX]
  rcases sign_cases X with ⟨h, k⟩ | ⟨h, k⟩ | ⟨h, k⟩
  · have hz : (((dg X.natAbs).length : Int) == 0) = false := by
      have := List.length_pos_iff.2 (fun h => (show X.natAbs ≠ 0 by omega) (dg_nil.1 h))
      rw [beq_eq_false_iff_ne]; omega
    have hb : decide (X < 0) = true := decide_eq_true h
    refine wk hE (And.intro eX (And.intro hz hb)) ?_
    refine PostL.mk trivial ?_
    rw [k]
  · have hz : (((dg X.natAbs).length : Int) == 0) = true := by rw [h, Int.natAbs_zero, dg_zero]; rfl
    refine wk hE (And.intro eX hz) ?_
    refine PostL.mk trivial ?_
    rw [k]
  · have hz : (((dg X.natAbs).length : Int) == 0) = false := by
      have := List.length_pos_iff.2 (fun h => (show X.natAbs ≠ 0 by omega) (dg_nil.1 h))
      rw [beq_eq_false_iff_ne]; omega
    have hb : decide (X < 0) = false := decide_eq_false (by omega)
    refine wk hE (And.intro eX (And.intro hz hb)) ?_
    refine PostL.mk trivial ?_
    rw [k]
end Go.Hl

namespace Go.Hl
open Go Go.RowKit Go.Proofs
set_option maxHeartbeats 8000000
def Hold (p : Prop) : Prop := p
theorem AWp.regionH {P : Program} {T : Tab} {S : FuncId → Option Sp} {n : Nat} {Q : Exit → St → Prop} {σ : St} (hE : Env P T S) {id : Nat} {l : List Oper}
    (h : opsD T S l.toArray l (fun σ => Hold (Q .normal σ)) (cleanD l σ)) (hd : dstsB l.toArray n = true := by kernel_rfl) (hok : okP [] l.toArray = true := by kernel_rfl) : AWp P T n (.region id l.toArray true) Q σ :=
  AWp.regionP [] hE.hT hE.hS hE.hm (fun p i h => by cases h) h hd hok
theorem div_uniq {X Y Q R : Int} (hY : Y ≠ 0) (h : Q * Y + R = X) (h0 : 0 ≤ R) (h1 : R < (Y.natAbs : Int)) : X / Y = Q ∧ X % Y = R := by
  have e : X = R + Y * Q := by rw [← h, Int.mul_comm Q, Int.add_comm]
  rw [e, Int.add_mul_ediv_left _ _ hY, Int.add_mul_emod_self_left]
  rcases Int.lt_or_gt_of_ne hY with hn | hp
  · have e2 : Y = -(-Y) := by omega
    rw [e2, Int.ediv_neg, Int.emod_neg, Int.ediv_eq_zero_of_lt h0 (by omega), Int.emod_eq_of_lt h0 (by omega)]
    simp
  · rw [Int.ediv_eq_zero_of_lt h0 (by omega), Int.emod_eq_of_lt h0 (by omega)]
    simp
theorem rzdivmod_ok : SpOK Tryz.prog 81 spZDivMod := by
  refine SpOK.ZZ fun b x c y ⟨hx, hxl, hy, hyl⟩ => ?_
  have hE := env (SOK.cons rznorm_ok (SOK.cons rdivmod_ok (SOK.cons rmade_ok (SOK.cons rzabs_ok (SOK.cons rzadd_ok (SOK.cons rzsub_ok (SOK.cons rzof_ok (SOK.nil (P := Tryz.prog)))))))))
  obtain ⟨l, hl⟩ : ∃ l, l + 1 = 10000000 := ⟨_, rfl⟩
  have bX := zv_abs_lt (b := b) hx (l := l) (by omega)
  have bY := zv_abs_lt (b := c) hy (l := l) (by omega)
  obtain ⟨X, eX⟩ : ∃ X, zv b x = X := ⟨_, rfl⟩
  obtain ⟨Y, eY⟩ : ∃ Y, zv c y = Y := ⟨_, rfl⟩
  rw [eX] at bX ⊢
  rw [eY] at bY ⊢
  obtain ⟨A, eA⟩ : ∃ A, X.natAbs = A := ⟨_, rfl⟩
  obtain ⟨B, eB⟩ : ∃ B, Y.natAbs = B := ⟨_, rfl⟩
  rw [eA] at bX
  rw [eB] at bY
  obtain ⟨h1, h1'⟩ : Lm (dg A) ∧ (dg A).length < 100000000 := by obtain ⟨a, _, c⟩ := dgl bX (by omega); exact ⟨a, by omega⟩
  obtain ⟨h2, h2'⟩ : Lm (dg B) ∧ (dg B).length < 10000000 := by obtain ⟨a, _, c⟩ := dgl bY (by omega); exact ⟨a, by omega⟩
  have n1 : nb (dg A) = A := nb_dg _
  have n2 : nb (dg B) = B := nb_dg _
  refine ACall.body hE Tryz.func81 Tryz.ntmps81 Tryz.results81 ?_
  by_cases hB : B = 0
  · have hd : decide (B ≠ 0) = false := by rw [hB]; rfl
    refine wk hE (And.intro eX (And.intro eY (And.intro eA (And.intro eB (And.intro n1 (And.intro n2 hd)))))) ?_
    refine PostL.mk trivial ?_
    have hY : Y = 0 := by omega
    rw [hY, Int.ediv_zero, zi_zero]
    simp [rz]
  have hY : Y ≠ 0 := by omega
  have hd : decide (B ≠ 0) = true := decide_eq_true hB
  have hr : rm A B = A % B := if_neg hB
  have hdY : decide (Y ≠ 0) = true := decide_eq_true hY
  obtain ⟨s1, s2, s3⟩ := dgl (n := A / B) (Nat.lt_of_le_of_lt (Nat.div_le_self _ _) bX) (by omega)
  obtain ⟨t1, t2, t3⟩ := dgl (n := A % B) (Nat.lt_of_le_of_lt (Nat.mod_le _ _) bX) (by omega)
  have hX : X = zs (decide (X < 0)) A := by unfold zs; split <;> (rename_i h; simp at h; omega)
  have hYz : Y = zs (decide (Y < 0)) B := by unfold zs; split <;> (rename_i h; simp at h; omega)
  have key : ∀ sx sy : Bool, zs (!(sx == sy)) (A / B) * zs sy B + zs sx (A % B) = zs sx A := by
    intro sx sy
    have e : A / B * B + A % B = A := by rw [Nat.mul_comm]; exact Nat.div_add_mod A B
    have e2 : ((!(sx == sy)) != sy) = sx := by cases sx <;> cases sy <;> rfl
    rw [← zs_mul, e2, ← zs_add, e]
  have hQR := key (decide (X < 0)) (decide (Y < 0))
  rw [← hX, ← hYz] at hQR
  have aQ : (zs (!(decide (X < 0) == decide (Y < 0))) (A / B)).natAbs = A / B := zs_abs _ _
  have aR : (zs (decide (X < 0)) (A % B)).natAbs = A % B := zs_abs _ _
  have zY : zv (decide (Y < 0)) (dg B) = Y := by rw [zv_dg]; exact hYz.symm
  obtain ⟨Q, eQ⟩ : ∃ Q, zs (!(decide (X < 0) == decide (Y < 0))) (A / B) = Q := ⟨_, rfl⟩
  obtain ⟨R, eR⟩ : ∃ R, zs (decide (X < 0)) (A % B) = R := ⟨_, rfl⟩
  rw [eQ] at hQR aQ
  rw [eR] at hQR aR
  have hRB : R.natAbs < B := by rw [aR]; exact Nat.mod_lt _ (by omega)
  have bQ : Q.natAbs < B64 ^ l := by rw [aQ]; exact Nat.lt_of_le_of_lt (Nat.div_le_self _ _) bX
  have bR : R.natAbs < B64 ^ l := by rw [aR]; exact Nat.lt_of_le_of_lt (Nat.mod_le _ _) bX
  obtain ⟨f1, f1'⟩ := nat_abs_lt bQ (by omega)
  obtain ⟨f2, f2'⟩ := nat_abs_lt bR (by omega)
  obtain ⟨f3, f3'⟩ := nat_abs_lt (z := (B : Int)) (l := l) (by rw [Int.natAbs_natCast]; exact bY) (by omega)
  obtain ⟨f4, f4'⟩ : Lm (dg (Int.natAbs 1)) ∧ (dg (Int.natAbs 1)).length ≤ 1 := ⟨lm_dg (by have := dg_one (n := Int.natAbs 1) (by decide); omega), dg_one (by decide)⟩
  have b1 : zv false (dg (Int.natAbs 1)) = 1 := zv_lit _ rfl
  have mQ : (Q + 1) * Y = Q * Y + Y := by rw [Int.add_mul, Int.one_mul]
  have mQ' : (Q - 1) * Y = Q * Y - Y := by rw [Int.sub_mul, Int.one_mul]
  have hP : ∀ q r : Int, q * Y + r = X → 0 ≤ r → r < (B : Int) → X / Y = q ∧ rz X Y = r := fun q r h1 h2 h3 => by
    unfold rz; rw [if_neg hY]; exact div_uniq hY h1 h2 (by omega)
  clear bX bY bQ bR key hX hYz aQ aR
  refine wk hE (And.intro eX (And.intro eY (And.intro eA (And.intro eB (And.intro n1 (And.intro n2 (And.intro hd (And.intro hr (And.intro eQ eR))))))))) ?_
  refine AWp.test trivial (fun hc => ?_) (fun hc => ?_)
  · have hc := of_decide_eq_true hc
    refine wk hE (And.intro zY (And.intro eY (And.intro eB b1))) ?_
    refine AWp.test trivial (fun hn => ?_) (fun hn => ?_)
    · have hn := of_decide_eq_true hn
      obtain ⟨r1, r2⟩ := hP (Q + 1) (R + B) (by omega) (by omega) (by omega)
      refine AWp.regionH hE (wk hE (And.intro zY (And.intro eY (And.intro eB b1))) ?_)
      change AWp _ _ _ (.seq _ _) _ _
      refine AWp.seq ?_
      refine AWp.regionP [(10, 10), (11, 11), (4, 4), (5, 5)] hE.hT hE.hS hE.hm ?_ (wk hE trivial ?_)
      · intro p i h
        simp only [lk] at h
        split at h
        · rename_i e; cases h; subst e; exact ⟨0, rfl⟩
        split at h
        · rename_i e; cases h; subst e; exact ⟨0, rfl⟩
        split at h
        · rename_i e; cases h; subst e; exact ⟨0, rfl⟩
        split at h
        · rename_i e; cases h; subst e; exact ⟨0, rfl⟩
        · cases h
      refine PostL.mk trivial ?_
      rw [r1, r2, hdY]
      rfl
    · have hn := of_decide_eq_false hn
      obtain ⟨r1, r2⟩ := hP (Q - 1) (R + B) (by omega) (by omega) (by omega)
      refine AWp.regionH hE (wk hE (And.intro zY (And.intro eY (And.intro eB b1))) ?_)
      change AWp _ _ _ (.seq _ _) _ _
      refine AWp.seq ?_
      refine AWp.regionP [(10, 10), (11, 11), (4, 4), (5, 5)] hE.hT hE.hS hE.hm ?_ (wk hE trivial ?_)
      · intro p i h
        simp only [lk] at h
        split at h
        · rename_i e; cases h; subst e; exact ⟨0, rfl⟩
        split at h
        · rename_i e; cases h; subst e; exact ⟨0, rfl⟩
        split at h
        · rename_i e; cases h; subst e; exact ⟨0, rfl⟩
        split at h
        · rename_i e; cases h; subst e; exact ⟨0, rfl⟩
        · cases h
      refine PostL.mk trivial ?_
      rw [r1, r2, hdY]
      rfl
  · have hc := of_decide_eq_false hc
    obtain ⟨r1, r2⟩ := hP Q R hQR (by omega) (by omega)
    refine AWp.skip ?_
    change AWp _ _ _ (.seq _ _) _ _
    refine AWp.seq ?_
    refine AWp.regionP [(10, 10), (11, 11), (4, 4), (5, 5)] hE.hT hE.hS hE.hm ?_ (wk hE trivial ?_)
    · intro p i h
      simp only [lk] at h
      split at h
      · rename_i e; cases h; subst e; exact ⟨0, rfl⟩
      split at h
      · rename_i e; cases h; subst e; exact ⟨0, rfl⟩
      split at h
      · rename_i e; cases h; subst e; exact ⟨0, rfl⟩
      split at h
      · rename_i e; cases h; subst e; exact ⟨0, rfl⟩
      · cases h
    refine PostL.mk trivial ?_
    rw [r1, r2, hdY]
    rfl
end Go.Hl

namespace Go.Hl
open Go Go.RowKit Go.Proofs
set_option maxHeartbeats 8000000
@[push_cast] def spFloor : Sp := spZZ 0 (fun _ x _ y => Lm x ∧ x.length < 10000000 ∧ Lm y ∧ y.length < 10000000) (fun b x c y => zi ((zv b x).fdiv (zv c y)))
end Go.Hl

namespace Go.Hl
open Go Go.RowKit Go.Proofs
set_option maxHeartbeats 8000000
theorem sign_cmpZ (X Y : Int) : (X - Y).sign = cmpZ X Y := by
  unfold cmpZ
  rcases sign_cases (X - Y) with h | h | h
  · rw [if_pos (by omega)]; exact h.2
  · rw [if_neg (by omega), if_neg (by omega)]; exact h.2
  · rw [if_neg (by omega), if_pos (by omega)]; exact h.2
@[push_cast] def spRZCmp : Sp := spZZ 0 (fun _ x _ y => Lm x ∧ x.length < 1000000 ∧ Lm y ∧ y.length < 1000000) (fun b x c y => .raw (.int .i64 (cmpZ (zv b x) (zv c y))))
theorem rzcmp_ok : SpOK Tryz.prog 29 spRZCmp := by
  refine SpOK.ZZ fun b x c y ⟨hx, hxl, hy, hyl⟩ => ?_
  have hE := env (SOK.cons rzsub_ok (SOK.cons rzsign_ok (SOK.nil (P := Tryz.prog))))
  obtain ⟨l, hl⟩ : ∃ l, l = 1000000 := ⟨_, rfl⟩
  have bX := zv_abs_lt (b := b) hx (l := l) (by omega)
  have bY := zv_abs_lt (b := c) hy (l := l) (by omega)
  obtain ⟨X, eX⟩ : ∃ X, zv b x = X := ⟨_, rfl⟩
  obtain ⟨Y, eY⟩ : ∃ Y, zv c y = Y := ⟨_, rfl⟩
  rw [eX] at bX ⊢
  rw [eY] at bY ⊢
  obtain ⟨f1, f1'⟩ := nat_abs_lt (abs_sub_lt bX bY) (by omega)
  have e := sign_cmpZ X Y
  clear bX bY
  refine ACall.body hE Tryz.func29 Tryz.ntmps29 Tryz.results29 ?_
  refine wk hE (And.intro eX (And.intro eY e)) ?_
  exact PostL.mk trivial rfl
@[push_cast] def spRZSame : Sp := spZZ 0 (fun _ x _ y => Lm x ∧ x.length < 1000000 ∧ Lm y ∧ y.length < 1000000) (fun b x c y => .raw (.bool (decide (zv b x = zv c y))))
theorem rzsmall_ok : SpOK Tryz.prog 61 spSmall := by
  refine SpOK.Z fun b x ⟨hx, hxl⟩ => ?_
  have hE := env (SOK.cons rznorm_ok (SOK.nil (P := Tryz.prog)))
  refine ACall.body hE Tryz.func61 Tryz.ntmps61 Tryz.results61 ?_
  obtain ⟨X, eX⟩ : ∃ X, zv b x = X := ⟨_, rfl⟩
  rw [eX]
  obtain ⟨N, hN⟩ : ∃ N, X.natAbs = N := ⟨_, rfl⟩
  by_cases h0 : N = 0
  · have hz : (((dg N).length : Int) == 0) = true := by rw [h0, dg_zero]; rfl
    refine wk hE (And.intro eX (And.intro hN hz)) ?_
    refine PostL.mk trivial ?_
    have : X = 0 := by omega
    rw [this]; rfl
  have hz : (((dg N).length : Int) == 0) = false := by
    have := List.length_pos_iff.2 (fun h => h0 (dg_nil.1 h))
    rw [beq_eq_false_iff_ne]; omega
  have hl0 : 0 < (dg N).length := List.length_pos_iff.2 (fun h => h0 (dg_nil.1 h))
  by_cases h1 : N < 18446744073709551616
  · have hl1 : (dg N).length = 1 := by
      have := dg_one h1; omega
    have hgd := dg_getD h1
    have hl2 : ¬ (1 : Int) < (dg N).length := by omega
    by_cases hn : X < 0
    · have hb : decide (X < 0) = true := decide_eq_true hn
      obtain ⟨m, hm⟩ : ∃ m, (N : Int) - 1 = m := ⟨_, rfl⟩
      obtain ⟨q, hq⟩ : ∃ q, 0 - m = q := ⟨_, rfl⟩
      have hqX : q - 1 = X := by omega
      by_cases h2 : N < 9223372036854775808
      · have hf : fits64 X = true := decide_eq_true (by omega)
        refine wk hE (And.intro eX (And.intro hN (And.intro hz (And.intro hgd (And.intro hl2 (And.intro hb (And.intro (show (N : Int) < 9223372036854775808 by omega) (And.intro (show (N : Int) ≤ 9223372036854775808 by omega) (And.intro hm (And.intro hq hqX)))))))))) ?_
        refine PostL.mk trivial ?_
        rw [hf]; rfl
      · by_cases h3 : N = 9223372036854775808
        · have hf : fits64 X = true := decide_eq_true (by omega)
          refine wk hE (And.intro eX (And.intro hN (And.intro hz (And.intro hgd (And.intro hl2 (And.intro hb (And.intro (show ¬ (N : Int) < 9223372036854775808 by omega) (And.intro (show (N : Int) ≤ 9223372036854775808 by omega) (And.intro hm (And.intro hq hqX)))))))))) ?_
          refine PostL.mk trivial ?_
          rw [hf]; rfl
        · have hf : fits64 X = false := decide_eq_false (by omega)
          refine wk hE (And.intro eX (And.intro hN (And.intro hz (And.intro hgd (And.intro hl2 (And.intro hb (And.intro (show ¬ (N : Int) < 9223372036854775808 by omega) (show ¬ (N : Int) ≤ 9223372036854775808 by omega)))))))) ?_
          refine PostL.mk trivial ?_
          rw [hf]; rfl
    · have hb : decide (X < 0) = false := decide_eq_false hn
      have hNX : (N : Int) = X := by omega
      by_cases h2 : N < 9223372036854775808
      · have hf : fits64 X = true := decide_eq_true (by omega)
        have e1 : IntKind.i64.wrap (N : Int) = X := by rw [hNX]; exact w64 (by omega) (by omega)
        refine wk hE (And.intro eX (And.intro hN (And.intro hz (And.intro hgd (And.intro hl2 (And.intro hb (And.intro (show (N : Int) < 9223372036854775808 by omega) e1))))))) ?_
        refine PostL.mk trivial ?_
        rw [hf]; rfl
      · have hf : fits64 X = false := decide_eq_false (by omega)
        by_cases h3 : N = 9223372036854775808
        · refine wk hE (And.intro eX (And.intro hN (And.intro hz (And.intro hgd (And.intro hl2 (And.intro hb (And.intro (show ¬ (N : Int) < 9223372036854775808 by omega) (show (N : Int) ≤ 9223372036854775808 by omega)))))))) ?_
          refine PostL.mk trivial ?_
          rw [hf]; rfl
        · refine wk hE (And.intro eX (And.intro hN (And.intro hz (And.intro hgd (And.intro hl2 (And.intro hb (And.intro (show ¬ (N : Int) < 9223372036854775808 by omega) (show ¬ (N : Int) ≤ 9223372036854775808 by omega)))))))) ?_
          refine PostL.mk trivial ?_
          rw [hf]; rfl
  · have hl2 : (1 : Int) < (dg N).length := by
      have : ¬ (dg N).length ≤ 1 := fun h => h1 (by have := (digs_length_le (B := B64) (by decide) N 1).1 h; rwa [Nat.pow_one] at this)
      omega
    have hf : fits64 X = false := decide_eq_false (by omega)
    refine wk hE (And.intro eX (And.intro hN (And.intro hz hl2))) ?_
    refine PostL.mk trivial ?_
    rw [hf]; rfl
end Go.Hl

/- ref02: DivMod, floor, Round, Up -/
import Derived.Test.YtccbmjkhplmgnaaHlY2
set_option linter.unusedVariables false
set_option linter.unusedSimpArgs false
namespace Go.Hl
open Go Go.RowKit Go.Proofs
set_option maxHeartbeats 8000000

/-- Here the walk halts. -/
def Hold (p : Prop) : Prop := p
theorem AWp.regionH {P : Program} {T : Tab} {S : FuncId → Option Sp} {n : Nat} {Q : Exit → St → Prop} {σ : St} (hE : Env P T S) {id : Nat} {l : List Oper}
    (h : opsD T S l.toArray l (fun σ => Hold (Q .normal σ)) (cleanD l σ)) (hd : dstsB l.toArray n = true := by kernel_rfl) (hok : okP [] l.toArray = true := by kernel_rfl) : AWp P T n (.region id l.toArray true) Q σ :=
  AWp.regionP [] hE.hT hE.hS hE.hm (fun p i h => by cases h) h hd hok

theorem div_uniq {X Y Q R : Int} (hY : Y ≠ 0) (h : Q * Y + R = X) (h0 : 0 ≤ R) (h1 : R < (Y.natAbs : Int)) : X / Y = Q ∧ X % Y = R := by
  have e : X = R + Y * Q := by rw [← h, Int.mul_comm Q, Int.add_comm]
  rw [e, Int.add_mul_ediv_left _ _ hY, Int.add_mul_emod_self_left]
  rcases Int.lt_or_gt_of_ne hY with hn | hp
  · have e2 : Y = -(-Y) := by omega
    rw [e2, Int.ediv_neg, Int.emod_neg, Int.ediv_eq_zero_of_lt h0 (by omega), Int.emod_eq_of_lt h0 (by omega)]
    simp
  · rw [Int.ediv_eq_zero_of_lt h0 (by omega), Int.emod_eq_of_lt h0 (by omega)]
    simp

theorem rzdivmod_ok : SpOK Try.prog 70 spZDivMod := by
  refine SpOK.ZZ fun b x c y ⟨hx, hxl, hy, hyl⟩ => ?_
  have hE := env (SOK.cons rznorm_ok (SOK.cons rdivmod_ok (SOK.cons rmade_ok (SOK.cons rzabs_ok (SOK.cons rzadd_ok (SOK.cons rzsub_ok (SOK.cons rzof_ok (SOK.nil (P := Try.prog)))))))))
  obtain ⟨l, hl⟩ : ∃ l, l + 1 = 10000000 := ⟨_, rfl⟩
  have bX := zv_abs_lt (b := b) hx (l := l) (by omega)
  have bY := zv_abs_lt (b := c) hy (l := l) (by omega)
  obtain ⟨X, eX⟩ : ∃ X, zv b x = X := ⟨_, rfl⟩
  obtain ⟨Y, eY⟩ : ∃ Y, zv c y = Y := ⟨_, rfl⟩
  rw [eX] at bX ⊢
  rw [eY] at bY ⊢
  obtain ⟨A, eA⟩ : ∃ A, X.natAbs = A := ⟨_, rfl⟩
  obtain ⟨B, eB⟩ : ∃ B, Y.natAbs = B := ⟨_, rfl⟩
  rw [eA] at bX
  rw [eB] at bY
  obtain ⟨h1, h1'⟩ : Lm (dg A) ∧ (dg A).length < 100000000 := by obtain ⟨a, _, c⟩ := dgl bX (by omega); exact ⟨a, by omega⟩
  obtain ⟨h2, h2'⟩ : Lm (dg B) ∧ (dg B).length < 10000000 := by obtain ⟨a, _, c⟩ := dgl bY (by omega); exact ⟨a, by omega⟩
  have n1 : nb (dg A) = A := nb_dg _
  have n2 : nb (dg B) = B := nb_dg _
  refine ACall.body hE Try.func70 Try.ntmps70 Try.results70 ?_
  by_cases hB : B = 0
  · have hd : decide (B ≠ 0) = false := by rw [hB]; rfl
    refine wk hE (And.intro eX (And.intro eY (And.intro eA (And.intro eB (And.intro n1 (And.intro n2 hd)))))) ?_
    refine PostL.mk trivial ?_
    have hY : Y = 0 := by omega
    rw [hY, Int.ediv_zero, zi_zero]
    simp [rz]
  have hY : Y ≠ 0 := by omega
  have hd : decide (B ≠ 0) = true := decide_eq_true hB
  have hr : rm A B = A % B := if_neg hB
  have hdY : decide (Y ≠ 0) = true := decide_eq_true hY
  obtain ⟨s1, s2, s3⟩ := dgl (n := A / B) (Nat.lt_of_le_of_lt (Nat.div_le_self _ _) bX) (by omega)
  obtain ⟨t1, t2, t3⟩ := dgl (n := A % B) (Nat.lt_of_le_of_lt (Nat.mod_le _ _) bX) (by omega)
  have hX : X = zs (decide (X < 0)) A := by unfold zs; split <;> (rename_i h; simp at h; omega)
  have hYz : Y = zs (decide (Y < 0)) B := by unfold zs; split <;> (rename_i h; simp at h; omega)
  have key : ∀ sx sy : Bool, zs (!(sx == sy)) (A / B) * zs sy B + zs sx (A % B) = zs sx A := by
    intro sx sy
    have e : A / B * B + A % B = A := by rw [Nat.mul_comm]; exact Nat.div_add_mod A B
    have e2 : ((!(sx == sy)) != sy) = sx := by cases sx <;> cases sy <;> rfl
    rw [← zs_mul, e2, ← zs_add, e]
  have hQR := key (decide (X < 0)) (decide (Y < 0))
  rw [← hX, ← hYz] at hQR
  have aQ : (zs (!(decide (X < 0) == decide (Y < 0))) (A / B)).natAbs = A / B := zs_abs _ _
  have aR : (zs (decide (X < 0)) (A % B)).natAbs = A % B := zs_abs _ _
  have zY : zv (decide (Y < 0)) (dg B) = Y := by rw [zv_dg]; exact hYz.symm
  obtain ⟨Q, eQ⟩ : ∃ Q, zs (!(decide (X < 0) == decide (Y < 0))) (A / B) = Q := ⟨_, rfl⟩
  obtain ⟨R, eR⟩ : ∃ R, zs (decide (X < 0)) (A % B) = R := ⟨_, rfl⟩
  rw [eQ] at hQR aQ
  rw [eR] at hQR aR
  have hRB : R.natAbs < B := by rw [aR]; exact Nat.mod_lt _ (by omega)
  have bQ : Q.natAbs < B64 ^ l := by rw [aQ]; exact Nat.lt_of_le_of_lt (Nat.div_le_self _ _) bX
  have bR : R.natAbs < B64 ^ l := by rw [aR]; exact Nat.lt_of_le_of_lt (Nat.mod_le _ _) bX
  obtain ⟨f1, f1'⟩ := nat_abs_lt bQ (by omega)
  obtain ⟨f2, f2'⟩ := nat_abs_lt bR (by omega)
  obtain ⟨f3, f3'⟩ := nat_abs_lt (z := (B : Int)) (l := l) (by rw [Int.natAbs_natCast]; exact bY) (by omega)
  obtain ⟨f4, f4'⟩ : Lm (dg (Int.natAbs 1)) ∧ (dg (Int.natAbs 1)).length ≤ 1 := ⟨lm_dg (by have := dg_one (n := Int.natAbs 1) (by decide); omega), dg_one (by decide)⟩
  have b1 : zv false (dg (Int.natAbs 1)) = 1 := zv_lit _ rfl
  have mQ : (Q + 1) * Y = Q * Y + Y := by rw [Int.add_mul, Int.one_mul]
  have mQ' : (Q - 1) * Y = Q * Y - Y := by rw [Int.sub_mul, Int.one_mul]
  have hP : ∀ q r : Int, q * Y + r = X → 0 ≤ r → r < (B : Int) → X / Y = q ∧ rz X Y = r := fun q r h1 h2 h3 => by
    unfold rz; rw [if_neg hY]; exact div_uniq hY h1 h2 (by omega)
  clear bX bY bQ bR key hX hYz aQ aR
  refine wk hE (And.intro eX (And.intro eY (And.intro eA (And.intro eB (And.intro n1 (And.intro n2 (And.intro hd (And.intro hr (And.intro eQ eR))))))))) ?_
  refine AWp.test trivial (fun hc => ?_) (fun hc => ?_)
  · have hc := of_decide_eq_true hc
    refine wk hE (And.intro zY (And.intro eY (And.intro eB b1))) ?_
    refine AWp.test trivial (fun hn => ?_) (fun hn => ?_)
    · have hn := of_decide_eq_true hn
      obtain ⟨r1, r2⟩ := hP (Q + 1) (R + B) (by omega) (by omega) (by omega)
      refine AWp.regionH hE (wk hE (And.intro zY (And.intro eY (And.intro eB b1))) ?_)
      change AWp _ _ _ (.seq _ _) _ _
      refine AWp.seq ?_
      refine AWp.regionP [(10, 10), (11, 11), (4, 4), (5, 5)] hE.hT hE.hS hE.hm ?_ (wk hE trivial ?_)
      · intro p i h
        simp only [lk] at h
        split at h
        · rename_i e; cases h; subst e; exact ⟨0, rfl⟩
        split at h
        · rename_i e; cases h; subst e; exact ⟨0, rfl⟩
        split at h
        · rename_i e; cases h; subst e; exact ⟨0, rfl⟩
        split at h
        · rename_i e; cases h; subst e; exact ⟨0, rfl⟩
        · cases h
      refine PostL.mk trivial ?_
      rw [r1, r2, hdY]
      rfl
    · have hn := of_decide_eq_false hn
      obtain ⟨r1, r2⟩ := hP (Q - 1) (R + B) (by omega) (by omega) (by omega)
      refine AWp.regionH hE (wk hE (And.intro zY (And.intro eY (And.intro eB b1))) ?_)
      change AWp _ _ _ (.seq _ _) _ _
      refine AWp.seq ?_
      refine AWp.regionP [(10, 10), (11, 11), (4, 4), (5, 5)] hE.hT hE.hS hE.hm ?_ (wk hE trivial ?_)
      · intro p i h
        simp only [lk] at h
        split at h
        · rename_i e; cases h; subst e; exact ⟨0, rfl⟩
        split at h
        · rename_i e; cases h; subst e; exact ⟨0, rfl⟩
        split at h
        · rename_i e; cases h; subst e; exact ⟨0, rfl⟩
        split at h
        · rename_i e; cases h; subst e; exact ⟨0, rfl⟩
        · cases h
      refine PostL.mk trivial ?_
      rw [r1, r2, hdY]
      rfl
  · have hc := of_decide_eq_false hc
    obtain ⟨r1, r2⟩ := hP Q R hQR (by omega) (by omega)
    refine AWp.skip ?_
    change AWp _ _ _ (.seq _ _) _ _
    refine AWp.seq ?_
    refine AWp.regionP [(10, 10), (11, 11), (4, 4), (5, 5)] hE.hT hE.hS hE.hm ?_ (wk hE trivial ?_)
    · intro p i h
      simp only [lk] at h
      split at h
      · rename_i e; cases h; subst e; exact ⟨0, rfl⟩
      split at h
      · rename_i e; cases h; subst e; exact ⟨0, rfl⟩
      split at h
      · rename_i e; cases h; subst e; exact ⟨0, rfl⟩
      split at h
      · rename_i e; cases h; subst e; exact ⟨0, rfl⟩
      · cases h
    refine PostL.mk trivial ?_
    rw [r1, r2, hdY]
    rfl
end Go.Hl

/- zed: Shr, DivMod, down, Round, Up, Gcd, Small -/
import Derived.Test.YtccbmjkhplmgnaaDoorHlZ3
import Derived.Test.YtccbmjkhplmgnaaDoorHlAv30
set_option linter.unusedVariables false
set_option linter.unusedSimpArgs false
namespace Go.Hl
open Go Go.RowKit Go.Proofs
set_option maxHeartbeats 8000000

/-- A quotient of what is below nought. -/
theorem neg_div {a p : Nat} (hp : 0 < p) : (-(a : Int)) / (p : Int) = -((a / p + (if a % p = 0 then 0 else 1) : Nat) : Int) ∧ (-(a : Int)) % (p : Int) = ((if a % p = 0 then 0 else p - a % p : Nat) : Int) := by
  have h1 := Nat.div_add_mod a p
  have h2 := Nat.mod_lt a hp
  obtain ⟨q, hq⟩ : ∃ q, a / p = q := ⟨_, rfl⟩
  obtain ⟨r, hr⟩ : ∃ r, a % p = r := ⟨_, rfl⟩
  rw [hq, hr] at h1
  rw [hr] at h2
  rw [hq, hr]
  have hp' : (p : Int) ≠ 0 := by omega
  by_cases h0 : r = 0
  · rw [if_pos h0, if_pos h0, Nat.add_zero]
    have e : (-(a : Int)) = 0 + (p : Int) * (-(q : Int)) := by rw [← h1, h0]; simp [Int.mul_neg]
    rw [e, Int.add_mul_ediv_left _ _ hp', Int.add_mul_emod_self_left]
    simp
  · rw [if_neg h0, if_neg h0]
    have e : (-(a : Int)) = ((p - r : Nat) : Int) + (p : Int) * (-((q + 1 : Nat) : Int)) := by
      rw [← h1, Int.natCast_sub (by omega), Int.natCast_add, Int.natCast_add, Int.natCast_mul, Int.mul_neg, Int.mul_add]
      omega
    have hlt : ((p - r : Nat) : Int) < p := by omega
    rw [e, Int.add_mul_ediv_left _ _ hp', Int.add_mul_emod_self_left, Int.ediv_eq_zero_of_lt (by omega) hlt, Int.emod_eq_of_lt (by omega) hlt]
    simp

@[push_cast] def spZShr : Sp := spZI 0 (fun _ x _ => Lm x ∧ x.length < 10000000) (fun b x n => zi (zv b x / 2 ^ sh n))
theorem zshr_ok : SpOK Tryd.prog 20 spZShr := by
  refine SpOK.ZI fun b x n ⟨hx, hxl⟩ => ?_
  have hE := env (SOK.cons shl_ok (SOK.cons shr_ok (SOK.cons cmp_ok (SOK.cons add_ok (SOK.cons made_ok (SOK.nil (P := Tryd.prog)))))))
  refine ACall.body hE Tryd.func20 Tryd.ntmps20 Tryd.results20 ?_
  obtain ⟨l, hl⟩ : ∃ l, l = 10000000 := ⟨_, rfl⟩
  have bA := nbl hx (l := l) (by omega)
  unfold zv
  obtain ⟨A, eA⟩ : ∃ A, nb x = A := ⟨_, rfl⟩
  rw [eA] at bA ⊢
  have hpi : (2 : Int) ^ sh n = ((2 ^ sh n : Nat) : Int) := (Int.natCast_pow 2 _).symm
  have hp0 : 0 < 2 ^ sh n := Nat.two_pow_pos _
  rw [hpi]
  obtain ⟨s1, s2, s3⟩ := dgl (n := A / 2 ^ sh n) (Nat.lt_of_le_of_lt (Nat.div_le_self _ _) bA) (by omega)
  obtain ⟨t1, t2, t3⟩ := dgl (n := A / 2 ^ sh n * 2 ^ sh n) (Nat.lt_of_le_of_lt (Nat.div_mul_le_self _ _) bA) (by omega)
  obtain ⟨p, hp⟩ : ∃ p, 2 ^ sh n = p := ⟨_, rfl⟩
  rw [hp] at hp0 s1 s2 s3 t1 t2 t3 ⊢
  cases b
  · refine wk hE (And.intro eA hp) ?_
    refine PostL.mk trivial ?_
    refine congrArg zi ?_
    unfold zs; simp
  · have hn := (neg_div (a := A) hp0).1
    have hdm := Nat.div_add_mod A p
    rw [Nat.mul_comm] at hdm
    by_cases h0 : A % p = 0
    · have hc : cmpI (A / p * p) A = 0 := by unfold cmpI; rw [if_neg (by omega), if_neg (by omega)]
      refine wk hE (And.intro eA (And.intro hp hc)) ?_
      refine PostL.mk trivial ?_
      refine congrArg zi ?_
      rw [if_pos h0] at hn
      unfold zs; simpa using hn.symm
    · have hc : (cmpI (A / p * p) A != 0) = true := by rw [bne_iff_ne]; unfold cmpI; rw [if_pos (by omega)]; decide
      have h1 : nb [1] = 1 := by simp [nb, nv]
      have l1 : Lm [1] := ⟨Lim.cons (by rw [hB64]; omega) Lim.nil, by simp⟩
      have b1 : A / p < B64 ^ l := Nat.lt_of_le_of_lt (Nat.div_le_self _ _) bA
      obtain ⟨u1, u2, u3⟩ := dgl (n := A / p + 1) (k := l + 1) (by
        rw [Nat.pow_succ]
        have : B64 ^ l * 2 ≤ B64 ^ l * B64 := Nat.mul_le_mul_left _ (by decide)
        have := Nat.pow_pos (n := l) (show 0 < B64 by decide)
        omega) (by omega)
      refine wk hE (And.intro eA (And.intro hp (And.intro hc h1))) ?_
      refine PostL.mk trivial ?_
      refine congrArg zi ?_
      rw [if_neg h0] at hn
      unfold zs; simpa using hn.symm

/-- What is left, from nought on; of a division by nought: nought. -/
def rz (z w : Int) : Int := if w = 0 then 0 else z % w
theorem zs_div {A B : Nat} (b c : Bool) (hB : 0 < B) : zs b A / zs c B = zs (b != c) (A / B + (if b = true ∧ A % B ≠ 0 then 1 else 0)) ∧ zs b A % zs c B = ((if b = true ∧ A % B ≠ 0 then B - A % B else A % B : Nat) : Int) := by
  have h := neg_div (a := A) hB
  unfold zs
  cases b <;> cases c
  · simp
  · simp [Int.ediv_neg, Int.emod_neg]
  · by_cases h0 : A % B = 0
    · rw [if_pos h0, if_pos h0] at h
      simpa [h0] using h
    · rw [if_neg h0, if_neg h0] at h
      simpa [h0] using h
  · by_cases h0 : A % B = 0
    · rw [if_pos h0, if_pos h0] at h
      simp [h0, Int.ediv_neg, Int.emod_neg, h.1, h.2]
    · rw [if_neg h0, if_neg h0] at h
      simp [h0, Int.ediv_neg, Int.emod_neg, h.1, h.2]
theorem zs_zero (b : Bool) (n : Nat) : zs b n = 0 ↔ n = 0 := by unfold zs; split <;> omega

@[push_cast] def spZDivMod : Sp := spZZ 0 (fun _ x _ y => Lm x ∧ x.length < 10000000 ∧ Lm y ∧ y.length < 10000000) (fun b x c y => .tup [zi (zv b x / zv c y), zi (rz (zv b x) (zv c y)), .raw (.bool (decide (zv c y ≠ 0)))])
theorem zi_zero : AV.agg [.raw (.bool false), .ns .u64 []] = zi 0 := by unfold zi; rw [Int.natAbs_zero, dg_zero]; rfl
theorem zdivmod_ok : SpOK Tryd.prog 15 spZDivMod := by
  refine SpOK.ZZ fun b x c y ⟨hx, hxl, hy, hyl⟩ => ?_
  have hE := env (SOK.cons divmod_ok (SOK.cons add_ok (SOK.cons sub_ok (SOK.cons made_ok (SOK.nil (P := Tryd.prog))))))
  refine ACall.body hE Tryd.func15 Tryd.ntmps15 Tryd.results15 ?_
  obtain ⟨l, hl⟩ : ∃ l, l = 10000000 := ⟨_, rfl⟩
  have bA := nbl hx (l := l) (by omega)
  have bB := nbl hy (l := l) (by omega)
  unfold zv
  obtain ⟨A, eA⟩ : ∃ A, nb x = A := ⟨_, rfl⟩
  obtain ⟨B, eB⟩ : ∃ B, nb y = B := ⟨_, rfl⟩
  rw [eA] at bA ⊢
  rw [eB] at bB ⊢
  by_cases hB : B = 0
  · have hz : zs c B = 0 := (zs_zero c B).2 hB
    have hd : decide (B ≠ 0) = false := by rw [hB]; rfl
    refine wk hE (And.intro eA (And.intro eB hd)) ?_
    refine PostL.mk trivial ?_
    rw [hz, zi_zero]
    simp [rz]
  · have hB0 : 0 < B := by omega
    obtain ⟨m1, m2⟩ := zs_div (A := A) b c hB0
    have hz : zs c B ≠ 0 := fun e => hB ((zs_zero c B).1 e)
    have hd : decide (B ≠ 0) = true := decide_eq_true hB
    have hr : rm A B = A % B := if_neg hB
    have hlt := Nat.mod_lt A hB0
    obtain ⟨s1, s2, s3⟩ := dgl (n := A / B) (Nat.lt_of_le_of_lt (Nat.div_le_self _ _) bA) (by omega)
    obtain ⟨t1, t2, t3⟩ := dgl (n := A % B) (Nat.lt_of_le_of_lt (Nat.mod_le _ _) bA) (by omega)
    have hrz : rz (zs b A) (zs c B) = zs b A % zs c B := if_neg hz
    rw [hrz, decide_eq_true hz, m1, m2]
    by_cases h0 : b = true ∧ A % B ≠ 0
    · rw [if_pos h0, if_pos h0]
      obtain ⟨hb, h0⟩ := h0
      subst hb
      have hpos : (0 : Int) < (dg (A % B)).length := by
        have := List.length_pos_iff.2 (fun h => h0 (dg_nil.1 h))
        omega
      have h1 : nb [1] = 1 := by simp [nb, nv]
      have l1 : Lm [1] := ⟨Lim.cons (by rw [hB64]; omega) Lim.nil, by simp⟩
      have b1 : A / B < B64 ^ l := Nat.lt_of_le_of_lt (Nat.div_le_self _ _) bA
      obtain ⟨u1, u2, u3⟩ := dgl (n := A / B + 1) (k := l + 1) (by
        rw [Nat.pow_succ]
        have : B64 ^ l * 2 ≤ B64 ^ l * B64 := Nat.mul_le_mul_left _ (by decide)
        have := Nat.pow_pos (n := l) (show 0 < B64 by decide)
        omega) (by omega)
      obtain ⟨v1, v2, v3⟩ := dgl (n := B - A % B) (Nat.lt_of_le_of_lt (Nat.sub_le _ _) bB) (by omega)
      refine wk hE (And.intro eA (And.intro eB (And.intro hd (And.intro hr (And.intro hpos h1))))) ?_
      refine PostL.mk trivial ?_
      cases c <;> rfl
    · rw [if_neg h0, if_neg h0, Nat.add_zero]
      cases b
      · refine wk hE (And.intro eA (And.intro eB (And.intro hd hr))) ?_
        refine PostL.mk trivial ?_
        cases c <;> rfl
      · have h0 : A % B = 0 := by
          rcases Nat.eq_zero_or_pos (A % B) with h | h
          · exact h
          · exact (h0 ⟨rfl, by omega⟩).elim
        rw [h0] at hr
        rw [h0]
        have z0 : (dg 0).length = 0 := by rw [dg_zero]; rfl
        have z1 : ¬ (0 : Int) < (dg 0).length := by omega
        refine wk hE (And.intro eA (And.intro eB (And.intro hd (And.intro hr z1)))) ?_
        refine PostL.mk trivial ?_
        have e0 : AV.agg [.raw (.bool (decide (zs false 0 < 0))), .ns .u64 (dg (zs false 0).natAbs)] = zi 0 := rfl
        cases c <;> rfl

@[push_cast] def spDown : Sp := spZZ 0 (fun _ x _ y => Lm x ∧ x.length < 10000000 ∧ Lm y ∧ y.length < 10000000) (fun b x c y => .tup [zi ((zv b x).fdiv (zv c y)), .raw (.bool (decide (zv c y ≠ 0)))])
theorem lm_zv {b : Bool} {x : List Int} (hx : Lm x) (hl : x.length < 10000000) : Lm (dg (zv b x).natAbs) ∧ (dg (zv b x).natAbs).length < 10000000 := by
  unfold zv
  rw [zs_abs]
  have := dg_len_lt hx hl
  exact ⟨lm_dg (by omega), this⟩
theorem zv_true {c : Bool} {y : List Int} (h : c = true) : zv c y ≤ 0 := by subst h; unfold zv zs; simp
theorem zv_false {c : Bool} {y : List Int} (h : c = false) : 0 ≤ zv c y := by subst h; unfold zv zs; simp
theorem down_ok : SpOK Tryd.prog 38 spDown := by
  refine SpOK.ZZ fun b x c y ⟨hx, hxl, hy, hyl⟩ => ?_
  have hE := env (SOK.cons zneg_ok (SOK.cons zdivmod_ok (SOK.nil (P := Tryd.prog))))
  obtain ⟨p1, p2⟩ := lm_zv (b := b) hx hxl
  obtain ⟨p3, p4⟩ := lm_zv (b := c) hy hyl
  refine ACall.body hE Tryd.func38 Tryd.ntmps38 Tryd.results38 ?_
  refine wk hE trivial ?_
  refine AWp.test trivial (fun hc => ?_) (fun hc => ?_)
  · have h0 := zv_true (y := y) hc
    have q1 : (-zv b x).natAbs = (zv b x).natAbs := Int.natAbs_neg _
    have q2 : (-zv c y).natAbs = (zv c y).natAbs := Int.natAbs_neg _
    have p1' : Lm (dg (-zv b x).natAbs) ∧ (dg (-zv b x).natAbs).length < 10000000 := by rw [q1]; exact ⟨p1, p2⟩
    have p3' : Lm (dg (-zv c y).natAbs) ∧ (dg (-zv c y).natAbs).length < 10000000 := by rw [q2]; exact ⟨p3, p4⟩
    obtain ⟨p1', p2'⟩ := p1'
    obtain ⟨p3', p4'⟩ := p3'
    refine AWp.regionP [(2, 2), (3, 3)] hE.hT hE.hS hE.hm ?_ (wk hE trivial ?_)
    · intro p i h
      simp only [lk] at h
      split at h
      · rename_i e; cases h; subst e; exact ⟨0, rfl⟩
      split at h
      · rename_i e; cases h; subst e; exact ⟨0, rfl⟩
      · cases h

    refine PostL.mk trivial ?_
    have e1 : (-zv b x) / (-zv c y) = (zv b x).fdiv (zv c y) := by
      rw [← Int.fdiv_eq_ediv_of_nonneg _ (by omega), Int.neg_fdiv_neg]
    have e2 : decide (-zv c y ≠ 0) = decide (zv c y ≠ 0) := decide_eq_decide.2 (by omega)
    rw [← e1, ← e2]
    rfl
  · have h0 := zv_false (y := y) hc
    refine wk hE trivial ?_
    refine PostL.mk trivial ?_
    rw [Int.fdiv_eq_ediv_of_nonneg _ h0]
    rfl

/-- As far as one may go. -/
theorem nat_abs_lt {z : Int} {l : Nat} (h : z.natAbs < B64 ^ l) (hl : l < 10000000) : Lm (dg z.natAbs) ∧ (dg z.natAbs).length < 10000000 := by
  obtain ⟨h1, _, h3⟩ := dgl h (by omega)
  exact ⟨h1, by omega⟩
theorem zv_abs_lt {b : Bool} {x : List Int} (hx : Lm x) {l : Nat} (hl : x.length ≤ l) : (zv b x).natAbs < B64 ^ l := by
  unfold zv; rw [zs_abs]; exact nbl hx hl
theorem abs_add_lt {z w : Int} {l : Nat} (hz : z.natAbs < B64 ^ l) (hw : w.natAbs < B64 ^ l) : (z + w).natAbs < B64 ^ (l + 1) := by
  have := powA hz hw
  have h2 := Int.natAbs_add_le z w
  omega
theorem abs_sub_lt {z w : Int} {l : Nat} (hz : z.natAbs < B64 ^ l) (hw : w.natAbs < B64 ^ l) : (z - w).natAbs < B64 ^ (l + 1) := by
  rw [Int.sub_eq_add_neg]; exact abs_add_lt hz (by rw [Int.natAbs_neg]; exact hw)
theorem abs_mul_lt {z w : Int} {k l : Nat} (hz : z.natAbs < B64 ^ k) (hw : w.natAbs < B64 ^ l) : (z * w).natAbs < B64 ^ (k + l) := by
  rw [Int.natAbs_mul]; exact powM hz hw
theorem abs_two_lt {z : Int} {l : Nat} (hz : z.natAbs < B64 ^ l) : (z * 2).natAbs < B64 ^ (l + 1) := by
  rw [Int.mul_comm]
  have := powA hz hz
  rw [Int.natAbs_mul]
  show 2 * _ < _
  omega
theorem abs_neg_lt {z : Int} {l : Nat} (hz : z.natAbs < B64 ^ l) : (-z).natAbs < B64 ^ l := by rw [Int.natAbs_neg]; exact hz
theorem abs_ediv_le (z w : Int) : (z / w).natAbs ≤ z.natAbs := Int.natAbs_ediv_le_natAbs z w
theorem abs_up {z : Int} {k l : Nat} (hz : z.natAbs < B64 ^ k) (h : k ≤ l) : z.natAbs < B64 ^ l := Nat.lt_of_lt_of_le hz (Nat.pow_le_pow_right (by decide) h)

theorem sh_one : sh 1 = 1 := by decide
@[push_cast] def spRound : Sp := spZZ 0 (fun _ x _ y => Lm x ∧ x.length < 1000000 ∧ Lm y ∧ y.length < 1000000) (fun b x c y => .tup [zi ((zv b x * 2 + zv c y).fdiv (zv c y * 2)), .raw (.bool (decide (zv c y * 2 ≠ 0)))])
theorem round_ok : SpOK Tryd.prog 17 spRound := by
  refine SpOK.ZZ fun b x c y ⟨hx, hxl, hy, hyl⟩ => ?_
  have hE := env (SOK.cons zshl_ok (SOK.cons zadd_ok (SOK.cons down_ok (SOK.nil (P := Tryd.prog)))))
  obtain ⟨l, hl⟩ : ∃ l, l = 1000000 := ⟨_, rfl⟩
  have bz := zv_abs_lt (b := b) hx (l := l) (by omega)
  have bw := zv_abs_lt (b := c) hy (l := l) (by omega)
  refine ACall.body hE Tryd.func17 Tryd.ntmps17 Tryd.results17 ?_
  obtain ⟨z, hz⟩ : ∃ z, zv b x = z := ⟨_, rfl⟩
  obtain ⟨w, hw⟩ : ∃ w, zv c y = w := ⟨_, rfl⟩
  rw [hz] at bz ⊢
  rw [hw] at bw ⊢
  obtain ⟨a1, a2⟩ := nat_abs_lt (abs_two_lt bz) (by omega)
  obtain ⟨a3, a4⟩ := nat_abs_lt (abs_two_lt bw) (by omega)
  obtain ⟨a5, a6⟩ := nat_abs_lt (abs_add_lt (abs_two_lt bz) (abs_up bw (Nat.le_succ l))) (by omega)
  have e2 : (2 : Int) ^ sh 1 = 2 := by rw [sh_one]; rfl
  refine wk hE (And.intro hz (And.intro hw e2)) ?_
  refine PostL.mk trivial ?_
  rfl

@[push_cast] def spUp : Sp := spZZ 0 (fun _ x _ y => Lm x ∧ x.length < 1000000 ∧ Lm y ∧ y.length < 1000000) (fun b x c y => .tup [zi (-((-zv b x).fdiv (zv c y))), .raw (.bool (decide (zv c y ≠ 0)))])
theorem fdiv_abs (z w : Int) : (z.fdiv w).natAbs ≤ z.natAbs := by
  rcases Int.lt_or_le w 0 with h | h
  · have : z.fdiv w = (-z) / (-w) := by rw [← Int.fdiv_eq_ediv_of_nonneg _ (by omega), Int.neg_fdiv_neg]
    rw [this]
    have := abs_ediv_le (-z) (-w)
    rwa [Int.natAbs_neg] at this
  · rw [Int.fdiv_eq_ediv_of_nonneg _ h]; exact abs_ediv_le z w
theorem up_ok : SpOK Tryd.prog 18 spUp := by
  refine SpOK.ZZ fun b x c y ⟨hx, hxl, hy, hyl⟩ => ?_
  have hE := env (SOK.cons zneg_ok (SOK.cons down_ok (SOK.nil (P := Tryd.prog))))
  obtain ⟨l, hl⟩ : ∃ l, l = 1000000 := ⟨_, rfl⟩
  have bz := zv_abs_lt (b := b) hx (l := l) (by omega)
  refine ACall.body hE Tryd.func18 Tryd.ntmps18 Tryd.results18 ?_
  obtain ⟨z, hz⟩ : ∃ z, zv b x = z := ⟨_, rfl⟩
  obtain ⟨w, hw⟩ : ∃ w, zv c y = w := ⟨_, rfl⟩
  rw [hz] at bz ⊢
  rw [hw]
  obtain ⟨a1, a2⟩ := nat_abs_lt (abs_neg_lt bz) (by omega)
  obtain ⟨a3, a4⟩ := nat_abs_lt (z := (-z).fdiv w) (Nat.lt_of_le_of_lt (fdiv_abs (-z) w) (abs_neg_lt bz)) (by omega)
  refine wk hE (And.intro hz hw) ?_
  refine PostL.mk trivial ?_
  rfl

@[push_cast] def spZGcd : Sp := spZZ 0 (fun _ x _ y => Lm x ∧ x.length < 1000000 ∧ Lm y ∧ y.length < 1000000) (fun b x c y => zi (Nat.gcd (zv b x).natAbs (zv c y).natAbs : Nat))
theorem gcd_lt {a b l : Nat} (ha : a < B64 ^ l) (hb : b < B64 ^ l) : Nat.gcd a b < B64 ^ l := by
  by_cases h : a = 0
  · rw [h, Nat.gcd_zero_left]; exact hb
  · exact Nat.lt_of_le_of_lt (Nat.gcd_le_left b (by omega)) ha
end Go.Hl

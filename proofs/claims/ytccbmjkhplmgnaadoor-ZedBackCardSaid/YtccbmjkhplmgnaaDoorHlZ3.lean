/- zed: Add, Sub, Mul, Neg, Abs, Shl, Shr, DivMod, down, Round, Up, Gcd, Small -/
import Derived.Test.YtccbmjkhplmgnaaDoorHlZ2
import Derived.Test.YtccbmjkhplmgnaaDoorHlPb
import Derived.Test.YtccbmjkhplmgnaaDoorHlPa
set_option linter.unusedVariables false
set_option linter.unusedSimpArgs false
namespace Go.Hl
open Go Go.RowKit Go.Proofs
set_option maxHeartbeats 8000000

theorem nbl {x : List Int} (h : Lm x) {l : Nat} (hl : x.length ≤ l) : nb x < B64 ^ l := nb_lt h.1 hl
theorem powA {x y i : Nat} (hx : x < B64 ^ i) (hy : y < B64 ^ i) : x + y < B64 ^ (i + 1) := by
  rw [Nat.pow_succ]
  have : B64 ^ i * 2 ≤ B64 ^ i * B64 := Nat.mul_le_mul_left _ (by decide)
  omega
theorem powM {x y i j : Nat} (hx : x < B64 ^ i) (hy : y < B64 ^ j) : x * y < B64 ^ (i + j) := by rw [Nat.pow_add]; exact Nat.mul_lt_mul'' hx hy
theorem dgl {n k : Nat} (h : n < B64 ^ k) (hk : k < 1000000000) : Lm (dg n) ∧ (dg n).length < 1000000000 ∧ (dg n).length ≤ k := by
  have := (digs_length_le (B := B64) (by decide) n k).2 h
  unfold dg at *
  exact ⟨⟨lim_digs (by decide) n, by omega⟩, by omega, this⟩
theorem zs_add (b : Bool) (m n : Nat) : zs b (m + n) = zs b m + zs b n := by unfold zs; split <;> simp; omega
theorem zs_mul (b c : Bool) (m n : Nat) : zs (b != c) (m * n) = zs b m * zs c n := by
  unfold zs
  cases b <;> cases c <;> simp [Int.neg_mul, Int.mul_neg]
theorem zs_sub {m n : Nat} (h : n ≤ m) (b : Bool) : zs b (m - n) = zs b m + zs (!b) n := by
  unfold zs; cases b <;> simp <;> omega
theorem bool_not {b c : Bool} (h : ¬ b = c) : c = !b := by cases b <;> cases c <;> first | rfl | exact (h rfl).elim
theorem zs_not (b : Bool) (n : Nat) : zs (!b) n = -zs b n := by unfold zs; cases b <;> simp

/-- Of at most l limbs. -/
def Sz (l : Nat) (x : List Int) : Prop := Lm x ∧ x.length ≤ l

@[push_cast] def spZAdd : Sp := spZZ 0 (fun _ x _ y => Lm x ∧ x.length < 10000000 ∧ Lm y ∧ y.length < 10000000) (fun b x c y => zi (zv b x + zv c y))
theorem zadd_ok : SpOK Tryd.prog 39 spZAdd := by
  refine SpOK.ZZ fun b x c y ⟨hx, hxl, hy, hyl⟩ => ?_
  have hE := env (SOK.cons add_ok (SOK.cons sub_ok (SOK.cons made_ok (SOK.nil (P := Tryd.prog)))))
  refine ACall.body hE Tryd.func39 Tryd.ntmps39 Tryd.results39 ?_
  obtain ⟨l, hl⟩ : ∃ l, l = 10000000 := ⟨_, rfl⟩
  have bA := nbl hx (l := l) (by omega)
  have bB := nbl hy (l := l) (by omega)
  unfold zv
  obtain ⟨A, eA⟩ : ∃ A, nb x = A := ⟨_, rfl⟩
  obtain ⟨B, eB⟩ : ∃ B, nb y = B := ⟨_, rfl⟩
  rw [eA] at bA ⊢
  rw [eB] at bB ⊢
  obtain ⟨s1, s2, s3⟩ := dgl (powA bA bB) (by omega)
  by_cases hbc : b = c
  · subst hbc
    have hb : (b == b) = true := by simp
    refine wk hE (And.intro hb (And.intro eA eB)) ?_
    refine PostL.mk trivial ?_
    exact congrArg zi (zs_add b A B)
  · have hb : (b == c) = false := by rw [beq_eq_false_iff_ne]; exact hbc
    have hc : c = !b := bool_not hbc
    by_cases hle : B ≤ A
    · obtain ⟨t1, t2, t3⟩ := dgl (n := A - B) (Nat.lt_of_le_of_lt (Nat.sub_le A B) bA) (by omega)
      refine wk hE (And.intro hb (And.intro eA (And.intro eB hle))) ?_
      refine PostL.mk trivial ?_
      rw [hc]
      exact congrArg zi (zs_sub hle b)
    · obtain ⟨t1, t2, t3⟩ := dgl (n := B - A) (Nat.lt_of_le_of_lt (Nat.sub_le B A) bB) (by omega)
      refine wk hE (And.intro hb (And.intro eA (And.intro eB hle))) ?_
      refine PostL.mk trivial ?_
      have hb' : b = !c := bool_not (fun e => hbc e.symm)
      refine congrArg zi ?_
      rw [hb', zs_sub (by omega) c, Int.add_comm]

@[push_cast] def spZSub : Sp := spZZ 0 (fun _ x _ y => Lm x ∧ x.length < 10000000 ∧ Lm y ∧ y.length < 10000000) (fun b x c y => zi (zv b x - zv c y))
theorem zv_not (b : Bool) (x : List Int) : zv (!b) x = -zv b x := zs_not b _
@[push_cast] def spZMul : Sp := spZZ 0 (fun _ x _ y => Lm x ∧ x.length < 10000000 ∧ Lm y ∧ y.length < 10000000) (fun b x c y => zi (zv b x * zv c y))
@[push_cast] def spZNeg : Sp := spZ 0 (fun _ x => Lm x ∧ x.length < 10000000) (fun b x => zi (-zv b x))
theorem zneg_ok : SpOK Tryd.prog 41 spZNeg := by
  refine SpOK.Z fun b x ⟨hx, hxl⟩ => ?_
  have hE := env (SOK.cons norm0_ok (SOK.cons made_ok (SOK.nil (P := Tryd.prog))))
  have hd := dg_len_lt hx hxl
  refine ACall.body hE Tryd.func41 Tryd.ntmps41 Tryd.results41 ?_
  refine wk hE trivial ?_
  refine PostL.mk trivial ?_
  exact congrArg zi (zs_not b _)
@[push_cast] def spZAbs : Sp := spZ 0 (fun _ x => Lm x ∧ x.length < 10000000) (fun b x => zi ((zv b x).natAbs : Nat))
theorem zabs_ok : SpOK Tryd.prog 12 spZAbs := by
  refine SpOK.Z fun b x ⟨hx, hxl⟩ => ?_
  have hE := env (SOK.cons norm0_ok (SOK.cons made_ok (SOK.nil (P := Tryd.prog))))
  have hd := dg_len_lt hx hxl
  refine ACall.body hE Tryd.func12 Tryd.ntmps12 Tryd.results12 ?_
  refine wk hE trivial ?_
  refine PostL.mk trivial ?_
  refine congrArg zi ?_
  unfold zv
  rw [zs_abs]; rfl

theorem tpl {m k : Nat} (h : m < 64 * k) : 2 ^ m < B64 ^ k := by
  have e : B64 ^ k = 2 ^ (64 * k) := by rw [Nat.pow_mul]
  rw [e]
  exact Nat.pow_lt_pow_right (by decide) h
theorem sh_pow_lt (n : Int) : 2 ^ sh n < B64 ^ 129 := tpl (by have := sh_le n; omega)
@[push_cast] def spZShl : Sp := spZI 0 (fun _ x _ => Lm x ∧ x.length < 10000000) (fun b x n => zi (zv b x * 2 ^ sh n))
theorem zshl_ok : SpOK Tryd.prog 40 spZShl := by
  refine SpOK.ZI fun b x n ⟨hx, hxl⟩ => ?_
  have hE := env (SOK.cons shl_ok (SOK.cons made_ok (SOK.nil (P := Tryd.prog))))
  refine ACall.body hE Tryd.func40 Tryd.ntmps40 Tryd.results40 ?_
  obtain ⟨l, hl⟩ : ∃ l, l = 10000000 := ⟨_, rfl⟩
  obtain ⟨s1, s2, s3⟩ := dgl (powM (nbl hx (l := l) (by omega)) (sh_pow_lt n)) (by omega)
  refine wk hE trivial ?_
  refine PostL.mk trivial ?_
  refine congrArg zi ?_
  unfold zv zs
  split
  · rw [Int.natCast_mul, Int.natCast_pow, Int.neg_mul]; rfl
  · rw [Int.natCast_mul, Int.natCast_pow]; simp
end Go.Hl

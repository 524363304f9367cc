/- Integers: a sign and a number; zed.made, Norm, Of, Sign, Cmp, Same, BitLen zed: Add, Sub, Mul, Neg, Abs, Shl, Shr, DivMod, down, Round, Up, Gcd, Small zed: Shr, DivMod, down, Round, Up, Gcd, Small -/
import Derived.Test.YtccbmjkhplmgnaaGreatHlPf
import Derived.Test.YtccbmjkhplmgnaaGreatHlPa
import Derived.Test.YtccbmjkhplmgnaaGreatHlPb
import Derived.Test.YtccbmjkhplmgnaaGreatHlAv30
set_option linter.unusedVariables false
set_option linter.unusedSimpArgs false
namespace Go.Hl
open Go Go.RowKit Go.Proofs
set_option maxHeartbeats 4000000
theorem ACall.ofF {P : Program} {f : FuncId} {args : List AV} {r : AV} (h : FCall P f args r) : ACall P f args r := by
  obtain ⟨k, xs, rfl, h⟩ := h
  intro w X vs hX hl hr
  obtain ⟨h1, h2⟩ := h w X vs hX hl hr
  refine .inr ⟨h1, h2.mono fun e w' ⟨v, he, hb, hv⟩ => ⟨v, he, ?_, hb⟩⟩
  rcases hv with ⟨b, o, cap, C, e', rfl, hc, ho, hbn, hw, hcells⟩ | ⟨rfl, ad, rfl⟩
  · refine RI.ns k xs (some ⟨b, o, none⟩) b o cap hc (fun _ => ⟨rfl, fun hx => ?_⟩) (fun i x hx => ?_)
    · have := hX b hx; omega
    · rw [cell_of_block hw]; exact hcells i x hx
  · exact RI.ns k [] ad 0 0 0 (by simp) (by simp) (by simp)
@[push_cast] def spNorm0 : Sp := spN 0 (fun xs => Lm xs) (fun xs => .ns .u64 (dg (nb xs)))
theorem norm0_ok : SpOK Tryz.prog 57 spNorm0 := SpOK.N fun xs hx => ACall.ofF ((norm_ok [.ns .u64 xs] hx).2.1 rfl)
def zs (b : Bool) (n : Nat) : Int := if b then -(n : Int) else n
def zv (b : Bool) (x : List Int) : Int := zs b (nb x)
@[push_cast] def zi (z : Int) : AV := .agg [.raw (.bool (decide (z < 0))), .ns .u64 (dg z.natAbs)]
theorem zv_zi (z : Int) : zv (decide (z < 0)) (dg z.natAbs) = z := by
  unfold zv zs
  rw [nb_dg]
  split
  · rename_i h; have := of_decide_eq_true h; omega
  · rename_i h; have := of_decide_eq_false (Bool.eq_false_iff.2 h); omega
theorem zv_dg (b : Bool) (n : Nat) : zv b (dg n) = zs b n := by unfold zv; rw [nb_dg]
attribute [push_cast] zv_zi List.getElem?_cons_zero List.getElem?_cons_succ List.set_cons_zero List.set_cons_succ
theorem zs_abs (b : Bool) (n : Nat) : (zs b n).natAbs = n := by unfold zs; split <;> simp
theorem zs_neg (b : Bool) (n : Nat) : decide (zs b n < 0) = (b && decide (0 < (dg n).length)) := by
  by_cases h : n = 0
  · subst h; rw [dg_zero]; cases b <;> rfl
  · have : 0 < (dg n).length := List.length_pos_iff.2 (fun e => h (dg_nil.1 e))
    rw [decide_eq_true this, Bool.and_true]
    cases b
    · exact decide_eq_false (by unfold zs; simp)
    · exact decide_eq_true (by unfold zs; simp; omega)
theorem zi_zs (b : Bool) (n : Nat) : AV.agg [.raw (.bool (b && decide (0 < (dg n).length))), .ns .u64 (dg n)] = zi (zs b n) := by
  unfold zi; rw [zs_abs, zs_neg]
@[push_cast] def spMade : Sp := spBN 0 (fun _ m => m = dg (nb m) ∧ m.length < 1000000000) (fun b m => zi (zs b (nb m)))
theorem nat_pos (n : Nat) : decide ((0 : Int) < (n : Int)) = decide (0 < n) := decide_eq_decide.2 (by omega)
theorem made_ok : SpOK Tryz.prog 56 spMade := by
  refine SpOK.BN fun b m ⟨hm, hl⟩ => ?_
  have hE := env (SOK.nil (P := Tryz.prog))
  obtain ⟨n, hn⟩ : ∃ n, nb m = n := ⟨_, rfl⟩
  rw [hn] at hm
  subst hm
  refine ACall.body hE Tryz.func56 Tryz.ntmps56 Tryz.results56 ?_
  rw [hn, ← zi_zs]
  have hp := nat_pos (dg n).length
  cases b
  · refine wk hE trivial ?_
    exact PostL.mk trivial rfl
  · refine wk hE hp ?_
    exact PostL.mk trivial rfl
theorem two_pow_ge (n : Nat) : n < B64 ^ n ∨ n = 0 := by
  rcases Nat.eq_zero_or_pos n with h | h
  · exact .inr h
  · exact .inl (Nat.lt_pow_self (by decide))
@[push_cast] def spZNorm : Sp := spZ 0 (fun _ x => Lm x ∧ x.length < 10000000) (fun b x => zi (zv b x))
theorem znorm_ok : SpOK Tryz.prog 47 spZNorm := by
  refine SpOK.Z fun b x ⟨hx, hl⟩ => ?_
  have hE := env (SOK.cons norm0_ok (SOK.cons made_ok (SOK.nil (P := Tryz.prog))))
  have hd := dg_len_lt hx hl
  refine ACall.body hE Tryz.func47 Tryz.ntmps47 Tryz.results47 ?_
  refine wk hE trivial ?_
  refine PostL.mk trivial ?_
  rfl
@[push_cast] def spOf : Sp := spI 0 (fun n => -9223372036854775808 ≤ n ∧ n < 9223372036854775808) (fun n => zi n)
theorem dg_one {n : Nat} (h : n < 18446744073709551616) : (dg n).length ≤ 1 := (digs_length_le (by decide) n 1).2 (by rw [Nat.pow_one]; exact h)
theorem nb_one (n : Nat) : nb [(n : Int)] = n := by simp [nb, nv]
theorem of_ok : SpOK Tryz.prog 34 spOf := by
  refine SpOK.I fun n ⟨h1, h2⟩ => ?_
  have hE := env (SOK.cons norm0_ok (SOK.cons made_ok (SOK.nil (P := Tryz.prog))))
  refine ACall.body hE Tryz.func34 Tryz.ntmps34 Tryz.results34 ?_
  obtain ⟨k, hk⟩ : ∃ k, n.natAbs = k := ⟨_, rfl⟩
  have hd := dg_one (n := k) (by omega)
  have hn1 := nb_one k
  have hlm : Lm [(k : Int)] := ⟨Lim.cons (by rw [hB64]; omega) Lim.nil, by simp⟩
  by_cases h0 : n < 0
  · have e1 : IntKind.u64.wrap (0 - IntKind.u64.wrap n) = (k : Int) := by rw [IntKind.wrap_u64, IntKind.wrap_u64]; omega
    have hz : zs true k = n := by unfold zs; simp; omega
    refine wk hE (And.intro h0 (And.intro e1 hn1)) ?_
    refine PostL.mk trivial ?_
    exact congrArg zi hz
  · have e1 : IntKind.u64.wrap n = (k : Int) := by rw [IntKind.wrap_u64]; omega
    have hz : zs false k = n := by unfold zs; simp; omega
    refine wk hE (And.intro h0 (And.intro e1 hn1)) ?_
    refine PostL.mk trivial ?_
    exact congrArg zi hz
@[push_cast] def spSign : Sp := spZ 0 (fun _ x => Lm x) (fun b x => .raw (.int .i64 (zv b x).sign))
theorem blen_zero_iff (n : Nat) : ((blen n : Int) == 0) = decide (n = 0) := by
  rw [Bool.eq_iff_iff, beq_iff_eq, decide_eq_true_iff, ← blen_eq_zero]; omega
theorem sign_ok : SpOK Tryz.prog 26 spSign := by
  refine SpOK.Z fun b x hx => ?_
  have hE := env (SOK.cons bitlen_ok (SOK.nil (P := Tryz.prog)))
  refine ACall.body hE Tryz.func26 Tryz.ntmps26 Tryz.results26 ?_
  unfold zv
  obtain ⟨n, hn⟩ : ∃ n, nb x = n := ⟨_, rfl⟩
  rw [hn]
  have hb := blen_zero_iff n
  by_cases h0 : n = 0
  · rw [decide_eq_true h0] at hb
    refine wk hE (And.intro hn hb) ?_
    refine PostL.mk trivial ?_
    rw [h0]; cases b <;> rfl
  · rw [decide_eq_false h0] at hb
    cases b
    · refine wk hE (And.intro hn hb) ?_
      refine PostL.mk trivial ?_
      have : (zs false n).sign = 1 := Int.sign_eq_one_of_pos (by unfold zs; simp; omega)
      rw [this]
    · refine wk hE (And.intro hn hb) ?_
      refine PostL.mk trivial ?_
      have : (zs true n).sign = -1 := Int.sign_eq_neg_one_of_neg (by unfold zs; simp; omega)
      rw [this]
@[push_cast] def spZBitLen : Sp := spZ 0 (fun _ x => Lm x) (fun b x => .raw (.int .i64 (blen (zv b x).natAbs : Nat)))
def cmpZ (a b : Int) : Int := if a < b then -1 else if b < a then 1 else 0
@[push_cast] def spZCmp : Sp := spZZ 0 (fun _ x _ y => Lm x ∧ Lm y) (fun b x c y => .raw (.int .i64 (cmpZ (zv b x) (zv c y))))
theorem sign_cases (z : Int) : (z < 0 ∧ z.sign = -1) ∨ (z = 0 ∧ z.sign = 0) ∨ (0 < z ∧ z.sign = 1) := by
  rcases Int.lt_trichotomy z 0 with h | h | h
  · exact .inl ⟨h, Int.sign_eq_neg_one_of_neg h⟩
  · exact .inr (.inl ⟨h, by rw [h]; rfl⟩)
  · exact .inr (.inr ⟨h, Int.sign_eq_one_of_pos h⟩)
theorem zcmp_ok : SpOK Tryz.prog 31 spZCmp := by
  refine SpOK.ZZ fun b x c y ⟨hx, hy⟩ => ?_
  have hE := env (SOK.cons sign_ok (SOK.cons cmp_ok (SOK.nil (P := Tryz.prog))))
  refine ACall.body hE Tryz.func31 Tryz.ntmps31 Tryz.results31 ?_
  obtain ⟨z, hz⟩ : ∃ z, zv b x = z := ⟨_, rfl⟩
  obtain ⟨w, hw⟩ : ∃ w, zv c y = w := ⟨_, rfl⟩
  have hza : nb x = z.natAbs := by rw [← hz]; unfold zv; rw [zs_abs]
  have hwa : nb y = w.natAbs := by rw [← hw]; unfold zv; rw [zs_abs]
  rw [hz, hw]
  by_cases h1 : z.sign < w.sign
  · refine wk hE (And.intro hz (And.intro hw h1)) ?_
    refine PostL.mk trivial ?_
    have : z < w := by rcases sign_cases z with h | h | h <;> rcases sign_cases w with k | k | k <;> omega
    unfold cmpZ; rw [if_pos this]
  by_cases h2 : w.sign < z.sign
  · refine wk hE (And.intro hz (And.intro hw (And.intro h1 h2))) ?_
    refine PostL.mk trivial ?_
    have : w < z := by rcases sign_cases z with h | h | h <;> rcases sign_cases w with k | k | k <;> omega
    unfold cmpZ; rw [if_neg (by omega), if_pos this]
  obtain ⟨s, hs⟩ : ∃ s, z.sign = s := ⟨_, rfl⟩
  obtain ⟨t, ht⟩ : ∃ t, w.sign = t := ⟨_, rfl⟩
  rw [hs, ht] at h1 h2
  obtain ⟨m, hm⟩ : ∃ m, cmpI z.natAbs w.natAbs = m := ⟨_, rfl⟩
  have hm1 : -1 ≤ m ∧ m ≤ 1 := by rw [← hm]; unfold cmpI; split; omega; split <;> omega
  have hs1 : -1 ≤ s ∧ s ≤ 1 := by rcases sign_cases z with h | h | h <;> omega
  have hres : s * m = cmpZ z w ∧ -1 ≤ s * m ∧ s * m ≤ 1 := by
    rw [← hm]
    unfold cmpI cmpZ
    rcases sign_cases z with h | h | h <;> rcases sign_cases w with k | k | k <;> first
      | omega
      | (have : s = -1 := by omega
         subst this
         split <;> split <;> (try split) <;> (try split) <;> omega)
      | (have : s = 0 := by omega
         subst this
         split <;> split <;> (try split) <;> (try split) <;> omega)
      | (have : s = 1 := by omega
         subst this
         split <;> split <;> (try split) <;> (try split) <;> omega)
  refine wk hE (And.intro hz (And.intro hw (And.intro hs (And.intro ht (And.intro h1 (And.intro h2 (And.intro hza (And.intro hwa hm)))))))) ?_
  refine PostL.mk trivial ?_
  rw [hres.1]
@[push_cast] def spZSame : Sp := spZZ 0 (fun _ x _ y => Lm x ∧ Lm y) (fun b x c y => .raw (.bool (decide (zv b x = zv c y))))
end Go.Hl

namespace Go.Hl
open Go Go.RowKit Go.Proofs
set_option maxHeartbeats 8000000
theorem nbl {x : List Int} (h : Lm x) {l : Nat} (hl : x.length ≤ l) : nb x < B64 ^ l := nb_lt h.1 hl
theorem powA {x y i : Nat} (hx : x < B64 ^ i) (hy : y < B64 ^ i) : x + y < B64 ^ (i + 1) := by
  rw [Nat.pow_succ]
  have : B64 ^ i * 2 ≤ B64 ^ i * B64 := Nat.mul_le_mul_left _ (by decide)
  omega
theorem powM {x y i j : Nat} (hx : x < B64 ^ i) (hy : y < B64 ^ j) : x * y < B64 ^ (i + j) := by rw [Nat.pow_add]; exact Nat.mul_lt_mul'' hx hy
theorem dgl {n k : Nat} (h : n < B64 ^ k) (hk : k < 1000000000) : Lm (dg n) ∧ (dg n).length < 1000000000 ∧ (dg n).length ≤ k := by
  have := (digs_length_le (B := B64) (by decide) n k).2 h
  unfold dg at *
  exact ⟨⟨lim_digs (by decide) n, by omega⟩, by omega, this⟩
theorem zs_add (b : Bool) (m n : Nat) : zs b (m + n) = zs b m + zs b n := by unfold zs; split <;> simp; omega
theorem zs_mul (b c : Bool) (m n : Nat) : zs (b != c) (m * n) = zs b m * zs c n := by
  unfold zs
  cases b <;> cases c <;> simp [Int.neg_mul, Int.mul_neg]
theorem zs_sub {m n : Nat} (h : n ≤ m) (b : Bool) : zs b (m - n) = zs b m + zs (!b) n := by
  unfold zs; cases b <;> simp <;> omega
theorem bool_not {b c : Bool} (h : ¬ b = c) : c = !b := by cases b <;> cases c <;> first | rfl | exact (h rfl).elim
theorem zs_not (b : Bool) (n : Nat) : zs (!b) n = -zs b n := by unfold zs; cases b <;> simp
def Sz (l : Nat) (x : List Int) : Prop := Lm x ∧ x.length ≤ l
@[push_cast] def spZAdd : Sp := spZZ 0 (fun _ x _ y => Lm x ∧ x.length < 10000000 ∧ Lm y ∧ y.length < 10000000) (fun b x c y => zi (zv b x + zv c y))
theorem zadd_ok : SpOK Tryz.prog 36 spZAdd := by
  refine SpOK.ZZ fun b x c y ⟨hx, hxl, hy, hyl⟩ => ?_
  have hE := env (SOK.cons add_ok (SOK.cons sub_ok (SOK.cons made_ok (SOK.nil (P := Tryz.prog)))))
  refine ACall.body hE Tryz.func36 Tryz.ntmps36 Tryz.results36 ?_
  obtain ⟨l, hl⟩ : ∃ l, l = 10000000 := ⟨_, rfl⟩
  have bA := nbl hx (l := l) (by omega)
  have bB := nbl hy (l := l) (by omega)
  unfold zv
  obtain ⟨A, eA⟩ : ∃ A, nb x = A := ⟨_, rfl⟩
  obtain ⟨B, eB⟩ : ∃ B, nb y = B := ⟨_, rfl⟩
  rw [eA] at bA ⊢
  rw [eB] at bB ⊢
  obtain ⟨s1, s2, s3⟩ := dgl (powA bA bB) (by omega)
  by_cases hbc : b = c
  · subst hbc
    have hb : (b == b) = true := by simp
    refine wk hE (And.intro hb (And.intro eA eB)) ?_
    refine PostL.mk trivial ?_
    exact congrArg zi (zs_add b A B)
  · have hb : (b == c) = false := by rw [beq_eq_false_iff_ne]; exact hbc
    have hc : c = !b := bool_not hbc
    by_cases hle : B ≤ A
    · obtain ⟨t1, t2, t3⟩ := dgl (n := A - B) (Nat.lt_of_le_of_lt (Nat.sub_le A B) bA) (by omega)
      refine wk hE (And.intro hb (And.intro eA (And.intro eB hle))) ?_
      refine PostL.mk trivial ?_
      rw [hc]
      exact congrArg zi (zs_sub hle b)
    · obtain ⟨t1, t2, t3⟩ := dgl (n := B - A) (Nat.lt_of_le_of_lt (Nat.sub_le B A) bB) (by omega)
      refine wk hE (And.intro hb (And.intro eA (And.intro eB hle))) ?_
      refine PostL.mk trivial ?_
      have hb' : b = !c := bool_not (fun e => hbc e.symm)
      refine congrArg zi ?_
      rw [hb', zs_sub (by omega) c, Int.add_comm]
@[push_cast] def spZSub : Sp := spZZ 0 (fun _ x _ y => Lm x ∧ x.length < 10000000 ∧ Lm y ∧ y.length < 10000000) (fun b x c y => zi (zv b x - zv c y))
theorem zv_not (b : Bool) (x : List Int) : zv (!b) x = -zv b x := zs_not b _
theorem zsub_ok : SpOK Tryz.prog 37 spZSub := by
  refine SpOK.ZZ fun b x c y ⟨hx, hxl, hy, hyl⟩ => ?_
  have hE := env (SOK.cons zadd_ok (SOK.nil (P := Tryz.prog)))
  refine ACall.body hE Tryz.func37 Tryz.ntmps37 Tryz.results37 ?_
  refine wk hE trivial ?_
  refine PostL.mk trivial ?_
  refine congrArg zi ?_
  rw [zv_not]; rfl
@[push_cast] def spZMul : Sp := spZZ 0 (fun _ x _ y => Lm x ∧ x.length < 10000000 ∧ Lm y ∧ y.length < 10000000) (fun b x c y => zi (zv b x * zv c y))
theorem zmul_ok : SpOK Tryz.prog 54 spZMul := by
  refine SpOK.ZZ fun b x c y ⟨hx, hxl, hy, hyl⟩ => ?_
  have hE := env (SOK.cons mul_ok (SOK.cons made_ok (SOK.nil (P := Tryz.prog))))
  refine ACall.body hE Tryz.func54 Tryz.ntmps54 Tryz.results54 ?_
  obtain ⟨l, hl⟩ : ∃ l, l = 10000000 := ⟨_, rfl⟩
  have bA := nbl hx (l := l) (by omega)
  have bB := nbl hy (l := l) (by omega)
  obtain ⟨s1, s2, s3⟩ := dgl (powM bA bB) (by omega)
  refine wk hE trivial ?_
  refine PostL.mk trivial ?_
  refine congrArg zi ?_
  unfold zv
  rw [← zs_mul]
  cases b <;> cases c <;> rfl
@[push_cast] def spZNeg : Sp := spZ 0 (fun _ x => Lm x ∧ x.length < 10000000) (fun b x => zi (-zv b x))
theorem zneg_ok : SpOK Tryz.prog 30 spZNeg := by
  refine SpOK.Z fun b x ⟨hx, hxl⟩ => ?_
  have hE := env (SOK.cons norm0_ok (SOK.cons made_ok (SOK.nil (P := Tryz.prog))))
  have hd := dg_len_lt hx hxl
  refine ACall.body hE Tryz.func30 Tryz.ntmps30 Tryz.results30 ?_
  refine wk hE trivial ?_
  refine PostL.mk trivial ?_
  exact congrArg zi (zs_not b _)
@[push_cast] def spZAbs : Sp := spZ 0 (fun _ x => Lm x ∧ x.length < 10000000) (fun b x => zi ((zv b x).natAbs : Nat))
theorem tpl {m k : Nat} (h : m < 64 * k) : 2 ^ m < B64 ^ k := by
  have e : B64 ^ k = 2 ^ (64 * k) := by rw [Nat.pow_mul]
  rw [e]
  exact Nat.pow_lt_pow_right (by decide) h
theorem sh_pow_lt (n : Int) : 2 ^ sh n < B64 ^ 129 := tpl (by have := sh_le n; omega)
@[push_cast] def spZShl : Sp := spZI 0 (fun _ x _ => Lm x ∧ x.length < 10000000) (fun b x n => zi (zv b x * 2 ^ sh n))
theorem zshl_ok : SpOK Tryz.prog 85 spZShl := by
  refine SpOK.ZI fun b x n ⟨hx, hxl⟩ => ?_
  have hE := env (SOK.cons shl_ok (SOK.cons made_ok (SOK.nil (P := Tryz.prog))))
  refine ACall.body hE Tryz.func85 Tryz.ntmps85 Tryz.results85 ?_
  obtain ⟨l, hl⟩ : ∃ l, l = 10000000 := ⟨_, rfl⟩
  obtain ⟨s1, s2, s3⟩ := dgl (powM (nbl hx (l := l) (by omega)) (sh_pow_lt n)) (by omega)
  refine wk hE trivial ?_
  refine PostL.mk trivial ?_
  refine congrArg zi ?_
  unfold zv zs
  split
  · rw [Int.natCast_mul, Int.natCast_pow, Int.neg_mul]; rfl
  · rw [Int.natCast_mul, Int.natCast_pow]; simp
end Go.Hl

namespace Go.Hl
open Go Go.RowKit Go.Proofs
set_option maxHeartbeats 8000000
theorem neg_div {a p : Nat} (hp : 0 < p) : (-(a : Int)) / (p : Int) = -((a / p + (if a % p = 0 then 0 else 1) : Nat) : Int) ∧ (-(a : Int)) % (p : Int) = ((if a % p = 0 then 0 else p - a % p : Nat) : Int) := by
  have h1 := Nat.div_add_mod a p
  have h2 := Nat.mod_lt a hp
  obtain ⟨q, hq⟩ : ∃ q, a / p = q := ⟨_, rfl⟩
  obtain ⟨r, hr⟩ : ∃ r, a % p = r := ⟨_, rfl⟩
  rw [hq, hr] at h1
  rw [hr] at h2
  rw [hq, hr]
  have hp' : (p : Int) ≠ 0 := by omega
  by_cases h0 : r = 0
  · rw [if_pos h0, if_pos h0, Nat.add_zero]
    have e : (-(a : Int)) = 0 + (p : Int) * (-(q : Int)) := by rw [← h1, h0]; simp [Int.mul_neg]
    rw [e, Int.add_mul_ediv_left _ _ hp', Int.add_mul_emod_self_left]
    simp
  · rw [if_neg h0, if_neg h0]
    have e : (-(a : Int)) = ((p - r : Nat) : Int) + (p : Int) * (-((q + 1 : Nat) : Int)) := by
      rw [← h1, Int.natCast_sub (by omega), Int.natCast_add, Int.natCast_add, Int.natCast_mul, Int.mul_neg, Int.mul_add]
      omega
    have hlt : ((p - r : Nat) : Int) < p := by omega
    rw [e, Int.add_mul_ediv_left _ _ hp', Int.add_mul_emod_self_left, Int.ediv_eq_zero_of_lt (by omega) hlt, Int.emod_eq_of_lt (by omega) hlt]
    simp
@[push_cast] def spZShr : Sp := spZI 0 (fun _ x _ => Lm x ∧ x.length < 10000000) (fun b x n => zi (zv b x / 2 ^ sh n))
theorem zshr_ok : SpOK Tryz.prog 53 spZShr := by
  refine SpOK.ZI fun b x n ⟨hx, hxl⟩ => ?_
  have hE := env (SOK.cons shl_ok (SOK.cons shr_ok (SOK.cons cmp_ok (SOK.cons add_ok (SOK.cons made_ok (SOK.nil (P := Tryz.prog)))))))
  refine ACall.body hE Tryz.func53 Tryz.ntmps53 Tryz.results53 ?_
  obtain ⟨l, hl⟩ : ∃ l, l = 10000000 := ⟨_, rfl⟩
  have bA := nbl hx (l := l) (by omega)
  unfold zv
  obtain ⟨A, eA⟩ : ∃ A, nb x = A := ⟨_, rfl⟩
  rw [eA] at bA ⊢
  have hpi : (2 : Int) ^ sh n = ((2 ^ sh n : Nat) : Int) := (Int.natCast_pow 2 _).symm
  have hp0 : 0 < 2 ^ sh n := Nat.two_pow_pos _
  rw [hpi]
  obtain ⟨s1, s2, s3⟩ := dgl (n := A / 2 ^ sh n) (Nat.lt_of_le_of_lt (Nat.div_le_self _ _) bA) (by omega)
  obtain ⟨t1, t2, t3⟩ := dgl (n := A / 2 ^ sh n * 2 ^ sh n) (Nat.lt_of_le_of_lt (Nat.div_mul_le_self _ _) bA) (by omega)
  obtain ⟨p, hp⟩ : ∃ p, 2 ^ sh n = p := ⟨_, rfl⟩
  rw [hp] at hp0 s1 s2 s3 t1 t2 t3 ⊢
  cases b
  · refine wk hE (And.intro eA hp) ?_
    refine PostL.mk trivial ?_
    refine congrArg zi ?_
    unfold zs; simp
  · have hn := (neg_div (a := A) hp0).1
    have hdm := Nat.div_add_mod A p
    rw [Nat.mul_comm] at hdm
    by_cases h0 : A % p = 0
    · have hc : cmpI (A / p * p) A = 0 := by unfold cmpI; rw [if_neg (by omega), if_neg (by omega)]
      refine wk hE (And.intro eA (And.intro hp hc)) ?_
      refine PostL.mk trivial ?_
      refine congrArg zi ?_
      rw [if_pos h0] at hn
      unfold zs; simpa using hn.symm
    · have hc : (cmpI (A / p * p) A != 0) = true := by rw [bne_iff_ne]; unfold cmpI; rw [if_pos (by omega)]; decide
      have h1 : nb [1] = 1 := by simp [nb, nv]
      have l1 : Lm [1] := ⟨Lim.cons (by rw [hB64]; omega) Lim.nil, by simp⟩
      have b1 : A / p < B64 ^ l := Nat.lt_of_le_of_lt (Nat.div_le_self _ _) bA
      obtain ⟨u1, u2, u3⟩ := dgl (n := A / p + 1) (k := l + 1) (by
        rw [Nat.pow_succ]
        have : B64 ^ l * 2 ≤ B64 ^ l * B64 := Nat.mul_le_mul_left _ (by decide)
        have := Nat.pow_pos (n := l) (show 0 < B64 by decide)
        omega) (by omega)
      refine wk hE (And.intro eA (And.intro hp (And.intro hc h1))) ?_
      refine PostL.mk trivial ?_
      refine congrArg zi ?_
      rw [if_neg h0] at hn
      unfold zs; simpa using hn.symm
def rz (z w : Int) : Int := if w = 0 then 0 else z % w
theorem zs_div {A B : Nat} (b c : Bool) (hB : 0 < B) : zs b A / zs c B = zs (b != c) (A / B + (if b = true ∧ A % B ≠ 0 then 1 else 0)) ∧ zs b A % zs c B = ((if b = true ∧ A % B ≠ 0 then B - A % B else A % B : Nat) : Int) := by
  have h := neg_div (a := A) hB
  unfold zs
  cases b <;> cases c
  · simp
  · simp [Int.ediv_neg, Int.emod_neg]
  · by_cases h0 : A % B = 0
    · rw [if_pos h0, if_pos h0] at h
      simpa [h0] using h
    · rw [if_neg h0, if_neg h0] at h
      simpa [h0] using h
  · by_cases h0 : A % B = 0
    · rw [if_pos h0, if_pos h0] at h
      simp [h0, Int.ediv_neg, Int.emod_neg, h.1, h.2]
    · rw [if_neg h0, if_neg h0] at h
      simp [h0, Int.ediv_neg, Int.emod_neg, h.1, h.2]
theorem zs_zero (b : Bool) (n : Nat) : zs b n = 0 ↔ n = 0 := by unfold zs; split <;> omega
@[push_cast] def spZDivMod : Sp := spZZ 0 (fun _ x _ y => Lm x ∧ x.length < 10000000 ∧ Lm y ∧ y.length < 10000000) (fun b x c y => .tup [zi (zv b x / zv c y), zi (rz (zv b x) (zv c y)), .raw (.bool (decide (zv c y ≠ 0)))])
theorem zi_zero : AV.agg [.raw (.bool false), .ns .u64 []] = zi 0 := by unfold zi; rw [Int.natAbs_zero, dg_zero]; rfl
theorem zdivmod_ok : SpOK Tryz.prog 46 spZDivMod := by
  refine SpOK.ZZ fun b x c y ⟨hx, hxl, hy, hyl⟩ => ?_
  have hE := env (SOK.cons divmod_ok (SOK.cons add_ok (SOK.cons sub_ok (SOK.cons made_ok (SOK.nil (P := Tryz.prog))))))
  refine ACall.body hE Tryz.func46 Tryz.ntmps46 Tryz.results46 ?_
  obtain ⟨l, hl⟩ : ∃ l, l = 10000000 := ⟨_, rfl⟩
  have bA := nbl hx (l := l) (by omega)
  have bB := nbl hy (l := l) (by omega)
  unfold zv
  obtain ⟨A, eA⟩ : ∃ A, nb x = A := ⟨_, rfl⟩
  obtain ⟨B, eB⟩ : ∃ B, nb y = B := ⟨_, rfl⟩
  rw [eA] at bA ⊢
  rw [eB] at bB ⊢
  by_cases hB : B = 0
  · have hz : zs c B = 0 := (zs_zero c B).2 hB
    have hd : decide (B ≠ 0) = false := by rw [hB]; rfl
    refine wk hE (And.intro eA (And.intro eB hd)) ?_
    refine PostL.mk trivial ?_
    rw [hz, zi_zero]
    simp [rz]
  · have hB0 : 0 < B := by omega
    obtain ⟨m1, m2⟩ := zs_div (A := A) b c hB0
    have hz : zs c B ≠ 0 := fun e => hB ((zs_zero c B).1 e)
    have hd : decide (B ≠ 0) = true := decide_eq_true hB
    have hr : rm A B = A % B := if_neg hB
    have hlt := Nat.mod_lt A hB0
    obtain ⟨s1, s2, s3⟩ := dgl (n := A / B) (Nat.lt_of_le_of_lt (Nat.div_le_self _ _) bA) (by omega)
    obtain ⟨t1, t2, t3⟩ := dgl (n := A % B) (Nat.lt_of_le_of_lt (Nat.mod_le _ _) bA) (by omega)
    have hrz : rz (zs b A) (zs c B) = zs b A % zs c B := if_neg hz
    rw [hrz, decide_eq_true hz, m1, m2]
    by_cases h0 : b = true ∧ A % B ≠ 0
    · rw [if_pos h0, if_pos h0]
      obtain ⟨hb, h0⟩ := h0
      subst hb
      have hpos : (0 : Int) < (dg (A % B)).length := by
        have := List.length_pos_iff.2 (fun h => h0 (dg_nil.1 h))
        omega
      have h1 : nb [1] = 1 := by simp [nb, nv]
      have l1 : Lm [1] := ⟨Lim.cons (by rw [hB64]; omega) Lim.nil, by simp⟩
      have b1 : A / B < B64 ^ l := Nat.lt_of_le_of_lt (Nat.div_le_self _ _) bA
      obtain ⟨u1, u2, u3⟩ := dgl (n := A / B + 1) (k := l + 1) (by
        rw [Nat.pow_succ]
        have : B64 ^ l * 2 ≤ B64 ^ l * B64 := Nat.mul_le_mul_left _ (by decide)
        have := Nat.pow_pos (n := l) (show 0 < B64 by decide)
        omega) (by omega)
      obtain ⟨v1, v2, v3⟩ := dgl (n := B - A % B) (Nat.lt_of_le_of_lt (Nat.sub_le _ _) bB) (by omega)
      refine wk hE (And.intro eA (And.intro eB (And.intro hd (And.intro hr (And.intro hpos h1))))) ?_
      refine PostL.mk trivial ?_
      cases c <;> rfl
    · rw [if_neg h0, if_neg h0, Nat.add_zero]
      cases b
      · refine wk hE (And.intro eA (And.intro eB (And.intro hd hr))) ?_
        refine PostL.mk trivial ?_
        cases c <;> rfl
      · have h0 : A % B = 0 := by
          rcases Nat.eq_zero_or_pos (A % B) with h | h
          · exact h
          · exact (h0 ⟨rfl, by omega⟩).elim
        rw [h0] at hr
        rw [h0]
        have z0 : (dg 0).length = 0 := by rw [dg_zero]; rfl
        have z1 : ¬ (0 : Int) < (dg 0).length := by omega
        refine wk hE (And.intro eA (And.intro eB (And.intro hd (And.intro hr z1)))) ?_
        refine PostL.mk trivial ?_
        have e0 : AV.agg [.raw (.bool (decide (zs false 0 < 0))), .ns .u64 (dg (zs false 0).natAbs)] = zi 0 := rfl
        cases c <;> rfl
@[push_cast] def spDown : Sp := spZZ 0 (fun _ x _ y => Lm x ∧ x.length < 10000000 ∧ Lm y ∧ y.length < 10000000) (fun b x c y => .tup [zi ((zv b x).fdiv (zv c y)), .raw (.bool (decide (zv c y ≠ 0)))])
theorem lm_zv {b : Bool} {x : List Int} (hx : Lm x) (hl : x.length < 10000000) : Lm (dg (zv b x).natAbs) ∧ (dg (zv b x).natAbs).length < 10000000 := by
  unfold zv
  rw [zs_abs]
  have := dg_len_lt hx hl
  exact ⟨lm_dg (by omega), this⟩
theorem zv_true {c : Bool} {y : List Int} (h : c = true) : zv c y ≤ 0 := by subst h; unfold zv zs; simp
theorem zv_false {c : Bool} {y : List Int} (h : c = false) : 0 ≤ zv c y := by subst h; unfold zv zs; simp
theorem nat_abs_lt {z : Int} {l : Nat} (h : z.natAbs < B64 ^ l) (hl : l < 10000000) : Lm (dg z.natAbs) ∧ (dg z.natAbs).length < 10000000 := by
  obtain ⟨h1, _, h3⟩ := dgl h (by omega)
  exact ⟨h1, by omega⟩
theorem zv_abs_lt {b : Bool} {x : List Int} (hx : Lm x) {l : Nat} (hl : x.length ≤ l) : (zv b x).natAbs < B64 ^ l := by
  unfold zv; rw [zs_abs]; exact nbl hx hl
theorem abs_add_lt {z w : Int} {l : Nat} (hz : z.natAbs < B64 ^ l) (hw : w.natAbs < B64 ^ l) : (z + w).natAbs < B64 ^ (l + 1) := by
  have := powA hz hw
  have h2 := Int.natAbs_add_le z w
  omega
theorem abs_sub_lt {z w : Int} {l : Nat} (hz : z.natAbs < B64 ^ l) (hw : w.natAbs < B64 ^ l) : (z - w).natAbs < B64 ^ (l + 1) := by
  rw [Int.sub_eq_add_neg]; exact abs_add_lt hz (by rw [Int.natAbs_neg]; exact hw)
theorem abs_mul_lt {z w : Int} {k l : Nat} (hz : z.natAbs < B64 ^ k) (hw : w.natAbs < B64 ^ l) : (z * w).natAbs < B64 ^ (k + l) := by
  rw [Int.natAbs_mul]; exact powM hz hw
theorem abs_two_lt {z : Int} {l : Nat} (hz : z.natAbs < B64 ^ l) : (z * 2).natAbs < B64 ^ (l + 1) := by
  rw [Int.mul_comm]
  have := powA hz hz
  rw [Int.natAbs_mul]
  show 2 * _ < _
  omega
theorem abs_neg_lt {z : Int} {l : Nat} (hz : z.natAbs < B64 ^ l) : (-z).natAbs < B64 ^ l := by rw [Int.natAbs_neg]; exact hz
theorem abs_ediv_le (z w : Int) : (z / w).natAbs ≤ z.natAbs := Int.natAbs_ediv_le_natAbs z w
theorem abs_up {z : Int} {k l : Nat} (hz : z.natAbs < B64 ^ k) (h : k ≤ l) : z.natAbs < B64 ^ l := Nat.lt_of_lt_of_le hz (Nat.pow_le_pow_right (by decide) h)
theorem sh_one : sh 1 = 1 := by decide
@[push_cast] def spRound : Sp := spZZ 0 (fun _ x _ y => Lm x ∧ x.length < 1000000 ∧ Lm y ∧ y.length < 1000000) (fun b x c y => .tup [zi ((zv b x * 2 + zv c y).fdiv (zv c y * 2)), .raw (.bool (decide (zv c y * 2 ≠ 0)))])
@[push_cast] def spUp : Sp := spZZ 0 (fun _ x _ y => Lm x ∧ x.length < 1000000 ∧ Lm y ∧ y.length < 1000000) (fun b x c y => .tup [zi (-((-zv b x).fdiv (zv c y))), .raw (.bool (decide (zv c y ≠ 0)))])
theorem fdiv_abs (z w : Int) : (z.fdiv w).natAbs ≤ z.natAbs := by
  rcases Int.lt_or_le w 0 with h | h
  · have : z.fdiv w = (-z) / (-w) := by rw [← Int.fdiv_eq_ediv_of_nonneg _ (by omega), Int.neg_fdiv_neg]
    rw [this]
    have := abs_ediv_le (-z) (-w)
    rwa [Int.natAbs_neg] at this
  · rw [Int.fdiv_eq_ediv_of_nonneg _ h]; exact abs_ediv_le z w
@[push_cast] def spZGcd : Sp := spZZ 0 (fun _ x _ y => Lm x ∧ x.length < 1000000 ∧ Lm y ∧ y.length < 1000000) (fun b x c y => zi (Nat.gcd (zv b x).natAbs (zv c y).natAbs : Nat))
theorem gcd_lt {a b l : Nat} (ha : a < B64 ^ l) (hb : b < B64 ^ l) : Nat.gcd a b < B64 ^ l := by
  by_cases h : a = 0
  · rw [h, Nat.gcd_zero_left]; exact hb
  · exact Nat.lt_of_le_of_lt (Nat.gcd_le_left b (by omega)) ha
theorem zgcd_ok : SpOK Tryz.prog 45 spZGcd := by
  refine SpOK.ZZ fun b x c y ⟨hx, hxl, hy, hyl⟩ => ?_
  have hE := env (SOK.cons gcd_ok (SOK.cons made_ok (SOK.nil (P := Tryz.prog))))
  obtain ⟨l, hl⟩ : ∃ l, l = 1000000 := ⟨_, rfl⟩
  obtain ⟨a1, a2, a3⟩ := dgl (gcd_lt (nbl hx (l := l) (by omega)) (nbl hy (l := l) (by omega))) (by omega)
  refine ACall.body hE Tryz.func45 Tryz.ntmps45 Tryz.results45 ?_
  unfold zv
  rw [zs_abs, zs_abs]
  refine wk hE trivial ?_
  refine PostL.mk trivial ?_
  rfl
end Go.Hl

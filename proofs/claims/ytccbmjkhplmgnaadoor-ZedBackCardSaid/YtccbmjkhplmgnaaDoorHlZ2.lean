/- Integers: a sign and a number; zed.made, Norm, Of, Sign, Cmp, Same, BitLen -/
import Derived.Test.YtccbmjkhplmgnaaDoorHlPe
import Derived.Test.YtccbmjkhplmgnaaDoorHlPa
set_option linter.unusedVariables false
set_option linter.unusedSimpArgs false
namespace Go.Hl
open Go Go.RowKit Go.Proofs
set_option maxHeartbeats 4000000

theorem ACall.ofF {P : Program} {f : FuncId} {args : List AV} {r : AV} (h : FCall P f args r) : ACall P f args r := by
  obtain ⟨k, xs, rfl, h⟩ := h
  intro w X vs hX hl hr
  obtain ⟨h1, h2⟩ := h w X vs hX hl hr
  refine .inr ⟨h1, h2.mono fun e w' ⟨v, he, hb, hv⟩ => ⟨v, he, ?_, hb⟩⟩
  rcases hv with ⟨b, o, cap, C, e', rfl, hc, ho, hbn, hw, hcells⟩ | ⟨rfl, ad, rfl⟩
  · refine RI.ns k xs (some ⟨b, o, none⟩) b o cap hc (fun _ => ⟨rfl, fun hx => ?_⟩) (fun i x hx => ?_)
    · have := hX b hx; omega
    · rw [cell_of_block hw]; exact hcells i x hx
  · exact RI.ns k [] ad 0 0 0 (by simp) (by simp) (by simp)

@[push_cast] def spNorm0 : Sp := spN 0 (fun xs => Lm xs) (fun xs => .ns .u64 (dg (nb xs)))
theorem norm0_ok : SpOK Tryd.prog 30 spNorm0 := SpOK.N fun xs hx => ACall.ofF ((norm_ok [.ns .u64 xs] hx).2.1 rfl)

/-- The integer of a sign and a number. -/
def zs (b : Bool) (n : Nat) : Int := if b then -(n : Int) else n
def zv (b : Bool) (x : List Int) : Int := zs b (nb x)
/-- An integer as it stands. -/
@[push_cast] def zi (z : Int) : AV := .agg [.raw (.bool (decide (z < 0))), .ns .u64 (dg z.natAbs)]
theorem zv_zi (z : Int) : zv (decide (z < 0)) (dg z.natAbs) = z := by
  unfold zv zs
  rw [nb_dg]
  split
  · rename_i h; have := of_decide_eq_true h; omega
  · rename_i h; have := of_decide_eq_false (Bool.eq_false_iff.2 h); omega
theorem zv_dg (b : Bool) (n : Nat) : zv b (dg n) = zs b n := by unfold zv; rw [nb_dg]
attribute [push_cast] zv_zi List.getElem?_cons_zero List.getElem?_cons_succ List.set_cons_zero List.set_cons_succ
theorem zs_abs (b : Bool) (n : Nat) : (zs b n).natAbs = n := by unfold zs; split <;> simp
theorem zs_neg (b : Bool) (n : Nat) : decide (zs b n < 0) = (b && decide (0 < (dg n).length)) := by
  by_cases h : n = 0
  · subst h; rw [dg_zero]; cases b <;> rfl
  · have : 0 < (dg n).length := List.length_pos_iff.2 (fun e => h (dg_nil.1 e))
    rw [decide_eq_true this, Bool.and_true]
    cases b
    · exact decide_eq_false (by unfold zs; simp)
    · exact decide_eq_true (by unfold zs; simp; omega)
theorem zi_zs (b : Bool) (n : Nat) : AV.agg [.raw (.bool (b && decide (0 < (dg n).length))), .ns .u64 (dg n)] = zi (zs b n) := by
  unfold zi; rw [zs_abs, zs_neg]

/-- What is made of a number as it stands. -/
@[push_cast] def spMade : Sp := spBN 0 (fun _ m => m = dg (nb m) ∧ m.length < 1000000000) (fun b m => zi (zs b (nb m)))
theorem nat_pos (n : Nat) : decide ((0 : Int) < (n : Int)) = decide (0 < n) := decide_eq_decide.2 (by omega)
theorem made_ok : SpOK Tryd.prog 25 spMade := by
  refine SpOK.BN fun b m ⟨hm, hl⟩ => ?_
  have hE := env (SOK.nil (P := Tryd.prog))
  obtain ⟨n, hn⟩ : ∃ n, nb m = n := ⟨_, rfl⟩
  rw [hn] at hm
  subst hm
  refine ACall.body hE Tryd.func25 Tryd.ntmps25 Tryd.results25 ?_
  rw [hn, ← zi_zs]
  have hp := nat_pos (dg n).length
  cases b
  · refine wk hE trivial ?_
    exact PostL.mk trivial rfl
  · refine wk hE hp ?_
    exact PostL.mk trivial rfl

/-- Numbers of so many limbs. -/
theorem two_pow_ge (n : Nat) : n < B64 ^ n ∨ n = 0 := by
  rcases Nat.eq_zero_or_pos n with h | h
  · exact .inr h
  · exact .inl (Nat.lt_pow_self (by decide))

@[push_cast] def spZNorm : Sp := spZ 0 (fun _ x => Lm x ∧ x.length < 10000000) (fun b x => zi (zv b x))
@[push_cast] def spOf : Sp := spI 0 (fun n => -9223372036854775808 ≤ n ∧ n < 9223372036854775808) (fun n => zi n)
theorem dg_one {n : Nat} (h : n < 18446744073709551616) : (dg n).length ≤ 1 := (digs_length_le (by decide) n 1).2 (by rw [Nat.pow_one]; exact h)
theorem nb_one (n : Nat) : nb [(n : Int)] = n := by simp [nb, nv]
theorem of_ok : SpOK Tryd.prog 16 spOf := by
  refine SpOK.I fun n ⟨h1, h2⟩ => ?_
  have hE := env (SOK.cons norm0_ok (SOK.cons made_ok (SOK.nil (P := Tryd.prog))))
  refine ACall.body hE Tryd.func16 Tryd.ntmps16 Tryd.results16 ?_
  obtain ⟨k, hk⟩ : ∃ k, n.natAbs = k := ⟨_, rfl⟩
  have hd := dg_one (n := k) (by omega)
  have hn1 := nb_one k
  have hlm : Lm [(k : Int)] := ⟨Lim.cons (by rw [hB64]; omega) Lim.nil, by simp⟩
  by_cases h0 : n < 0
  · have e1 : IntKind.u64.wrap (0 - IntKind.u64.wrap n) = (k : Int) := by rw [IntKind.wrap_u64, IntKind.wrap_u64]; omega
    have hz : zs true k = n := by unfold zs; simp; omega
    refine wk hE (And.intro h0 (And.intro e1 hn1)) ?_
    refine PostL.mk trivial ?_
    exact congrArg zi hz
  · have e1 : IntKind.u64.wrap n = (k : Int) := by rw [IntKind.wrap_u64]; omega
    have hz : zs false k = n := by unfold zs; simp; omega
    refine wk hE (And.intro h0 (And.intro e1 hn1)) ?_
    refine PostL.mk trivial ?_
    exact congrArg zi hz

@[push_cast] def spSign : Sp := spZ 0 (fun _ x => Lm x) (fun b x => .raw (.int .i64 (zv b x).sign))
theorem blen_zero_iff (n : Nat) : ((blen n : Int) == 0) = decide (n = 0) := by
  rw [Bool.eq_iff_iff, beq_iff_eq, decide_eq_true_iff, ← blen_eq_zero]; omega
theorem sign_ok : SpOK Tryd.prog 13 spSign := by
  refine SpOK.Z fun b x hx => ?_
  have hE := env (SOK.cons bitlen_ok (SOK.nil (P := Tryd.prog)))
  refine ACall.body hE Tryd.func13 Tryd.ntmps13 Tryd.results13 ?_
  unfold zv
  obtain ⟨n, hn⟩ : ∃ n, nb x = n := ⟨_, rfl⟩
  rw [hn]
  have hb := blen_zero_iff n
  by_cases h0 : n = 0
  · rw [decide_eq_true h0] at hb
    refine wk hE (And.intro hn hb) ?_
    refine PostL.mk trivial ?_
    rw [h0]; cases b <;> rfl
  · rw [decide_eq_false h0] at hb
    cases b
    · refine wk hE (And.intro hn hb) ?_
      refine PostL.mk trivial ?_
      have : (zs false n).sign = 1 := Int.sign_eq_one_of_pos (by unfold zs; simp; omega)
      rw [this]
    · refine wk hE (And.intro hn hb) ?_
      refine PostL.mk trivial ?_
      have : (zs true n).sign = -1 := Int.sign_eq_neg_one_of_neg (by unfold zs; simp; omega)
      rw [this]

@[push_cast] def spZBitLen : Sp := spZ 0 (fun _ x => Lm x) (fun b x => .raw (.int .i64 (blen (zv b x).natAbs : Nat)))
/-- Two integers compared. -/
def cmpZ (a b : Int) : Int := if a < b then -1 else if b < a then 1 else 0
@[push_cast] def spZCmp : Sp := spZZ 0 (fun _ x _ y => Lm x ∧ Lm y) (fun b x c y => .raw (.int .i64 (cmpZ (zv b x) (zv c y))))
theorem sign_cases (z : Int) : (z < 0 ∧ z.sign = -1) ∨ (z = 0 ∧ z.sign = 0) ∨ (0 < z ∧ z.sign = 1) := by
  rcases Int.lt_trichotomy z 0 with h | h | h
  · exact .inl ⟨h, Int.sign_eq_neg_one_of_neg h⟩
  · exact .inr (.inl ⟨h, by rw [h]; rfl⟩)
  · exact .inr (.inr ⟨h, Int.sign_eq_one_of_pos h⟩)
theorem zcmp_ok : SpOK Tryd.prog 36 spZCmp := by
  refine SpOK.ZZ fun b x c y ⟨hx, hy⟩ => ?_
  have hE := env (SOK.cons sign_ok (SOK.cons cmp_ok (SOK.nil (P := Tryd.prog))))
  refine ACall.body hE Tryd.func36 Tryd.ntmps36 Tryd.results36 ?_
  obtain ⟨z, hz⟩ : ∃ z, zv b x = z := ⟨_, rfl⟩
  obtain ⟨w, hw⟩ : ∃ w, zv c y = w := ⟨_, rfl⟩
  have hza : nb x = z.natAbs := by rw [← hz]; unfold zv; rw [zs_abs]
  have hwa : nb y = w.natAbs := by rw [← hw]; unfold zv; rw [zs_abs]
  rw [hz, hw]
  by_cases h1 : z.sign < w.sign
  · refine wk hE (And.intro hz (And.intro hw h1)) ?_
    refine PostL.mk trivial ?_
    have : z < w := by rcases sign_cases z with h | h | h <;> rcases sign_cases w with k | k | k <;> omega
    unfold cmpZ; rw [if_pos this]
  by_cases h2 : w.sign < z.sign
  · refine wk hE (And.intro hz (And.intro hw (And.intro h1 h2))) ?_
    refine PostL.mk trivial ?_
    have : w < z := by rcases sign_cases z with h | h | h <;> rcases sign_cases w with k | k | k <;> omega
    unfold cmpZ; rw [if_neg (by omega), if_pos this]
  obtain ⟨s, hs⟩ : ∃ s, z.sign = s := ⟨_, rfl⟩
  obtain ⟨t, ht⟩ : ∃ t, w.sign = t := ⟨_, rfl⟩
  rw [hs, ht] at h1 h2
  obtain ⟨m, hm⟩ : ∃ m, cmpI z.natAbs w.natAbs = m := ⟨_, rfl⟩
  have hm1 : -1 ≤ m ∧ m ≤ 1 := by rw [← hm]; unfold cmpI; split; omega; split <;> omega
  have hs1 : -1 ≤ s ∧ s ≤ 1 := by rcases sign_cases z with h | h | h <;> omega
  have hres : s * m = cmpZ z w ∧ -1 ≤ s * m ∧ s * m ≤ 1 := by
    rw [← hm]
    unfold cmpI cmpZ
    rcases sign_cases z with h | h | h <;> rcases sign_cases w with k | k | k <;> first
      | omega
      | (have : s = -1 := by omega
         subst this
         split <;> split <;> (try split) <;> (try split) <;> omega)
      | (have : s = 0 := by omega
         subst this
         split <;> split <;> (try split) <;> (try split) <;> omega)
      | (have : s = 1 := by omega
         subst this
         split <;> split <;> (try split) <;> (try split) <;> omega)
  refine wk hE (And.intro hz (And.intro hw (And.intro hs (And.intro ht (And.intro h1 (And.intro h2 (And.intro hza (And.intro hwa hm)))))))) ?_
  refine PostL.mk trivial ?_
  rw [hres.1]

@[push_cast] def spZSame : Sp := spZZ 0 (fun _ x _ y => Lm x ∧ Lm y) (fun b x c y => .raw (.bool (decide (zv b x = zv c y))))
theorem zsame_ok : SpOK Tryd.prog 14 spZSame := by
  refine SpOK.ZZ fun b x c y ⟨hx, hy⟩ => ?_
  have hE := env (SOK.cons zcmp_ok (SOK.nil (P := Tryd.prog)))
  refine ACall.body hE Tryd.func14 Tryd.ntmps14 Tryd.results14 ?_
  obtain ⟨z, hz⟩ : ∃ z, zv b x = z := ⟨_, rfl⟩
  obtain ⟨w, hw⟩ : ∃ w, zv c y = w := ⟨_, rfl⟩
  rw [hz, hw]
  have he : (cmpZ z w == 0) = decide (z = w) := by
    unfold cmpZ
    by_cases h : z = w
    · subst h; simp
    · rw [decide_eq_false h, beq_eq_false_iff_ne]; split; omega; split <;> omega
  refine wk hE (And.intro hz (And.intro hw he)) ?_
  exact PostL.mk trivial rfl
end Go.Hl

/- nat.short, nat.long nat.DivMod, nat.Gcd -/
import Derived.Test.YtccbmjkhplmgnaaDoorHlPd
import Derived.Test.YtccbmjkhplmgnaaDoorHlPb
import Derived.Test.YtccbmjkhplmgnaaDoorHlN
import Derived.Test.YtccbmjkhplmgnaaDoorHlPa
set_option linter.unusedVariables false
set_option linter.unusedSimpArgs false
namespace Go.Hl
open Go Go.RowKit Go.Proofs
set_option maxHeartbeats 4000000

@[push_cast] def spShort : Sp := spNU 0 (fun a b => Lm a ∧ a.length < 1000000000 ∧ 0 < b ∧ b < 18446744073709551616)
  (fun a b => .tup [.ns .u64 (dg (nb a / b.toNat)), .ns .u64 (dg (nb a % b.toNat)), .raw (.bool true)])

theorem short_ok : SpOK Tryd.prog 62 spShort := by
  refine SpOK.NU fun a b ⟨ha, hal, hb0, hb1⟩ => ?_
  have hE := env (SOK.cons trim_ok (SOK.cons div64_ok (SOK.nil (P := Tryd.prog))))
  refine ACall.body hE Tryd.func62 Tryd.ntmps62 Tryd.results62 ?_
  refine wk hE trivial ?_
  refine AWp.loop (ι := {p : Nat × List Int × Int // ShortI a p.2.1 b p.2.2 p.1}) (fun p => ⟨[(0, .ns .u64 a), (1, .raw (.int .u64 b)), (7, .os 12 1 0 a.length), (8, .raw (.int .u64 p.1.2.2)), (9, .raw (.int .i64 ((p.1.1 : Int) - 1)))], [(12, ⟨true, .n .u64 p.1.2.1⟩)]⟩)
    (fun p => p.1.1) ⟨(a.length, List.replicate a.length 0, 0), by dsimp only; omega, by simp, Lim.zeros (by decide) _, by dsimp only; omega, ?_⟩ (Le.mk trivial) ?_
  · dsimp only
    rw [List.drop_length, List.drop_of_length_le (by simp)]
    simp [nb, nv]
  rintro ⟨⟨n, q, r⟩, hI⟩
  dsimp only at hI ⊢
  have hql := hI.hl
  have hn := hI.hn
  have hr := hI.hr
  cases n with
  | succ n =>
    have h1 := lim64 ha.1 n
    have hst := hI.step ha.1 hb1 rfl
    obtain ⟨d, hd⟩ : ∃ d, (r * 18446744073709551616 + a.getD n 0) / b = d := ⟨_, rfl⟩
    obtain ⟨m, hm⟩ : ∃ m, (r * 18446744073709551616 + a.getD n 0) % b = m := ⟨_, rfl⟩
    rw [hd, hm] at hst
    refine wk hE (And.intro hd hm) ?_
    exact ⟨⟨(n, q.set n d, m), hst⟩, Le.mk trivial, by dsimp only; omega⟩
  | zero =>
    obtain ⟨d1, d2⟩ := hI.done
    have hlm : Lm q := ⟨hI.hd, by omega⟩
    have hl1 : Lm [r] := ⟨Lim.cons (by rw [hB64]; omega) Lim.nil, by simp⟩
    have hn1 : nb [r] = nb a % b.toNat := by rw [← d2]; simp [nb, nv]
    refine wk hE (And.intro d1 hn1) ?_
    exact PostL.mk trivial rfl

@[push_cast] def spLong : Sp := spNN 0 (fun a b => Lm a ∧ a.length < 100000000 ∧ Lm b ∧ Top b ∧ 2 ≤ b.length ∧ b.length ≤ a.length)
  (fun a b => .tup [.ns .u64 (dg (nb a / nb b)), .ns .u64 (dg (nb a % nb b)), .raw (.bool true)])

theorem sh_small {n : Nat} (h : n ≤ 8192) : sh (n : Int) = n := by unfold sh; split <;> split <;> omega

theorem splice_spl (xs ys : List Int) (off len : Nat) : splice xs ys off len = spl xs ys off len := rfl

theorem long_ok : SpOK Tryd.prog 63 spLong := by
  refine SpOK.NN fun a b ⟨ha, hal, hb, hbt, hb2, hba⟩ => ?_
  have hE := env (SOK.cons trim_ok (SOK.cons lead64_ok (SOK.cons shl_ok (SOK.cons shr_ok (SOK.cons digit_ok (SOK.nil (P := Tryd.prog)))))))
  obtain ⟨n, hn⟩ : ∃ n, b.length = n := ⟨_, rfl⟩
  obtain ⟨la, hla⟩ : ∃ la, a.length = la := ⟨_, rfl⟩
  obtain ⟨A, hA⟩ : ∃ A, nb a = A := ⟨_, rfl⟩
  obtain ⟨B, hB⟩ : ∃ B, nb b = B := ⟨_, rfl⟩
  have hAlt : A < B64 ^ la := by rw [← hA]; exact nb_lt ha.1 (by omega)
  have l1 := lim64 hb.1 (n - 1)
  have htop : b.getD (n - 1) 0 ≠ 0 := by
    rcases hbt with h | h
    · rw [h] at hb2; simp at hb2
    · rwa [hn] at h
  obtain ⟨t, ht⟩ : ∃ t, b.getD (n - 1) 0 = t := ⟨_, rfl⟩
  rw [ht] at l1 htop
  obtain ⟨s1, s2, s3⟩ := norm_shift (y := t.toNat) (by omega) (by omega)
  obtain ⟨s, hs⟩ : ∃ s, 64 - blen t.toNat = s := ⟨_, rfl⟩
  rw [hs] at s1 s2 s3
  have hsh : sh (s : Int) = s := sh_small (by omega)
  obtain ⟨v1, v2, v3, v4, v5⟩ := long_start (A := A) hb.1 hn (by omega) hB hAlt (by omega) s3 (by rw [ht]; exact s1) (by rw [ht]; exact s2)
  obtain ⟨v, hv⟩ : ∃ v, dg (B * 2 ^ s) = v := ⟨_, rfl⟩
  obtain ⟨y, hy⟩ : ∃ y, dg (A * 2 ^ s) = y := ⟨_, rfl⟩
  have hvl : Lim B64 v := by rw [← hv]; exact lim_digs (by decide) _
  have hyl : Lim B64 y := by rw [← hy]; exact lim_digs (by decide) _
  have hvn : nb v = B * 2 ^ s := by rw [← hv]; exact nb_dg _
  have hyn : nb y = A * 2 ^ s := by rw [← hy]; exact nb_dg _
  rw [hv] at v1 v2
  rw [hy] at v3
  have hu : splice (List.replicate (la + 1) 0) y 0 (min (la + 1) y.length) = fixd B64 (la + 1) (A * 2 ^ s) := by
    have hm : min (la + 1) y.length = y.length := Nat.min_eq_right v3
    have h0 : splice (List.replicate (la + 1) 0) y 0 (min (la + 1) y.length) = y ++ List.replicate (la + 1 - y.length) 0 := by
      rw [hm]; simp [splice]
    rw [h0]
    refine eq_fixd64 (hyl.append (Lim.zeros (by decide) _)) (by simp; omega) ?_
    rw [nb_app, nb_zeros, Nat.mul_zero, Nat.add_zero, hyn]
  have hu2 : y ++ List.drop y.length (List.replicate (la + 1) 0) = fixd B64 (la + 1) (A * 2 ^ s) := by
    rw [← hu, Nat.min_eq_right v3]; simp [splice]
  have hq : ((la : Int) + 1 - (n : Int)).toNat = la + 1 - n := by omega
  have hlb : Lm b := hb
  refine ACall.body hE Tryd.func63 Tryd.ntmps63 Tryd.results63 ?_
  rw [hA, hB]
  refine wk hE (And.intro hn (And.intro hla (And.intro ht (And.intro hs (And.intro hsh (And.intro hA (And.intro hB (And.intro hv (And.intro hy (And.intro hu2 (And.intro v1 hq))))))))))) ?_
  obtain ⟨V, hV⟩ : ∃ V, B * 2 ^ s = V := ⟨_, rfl⟩
  rw [hV] at v4 v5 hvn
  have hVlt : V < B64 ^ n := by rw [← hvn]; exact nb_lt hvl (by omega)
  refine AWp.loop (ι := {p : Nat × List Int × List Int // LongI (A * 2 ^ s) V n la p.2.1 p.2.2 p.1}) (fun p => ⟨[(7, .raw (.int .i64 (s : Nat))), (8, .ns .u64 v), (9, .os 26 1 0 (la + 1)), (10, .raw (.int .i64 (n : Nat))), (11, .os 38 1 0 (la + 1 - n)), (12, .raw (.int .i64 ((p.1.1 : Int) - 1)))], [(38, ⟨true, .n .u64 p.1.2.1⟩), (26, ⟨true, .n .u64 p.1.2.2⟩)]⟩)
    (fun p => p.1.1) ⟨(la + 1 - n, _, _), v4⟩ (Le.mk trivial) ?_
  rintro ⟨⟨m, q, u⟩, hI⟩
  dsimp only at hI ⊢
  have hm := hI.hm
  have hql := hI.hq
  have hul := hI.hu
  cases m with
  | succ m =>
    obtain ⟨hD, hW⟩ := hI.window hvl v1 hvn (by omega) v2
    obtain ⟨W, hWe⟩ : ∃ W, nb ((u.drop m).take (n + 1)) = W := ⟨_, rfl⟩
    have hst := hI.step v5 hVlt (by omega) hWe (by rw [← hW]; exact hWe) (by have := hD.div_lt; rw [hWe, hvn] at this; exact this)
    obtain ⟨u', hu'⟩ : ∃ u', spl u (fixd B64 (n + 1) (W % V)) m (n + 1) = u' := ⟨_, rfl⟩
    obtain ⟨d, hd⟩ : ∃ d, W / V = d := ⟨_, rfl⟩
    rw [hu', hd] at hst
    have hd' : (W : Int) / (V : Int) = (d : Int) := by rw [← hd, Int.natCast_ediv]
    unfold spl at hu'
    have hcut : ((m : Int) + (n : Int) + 1 - (m : Int)).toNat = n + 1 := by omega
    refine wk hE (And.intro hcut (And.intro v1 (And.intro hWe (And.intro hvn (And.intro hd' hu'))))) ?_
    exact ⟨⟨(m, q.set m (d : Int), u'), hst⟩, Le.mk trivial, by dsimp only; omega⟩
  | zero =>
    obtain ⟨d1, d2⟩ := hI.done
    have hp : 0 < 2 ^ s := Nat.two_pow_pos s
    have e1 : nb q = A / B := by rw [d1, ← hV, Nat.mul_div_mul_right _ _ hp]
    have e2 : nb u / 2 ^ s = A % B := by rw [d2, ← hV, Nat.mul_mod_mul_right, Nat.mul_div_cancel _ hp]
    have hq1 : Lm q := ⟨hI.hql, by omega⟩
    have hu1 : Lm u := ⟨hI.hul, by omega⟩
    refine wk hE (And.intro e1 (And.intro e2 hsh)) ?_
    exact PostL.mk trivial rfl
end Go.Hl

namespace Go.Hl
open Go Go.RowKit Go.Proofs
set_option maxHeartbeats 4000000

/-- What is left; of a division by nought: nought. -/
def rm (a b : Nat) : Nat := if b = 0 then 0 else a % b

@[push_cast] def spDivMod : Sp := spNN 0 (fun xs ys => Lm xs ∧ Lm ys ∧ xs.length < 100000000 ∧ ys.length < 100000000)
  (fun xs ys => .tup [.ns .u64 (dg (nb xs / nb ys)), .ns .u64 (dg (rm (nb xs) (nb ys))), .raw (.bool (decide (nb ys ≠ 0)))])

theorem dg_zero : dg 0 = [] := digs_zero
theorem dg_nil {n : Nat} : dg n = [] ↔ n = 0 := digs_eq_nil (by decide)

theorem divmod_ok : SpOK Tryd.prog 31 spDivMod := by
  refine SpOK.NN fun xs ys ⟨hx, hy, hxl, hyl⟩ => ?_
  have hE := env (SOK.cons trim_ok (SOK.cons cmp_ok (SOK.cons clone_ok (SOK.cons short_ok (SOK.cons long_ok (SOK.nil (P := Tryd.prog)))))))
  have hxd := dg_len_lt hx hxl
  have hyd := dg_len_lt hy hyl
  have hA := lm_dg (n := nb xs) (by omega)
  have hB := lm_dg (n := nb ys) (by omega)
  have tA : Top (dg (nb xs)) := top_digs (by decide) _
  have tB : Top (dg (nb ys)) := top_digs (by decide) _
  have lt1 := dg_lt_of_len (a := nb xs) (b := nb ys)
  have eA := nb_dg (nb xs)
  have eB := nb_dg (nb ys)
  have z1 := dg_nil (n := nb ys)
  refine ACall.body hE Tryd.func31 Tryd.ntmps31 Tryd.results31 ?_
  obtain ⟨A, xA⟩ : ∃ A, nb xs = A := ⟨_, rfl⟩
  obtain ⟨B, yB⟩ : ∃ B, nb ys = B := ⟨_, rfl⟩
  rw [xA] at hxd hA tA lt1 eA
  rw [yB] at hyd hB tB lt1 eB z1
  rw [xA, yB]
  by_cases hB0 : B = 0
  · subst hB0
    refine wk hE (And.intro xA (And.intro yB dg_zero)) ?_
    refine PostL.mk trivial ?_
    simp [rm, dg_zero]
  have hBn : dg B ≠ [] := fun h => hB0 (z1.1 h)
  have hBl : 0 < (dg B).length := List.length_pos_iff.2 hBn
  have hr : rm A B = A % B := if_neg hB0
  rw [hr, decide_eq_true hB0]
  obtain ⟨n, hn⟩ : ∃ n, (dg B).length = n := ⟨_, rfl⟩
  obtain ⟨b, hb⟩ : ∃ b, dg B = b := ⟨_, rfl⟩
  obtain ⟨a, ha⟩ : ∃ a, dg A = a := ⟨_, rfl⟩
  have q1 : (((dg B).length : Int) == 0) = false := by rw [beq_eq_false_iff_ne]; omega
  rw [hn] at q1 hBl hyd
  have hn' : b.length = n := by rw [← hb]; exact hn
  rw [hb] at hB tB eB lt1
  rw [ha] at hA tA eA lt1 hxd
  by_cases hlt : A < B
  · have c1 : cmpI A B = -1 := by unfold cmpI; rw [if_pos hlt]
    have hq : A / B = 0 := Nat.div_eq_of_lt hlt
    have hm : A % B = A := Nat.mod_eq_of_lt hlt
    rw [hq, hm, dg_zero, ha]
    refine wk hE (And.intro xA (And.intro yB (And.intro hb (And.intro ha (And.intro eA (And.intro eB (And.intro hn' (And.intro q1 c1)))))))) ?_
    exact PostL.mk trivial rfl
  have c1 : ¬ cmpI A B < 0 := by unfold cmpI; rw [if_neg hlt]; split <;> decide
  by_cases h1 : n = 1
  · subst h1
    obtain ⟨x, rfl⟩ : ∃ x, b = [x] := List.length_eq_one_iff.1 hn'
    have hx := hB.1.head
    rw [hB64] at hx
    have hB1 : B = x.toNat := by rw [← eB]; simp [nb, nv]
    refine wk hE (And.intro xA (And.intro yB (And.intro hb (And.intro ha (And.intro eA (And.intro eB (And.intro (show ((1 : Int) == 0) = false from rfl) (And.intro c1 (show ((1 : Int) == 1) = true from rfl))))))))) ?_
    refine PostL.mk trivial ?_
    rw [hB1]
  · have q2 : ((n : Int) == 1) = false := by rw [beq_eq_false_iff_ne]; omega
    have hle : b.length ≤ a.length := by omega
    refine wk hE (And.intro xA (And.intro yB (And.intro hb (And.intro ha (And.intro eA (And.intro eB (And.intro hn' (And.intro q1 (And.intro c1 q2))))))))) ?_
    exact PostL.mk trivial rfl

@[push_cast] def spGcd : Sp := spNN 0 (fun xs ys => Lm xs ∧ Lm ys ∧ xs.length < 100000000 ∧ ys.length < 100000000) (fun xs ys => .ns .u64 (dg (Nat.gcd (nb xs) (nb ys))))

end Go.Hl

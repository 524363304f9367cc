/- hairlinelaw01: shown, cut -/
import Derived.Test.YtccbmjkhplmgnaaHlBb
import Derived.Test.YtccbmjkhplmgnaaHlPf
import Derived.Test.YtccbmjkhplmgnaaHlRa
import Derived.Test.YtccbmjkhplmgnaaHlPa
set_option linter.unusedVariables false
set_option linter.unusedSimpArgs false
namespace Go.Hl
open Go Go.RowKit Go.Proofs
set_option maxHeartbeats 4000000
@[push_cast] def sp0 (k : Nat) (r : AV) : Sp where
  kind := k
  pre | [] => True
      | _ => False
  res | [] => r
      | _ => .any
theorem SpOK.O {P : Program} {f : FuncId} {r : AV} (h : ACall P f [] r) : SpOK P f (sp0 0 r) := by
  refine SpOK.zero rfl fun args hp => ?_
  simp only [sp0] at hp ⊢
  split at hp
  · exact h
  · exact hp.elim
@[push_cast] def spShown : Sp := sp0 0 (.raw (.bool true))
theorem dg_of {n : Nat} {xs : List Int} (h : Lim B64 xs) (ht : Top xs) (e : nb xs = n) : dg n = xs := by
  rw [← e]; exact (eq_digs (by decide) h ht).symm
theorem lim1 {x : Int} (h : 0 ≤ x ∧ x < 18446744073709551616) : Lim B64 [x] := Lim.cons (by rw [hB64]; exact h) Lim.nil
theorem hexT255 : hexT 255 = [102, 102] := by
  have e : digs 16 255 = [15, 15] := (eq_digs (B := 16) (xs := [15, 15]) (by decide) (Lim.cons (by decide) (Lim.cons (by decide) Lim.nil)) (.inr (by decide))).symm
  unfold hexT
  rw [if_neg (by decide)]
  unfold hx
  rw [e]
  rfl
theorem shown_ok : SpOK Try.prog 30 spShown := by
  refine SpOK.O ?_
  have hE := env (SOK.cons add_ok (SOK.cons sub_ok (SOK.cons divmod_ok (SOK.cons gcd_ok (SOK.cons hex_ok (SOK.nil (P := Try.prog)))))))
  refine ACall.body hE Try.func30 Try.ntmps30 Try.results30 ?_
  have k0 : nb [18446744073709551615] = 18446744073709551615 := by simp [nb, nv]
  have k1 : nb [1] = 1 := by simp [nb, nv]
  have k2 : nb [2] = 2 := by simp [nb, nv]
  have k7 : nb [7] = 7 := by simp [nb, nv]
  have k12 : nb [12] = 12 := by simp [nb, nv]
  have k18 : nb [18] = 18 := by simp [nb, nv]
  have k255 : nb [255] = 255 := by simp [nb, nv]
  have l0 : Lm [18446744073709551615] := ⟨lim1 (by omega), by simp⟩
  have l1 : Lm [1] := ⟨lim1 (by omega), by simp⟩
  have l2 : Lm [2] := ⟨lim1 (by omega), by simp⟩
  have l7 : Lm [7] := ⟨lim1 (by omega), by simp⟩
  have l12 : Lm [12] := ⟨lim1 (by omega), by simp⟩
  have l18 : Lm [18] := ⟨lim1 (by omega), by simp⟩
  have l255 : Lm [255] := ⟨lim1 (by omega), by simp⟩
  have d0 : dg (18446744073709551615 + 1) = [0, 1] := dg_of (Lim.cons (by rw [hB64]; omega) (lim1 (by omega))) (.inr (by decide)) (by simp [nb, nv])
  have d3 : dg 3 = [3] := dg_of (lim1 (by omega)) (.inr (by decide)) (by simp [nb, nv])
  have d1 : dg (rm 7 2) = [1] := dg_of (lim1 (by omega)) (.inr (by decide)) (by simp [nb, nv, rm])
  have d6 : dg (Nat.gcd 12 18) = [6] := dg_of (lim1 (by omega)) (.inr (by decide)) (by simp [nb, nv])
  refine wk hE (And.intro k0 (And.intro k1 (And.intro k2 (And.intro k7 (And.intro k12 (And.intro k18 (And.intro k255 (And.intro d0 (And.intro d3 (And.intro d1 d6)))))))))) ?_
  refine PostL.mk trivial ?_
  rw [hexT255]
  exact congrArg (fun b => AV.raw (.bool b)) (beq_self_eq_true _)
@[push_cast] def spCut : Sp := spNI 0 (fun _ n => 0 ≤ n) (fun xs n => .ns .u64 (xs.take n.toNat))
theorem cut_ok : SpOK Try.prog 31 spCut := by
  refine SpOK.NI fun xs n hn => ?_
  have hE := env (SOK.nil (P := Try.prog))
  obtain ⟨n, rfl⟩ := Int.eq_ofNat_of_zero_le hn
  refine ACall.body hE Try.func31 Try.ntmps31 Try.results31 ?_
  by_cases h : n < xs.length
  · refine wk hE (show (n : Int) < xs.length by omega) ?_
    exact PostL.mk trivial rfl
  · refine wk hE (show ¬ (n : Int) < xs.length by omega) ?_
    refine PostL.mk trivial ?_
    rw [Int.toNat_natCast, List.take_of_length_le (by omega)]
end Go.Hl

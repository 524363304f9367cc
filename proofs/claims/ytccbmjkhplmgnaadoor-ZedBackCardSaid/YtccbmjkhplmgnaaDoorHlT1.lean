/- ref02.Text (seat .D) -/
import Derived.Test.YtccbmjkhplmgnaaDoorHlU1
import Derived.Test.YtccbmjkhplmgnaaDoorHlZ2
import Derived.Test.YtccbmjkhplmgnaaDoorHlR9
import Derived.Test.YtccbmjkhplmgnaaDoorHlAv29
set_option linter.unusedVariables false
set_option linter.unusedSimpArgs false
namespace Go.Hl
open Go Go.RowKit Go.Proofs
set_option maxHeartbeats 8000000

theorem dg_getD' {r : Nat} (h : r < 18446744073709551616) : (dg r).getD 0 0 = (r : Int) := by
  by_cases h0 : r = 0
  · subst h0; rw [dg_zero]; rfl
  · unfold dg
    rw [digs_pos (by decide) h0, List.getD_cons_zero, Nat.mod_eq_of_lt h]
theorem str_app (x l : List UInt8) : (ByteArray.mk x.toArray ++ ByteArray.mk l.toArray) = ByteArray.mk (x ++ l).toArray := by
  apply ByteArray.ext; simp

@[push_cast] def spRText : Sp := spZ 0 (fun _ x => Lm x ∧ x.length < 100000) (fun b x => .raw (.string ⟨(textL (zv b x)).toArray⟩))
theorem rtext_ok : SpOK Tryd.prog 11 spRText := by
  refine SpOK.Z fun b x ⟨hx, hxl⟩ => ?_
  have hE := env (SOK.cons rnorm_ok (SOK.cons rdivmod_ok (SOK.nil (P := Tryd.prog))))
  have hd := dg_len_lt hx (n := 100000) hxl
  refine ACall.body hE Tryd.func11 Tryd.ntmps11 Tryd.results11 ?_
  unfold zv
  obtain ⟨N, hN⟩ : ∃ N, nb x = N := ⟨_, rfl⟩
  rw [hN] at hd ⊢
  by_cases h0 : N = 0
  · have hz : (((dg N).length : Int) == 0) = true := by rw [h0, dg_zero]; rfl
    refine wk hE (And.intro hN hz) ?_
    refine PostL.mk trivial ?_
    have : zs b N = 0 := by rw [h0]; cases b <;> rfl
    rw [this]; rfl
  have hz : (((dg N).length : Int) == 0) = false := by
    have := List.length_pos_iff.2 (fun h => h0 (dg_nil.1 h))
    rw [beq_eq_false_iff_ne]; omega
  refine wk hE (And.intro hN hz) ?_
  have dl : ∀ M, M ≤ N → Lm (dg M) ∧ (dg M).length ≤ 100000 := fun M h => by
    have h1 : (dg M).length ≤ (dg N).length := (digs_length_le (by decide) _ _).2 (Nat.lt_of_le_of_lt h ((digs_length_le (B := B64) (by decide) _ _).1 (Nat.le_refl _)))
    exact ⟨lm_dg (by omega), by omega⟩
  have hdx : (dx N).length ≤ 2000000 := by
    have h1 : N < B64 ^ (dg N).length := (digs_length_le (by decide) _ _).1 (Nat.le_refl _)
    have h2 : B64 ^ (dg N).length ≤ 10 ^ (20 * (dg N).length) := by
      rw [Nat.pow_mul]; exact Nat.pow_le_pow_left (by decide) _
    have h3 : (digs 10 N).length ≤ 20 * (dg N).length := (digs_length_le (by decide) _ _).2 (Nat.lt_of_lt_of_le h1 h2)
    have h4 : (dx N).length = (digs 10 N).length := by unfold dx; simp
    omega
  refine AWp.loop (ι := {p : Nat × List UInt8 // dx p.1 ++ p.2 = dx N ∧ p.1 ≤ N}) (fun p => ⟨[(1, .ptr 1 0), (3, .ns .u64 (dg p.1.1)), (4, .raw (.string ⟨p.1.2.toArray⟩))], [(1, ⟨true, .c [.raw (.bool b), .ns .u64 x]⟩)]⟩)
    (fun p => p.1.1) ⟨(N, []), by simp, Nat.le_refl _⟩ (Le.mk trivial) ?_
  rintro ⟨⟨M, l⟩, hM, hMN⟩
  dsimp only at hM hMN ⊢
  by_cases hm : M = 0
  · subst hm
    have z1 : ¬ (0 : Int) < (dg 0).length := by rw [dg_zero]; simp
    have dx0 : dx 0 = [] := by unfold dx; rw [digs_zero]; rfl
    have hl : l = dx N := by rw [← hM, dx0]; rfl
    subst hl
    cases b
    · refine wk hE z1 ?_
      refine PostL.mk trivial ?_
      have e : textL (zs false N) = dx N := by
        unfold textL zs
        simp [h0]
      rw [e]
    · obtain ⟨B, hB⟩ : ∃ B, ByteArray.mk (dx N).toArray = B := ⟨_, rfl⟩
      have hBs : B.size ≤ 2000000 := by rw [← hB]; show (dx N).toArray.size ≤ _; rw [List.size_toArray]; exact hdx
      obtain ⟨k, hk⟩ : ∃ k, B.size = k := ⟨_, rfl⟩
      rw [hk] at hBs
      have h45 : (ByteArray.mk #[45]).size = 1 := rfl
      refine wk hE (And.intro z1 (And.intro hB (And.intro hk h45))) ?_
      refine PostL.mk trivial ?_
      have e : textL (zs true N) = [45] ++ dx N := by
        have : zs true N = -(N : Int) := rfl
        rw [this]; unfold textL
        rw [if_neg (by omega), if_pos (by omega), Int.natAbs_neg, Int.natAbs_natCast]
      rw [e, ← str_app, hB]
  · obtain ⟨d1, d2⟩ := dl M hMN
    have z1 : (0 : Int) < (dg M).length := by
      have := List.length_pos_iff.2 (fun h => hm (dg_nil.1 h)); omega
    have l10 : Lm [10] := ⟨Lim.cons (by rw [hB64]; omega) Lim.nil, by simp⟩
    have n1 : nb (dg M) = M := nb_dg _
    have n2 : nb [10] = 10 := by simp [nb, nv]
    have hr : rm M 10 = M % 10 := by unfold rm; rw [if_neg (by omega)]
    obtain ⟨r, er⟩ : ∃ r, M % 10 = r := ⟨_, rfl⟩
    have hr9 : r < 10 := by omega
    have hnext : dx (M / 10) ++ (UInt8.ofNat (48 + r) :: l) = dx N := by
      rw [← hM, dx_step hm, er]; simp
    have hstr := str_app [UInt8.ofNat (48 + r)] l
    have hbi : bi [UInt8.ofNat (48 + r)] = [((48 + r : Nat) : Int)] := by
      simp [bi]; omega
    refine AWp.seq ?_
    refine wk hE (And.intro z1 (And.intro n1 (And.intro n2 (And.intro hr er)))) ?_
    obtain ⟨B, hB⟩ : ∃ B, ByteArray.mk l.toArray = B := ⟨_, rfl⟩
    have hll : l.length ≤ 2000000 := by
      have := congrArg List.length hM
      rw [List.length_append] at this; omega
    have hBs : B.size ≤ 2000000 := by rw [← hB]; show l.toArray.size ≤ _; rw [List.size_toArray]; exact hll
    obtain ⟨k, hk⟩ : ∃ k, B.size = k := ⟨_, rfl⟩
    rw [hk] at hBs
    obtain ⟨A1, hA1⟩ : ∃ A1, ByteArray.mk [UInt8.ofNat (48 + r)].toArray = A1 := ⟨_, rfl⟩
    have hA1s : A1.size = 1 := by rw [← hA1]; rfl
    obtain ⟨R1, hR1⟩ : ∃ R1, A1 ++ B = R1 := ⟨_, rfl⟩
    have hR2 : ByteArray.mk (UInt8.ofNat (48 + r) :: l).toArray = R1 := by rw [← hR1, ← hA1, ← hB]; exact hstr.symm
    refine AWp.test trivial (fun hc => ?_) (fun hc => ?_)
    · have hc := of_decide_eq_true hc
      have hgd := dg_getD' (r := r) (by omega)
      refine wkR hE (And.intro hgd (show (0 : Int) < (dg r).length by omega)) ?_
      refine AWp.seq (AWp.conv hE.hT hE.hS (t := 34) (d := 35) (K1 := fun σ => σ = ?sx) 2 ?_ ?_)
      rotate_left
      · simp only [List.take]
        refine wk hE hB ?_
        exact rfl
      · rintro σ1 rfl
        refine ⟨[UInt8.ofNat (48 + r)], by simp, .inr ⟨34, true, rfl, by rw [hbi, Int.natCast_add]; rfl⟩, ?_⟩
        simp only [List.drop]
        rw [hA1]
        refine wk hE (And.intro hR1 (And.intro hA1s hk)) ?_
        exact ⟨⟨(M / 10, UInt8.ofNat (48 + r) :: l), hnext, by omega⟩, Le.mk hR2, by dsimp only; omega⟩
    · have hc := of_decide_eq_false hc
      have hr0 : r = 0 := Nat.not_lt.1 (fun h => hc (by have := List.length_pos_iff.2 (fun e => (show r ≠ 0 by omega) (dg_nil.1 e)); omega)) |> Nat.le_zero.1
      subst hr0
      refine AWp.skip ?_
      change AWp _ _ _ (.seq _ _) _ _
      refine AWp.seq (AWp.conv hE.hT hE.hS (t := 34) (d := 35) (K1 := fun σ => σ = ?sy) 2 ?_ ?_)
      rotate_left
      · simp only [List.take]
        refine wk hE hB ?_
        exact rfl
      · rintro σ1 rfl
        refine ⟨[UInt8.ofNat (48 + 0)], by simp, .inr ⟨34, true, rfl, by rw [hbi]; rfl⟩, ?_⟩
        simp only [List.drop]
        rw [hA1]
        refine wk hE (And.intro hR1 (And.intro hA1s hk)) ?_
        exact ⟨⟨(M / 10, UInt8.ofNat (48 + 0) :: l), hnext, by omega⟩, Le.mk hR2, by dsimp only; omega⟩
end Go.Hl

/- zed.Text -/
import Derived.Test.YtccbmjkhplmgnaaHlZ5
import Derived.Test.YtccbmjkhplmgnaaHlZa
import Derived.Test.YtccbmjkhplmgnaaHlZ1
import Derived.Test.YtccbmjkhplmgnaaHlT
set_option linter.unusedVariables false
set_option linter.unusedSimpArgs false
namespace Go.Hl
open Go Go.RowKit Go.Proofs
set_option maxHeartbeats 8000000
@[push_cast] def spText : Sp := spZ 0 (fun _ x => Lm x ∧ x.length < 100000) (fun b x => .raw (.string ⟨(textL (zv b x)).toArray⟩))
theorem dg_getD {r : Nat} (h : r < 18446744073709551616) : (dg r).getD 0 0 = (r : Int) := by
  by_cases h0 : r = 0
  · subst h0; rw [dg_zero]; rfl
  · unfold dg
    rw [digs_pos (by decide) h0, List.getD_cons_zero, Nat.mod_eq_of_lt h]
theorem text_ok : SpOK Try.prog 134 spText := by
  refine SpOK.Z fun b x ⟨hx, hxl⟩ => ?_
  have hE := env (SOK.cons norm0_ok (SOK.cons divmod_ok (SOK.cons reverse_ok (SOK.nil (P := Try.prog)))))
  obtain ⟨l, hl⟩ : ∃ l, l = 100000 := ⟨_, rfl⟩
  have hNl := nbl hx (l := l) (by omega)
  refine ACall.body hE Try.func134 Try.ntmps134 Try.results134 ?_
  unfold zv
  obtain ⟨N, hN⟩ : ∃ N, nb x = N := ⟨_, rfl⟩
  rw [hN] at hNl ⊢
  obtain ⟨d1, d2, d3⟩ := dgl hNl (by omega)
  by_cases h0 : N = 0
  · have hz : (((dg N).length : Int) == 0) = true := by rw [h0, dg_zero]; rfl
    refine wk hE (And.intro hN hz) ?_
    refine PostL.mk trivial ?_
    rw [(zs_zero b N).2 h0]; rfl
  have hz : (((dg N).length : Int) == 0) = false := by
    have := List.length_pos_iff.2 (fun h => h0 (dg_nil.1 h))
    rw [beq_eq_false_iff_ne]; omega
  have hlen : ∀ k, 10 ^ k ≤ N → k < 64 * l := fun k hk => by
    rcases Nat.lt_or_ge k (64 * l) with h | h
    · exact h
    · exfalso
      have h1 : 2 ^ (64 * l) ≤ 2 ^ k := Nat.pow_le_pow_right (by decide) h
      have h2 : 2 ^ k ≤ 10 ^ k := Nat.pow_le_pow_left (by decide) k
      have h3 : 2 ^ (64 * l) = B64 ^ l := by rw [Nat.pow_mul]
      omega
  refine wk hE (And.intro hN hz) ?_
  refine AWp.bare 51 (.n .u8 []) trivial ?_
  obtain ⟨E0, hE0⟩ : ∃ E0, digs 10 N = E0 := ⟨_, rfl⟩
  refine AWp.joinB (ι := {u : Unit // E0.length ≤ 64 * l}) (fun _ => ⟨[(1, .ptr 1 0), (4, .os 51 1 0 E0.length)], [(1, ⟨true, .c [.raw (.bool b), .ns .u64 x]⟩), (51, ⟨true, .n .u8 (bs E0)⟩)]⟩) ?_ ?_
  rotate_left
  · rintro ⟨_, hE0l⟩
    have hbl : (bs E0).length = E0.length := bs_length E0
    have hEl : 0 < E0.length := by
      rcases Nat.eq_zero_or_pos E0.length with h | h
      · have e := List.eq_nil_of_length_eq_zero h
        rw [e] at hE0
        exact (h0 ((digs_eq_nil (by decide)).1 hE0)).elim
      · exact h
    cases b
    · have hz2 : zs false N = (N : Int) := rfl
      have hbi := bi_text_pos h0
      rw [hE0] at hbi
      have hln : (textL N).length = E0.length := by
        have := congrArg List.length hbi
        simpa [bi, bs] using this
      refine AWp.seq (AWp.join (ι := Unit) (fun _ => ⟨[(4, .os 51 1 0 E0.length)], [(51, ⟨true, .n .u8 (bs E0)⟩)]⟩) ?_ ?_)
      · refine wk hE trivial ?_
        exact ⟨(), Le.mk trivial⟩
      rintro ⟨⟩
      refine AWp.seq (AWp.join (ι := Unit) (fun _ => ⟨[(4, .os 51 1 0 E0.length)], [(51, ⟨true, .n .u8 (bs E0).reverse⟩)]⟩) ?_ ?_)
      · refine wk hE trivial ?_
        exact ⟨(), Le.mk trivial⟩
      rintro ⟨⟩
      refine AWp.seq (AWp.conv hE.hT hE.hS (t := 62) (d := 63) (K1 := fun σ => BytesAt σ 62 (textL N)) 1 ?_ ?_)
      · simp only [List.take]
        refine wk hE trivial ?_
        refine .inr ⟨51, true, ?_, ?_⟩
        · rw [hln]; rfl
        · rw [hbi]; rfl
      · intro σ1 h1
        refine ⟨_, textL_ne _, h1, ?_⟩
        simp only [List.drop]
        refine wk hE trivial ?_
        exact PostL.mk trivial rfl
    · have hbi := bi_text_neg h0
      rw [hE0] at hbi
      have hln : (textL (-(N : Int))).length = E0.length + 1 := by
        have := congrArg List.length hbi
        simpa [bi, bs] using this
      obtain ⟨Z, hZ⟩ : ∃ Z, bs E0 ++ [45] = Z := ⟨_, rfl⟩
      have hZl : Z.length = E0.length + 1 := by rw [← hZ]; simp [bs]
      rw [hZ] at hbi
      refine AWp.seq (AWp.join (ι := Unit) (fun _ => ⟨[(4, .os 59 1 0 (E0.length + 1))], [(59, ⟨true, .n .u8 Z⟩)]⟩) ?_ ?_)
      · refine wk hE hZ ?_
        exact ⟨(), Le.mk hZ⟩
      rintro ⟨⟩
      refine AWp.seq (AWp.join (ι := Unit) (fun _ => ⟨[(4, .os 59 1 0 (E0.length + 1))], [(59, ⟨true, .n .u8 Z.reverse⟩)]⟩) ?_ ?_)
      · refine wk hE trivial ?_
        exact ⟨(), Le.mk trivial⟩
      rintro ⟨⟩
      refine AWp.seq (AWp.conv hE.hT hE.hS (t := 62) (d := 63) (K1 := fun σ => BytesAt σ 62 (textL (-(N : Int)))) 1 ?_ ?_)
      · simp only [List.take]
        refine wk hE trivial ?_
        refine .inr ⟨59, true, ?_, ?_⟩
        · rw [hln]; rfl
        · rw [hbi]; rfl
      · intro σ1 h1
        refine ⟨_, textL_ne _, h1, ?_⟩
        simp only [List.drop]
        refine wk hE trivial ?_
        exact PostL.mk trivial rfl
  refine AWp.loop (ι := {p : Nat × List Int // Lim 10 p.2 ∧ nv 10 p.2 + 10 ^ p.2.length * p.1 = N ∧ (p.1 = 0 → p.2 = digs 10 N) ∧ p.1 ≤ N ∧ p.2.length ≤ 64 * l}) (fun p => ⟨[(1, .ptr 1 0), (3, .ns .u64 (dg p.1.1)), (4, .os 51 1 0 p.1.2.length)], [(1, ⟨true, .c [.raw (.bool b), .ns .u64 x]⟩), (51, ⟨true, .n .u8 (bs p.1.2)⟩)]⟩)
    (fun p => p.1.1) ⟨(N, []), Lim.nil, by simp [nv], fun h => (h0 h).elim, Nat.le_refl _, Nat.zero_le _⟩ (Le.mk trivial) ?_
  rintro ⟨⟨m, E⟩, hI1, hI2, hI3, hI4, hI5⟩
  dsimp only at hI1 hI2 hI3 hI4 hI5 ⊢
  obtain ⟨d1, d2, d3⟩ := dgl (Nat.lt_of_le_of_lt hI4 hNl) (by omega)
  by_cases hm : m = 0
  · have hEd := hI3 hm
    have hzm : ¬ (0 : Int) < (dg m).length := by rw [hm, dg_zero]; decide
    have hEE : E = E0 := hEd.trans hE0
    subst hEE
    refine wk hE hzm ?_
    exact ⟨⟨(), hI5⟩, Le.mk trivial⟩
  · have hzm : (0 : Int) < (dg m).length := by
      have := List.length_pos_iff.2 (fun h => hm (dg_nil.1 h))
      omega
    have hst := TxtI.start hI1 hI2 (by omega)
    have hc : nb [1000000000000000000] = 1000000000000000000 := by simp [nb, nv]
    have hcl : Lm [1000000000000000000] := ⟨Lim.cons (by rw [hB64]; omega) Lim.nil, by simp⟩
    have hrm : rm m 1000000000000000000 = m % 1000000000000000000 := rfl
    obtain ⟨q, hq⟩ : ∃ q, m / 1000000000000000000 = q := ⟨_, rfl⟩
    obtain ⟨r, hr⟩ : ∃ r, m % 1000000000000000000 = r := ⟨_, rfl⟩
    have hr18 : r < 1000000000000000000 := by omega
    rw [hq, hr] at hst
    have hql : q ≤ N := by rw [← hq]; exact Nat.le_trans (Nat.div_le_self _ _) hI4
    obtain ⟨f1, f2, f3⟩ := dgl (Nat.lt_of_le_of_lt hql hNl) (by omega)
    have hgd := dg_getD (r := r) (by omega)
    refine wk hE (And.intro hzm (And.intro hc (And.intro hrm (And.intro hq hr)))) ?_
    refine AWp.join (ι := Unit) (fun _ => ⟨[(1, .ptr 1 0), (5, .ns .u64 (dg q)), (8, .raw (.int .u64 (r : Nat))), (4, .os 51 1 0 E.length)], [(1, ⟨true, .c [.raw (.bool b), .ns .u64 x]⟩), (51, ⟨true, .n .u8 (bs E)⟩)]⟩) ?_ ?_
    · refine AWp.test trivial (fun h => ?_) (fun h => ?_)
      · have h1 := of_decide_eq_true h
        refine wk hE hgd ?_
        exact ⟨(), Le.mk trivial⟩
      · have h1 := of_decide_eq_false h
        have hr0 : r = 0 := by
          rcases Nat.eq_zero_or_pos r with h2 | h2
          · exact h2
          · have := List.length_pos_iff.2 (fun h => (by omega : r ≠ 0) (dg_nil.1 h))
            omega
        refine wk hE trivial ?_
        refine ⟨(), Le.mk (show (r : Int) = 0 by omega)⟩
    rintro ⟨⟩
    refine wk hE trivial ?_
    refine AWp.loop (ι := {p : List Int × Nat × Nat // TxtI N p.1 q p.2.1 p.2.2 ∧ p.1.length ≤ 64 * l}) (fun p => ⟨[(1, .ptr 1 0), (5, .ns .u64 (dg q)), (8, .raw (.int .u64 (p.1.2.1 : Nat))), (4, .os 51 1 0 p.1.1.length), (9, .raw (.int .i64 (p.1.2.2 : Nat)))], [(1, ⟨true, .c [.raw (.bool b), .ns .u64 x]⟩), (51, ⟨true, .n .u8 (bs p.1.1)⟩)]⟩)
      (fun p => 18 - p.1.2.2) ⟨(E, r, 0), hst, hI5⟩ (Le.mk trivial) ?_
    rintro ⟨⟨E1, y, i⟩, hT, hE1⟩
    dsimp only at hT hE1 ⊢
    have hi := hT.hi
    have hb1 : (bs E1).length = E1.length := bs_length E1
    have hy := hT.hx
    have hy18 : y < 1000000000000000000 := by
      refine Nat.lt_of_lt_of_le hy ?_
      show _ ≤ 10 ^ 18
      exact Nat.pow_le_pow_right (by decide) (by omega)
    have hqp : (0 : Int) < (dg q).length ↔ 0 < q := by
      constructor
      · intro h
        rcases Nat.eq_zero_or_pos q with h2 | h2
        · rw [h2, dg_zero] at h; exact absurd h (by decide)
        · exact h2
      · intro h
        have := List.length_pos_iff.2 (fun h' => (by omega : q ≠ 0) (dg_nil.1 h'))
        omega
    have hround : ∀ (hgo : i < 18 ∧ (0 < q ∨ 0 < y)), TxtI N (E1 ++ [((y % 10 : Nat) : Int)]) q (y / 10) (i + 1) ∧ (E1 ++ [((y % 10 : Nat) : Int)]).length ≤ 64 * l := fun hgo => by
      refine ⟨hT.step hgo.1 hgo.2, ?_⟩
      have := hlen _ (hT.len hgo.2)
      rw [List.length_append, List.length_singleton]; omega
    have hend : ∀ (hgo : ¬ (i < 18 ∧ (0 < q ∨ 0 < y))), Lim 10 E1 ∧ nv 10 E1 + 10 ^ E1.length * q = N ∧ (q = 0 → E1 = digs 10 N) ∧ q ≤ N ∧ E1.length ≤ 64 * l := fun hgo => by
      obtain ⟨e1, e2⟩ := hT.done hgo
      exact ⟨hT.hE, e1, e2, hql, hE1⟩
    have hqm : q < m := by rw [← hq]; exact Nat.div_lt_self (by omega) (by decide)
    by_cases hi18 : i < 18
    · by_cases hq0 : 0 < q
      · obtain ⟨r1, r2⟩ := hround ⟨hi18, .inl hq0⟩
        obtain ⟨c, hcc⟩ : ∃ c, y % 10 = c := ⟨_, rfl⟩
        have hci : (y : Int) % 10 = c := by omega
        rw [hcc] at r1 r2
        refine wk hE (And.intro (show (i : Int) < 18 by omega) (And.intro (hqp.2 hq0) hci)) ?_
        exact ⟨⟨(E1 ++ [(c : Int)], y / 10, i + 1), r1, r2⟩, Le.mk (bs_app E1 c), by dsimp only; omega⟩
      · have hq1 : ¬ (0 : Int) < (dg q).length := fun h => hq0 (hqp.1 h)
        by_cases hy0 : 0 < y
        · obtain ⟨r1, r2⟩ := hround ⟨hi18, .inr hy0⟩
          obtain ⟨c, hcc⟩ : ∃ c, y % 10 = c := ⟨_, rfl⟩
          have hci : (y : Int) % 10 = c := by omega
          rw [hcc] at r1 r2
          refine wk hE (And.intro (show (i : Int) < 18 by omega) (And.intro hq1 (And.intro hci (show (0 : Int) < y by omega)))) ?_
          exact ⟨⟨(E1 ++ [(c : Int)], y / 10, i + 1), r1, r2⟩, Le.mk (bs_app E1 c), by dsimp only; omega⟩
        · have hen := hend (by omega)
          refine wk hE (And.intro (show (i : Int) < 18 by omega) (And.intro hq1 (show ¬ (0 : Int) < y by omega))) ?_
          exact ⟨⟨(q, E1), hen⟩, Le.mk trivial, hqm⟩
    · have hen := hend (by omega)
      refine wk hE (show ¬ (i : Int) < 18 by omega) ?_
      exact ⟨⟨(q, E1), hen⟩, Le.mk trivial, hqm⟩
end Go.Hl

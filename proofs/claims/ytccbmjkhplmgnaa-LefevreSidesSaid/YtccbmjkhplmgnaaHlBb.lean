/- nat.Hex -/
import Derived.Test.YtccbmjkhplmgnaaHlBa
import Derived.Test.YtccbmjkhplmgnaaHlPa
import Derived.Test.YtccbmjkhplmgnaaHlH
set_option linter.unusedVariables false
set_option linter.unusedSimpArgs false
namespace Go.Hl
open Go Go.RowKit Go.Proofs
set_option maxHeartbeats 2000000
theorem nb_hex {A : List Int} (h : Lim B64 A) (q r : Nat) (hr : r < 16) : nb A / 16 ^ (16 * q + r) % 16 = (A.getD q 0).toNat / 2 ^ (4 * r) % 16 := by
  have e16 : (16 : Nat) ^ (16 * q + r) = 2 ^ (64 * q + 4 * r) := by rw [show (16 : Nat) = 2 ^ 4 from rfl, ← Nat.pow_mul]; congr 1; omega
  rw [e16]
  by_cases hq : q < A.length
  · rw [pow_B64, ← Nat.div_div_eq_div_mul, ← nb_drop_div h (by omega), nb_drop hq]
    have e : B64 = 2 ^ (4 * r) * (16 * 2 ^ (60 - 4 * r)) := by
      rw [show (16 : Nat) = 2 ^ 4 from rfl, ← Nat.pow_add, ← Nat.pow_add, show 4 * r + (4 + (60 - 4 * r)) = 64 by omega]
    generalize (A.getD q 0).toNat = x
    generalize nb (A.drop (q + 1)) = y
    rw [e, Nat.mul_assoc, Nat.add_mul_div_left _ _ (Nat.two_pow_pos _), Nat.mul_assoc]
    omega
  · rw [nb_over h (by omega), List.getD_eq_getElem?_getD, List.getElem?_eq_none (by omega)]
    simp
theorem ro_nil : ro [] = [] := rfl
theorem ro_raw (t : Nat) (v : Value) (l : List (Nat × AV)) : ro ((t, .raw v) :: l) = (t, .raw v) :: ro l := rfl
attribute [push_cast] ro_nil ro_raw
def hexN (n : Nat) : Nat := (blen n + 3) / 4
theorem hexN_top (n : Nat) : n / 16 ^ hexN n = 0 := by
  refine Nat.div_eq_of_lt ?_
  have h := (blen_le n (blen n)).1 (Nat.le_refl _)
  refine Nat.lt_of_lt_of_le h ?_
  rw [show (16 : Nat) = 2 ^ 4 from rfl, ← Nat.pow_mul]
  exact Nat.pow_le_pow_right (by decide) (by unfold hexN; omega)
theorem hexN_low {n m : Nat} (h : m < hexN n) : n / 16 ^ m ≠ 0 := by
  intro e
  have h0 : n < 16 ^ m := by
    rcases Nat.lt_or_ge n (16 ^ m) with h' | h'
    · exact h'
    · have := Nat.div_pos h' (Nat.pow_pos (by decide)); omega
  rw [show (16 : Nat) = 2 ^ 4 from rfl, ← Nat.pow_mul] at h0
  have := (blen_le n _).2 h0
  unfold hexN at h
  omega
theorem hexN_idx {A : List Int} (h : Lim B64 A) {m : Nat} (hm : m < hexN (nb A)) : m / 16 < A.length := by
  rcases Nat.lt_or_ge (m / 16) A.length with h' | h'
  · exact h'
  · refine (hexN_low hm ?_).elim
    have e16 : (16 : Nat) ^ m = 2 ^ (64 * (m / 16) + 4 * (m % 16)) := by rw [show (16 : Nat) = 2 ^ 4 from rfl, ← Nat.pow_mul]; congr 1; omega
    rw [e16]
    exact nb_over h h'
theorem hex_get : ∀ d, d < 16 → (#[48, 49, 50, 51, 52, 53, 54, 55, 56, 57, 97, 98, 99, 100, 101, 102] : Array UInt8).getD d 0 = hexC d := by decide
@[push_cast] def spHex : Sp := spN 0 (fun xs => Lm xs ∧ xs.length < 1000000000) (fun xs => .raw (.string ⟨(hexT (nb xs)).toArray⟩))
theorem BI.raws {n : Nat} {X : Nat → Prop} {w0 w : World} {bo : Option (Nat × List UInt8)} {xs : List Int} {v0 : Value} {fr fr' : List (Nat × AV)} {a : Act}
    (h : BI n X w0 bo xs v0 fr a w) (hf : ∀ t v, lk fr' t = some (.raw v) → lk fr t = some (.raw v)) : BI n X w0 bo xs v0 fr' a w :=
  ⟨h.sz, h.dfr, h.hx, fun t v ht h0 => h.rel t v (hf t v ht) h0, h.e0, h.ri, h.bel, h.bld⟩
theorem hex_ok : SpOK Try.prog 57 spHex := by
  refine SpOK.N fun xs ⟨hA, hxl⟩ => ?_
  have hE := env (SOK.cons bitlen_ok (SOK.nil (P := Try.prog)))
  obtain ⟨N, hN⟩ : ∃ N, nb xs = N := ⟨_, rfl⟩
  have hNl : blen N ≤ 64 * xs.length := by
    rw [← hN, blen_le, Nat.pow_mul]
    exact nb_lt hA.1 (Nat.le_refl _)
  rw [hN]
  by_cases h0 : N = 0
  · refine ACall.body hE Try.func57 Try.ntmps57 Try.results57 ?_
    subst h0
    refine wk hE (And.intro hN blen_zero) ?_
    refine PostL.mk trivial ?_
    rfl
  intro w X vs hX hl hr
  obtain ⟨v0, hv0, hri⟩ := hr 0 _ rfl
  refine .inr ⟨run_callFunc_body Try.func57 rfl (by decide) vs w, calls_of_wp Try.func57 rfl ?_⟩
  have hvs : vs.size = 1 := by simpa using hl
  have g0 : BI 32 X w none xs v0 [] { tmps := vs ++ Array.replicate (Try.f57.ntmps - vs.size) undef, defers := [] } w := by
    refine ⟨?_, rfl, hX, fun t v ht _ => (by cases ht), ?_, hri, Below.refl _ _, fun _ _ e => by cases e⟩
    · rw [Try.ntmps57]; simp; omega
    · rw [Array.getD_eq_getD_getElem?, Array.getElem?_append_left (by omega), hv0]; rfl
  obtain ⟨n, hn⟩ : ∃ n, hexN N = n := ⟨_, rfl⟩
  have hn2 : ((blen N : Int) + 3) / 4 = n := by rw [← hn]; unfold hexN; omega
  have hn0 : n ≠ 0 := by
    intro e
    have := hexN_top N
    rw [hn, e] at this
    simp at this
    exact h0 this
  have hnz : ((n : Int) == 0) = false := by rw [beq_eq_false_iff_ne]; omega
  refine wp_seq (g0.region hE.hT hE.hS (K := fun _ => True) (wk hE trivial trivial) (fun σ1 a1 w1 _ g1 => ?_))
  refine wp_seq ((g1.raws (fr' := []) (fun _ _ h => by cases h)).region hE.hT hE.hS (K := fun σ => lk σ.fr 3 = some (.raw (.int .i64 (n : Nat)))) (wk hE (And.intro hN hn2) ?_) (fun σ2 a2 w2 k2 g2 => ?_))
  · rfl
  have m2 : BI 32 X w none xs v0 [(3, .raw (.int .i64 (n : Nat)))] a2 w2 := g2.raws (fun t v h => by
    simp only [lk] at h
    split at h
    · rename_i e; subst e; rw [k2]; exact h
    · cases h)
  refine wp_seq (wp_seq (m2.region hE.hT hE.hS (K := fun σ => lk σ.fr 3 = some (.raw (.int .i64 (n : Nat))) ∧ lk σ.fr 11 = some (.raw (.bool false))) (wk hE hnz ?_) (fun σ3 a3 w3 k3 g3 => ?_)))
  · exact ⟨rfl, rfl⟩
  refine wp_cond_split (t := false) ?_ (fun h => by cases h) (fun _ => wp_skip ?_)
  · exact g3.rel 11 _ k3.2 (by decide)
  have m3 : BI 32 X w none xs v0 [(3, .raw (.int .i64 (n : Nat)))] a3 w3 := g3.raws (fun t v h => by
    simp only [lk] at h
    split at h
    · rename_i e; subst e; rw [k3.1]; exact h
    · cases h)
  refine wp_seq (m3.make (fun a4 w4 g4 => ?_))
  obtain ⟨b, hb⟩ : ∃ b, w3.heap.size = b := ⟨_, rfl⟩
  rw [hb] at g4
  refine wp_seq (wp_seq (g4.region hE.hT hE.hS (K := fun σ => lk σ.fr 4 = some (.raw (.pointer (some ⟨b, 0, none⟩))) ∧ lk σ.fr 5 = some (.raw (.int .i64 ((n : Int) - 1)))) (wk hE trivial ?_) (fun σ5 a5 w5 k5 g5 => ?_)))
  · exact ⟨rfl, rfl⟩
  refine wp_block ?_
  refine wp_loop_ix (ι := Nat) (fun m a w' => m ≤ n ∧ BI 32 X w (some (b, hx (N / 16 ^ m))) xs v0 [(4, .raw (.pointer (some ⟨b, 0, none⟩))), (5, .raw (.int .i64 ((m : Int) - 1)))] a w') (fun m => m) n ⟨Nat.le_refl _, ?_⟩ ?_
  · rw [← hn, hexN_top, hx_zero, hn]
    refine g5.raws (fun t v h => ?_)
    simp only [lk] at h
    split at h
    · rename_i e; subst e; rw [k5.1]; exact h
    split at h
    · rename_i e; subst e; rw [k5.2]; exact h
    · cases h
  rintro m a6 w6 ⟨hmn, g6⟩
  cases m with
  | zero =>
    refine wp_seq (wp_seq (g6.region hE.hT hE.hS (K := fun σ => lk σ.fr 4 = some (.raw (.pointer (some ⟨b, 0, none⟩))) ∧ lk σ.fr 15 = some (.raw (.bool false))) (wk hE trivial ?_) (fun σ7 a7 w7 k7 g7 => ?_)))
    · exact ⟨rfl, rfl⟩
    refine wp_cond_split (t := false) (g7.rel 15 _ k7.2 (by decide)) (fun h => by cases h) (fun _ => wp_exit ?_)
    simp only [Exit.then, Exit.inBlock, if_true]
    rw [Nat.pow_zero, Nat.div_one] at g7
    refine wp_seq (g7.text (fun e => h0 (hx_nil.1 e)) k7.1 (by decide) (fun a8 w8 g8 => ?_))
    refine (g8.raws (fr' := [(31, .raw (.string ⟨(hx N).toArray⟩))]) (fun t v h => ?_)).list hE.hT hE.hS (K := fun σ => lk σ.fr 2 = some (.raw (.string ⟨(hx N).toArray⟩))) (wk hE trivial ?_) (fun σ a9 w9 k9 g9 => ?_)
    · simp only [lk] at h ⊢
      split at h
      · rename_i e; rw [if_pos e]; exact h
      · cases h
    · rfl
    simp only [Exit.then]
    refine wp_ret ?_
    refine ⟨g9.dfr, .string ⟨(hx N).toArray⟩, ?_, _, rfl, ?_, g9.bel⟩
    · unfold results
      rw [Try.results57]
      simp only [List.mapM_toArray, List.mapM_cons, List.mapM_nil, Sem.run_bind, Sem.run_map, Sem.run_pure, Result.andThen_ok]
      rw [← g9.rel 2 _ k9 (by decide)]
      rfl
    · unfold hexT
      rw [if_neg h0]
      exact RI.raw _
  | succ m =>
    have hmd := hexN_low (n := N) (m := m) (by omega)
    have hq : m / 16 < xs.length := hexN_idx hA.1 (by rw [hN]; omega)
    have hd := nb_hex hA.1 (m / 16) (m % 16) (by omega)
    rw [hN, Nat.div_add_mod] at hd
    have hstep := hx_next N m hmd
    have l1 := lim64 hA.1 (m / 16)
    obtain ⟨D, hD⟩ : ∃ D, N / 16 ^ m % 16 = D := ⟨_, rfl⟩
    have hD16 : D < 16 := by omega
    refine wp_seq (wp_seq (g6.region hE.hT hE.hS (K := fun σ => lk σ.fr 4 = some (.raw (.pointer (some ⟨b, 0, none⟩))) ∧ lk σ.fr 5 = some (.raw (.int .i64 (m : Int))) ∧ lk σ.fr 15 = some (.raw (.bool true))) (wk hE trivial ?_) (fun σ7 a7 w7 k7 g7 => ?_)))
    · exact ⟨rfl, rfl, rfl⟩
    refine wp_cond_split (t := true) (g7.rel 15 _ k7.2.2 (by decide)) (fun _ => wp_skip ?_) (fun h => by cases h)
    have m7 : BI 32 X w (some (b, hx (N / 16 ^ (m + 1)))) xs v0 [(4, .raw (.pointer (some ⟨b, 0, none⟩))), (5, .raw (.int .i64 (m : Int)))] a7 w7 := g7.raws (fun t v h => by
      simp only [lk] at h
      split at h
      · rename_i e; subst e; rw [k7.1]; exact h
      split at h
      · rename_i e; subst e; rw [k7.2.1]; exact h
      · cases h)
    refine wp_seq (wp_block ?_)
    have t1 : ((m : Int) / 16).toNat = m / 16 := by omega
    have t2 : (4 * ((m : Int) % 16)).toNat = 4 * (m % 16) := by omega
    have h3 : 0 ≤ xs.getD (m / 16) 0 / 2 ^ (4 * (m % 16)) ∧ xs.getD (m / 16) 0 / 2 ^ (4 * (m % 16)) < 18446744073709551616 := shr_bd l1
    have h4 : 0 ≤ (2 : Int) ^ (4 * (m % 16)) := Int.le_of_lt (Int.pow_pos (by decide))
    have hDi : xs.getD (m / 16) 0 / 2 ^ (4 * (m % 16)) % 16 = (D : Int) := by
      have e : xs.getD (m / 16) 0 / 2 ^ (4 * (m % 16)) = (((xs.getD (m / 16) 0).toNat / 2 ^ (4 * (m % 16)) : Nat) : Int) := by
        rw [Int.natCast_ediv, Int.toNat_of_nonneg l1.1, Int.natCast_pow]; rfl
      rw [e, ← hD, hd]; rfl
    have hg := hex_get D hD16
    refine m7.write (k := hexC D) 12 hE.hT hE.hS (K := fun σ => lk σ.fr 4 = some (.raw (.pointer (some ⟨b, 0, none⟩))) ∧ lk σ.fr 5 = some (.raw (.int .i64 (m : Int))) ∧ lk σ.fr 29 = some (.raw (.int .u8 ((hexC D).toNat : Int)))) ?_ ?_ ?_ ?_
    · have : (hx (N / 16 ^ (m + 1))).length ≤ n := by
        unfold hx
        rw [List.length_map, List.length_reverse, digs_length_le (by decide)]
        have h1 := hexN_top N
        rw [hn] at h1
        have h2 : N < 16 ^ n := by
          rcases Nat.lt_or_ge N (16 ^ n) with h' | h'
          · exact h'
          · have := Nat.div_pos h' (Nat.pow_pos (by decide)); omega
        exact Nat.lt_of_le_of_lt (Nat.div_le_self _ _) h2
      have : n ≤ 16 * xs.length + 1 := by rw [← hn]; unfold hexN; omega
      omega
    · simp only [List.take]
      refine wk hE (And.intro t1 (And.intro t2 (And.intro h4 (And.intro hDi hg)))) ?_
      exact ⟨rfl, rfl, rfl⟩
    · rintro σ ⟨k8, _, k9⟩
      exact ⟨by simp only [St.get, k8, Option.getD_some], by simp only [St.get, k9, Option.getD_some]⟩
    · rintro σ a9 w9 ⟨k8, k9, _⟩ g9
      simp only [Exit.inBlock, Exit.then]
      rw [← hD, ← hstep] at g9
      have m9 : BI 32 X w (some (b, hx (N / 16 ^ m))) xs v0 [(4, .raw (.pointer (some ⟨b, 0, none⟩))), (5, .raw (.int .i64 (m : Int)))] a9 w9 := g9.raws (fun t v h => by
        simp only [lk] at h ⊢
        split at h
        · rename_i e; subst e; rw [if_neg (by decide), k8]; exact h
        split at h
        · rename_i e; subst e; rw [if_neg (by decide), k9]; exact h
        · cases h)
      refine m9.region hE.hT hE.hS (K := fun σ => lk σ.fr 4 = some (.raw (.pointer (some ⟨b, 0, none⟩))) ∧ lk σ.fr 5 = some (.raw (.int .i64 ((m : Int) - 1)))) (wk hE trivial ?_) (fun σ a10 w10 k10 g10 => ?_)
      · exact ⟨rfl, rfl⟩
      refine ⟨m, ⟨by omega, ?_⟩, Nat.lt_succ_self m⟩
      refine g10.raws (fun t v h => ?_)
      simp only [lk] at h
      split at h
      · rename_i e; subst e; rw [k10.1]; exact h
      split at h
      · rename_i e; subst e; rw [k10.2]; exact h
      · cases h
end Go.Hl

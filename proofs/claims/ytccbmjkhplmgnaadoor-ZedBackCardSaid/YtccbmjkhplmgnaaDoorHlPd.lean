/- nat.takes, nat.gives nat.digit -/
import Derived.Test.YtccbmjkhplmgnaaDoorHlPa
import Derived.Test.YtccbmjkhplmgnaaDoorHlPc
set_option linter.unusedVariables false
set_option linter.unusedSimpArgs false
namespace Go.Hl
open Go Go.RowKit Go.Proofs
set_option maxHeartbeats 4000000

theorem eq_fixd64 {xs : List Int} (h : Lim B64 xs) {n v : Nat} (hl : xs.length = n) (hv : nb xs = v) : xs = fixd B64 n v := by
  subst hl; subst hv; exact eq_fixd h

@[push_cast] def spTakes : Sp := spNNU 2 (fun u v g => Lim B64 u ∧ Lim B64 v ∧ u.length = v.length + 1 ∧ v.length < 1000000000 ∧ 0 ≤ g ∧ g < 18446744073709551616)
  (fun u v g => .tup [.raw (.bool (decide (nb u < g.toNat * nb v))), .ns .u64 (fixd B64 (v.length + 1) (nb u + (if nb u < g.toNat * nb v then B64 ^ (v.length + 1) else 0) - g.toNat * nb v))])

theorem takes_ok : SpOK Tryd.prog 82 spTakes := by
  refine SpOK.NNUm fun u v g ⟨hu, hv, hl, hvl, hg0, hg1⟩ => ?_
  have hE := envM (SOK.cons add64_ok (SOK.cons mul64_ok (SOK.cons sub64_ok (SOK.nil (P := Tryd.prog)))))
  refine MCall.body hE Tryd.func82 Tryd.ntmps82 Tryd.results82 (by rw [fixd_length, hl]) ?_
  rw [hl]
  refine wk hE trivial ?_
  refine AWp.loop (ι := {p : Nat × List Int × Int × Int // TakeI u v p.2.1 g p.1 p.2.2.1 p.2.2.2}) (fun p => ⟨[(0, .os 67 1 0 (v.length + 1)), (1, .ns .u64 v), (2, .raw (.int .u64 g)), (7, .raw (.int .u64 p.1.2.2.1)), (8, .raw (.int .u64 p.1.2.2.2)), (14, .ns .u64 v), (15, .raw (.int .i64 (v.length : Nat))), (16, .raw (.int .i64 (p.1.1 : Nat)))], [(67, ⟨true, .n .u64 p.1.2.1⟩)]⟩)
    (fun p => v.length - p.1.1) ⟨(0, u, 0, 0), by dsimp only; omega, hl, hu, by dsimp only; omega, by dsimp only; omega, by simp [nb, nv]⟩ (Le.mk trivial) ?_
  rintro ⟨⟨i, w, b, c⟩, hI⟩
  dsimp only at hI ⊢
  have hwl := hI.hl
  have hb := hI.hb
  have hc := hI.hc
  have h1 := lim64 hv i
  have h2 := lim64 hI.hd i
  by_cases hi : i < v.length
  · obtain ⟨m1, m2, m3⟩ := mc_spec h1 ⟨hg0, hg1⟩ hc
    have hst := hI.step hv ⟨hg0, hg1⟩ hi rfl rfl
    have hp := mul_bd (M := 18446744073709551615) (N := 18446744073709551615) h1.1 hg0 (by omega) (by omega)
    unfold mcLo at m1 m2 hst
    unfold mcHi at m1 m3 hst
    obtain ⟨b', hb'⟩ : ∃ b' : Int, (if w.getD i 0 < (v.getD i 0 * g % 18446744073709551616 + c) % 18446744073709551616 + b then 1 else 0) = b' := ⟨_, rfl⟩
    obtain ⟨c', hc'⟩ : ∃ c' : Int, v.getD i 0 * g / 18446744073709551616 + (v.getD i 0 * g % 18446744073709551616 + c) / 18446744073709551616 = c' := ⟨_, rfl⟩
    obtain ⟨w', hw'⟩ : ∃ w' : List Int, w.set i ((w.getD i 0 - (v.getD i 0 * g % 18446744073709551616 + c) % 18446744073709551616 - b) % 18446744073709551616) = w' := ⟨_, rfl⟩
    rw [hb', hc', hw'] at hst
    refine wk hE (And.intro (show (i : Int) < v.length by omega) (And.intro hb' (And.intro hc' hw'))) ?_
    exact ⟨⟨(i + 1, w', b', c'), hst⟩, Le.mk trivial, by dsimp only; omega⟩
  · have hil : i = v.length := by have := hI.hi; omega
    subst hil
    obtain ⟨d1, d2, d3⟩ := hI.done rfl
    have hlt := nb_lt d2 (Nat.le_of_eq d1)
    by_cases hb2 : w.getD v.length 0 < c + b
    · rw [if_pos hb2, Nat.mul_one] at d3
      have hlt2 : nb u < g.toNat * nb v := by omega
      refine wk hE (And.intro (show ¬ (v.length : Int) < v.length by omega) hb2) ?_
      refine PostM.mk trivial ?_ ?_
      · rw [decide_eq_true hlt2]
      · exact eq_fixd64 d2 d1 (by rw [if_pos hlt2]; omega)
    · rw [if_neg hb2, Nat.mul_zero] at d3
      have hlt2 : ¬ nb u < g.toNat * nb v := by omega
      refine wk hE (And.intro (show ¬ (v.length : Int) < v.length by omega) hb2) ?_
      refine PostM.mk trivial ?_ ?_
      · rw [decide_eq_false hlt2]
      · exact eq_fixd64 d2 d1 (by rw [if_neg hlt2]; omega)

@[push_cast] def spGives : Sp := spNN 2 (fun u v => Lim B64 u ∧ Lim B64 v ∧ u.length = v.length + 1 ∧ v.length < 1000000000)
  (fun u v => .tup [.tup [], .ns .u64 (fixd B64 (v.length + 1) ((nb u + nb v) % B64 ^ (v.length + 1)))])

theorem gives_ok : SpOK Tryd.prog 83 spGives := by
  refine SpOK.NNm fun u v ⟨hu, hv, hl, hvl⟩ => ?_
  have hE := envM (SOK.cons add64_ok (SOK.nil (P := Tryd.prog)))
  refine MCall.body hE Tryd.func83 Tryd.ntmps83 (rs := []) rfl (by rw [fixd_length, hl]) ?_
  rw [hl]
  refine wk hE trivial ?_
  refine AWp.loop (ι := {p : Nat × List Int × Int // GiveI u v p.2.1 p.1 p.2.2}) (fun p => ⟨[(0, .os 36 1 0 (v.length + 1)), (1, .ns .u64 v), (4, .raw (.int .u64 p.1.2.2)), (7, .ns .u64 v), (8, .raw (.int .i64 (v.length : Nat))), (9, .raw (.int .i64 (p.1.1 : Nat)))], [(36, ⟨true, .n .u64 p.1.2.1⟩)]⟩)
    (fun p => v.length - p.1.1) ⟨(0, u, 0), by dsimp only; omega, hl, hu, by dsimp only; omega, by simp [nb, nv]⟩ (Le.mk trivial) ?_
  rintro ⟨⟨i, w, c⟩, hI⟩
  dsimp only at hI ⊢
  have hwl := hI.hl
  have hc := hI.hc
  have h1 := lim64 hv i
  have h2 := lim64 hI.hd i
  by_cases hi : i < v.length
  · have hst := hI.step hv hi rfl rfl
    refine wk hE (show (i : Int) < v.length by omega) ?_
    exact ⟨⟨(i + 1, _, _), hst⟩, Le.mk trivial, by dsimp only; omega⟩
  · have hil : i = v.length := by have := hI.hi; omega
    subst hil
    obtain ⟨d1, d2, d3⟩ := hI.done rfl
    have hwr : IntKind.u64.wrap (w.getD v.length 0 + c) = (w.getD v.length 0 + c) % 18446744073709551616 := IntKind.wrap_u64 _
    refine wk hE (And.intro (show ¬ (v.length : Int) < v.length by omega) hwr) ?_
    have hlt := nb_lt d2 (Nat.le_of_eq d1)
    refine PostM.mk trivial rfl ?_
    refine eq_fixd64 d2 d1 ?_
    rw [← d3, Nat.add_mul_mod_self_left, Nat.mod_eq_of_lt hlt]
end Go.Hl

namespace Go.Hl
open Go Go.RowKit Go.Proofs
set_option maxHeartbeats 4000000

@[push_cast] def spDigit : Sp := spNN 2 (fun u v => DigP u v ∧ v.length < 1000000000) (fun u v => .tup [.raw (.int .u64 ((nb u / nb v : Nat) : Int)), .ns .u64 (fixd B64 (v.length + 1) (nb u % nb v))])

theorem DigP.vlt {u v : List Int} (h : DigP u v) : nb v < B64 ^ v.length := nb_lt h.hv (Nat.le_refl _)

theorem digit_ok : SpOK Tryd.prog 77 spDigit := by
  refine SpOK.NNm fun u v ⟨hP, hvl⟩ => ?_
  have hE := envM (SOK.cons div64_ok (SOK.cons mul64_ok (SOK.cons takes_ok (SOK.cons gives_ok (SOK.nil (P := Tryd.prog))))))
  have hl := hP.hl
  have h2 := hP.h2
  have hu := hP.hu
  have hv := hP.hv
  refine MCall.body hE Tryd.func77 Tryd.ntmps77 Tryd.results77 (by rw [fixd_length, hl]) ?_
  rw [hl]
  have t1 : ((v.length : Int) - 1).toNat = v.length - 1 := by omega
  have t2 : ((v.length : Int) - 2).toNat = v.length - 2 := by omega
  have l1 := lim64 hu v.length
  have l2 := lim64 hu (v.length - 1)
  have l3 := lim64 hv (v.length - 1)
  have l4 := lim64 hu (v.length - 2)
  have l5 := lim64 hv (v.length - 2)
  refine wk hE trivial ?_
  refine AWp.join (ι := {g : Int // (0 ≤ g ∧ g < 18446744073709551616) ∧ nb u / nb v ≤ g.toNat ∧ g.toNat ≤ nb u / nb v + 2}) (fun g => ⟨[(0, .os 110 1 0 (v.length + 1)), (1, .ns .u64 v), (5, .raw (.int .i64 (v.length : Nat))), (6, .raw (.int .u64 g.1))], [(110, ⟨true, .n .u64 u⟩)]⟩) ?_ ?_
  · refine AWp.test trivial (fun h => ?_) (fun h => ?_)
    · have hlt := of_decide_eq_true h
      have hst := GuessI.start hP hlt
      have hrl := Int.emod_lt_of_pos (u.getD v.length 0 * 18446744073709551616 + u.getD (v.length - 1) 0) (show 0 < v.getD (v.length - 1) 0 by omega)
      obtain ⟨g0, hg0⟩ : ∃ x, (u.getD v.length 0 * 18446744073709551616 + u.getD (v.length - 1) 0) / v.getD (v.length - 1) 0 = x := ⟨_, rfl⟩
      obtain ⟨r0, hr0⟩ : ∃ x, (u.getD v.length 0 * 18446744073709551616 + u.getD (v.length - 1) 0) % v.getD (v.length - 1) 0 = x := ⟨_, rfl⟩
      rw [hg0, hr0] at hst
      rw [hr0] at hrl
      refine wk hE (And.intro hg0 hr0) ?_
      refine AWp.joinB (ι := {g : Int // (0 ≤ g ∧ g < 18446744073709551616) ∧ nb u / nb v ≤ g.toNat ∧ g.toNat ≤ nb u / nb v + 2}) (fun g => ⟨[(0, .os 110 1 0 (v.length + 1)), (1, .ns .u64 v), (5, .raw (.int .i64 (v.length : Nat))), (7, .raw (.int .u64 g.1))], [(110, ⟨true, .n .u64 u⟩)]⟩) ?_ ?_
      · refine AWp.loop (ι := {p : Int × Int // GuessI u v p.1 p.2 ∧ p.2 < 18446744073709551616}) (fun p => ⟨[(0, .os 110 1 0 (v.length + 1)), (1, .ns .u64 v), (5, .raw (.int .i64 (v.length : Nat))), (7, .raw (.int .u64 p.1.1)), (8, .raw (.int .u64 p.1.2))], [(110, ⟨true, .n .u64 u⟩)]⟩) (fun p => p.1.1.toNat) ⟨(g0, r0), hst, by dsimp only; omega⟩ (Le.mk trivial) ?_
        clear hg0 hr0 hst hrl hlt h g0 r0
        rintro ⟨⟨g, r⟩, hG, hr⟩
        dsimp only at hG hr ⊢
        have hg := hG.hg
        have hr0 := hG.hr
        have he := hG.he
        have hm := mul_bd (M := 18446744073709551615) (N := 18446744073709551615) hg.1 l5.1 (by omega) (by omega)
        have hout : (0 ≤ g ∧ g < 18446744073709551616) ∧ nb u / nb v ≤ g.toNat ∧ g.toNat ≤ nb u / nb v + 2 := ⟨hg, hG.hq, hP.le2 hg (by omega)⟩
        by_cases c1 : g * v.getD (v.length - 2) 0 / 18446744073709551616 < r
        · refine wk hE (And.intro t2 c1) ?_
          exact ⟨⟨g, hout⟩, Le.mk trivial⟩
        by_cases c2 : g * v.getD (v.length - 2) 0 / 18446744073709551616 = r
        · by_cases c3 : g * v.getD (v.length - 2) 0 % 18446744073709551616 ≤ u.getD (v.length - 2) 0
          · have e2 : (g * v.getD (v.length - 2) 0 / 18446744073709551616 == r) = true := by rw [c2]; exact beq_self_eq_true _
            refine wk hE (And.intro c1 (And.intro e2 (And.intro t2 c3))) ?_
            exact ⟨⟨g, hout⟩, Le.mk trivial⟩
          · have e2 : (g * v.getD (v.length - 2) 0 / 18446744073709551616 == r) = true := by rw [c2]; exact beq_self_eq_true _
            have hgt : r * 18446744073709551616 + u.getD (v.length - 2) 0 < g * v.getD (v.length - 2) 0 := by omega
            have hst := hG.step hP hr hgt
            have hs1 := hst.hg
            have hs2 := hP.le2 hst.hg (by have := hst.he; have := hst.hr; omega)
            by_cases c4 : r + v.getD (v.length - 1) 0 < 18446744073709551616
            · refine wk hE (And.intro c1 (And.intro e2 (And.intro t2 (And.intro c3 (And.intro t1 (show ¬ r + v.getD (v.length - 1) 0 < r by omega)))))) ?_
              exact ⟨⟨(g - 1, r + v.getD (v.length - 1) 0), hst, c4⟩, Le.mk trivial, by dsimp only; omega⟩
            · have hwr : IntKind.u64.wrap (r + v.getD (v.length - 1) 0) = r + v.getD (v.length - 1) 0 - 18446744073709551616 := by rw [IntKind.wrap_u64]; omega
              refine wk hE (And.intro c1 (And.intro e2 (And.intro t2 (And.intro c3 (And.intro t1 (And.intro hwr (show r + v.getD (v.length - 1) 0 - 18446744073709551616 < r by omega))))))) ?_
              exact ⟨⟨g - 1, hs1, hst.hq, hs2⟩, Le.mk trivial⟩
        · have e2 : (g * v.getD (v.length - 2) 0 / 18446744073709551616 == r) = false := by rw [beq_eq_false_iff_ne]; exact c2
          have hgt : r * 18446744073709551616 + u.getD (v.length - 2) 0 < g * v.getD (v.length - 2) 0 := by omega
          have hst := hG.step hP hr hgt
          have hs1 := hst.hg
          have hs2 := hP.le2 hst.hg (by have := hst.he; have := hst.hr; omega)
          by_cases c4 : r + v.getD (v.length - 1) 0 < 18446744073709551616
          · refine wk hE (And.intro c1 (And.intro e2 (And.intro t2 (And.intro t1 (show ¬ r + v.getD (v.length - 1) 0 < r by omega))))) ?_
            exact ⟨⟨(g - 1, r + v.getD (v.length - 1) 0), hst, c4⟩, Le.mk trivial, by dsimp only; omega⟩
          · have hwr : IntKind.u64.wrap (r + v.getD (v.length - 1) 0) = r + v.getD (v.length - 1) 0 - 18446744073709551616 := by rw [IntKind.wrap_u64]; omega
            refine wk hE (And.intro c1 (And.intro e2 (And.intro t2 (And.intro t1 (And.intro hwr (show r + v.getD (v.length - 1) 0 - 18446744073709551616 < r by omega)))))) ?_
            exact ⟨⟨g - 1, hs1, hst.hq, hs2⟩, Le.mk trivial⟩
      · rintro ⟨g, hg⟩
        dsimp only
        refine wk hE trivial ?_
        exact ⟨⟨g, hg⟩, Le.mk trivial⟩
    · have hge := of_decide_eq_false h
      obtain ⟨m1, m2⟩ := hP.max hge
      refine wk hE trivial ?_
      exact ⟨⟨18446744073709551615, by decide, m1, m2⟩, Le.mk trivial⟩
  rintro ⟨g, hg, hg1, hg2⟩
  dsimp only
  obtain ⟨M, hM⟩ : ∃ M, B64 ^ (v.length + 1) = M := ⟨_, rfl⟩
  obtain ⟨V, hV⟩ : ∃ V, nb v = V := ⟨_, rfl⟩
  obtain ⟨U, hU⟩ : ∃ U, nb u = U := ⟨_, rfl⟩
  obtain ⟨Q, hQ⟩ : ∃ Q, U / V = Q := ⟨_, rfl⟩
  obtain ⟨R, hR⟩ : ∃ R, U % V = R := ⟨_, rfl⟩
  have hVpos := hP.pos
  have hVlt := hP.vlt
  have hUM : nb u < B64 ^ (v.length + 1) := nb_lt hu (by omega)
  have hMW : B64 ^ (v.length + 1) = B64 ^ v.length * 18446744073709551616 := rfl
  have hQlt := hP.div_lt
  have hdm := Nat.div_add_mod U V
  have hRlt := Nat.mod_lt U (show 0 < V by omega)
  rw [hM] at hUM hMW
  rw [hV] at hVpos hVlt hg1 hg2 hQlt
  rw [hU] at hUM hg1 hg2 hQlt
  rw [hQ] at hg1 hg2 hQlt hdm
  rw [hR] at hdm hRlt
  obtain ⟨g, rfl⟩ := Int.eq_ofNat_of_zero_le hg.1
  rw [Int.toNat_natCast] at hg1 hg2
  rw [hU, hV, hQ, hR]
  have hn2 : ∀ n, n < M → nb (fixd B64 (v.length + 1) n) = n := fun n hn => nv_fixd (by decide) _ _ (by rw [hM]; exact hn)
  have hlim : ∀ n, Lim B64 (fixd B64 (v.length + 1) n) := fun n => lim_fixd (by decide) _ _
  by_cases hc : U < g * V
  · obtain ⟨n1, hn1⟩ : ∃ n1, U + M - g * V = n1 := ⟨_, rfl⟩
    have hgV : g * V ≤ U + 2 * V := by
      have : g * V ≤ (Q + 2) * V := Nat.mul_le_mul_right _ hg2
      rw [Nat.add_mul, Nat.mul_comm Q] at this
      omega
    have hn1M : n1 < M := by omega
    have e1 : n1 + g * V = U + M := by omega
    obtain ⟨n2, hn2e⟩ : ∃ n2, (n1 + V) % M = n2 := ⟨_, rfl⟩
    have hn2M : n2 < M := by rw [← hn2e]; exact Nat.mod_lt _ (by omega)
    have e2 : n2 + M * ((n1 + V) / M) = n1 + V := by rw [← hn2e, Nat.mod_add_div]
    have hk : (n1 + V) / M ≤ 1 := by
      refine Nat.le_of_lt_succ ((Nat.div_lt_iff_lt_mul (by omega)).2 ?_)
      omega
    have key := take_some e1 hVpos hQ.symm hg2 hn1M e2 hk hn2M
    rw [hR] at key
    have hnb1 := hn2 n1 hn1M
    have hl1 := hlim n1
    have hf1 := fixd_length B64 (v.length + 1) n1
    obtain ⟨g', rfl⟩ : ∃ g', g = g' + 1 := ⟨g - 1, by omega⟩
    have hc' : U < (g' + 1) * V := hc
    refine wk hE (And.intro hM (And.intro hV (And.intro hU (And.intro (eq_true hc) (And.intro hn1 (And.intro hnb1 hn2e)))))) ?_
    refine AWp.loop (ι := {p : Nat × Nat // (p.1 = Q ∧ p.2 = R) ∨ (p.1 = Q + 1 ∧ p.2 + V = M + R)}) (fun p => ⟨[(0, .os 110 1 0 (v.length + 1)), (1, .ns .u64 v), (5, .raw (.int .i64 (v.length : Nat))), (6, .raw (.int .u64 (p.1.1 : Nat)))], [(110, ⟨true, .n .u64 (fixd B64 (v.length + 1) p.1.2)⟩)]⟩) (fun p => p.1.1) ⟨(g', n2), by dsimp only; omega⟩ (Le.mk trivial) ?_
    rintro ⟨⟨q, n⟩, hqn⟩
    dsimp only at hqn ⊢
    have hnM : n < M := by omega
    have hnbn := hn2 n hnM
    have hln := hlim n
    have hfl : (fixd B64 (v.length + 1) n).length = v.length + 1 := fixd_length ..
    rcases hqn with ⟨rfl, rfl⟩ | ⟨rfl, hn⟩
    · have htop := top_zero hln hfl (by rw [hnbn]; omega)
      refine wk hE htop ?_
      refine PostM.mk trivial rfl rfl
    · have htop := top_max hln hfl (by rw [hnbn]; omega)
      have hne : (n + V) % M = R := by rw [hn, Nat.add_mod_left, Nat.mod_eq_of_lt (by omega)]
      refine wk hE (And.intro htop (And.intro hM (And.intro hV (And.intro hnbn hne)))) ?_
      exact ⟨⟨(Q, R), .inl ⟨rfl, rfl⟩⟩, Le.mk trivial, by dsimp only; omega⟩
  · obtain ⟨hgq, hgr⟩ := take_none (n1 := U - g * V) (by omega) hVpos hQ.symm hg1
    rw [hR] at hgr
    refine wk hE (And.intro hM (And.intro hV (And.intro hU (And.intro (eq_false hc) hgr)))) ?_
    refine PostM.mk trivial ?_ rfl
    rw [hgq]
end Go.Hl

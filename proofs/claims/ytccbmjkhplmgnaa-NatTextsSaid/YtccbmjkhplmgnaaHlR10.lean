/- hairlineref01: Parse -/
import Derived.Test.YtccbmjkhplmgnaaHlP13
import Derived.Test.YtccbmjkhplmgnaaHlRa
set_option linter.unusedVariables false
set_option linter.unusedSimpArgs false
namespace Go.Hl
open Go Go.RowKit Go.Proofs
set_option maxHeartbeats 8000000

theorem rparse_ok : SpOK Try.prog 56 spParse := by
  refine SpOK.S fun s hs => ?_
  have hE := env (SOK.cons limbs_ok (SOK.nil (P := Try.prog)))
  have hsz := size_list s
  obtain ⟨n, hn⟩ : ∃ n, s.size = n := ⟨_, rfl⟩
  rw [hn] at hs hsz
  refine ACall.body hE Try.func56 Try.ntmps56 Try.results56 ?_
  by_cases h0 : n = 0
  · have he : (s.toList == (⟨#[]⟩ : ByteArray).toList) = true := by
      have : s = ⟨#[]⟩ := by
        apply ByteArray.ext
        apply Array.eq_empty_of_size_eq_zero
        exact hn.trans h0
      rw [this]; exact beq_self_eq_true _
    have hok : hexOk s.data.toList = false := by
      have : s.data.toList = [] := List.eq_nil_of_length_eq_zero (by omega)
      rw [this]; rfl
    refine wk hE he ?_
    refine PostL.mk trivial ?_
    simp [parseR, hok]
  have he : (s.toList == (⟨#[]⟩ : ByteArray).toList) = false := by
    rw [beq_eq_false_iff_ne]
    intro e
    have : s = ⟨#[]⟩ := ByteArray.ext (Array.ext' (by rw [ByteArray.toList_eq] at e; rw [e, ByteArray.toList_eq]))
    rw [this] at hn
    exact h0 hn.symm
  obtain ⟨L, hL⟩ : ∃ L, n / 8 + 1 = L := ⟨_, rfl⟩
  have t1 : (n : Int) / 8 + 1 = (L : Int) := by omega
  obtain ⟨R, hR⟩ : ∃ R, hexR s.data.toList = R := ⟨_, rfl⟩
  have hRl : R.length = n := by rw [← hR, hexR_length, hsz]
  refine wk hE (And.intro he (And.intro hn t1)) ?_
  refine AWp.loop (ι := {p : Nat × List Int // p.1 ≤ n ∧ PrsR R p.2 p.1 ∧ ∀ j, n - p.1 ≤ j → j < n → hexV (s.data.toList.getD j 0) < 16})
    (fun p => ⟨[(0, .raw (.string s)), (4, .os 14 1 0 L), (5, .raw (.int .i64 (p.1.1 : Nat)))], [(14, ⟨true, .n .u64 p.1.2⟩)]⟩)
    (fun p => n - p.1.1) ⟨(0, List.replicate L 0), Nat.zero_le _, PrsR.start (by rw [hRl, hL]; simp) (by rw [hRl, hL]), fun j h1 h2 => by dsimp only at h1; omega⟩ (Le.mk trivial) ?_
  rintro ⟨⟨i, d⟩, hi, hI, hV⟩
  dsimp only at hi hI hV ⊢
  have hol := hI.hl
  rw [hRl] at hol
  by_cases hlt : i < n
  · obtain ⟨k, hk⟩ : ∃ k, n - 1 - i = k := ⟨_, rfl⟩
    obtain ⟨ch, hch⟩ : ∃ ch, s.data.toList.getD k 0 = ch := ⟨_, rfl⟩
    have hch' : s.data.getD k 0 = ch := by rw [getD_list]; exact hch
    have tk : (n : Int) - 1 - i = k := by omega
    have hmem : ch ∈ s.data.toList := by
      rw [← hch, List.getD_eq_getElem?_getD, List.getElem?_eq_getElem (by omega)]
      exact List.getElem_mem _
    obtain ⟨c, hc⟩ : ∃ c, ch.toNat = c := ⟨_, rfl⟩
    have hc256 : c < 256 := by rw [← hc]; exact ch.toNat_lt
    have t3 : ((i : Int) / 8).toNat = i / 8 := by omega
    have t4 : (4 * ((i : Int) % 8)).toNat = 4 * (i % 8) := by omega
    have hVal : hexV ch = if 48 ≤ c ∧ c ≤ 57 then c - 48 else if 97 ≤ c ∧ c ≤ 102 then c - 87 else if 65 ≤ c ∧ c ≤ 70 then c - 55 else 16 := by rw [← hc]; rfl
    have hRv : R.getD i 0 = (hexV ch : Int) := by rw [← hR, hexR_get _ (by omega), hsz, hk, hch]
    have step : ∀ v : Nat, hexV ch = v → v < 16 → ∃ o w : Int, d.getD (i / 8) 0 = o ∧ (v : Int) * 2 ^ (4 * (i % 8)) = w ∧ 0 ≤ o ∧ 0 ≤ w ∧ o + w < 4294967296 ∧ PrsR R (d.set (i / 8) (o + w)) (i + 1) := fun v hv h16 => by
      have hlim : Lim 16 (R.take (i + 1)) := by
        intro x hx
        obtain ⟨j, hj, e⟩ := List.getElem_of_mem hx
        rw [List.length_take] at hj
        rw [List.getElem_take] at e
        have e2 : R.getD j 0 = x := by rw [List.getD_eq_getElem?_getD, List.getElem?_eq_getElem (by omega), ← e]; rfl
        rw [← e2, ← hR, hexR_get _ (by omega), hsz]
        rcases Nat.lt_or_ge j i with h | h
        · have := hV (n - 1 - j) (by omega) (by omega); omega
        · rw [show n - 1 - j = k by omega, hch, hv]; omega
      obtain ⟨s1, s2, s3, s4, s5, s6⟩ := hI.step (v := v) hlim (by omega) (by rw [hRv, hv]) rfl
      exact ⟨_, _, rfl, rfl, s4, s6, s5, s1⟩
    have hV2 : hexV ch < 16 → ∀ j, n - (i + 1) ≤ j → j < n → hexV (s.data.toList.getD j 0) < 16 := fun h16 j h1 h2 => by
      rcases Nat.lt_or_ge j (n - i) with h | h
      · rw [show j = k by omega, hch]; exact h16
      · exact hV j h h2
    by_cases g47 : c ≤ 47
    · have hbad : ¬ hexV ch < 16 := by rw [hVal]; split; omega; split; omega; split; omega; omega
      have hok := hexOk_bad hmem hbad
      refine wk hE (And.intro hn (And.intro hch' (And.intro hc (And.intro (show (i : Int) < n by omega) (And.intro tk (And.intro t3 (And.intro t4 (And.intro (show ¬ 48 ≤ (c : Int) by omega) (And.intro (show (c : Int) ≤ 57 by omega) (And.intro (show ¬ 97 ≤ (c : Int) by omega) (And.intro (show (c : Int) ≤ 102 by omega) (And.intro (show ¬ 65 ≤ (c : Int) by omega) (show (c : Int) ≤ 70 by omega))))))))))))) ?_
      refine PostL.mk trivial ?_
      simp [parseR, hok]
    by_cases g57 : c ≤ 57
    · obtain ⟨v, hv⟩ : ∃ v, c - 48 = v := ⟨_, rfl⟩
      have hxv : hexV ch = v := by rw [hVal]; split; omega; split; omega; split; omega; omega
      obtain ⟨o, w, ho, hw, o0, w0, ow, hst⟩ := step v hxv (by omega)
      refine wk hE (And.intro hn (And.intro hch' (And.intro hc (And.intro (show (i : Int) < n by omega) (And.intro tk (And.intro t3 (And.intro t4 (And.intro (show 48 ≤ (c : Int) by omega) (And.intro (show (c : Int) ≤ 57 by omega) (And.intro (show ¬ 97 ≤ (c : Int) by omega) (And.intro (show (c : Int) ≤ 102 by omega) (And.intro (show ¬ 65 ≤ (c : Int) by omega) (And.intro (show (c : Int) ≤ 70 by omega) (And.intro (show (c : Int) - 48 = (v : Int) by omega) (And.intro ho hw))))))))))))))) ?_
      exact ⟨⟨(i + 1, d.set (i / 8) (o + w)), hlt, hst, hV2 (by omega)⟩, Le.mk trivial, by dsimp only; omega⟩
    by_cases g64 : c ≤ 64
    · have hbad : ¬ hexV ch < 16 := by rw [hVal]; split; omega; split; omega; split; omega; omega
      have hok := hexOk_bad hmem hbad
      refine wk hE (And.intro hn (And.intro hch' (And.intro hc (And.intro (show (i : Int) < n by omega) (And.intro tk (And.intro t3 (And.intro t4 (And.intro (show 48 ≤ (c : Int) by omega) (And.intro (show ¬ (c : Int) ≤ 57 by omega) (And.intro (show ¬ 97 ≤ (c : Int) by omega) (And.intro (show (c : Int) ≤ 102 by omega) (And.intro (show ¬ 65 ≤ (c : Int) by omega) (show (c : Int) ≤ 70 by omega))))))))))))) ?_
      refine PostL.mk trivial ?_
      simp [parseR, hok]
    by_cases g70 : c ≤ 70
    · obtain ⟨v, hv⟩ : ∃ v, c - 55 = v := ⟨_, rfl⟩
      obtain ⟨u, hu⟩ : ∃ u : Nat, c - 65 = u := ⟨_, rfl⟩
      have hxv : hexV ch = v := by rw [hVal]; split; omega; split; omega; split; omega; omega
      obtain ⟨o, w, ho, hw, o0, w0, ow, hst⟩ := step v hxv (by omega)
      refine wk hE (And.intro hn (And.intro hch' (And.intro hc (And.intro (show (i : Int) < n by omega) (And.intro tk (And.intro t3 (And.intro t4 (And.intro (show 48 ≤ (c : Int) by omega) (And.intro (show ¬ (c : Int) ≤ 57 by omega) (And.intro (show ¬ 97 ≤ (c : Int) by omega) (And.intro (show (c : Int) ≤ 102 by omega) (And.intro (show 65 ≤ (c : Int) by omega) (And.intro (show (c : Int) ≤ 70 by omega) (And.intro (show (c : Int) - 65 = (u : Int) by omega) (And.intro (show (u : Int) + 10 = (v : Int) by omega) (And.intro ho hw)))))))))))))))) ?_
      exact ⟨⟨(i + 1, d.set (i / 8) (o + w)), hlt, hst, hV2 (by omega)⟩, Le.mk trivial, by dsimp only; omega⟩
    by_cases g96 : c ≤ 96
    · have hbad : ¬ hexV ch < 16 := by rw [hVal]; split; omega; split; omega; split; omega; omega
      have hok := hexOk_bad hmem hbad
      refine wk hE (And.intro hn (And.intro hch' (And.intro hc (And.intro (show (i : Int) < n by omega) (And.intro tk (And.intro t3 (And.intro t4 (And.intro (show 48 ≤ (c : Int) by omega) (And.intro (show ¬ (c : Int) ≤ 57 by omega) (And.intro (show ¬ 97 ≤ (c : Int) by omega) (And.intro (show (c : Int) ≤ 102 by omega) (And.intro (show 65 ≤ (c : Int) by omega) (show ¬ (c : Int) ≤ 70 by omega))))))))))))) ?_
      refine PostL.mk trivial ?_
      simp [parseR, hok]
    by_cases g102 : c ≤ 102
    · obtain ⟨v, hv⟩ : ∃ v, c - 87 = v := ⟨_, rfl⟩
      obtain ⟨u, hu⟩ : ∃ u : Nat, c - 97 = u := ⟨_, rfl⟩
      have hxv : hexV ch = v := by rw [hVal]; split; omega; split; omega; split; omega; omega
      obtain ⟨o, w, ho, hw, o0, w0, ow, hst⟩ := step v hxv (by omega)
      refine wk hE (And.intro hn (And.intro hch' (And.intro hc (And.intro (show (i : Int) < n by omega) (And.intro tk (And.intro t3 (And.intro t4 (And.intro (show 48 ≤ (c : Int) by omega) (And.intro (show ¬ (c : Int) ≤ 57 by omega) (And.intro (show 97 ≤ (c : Int) by omega) (And.intro (show (c : Int) ≤ 102 by omega) (And.intro (show 65 ≤ (c : Int) by omega) (And.intro (show ¬ (c : Int) ≤ 70 by omega) (And.intro (show (c : Int) - 97 = (u : Int) by omega) (And.intro (show (u : Int) + 10 = (v : Int) by omega) (And.intro ho hw)))))))))))))))) ?_
      exact ⟨⟨(i + 1, d.set (i / 8) (o + w)), hlt, hst, hV2 (by omega)⟩, Le.mk trivial, by dsimp only; omega⟩
    have hbad : ¬ hexV ch < 16 := by rw [hVal]; split; omega; split; omega; split; omega; omega
    have hok := hexOk_bad hmem hbad
    refine wk hE (And.intro hn (And.intro hch' (And.intro hc (And.intro (show (i : Int) < n by omega) (And.intro tk (And.intro t3 (And.intro t4 (And.intro (show 48 ≤ (c : Int) by omega) (And.intro (show ¬ (c : Int) ≤ 57 by omega) (And.intro (show 97 ≤ (c : Int) by omega) (And.intro (show ¬ (c : Int) ≤ 102 by omega) (And.intro (show 65 ≤ (c : Int) by omega) (show ¬ (c : Int) ≤ 70 by omega))))))))))))) ?_
    refine PostL.mk trivial ?_
    simp [parseR, hok]
  · have hin : i = n := by omega
    subst hin
    have hd := hI.he
    rw [List.take_of_length_le (by omega)] at hd
    have hok : hexOk s.data.toList = true := by
      refine hexOk_of (fun e => h0 (by rw [← hsz, e]; rfl)) (fun c hc => ?_)
      obtain ⟨j, hj, e⟩ := List.getElem_of_mem hc
      have := hV j (by omega) (by omega)
      rwa [List.getD_eq_getElem?_getD, List.getElem?_eq_getElem hj, Option.getD_some, e] at this
    have hlm : Ld d := ⟨hI.hd, by omega⟩
    refine wk hE (And.intro hn (And.intro hd (show ¬ (i : Int) < i by omega))) ?_
    refine PostL.mk trivial ?_
    simp only [parseR, hok, if_true, hR]
end Go.Hl

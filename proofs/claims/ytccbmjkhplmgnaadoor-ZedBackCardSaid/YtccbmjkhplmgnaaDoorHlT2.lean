/- ref02.Parse (seat .D) -/
import Derived.Test.YtccbmjkhplmgnaaDoorHlU1
import Derived.Test.YtccbmjkhplmgnaaDoorHlZ8
import Derived.Test.YtccbmjkhplmgnaaDoorHlRb
set_option linter.unusedVariables false
set_option linter.unusedSimpArgs false
namespace Go.Hl
open Go Go.RowKit Go.Proofs
set_option maxHeartbeats 8000000

/-- Where the ways meet, behind two pieces of code. -/
theorem AWp.seqJ2 {P : Program} {T : Tab} {n : Nat} {Q : Exit → St → Prop} {σ : St} {x y z : Code} {ι : Type} (J : ι → St) (h1 : AWp P T n x (EThen (AWp P T n y (EThen (fun σ => ∃ i, Le σ (J i)) Q)) Q) σ) (h2 : ∀ i, AWp P T n z Q (J i)) : AWp P T n (.seq x (.seq y z)) Q σ :=
  .seq (h1.mono fun e σ' h => by
    cases e with
    | normal => exact AWp.seqJ J h h2
    | _ => exact h)

theorem size_len (s : ByteArray) : s.data.toList.length = s.size := by rw [Array.length_toList]; rfl
theorem data_getD (s : ByteArray) (i : Nat) : s.data.getD i 0 = s.data.toList.getD i 0 := by
  rw [Array.getD_eq_getD_getElem?, List.getD_eq_getElem?_getD, Array.getElem?_toList]
theorem extract_list (s : ByteArray) (i j : Nat) : (s.extract i j).data.toList = (s.data.toList.take j).drop i := by
  rw [ByteArray.data_extract, Array.toList_extract]
  simp [List.extract, List.drop_take]
theorem str_nil (s : ByteArray) : (s.toList == (ByteArray.mk #[]).toList) = s.data.toList.isEmpty := by
  rw [Lib.toList_data, Lib.toList_data]
  cases s.data.toList <;> rfl

/-- A number from digits, of at most so many. -/
theorem dv_lm {l : List UInt8} (h : l.all isD = true) (hn : l.length ≤ 1000) : Lm (dg (dv l)) ∧ (dg (dv l)).length < 100000 := by
  have h1 := dv_lt h
  have h2 : dv l < B64 ^ l.length := Nat.lt_of_lt_of_le h1 (Nat.pow_le_pow_left (by decide) _)
  have h3 : (dg (dv l)).length ≤ l.length := (digs_length_le (by decide) _ _).2 h2
  exact ⟨lm_dg (by omega), by omega⟩

@[push_cast] def spParse2 : Sp := spS 0 (fun s => s.size ≤ 1000) (fun s => .tup [zi (pV s.data.toList), .raw (.bool (pO s.data.toList))])
theorem rparse_ok : SpOK Tryd.prog 8 spParse2 := by
  refine SpOK.S fun s hs => ?_
  have hE := env (SOK.cons radd_ok (SOK.cons rmul_ok (SOK.cons rmade_ok (SOK.nil (P := Tryd.prog)))))
  obtain ⟨V, eV⟩ : ∃ V, pV s.data.toList = V := ⟨_, rfl⟩
  obtain ⟨O, eO⟩ : ∃ O, pO s.data.toList = O := ⟨_, rfl⟩
  rw [eV, eO]
  refine ACall.body hE Tryd.func8 Tryd.ntmps8 Tryd.results8 ?_
  refine wkR hE trivial ?_
  have key : ∃ n, s.size = n := ⟨_, rfl⟩
  obtain ⟨n, hn⟩ := key
  have hll := size_len s
  rw [hn] at hll hs
  refine AWp.seqJ2 (ι := {p : ByteArray × Bool // p.1.size ≤ 1000 ∧ pN s.data.toList = p.2 ∧ pD s.data.toList = p.1.data.toList}) (fun p => ⟨[(0, .raw (.string p.1.1)), (2, .ptr 2 0), (3, .raw (.bool false)), (4, .raw (.bool p.1.2))], [(2, ⟨true, .c [.raw (.bool false), .ns .u64 []]⟩)]⟩) ?_ ?_
  · cases hl : s.data.toList with
    | nil =>
      rw [hl] at hll
      have hn0 : n = 0 := hll.symm
      subst hn0
      refine wk hE hn ?_
      exact ⟨⟨(s, false), by dsimp only; omega, by rfl, by dsimp only; rw [hl]; rfl⟩, Le.mk trivial⟩
    | cons c l =>
      rw [hl] at hll
      have hn1 : n = l.length + 1 := hll.symm
      have hc : s.data.getD 0 0 = c := by rw [data_getD, hl]; rfl
      by_cases h45 : c = 45
      · subst h45
        obtain ⟨s1, hs1⟩ : ∃ s1, s.extract 1 n = s1 := ⟨_, rfl⟩
        have hl1 : s1.data.toList = l := by rw [← hs1, extract_list, hl]; simp [hn1]
        have h45 : (((UInt8.toNat 45 : Nat) : Int) == 45) = true := rfl
        refine wk hE (And.intro hn (And.intro (show (0 : Int) < n by omega) (And.intro hc (And.intro hs1 h45)))) ?_
        exact ⟨⟨(s1, true), by dsimp only; rw [← size_len, hl1]; omega, by rw [pN_cons]; rfl, by dsimp only; rw [hl1, pD_eq, pN_cons]; rfl⟩, Le.mk trivial⟩
      · obtain ⟨k, hk⟩ : ∃ k, c.toNat = k := ⟨_, rfl⟩
        have hk45 : k ≠ 45 := fun e => h45 (by rw [e] at hk; exact UInt8.toNat_inj.1 hk)
        have hk2 : ((k : Int) == 45) = false := by rw [beq_eq_false_iff_ne]; omega
        refine wk hE (And.intro hn (And.intro (show (0 : Int) < n by omega) (And.intro hc (And.intro hk hk2)))) ?_
        have hp : pN (c :: l) = false := by rw [pN_cons, beq_eq_false_iff_ne]; exact h45
        exact ⟨⟨(s, false), by dsimp only; omega, by rw [hp], by dsimp only; rw [hl, pD_eq, hp]; rfl⟩, Le.mk trivial⟩
  rintro ⟨⟨s1, ng⟩, h1, h2, h3⟩
  dsimp only at h1 h2 h3 ⊢
  obtain ⟨D, hD⟩ : ∃ D, s1.data.toList = D := ⟨_, rfl⟩
  obtain ⟨n1, hn1⟩ : ∃ n1, s1.size = n1 := ⟨_, rfl⟩
  have hDl := size_len s1
  rw [hD, hn1] at hDl
  rw [hn1] at h1
  rw [hD] at h3
  have hnil := str_nil s1
  rw [hD] at hnil
  have hO : O = (!D.isEmpty && D.all isD) := by rw [← eO]; unfold pO; rw [h3]
  have hV : V = if O = true then zs ng (dv D) else 0 := by rw [← eV, ← eO, ← h2, ← h3]; rfl
  have bad : O = false → AV.tup [.agg [.raw (.bool false), .ns .u64 []], .raw (.bool false)] = AV.tup [zi V, .raw (.bool O)] := fun h => by
    rw [hV, h, if_neg (by simp)]
    unfold zi
    rw [show Int.natAbs 0 = 0 from rfl, dg_zero]; rfl
  clear hn hll hs
  by_cases hDn : D = []
  · have hz : (s1.toList == (ByteArray.mk #[]).toList) = true := by rw [hnil, hDn]; rfl
    have hOf : O = false := by rw [hO, hDn]; rfl
    refine wk hE hz ?_
    refine PostL.mk trivial ?_
    exact bad hOf
  have hz : (s1.toList == (ByteArray.mk #[]).toList) = false := by rw [hnil]; cases D with | nil => exact absurd rfl hDn | cons => rfl
  refine wk hE hz ?_
  have dvb : ∀ i, (D.take i).all isD = true → Lm (dg (dv (D.take i))) ∧ (dg (dv (D.take i))).length < 100000 := fun i h => dv_lm h (by rw [List.length_take]; omega)
  refine AWp.loop (ι := {i : Nat // i ≤ n1 ∧ (D.take i).all isD = true}) (fun p => ⟨[(0, .raw (.string s1)), (2, .ptr 2 0), (3, .raw (.bool false)), (4, .raw (.bool ng)), (5, .ns .u64 (dg (dv (D.take p.1)))), (6, .raw (.int .i64 (p.1 : Nat)))], [(2, ⟨true, .c [.raw (.bool false), .ns .u64 []]⟩)]⟩)
    (fun p => n1 - p.1) ⟨0, Nat.zero_le _, by simp⟩ (Le.mk (And.intro (List.take_zero (l := D)) (And.intro dv_nil dg_zero))) ?_
  rintro ⟨i, hi, hall⟩
  dsimp only at hi hall ⊢
  obtain ⟨b1, b2⟩ := dvb i hall
  obtain ⟨M, hM⟩ : ∃ M, dv (D.take i) = M := ⟨_, rfl⟩
  rw [hM] at b1 b2
  have nM : nb (dg M) = M := nb_dg M
  by_cases hlt : i < n1
  · obtain ⟨ch, hch⟩ : ∃ ch, D.getD i 0 = ch := ⟨_, rfl⟩
    have hch' : s1.data.getD i 0 = ch := by rw [data_getD, hD]; exact hch
    obtain ⟨c, hc⟩ : ∃ c, ch.toNat = c := ⟨_, rfl⟩
    have hc256 : c < 256 := by rw [← hc]; exact ch.toNat_lt
    have hget : D[i]? = some ch := by
      rw [← hch, List.getD_eq_getElem?_getD, List.getElem?_eq_getElem (by omega)]; rfl
    have hmem : ch ∈ D := List.mem_of_getElem? hget
    have hbadO : isD ch = false → O = false := fun h => by
      rw [hO]
      have : D.all isD = false := by rw [List.all_eq_false]; exact ⟨ch, hmem, by simp [h]⟩
      rw [this, Bool.and_false]
    have hisD : isD ch = (decide (48 ≤ c) && decide (c ≤ 57)) := by rw [← hc]; rfl
    by_cases g48 : c < 48
    · have hOf := hbadO (by rw [hisD, decide_eq_false (by omega)]; rfl)
      refine wk hE (And.intro hM (And.intro hn1 (And.intro hch' (And.intro hc (And.intro (show (i : Int) < n1 by omega) (show (c : Int) < 48 by omega)))))) ?_
      refine PostL.mk trivial ?_
      exact bad hOf
    by_cases g57 : 57 < c
    · have hOf := hbadO (by rw [hisD, decide_eq_false (p := c ≤ 57) (by omega), Bool.and_false])
      refine wk hE (And.intro hM (And.intro hn1 (And.intro hch' (And.intro hc (And.intro (show (i : Int) < n1 by omega) (And.intro (show ¬ (c : Int) < 48 by omega) (show (57 : Int) < c by omega))))))) ?_
      refine PostL.mk trivial ?_
      exact bad hOf
    obtain ⟨d, hd⟩ : ∃ d : Nat, c - 48 = d := ⟨_, rfl⟩
    have hd' : (c : Int) - 48 = (d : Nat) := by omega
    have hall' : (D.take (i + 1)).all isD = true := by
      rw [List.take_add_one, hget, List.all_append, hall]
      simp only [Option.toList_some, List.all_cons, List.all_nil, Bool.and_true, Bool.true_and]
      rw [hisD, decide_eq_true (p := 48 ≤ c) (by omega), decide_eq_true (p := c ≤ 57) (by omega)]; rfl
    obtain ⟨b3, b4⟩ := dvb (i + 1) hall'
    have hM' : dv (D.take (i + 1)) = M * 10 + d := by
      rw [List.take_add_one, hget]
      simp only [Option.toList_some]
      rw [dv_snoc, hM, ← hd, ← hc]; unfold dg10; omega
    rw [hM'] at b3 b4
    have hle : (dg (M * 10)).length ≤ (dg (M * 10 + d)).length := (digs_length_le (by decide) _ _).2 (Nat.lt_of_le_of_lt (Nat.le_add_right _ _) ((digs_length_le (B := B64) (by decide) _ _).1 (Nat.le_refl _)))
    have b5 : Lm (dg (M * 10)) ∧ (dg (M * 10)).length < 100000 := ⟨lm_dg (by omega), by omega⟩
    obtain ⟨b5, b6⟩ := b5
    have l10 : Lm [10] := ⟨lim1 (by omega), by simp⟩
    have ld : Lm [(d : Int)] := ⟨lim1 (by omega), by simp⟩
    have n10 : nb [10] = 10 := by simp [nb, nv]
    have nd : nb [(d : Int)] = d := by simp [nb, nv]
    have nM' : nb (dg (M * 10)) = M * 10 := nb_dg _
    refine wk hE (And.intro hM (And.intro hn1 (And.intro hch' (And.intro hc (And.intro (show (i : Int) < n1 by omega) (And.intro (show ¬ (c : Int) < 48 by omega) (And.intro (show ¬ (57 : Int) < c by omega) (And.intro hd' (And.intro nM (And.intro n10 (And.intro nd nM'))))))))))) ?_
    exact ⟨⟨i + 1, hlt, hall'⟩, Le.mk hM', by dsimp only; omega⟩
  · have hin : i = n1 := by omega
    subst hin
    have hDt : D.take i = D := List.take_of_length_le (by omega)
    rw [hDt] at hall hM
    have hOt : O = true := by rw [hO, hall]; cases D with | nil => exact absurd rfl hDn | cons => rfl
    refine wk hE (And.intro hDt (And.intro hM (And.intro hn1 (And.intro nM (show ¬ (i : Int) < i by omega))))) ?_
    refine PostL.mk trivial ?_
    rw [hOt]
    have : V = zs ng M := by
      rw [← eV]
      have e1 : pO s.data.toList = true := eO.trans hOt
      unfold pV
      rw [e1, if_pos rfl, h2, h3, hM]; rfl
    rw [this]
    rfl
end Go.Hl

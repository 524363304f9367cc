/- zed.Parse (seat .D) -/
import Derived.Test.YtccbmjkhplmgnaaDoorHlT2
import Derived.Test.YtccbmjkhplmgnaaDoorHlC1
import Derived.Test.YtccbmjkhplmgnaaDoorHlPa
set_option linter.unusedVariables false
set_option linter.unusedSimpArgs false
namespace Go.Hl
open Go Go.RowKit Go.Proofs
set_option maxHeartbeats 8000000

/-- Ten to a power. -/
def pw10 (i : Nat) : Nat := 10 ^ i
theorem pw10_succ (i : Nat) : pw10 (i + 1) = 10 * pw10 i := by unfold pw10; rw [Nat.pow_succ, Nat.mul_comm]
theorem pw10_le {i j : Nat} (h : i ≤ j) : pw10 i ≤ pw10 j := Nat.pow_le_pow_right (by decide) h
theorem pw10_pos (i : Nat) : 0 < pw10 i := Nat.pow_pos (by decide)
theorem take_all {l : List UInt8} (h : l.all isD = true) (i : Nat) : (l.take i).all isD = true := by
  rw [List.all_eq_true] at h ⊢
  exact fun x hx => h x (List.mem_of_mem_take hx)
theorem drop_all {l : List UInt8} (h : l.all isD = true) (i : Nat) : (l.drop i).all isD = true := by
  rw [List.all_eq_true] at h ⊢
  exact fun x hx => h x (List.mem_of_mem_drop hx)

theorem zparse_ok : SpOK Tryd.prog 7 spParse2 := by
  refine SpOK.S fun s hs => ?_
  have hE := env (SOK.cons cutp_ok (SOK.cons strim_ok (SOK.cons add_ok (SOK.cons mul_ok (SOK.cons made_ok (SOK.nil (P := Tryd.prog)))))))
  obtain ⟨V, eV⟩ : ∃ V, pV s.data.toList = V := ⟨_, rfl⟩
  obtain ⟨O, eO⟩ : ∃ O, pO s.data.toList = O := ⟨_, rfl⟩
  obtain ⟨D, eD⟩ : ∃ D, pD s.data.toList = D := ⟨_, rfl⟩
  obtain ⟨G, eG⟩ : ∃ G, pN s.data.toList = G := ⟨_, rfl⟩
  have hDl : D.length ≤ 1000 := by
    have := size_len s
    rw [← eD, pD_eq]; split
    · rw [List.length_drop]; omega
    · omega
  have eD' : Lib.trimPrefix s.data.toList [45] = D := eD
  have eG' : Lib.hasPrefix s.data.toList [45] = G := eG
  rw [eV, eO]
  have hV : V = if O = true then (if G = true then -(dv D : Int) else (dv D : Int)) else 0 := by rw [← eV, ← eO, ← eG, ← eD]; rfl
  have hO : O = (!D.isEmpty && D.all isD) := by rw [← eO, ← eD]; rfl
  obtain ⟨d, hd⟩ : ∃ d, (ByteArray.mk D.toArray) = d := ⟨_, rfl⟩
  have hdl : d.data.toList = D := by rw [← hd]
  refine ACall.body hE Tryd.func7 Tryd.ntmps7 Tryd.results7 ?_
  refine wkR hE trivial ?_
  refine wkR hE (And.intro eD' (And.intro eG' hd)) ?_
  have hnil := str_nil d
  rw [hdl] at hnil
  have hds : d.size ≤ 1000 := by rw [← size_len, hdl]; exact hDl
  have bad : O = false → AV.tup [.agg [.raw (.bool false), .ns .u64 []], .raw (.bool false)] = AV.tup [zi V, .raw (.bool O)] := fun h => by
    rw [hV, h, if_neg (by simp)]
    unfold zi
    rw [show Int.natAbs 0 = 0 from rfl, dg_zero]; rfl
  clear eV eO eD eG eD' eG' hs
  by_cases hDn : D = []
  · have hz : (d.toList == (ByteArray.mk #[]).toList) = true := by rw [hnil, hDn]; rfl
    have hOf : O = false := by rw [hO, hDn]; rfl
    refine wk hE hz ?_
    refine PostL.mk trivial ?_
    exact bad hOf
  have hDe : D.isEmpty = false := by cases D with | nil => exact absurd rfl hDn | cons => rfl
  have hz : (d.toList == (ByteArray.mk #[]).toList) = false := by rw [hnil, hDe]
  obtain ⟨t, ht⟩ : ∃ t, ByteArray.mk (Lib.trimS D tenL).toArray = t := ⟨_, rfl⟩
  have htl : t.data.toList = Lib.trimS D tenL := by rw [← ht]
  have htn := str_nil t
  rw [htl] at htn
  by_cases hall : D.all isD = true
  case neg =>
    have hOf : O = false := by rw [hO, Bool.eq_false_iff.2 hall, Bool.and_false]
    have hq : (t.toList == (ByteArray.mk #[]).toList) = false := by
      rw [htn]
      cases htt : Lib.trimS D tenL with
      | nil => exact absurd ((trim_nil D).1 htt) hall
      | cons => rfl
    refine wk hE (And.intro hz (And.intro hdl (And.intro ht hq))) ?_
    refine PostL.mk trivial ?_
    exact bad hOf
  have hq : (t.toList == (ByteArray.mk #[]).toList) = true := by rw [htn, show Lib.trimS D tenL = [] from (trim_nil D).2 hall]; rfl
  have hOt : O = true := by rw [hO, hall, hDe]; rfl
  refine wk hE (And.intro hz (And.intro hdl (And.intro ht hq))) ?_
  refine AWp.loop (ι := {p : List UInt8 × ByteArray // p.1 ++ p.2.data.toList = D}) (fun p => ⟨[(2, .ptr 2 0), (3, .raw (.bool false)), (4, .raw (.string p.1.2)), (5, .raw (.bool G)), (6, .ns .u64 (dg (dv p.1.1)))], [(2, ⟨true, .c [.raw (.bool false), .ns .u64 []]⟩)]⟩)
    (fun p => p.1.2.size) ⟨([], d), by rw [hdl]; rfl⟩ (Le.mk (And.intro dv_nil dg_zero)) ?_
  rintro ⟨⟨pre, r⟩, hpr⟩
  dsimp only at hpr ⊢
  clear hz hdl ht hq hnil htn htl hds hd bad
  obtain ⟨R, hR⟩ : ∃ R, r.data.toList = R := ⟨_, rfl⟩
  obtain ⟨k, hk⟩ : ∃ k, r.size = k := ⟨_, rfl⟩
  have hRk := size_len r
  rw [hR, hk] at hRk
  rw [hR] at hpr
  have hrn := str_nil r
  rw [hR] at hrn
  have hpl : pre.length + R.length = D.length := by rw [← hpr, List.length_append]
  have hpa : pre.all isD = true ∧ R.all isD = true := by rw [← hpr, List.all_append, Bool.and_eq_true] at hall; exact hall
  obtain ⟨hpa, hRa⟩ := hpa
  obtain ⟨m1, m2⟩ := dv_lm hpa (by omega)
  obtain ⟨M, hM⟩ : ∃ M, dv pre = M := ⟨_, rfl⟩
  rw [hM] at m1 m2
  have nM : nb (dg M) = M := nb_dg M
  by_cases hRn : R = []
  · have hz : (r.toList == (ByteArray.mk #[]).toList) = true := by rw [hrn, hRn]; rfl
    refine wk hE (And.intro hM (And.intro hz nM)) ?_
    refine PostL.mk trivial ?_
    rw [hRn, List.append_nil] at hpr
    have : V = zs G M := by rw [hV, hOt, if_pos rfl, ← hM, hpr]; rfl
    rw [this, hOt]
    rfl
  have hRe : R.isEmpty = false := by cases R with | nil => exact absurd rfl hRn | cons => rfl
  have hk0 : 0 < k := by rw [← hRk]; exact List.length_pos_iff.2 hRn
  have hz : (r.toList == (ByteArray.mk #[]).toList) = false := by rw [hrn, hRe]
  obtain ⟨nn, hnn, hnk, hn0, hmin⟩ : ∃ nn : Nat, nn ≤ 18 ∧ nn ≤ k ∧ 0 < nn ∧ (if (18 : Int) < (k : Nat) then (18 : Int) else (k : Nat)) = (nn : Nat) := by
    by_cases h : 18 < k
    · exact ⟨18, by omega, by omega, by omega, by rw [if_pos (by omega)]; rfl⟩
    · exact ⟨k, by omega, by omega, by omega, by rw [if_neg (by omega)]⟩
  refine wk hE (And.intro hM (And.intro hz (And.intro hk hmin))) ?_
  refine AWp.loop (ι := {i : Nat // i ≤ nn}) (fun p => ⟨[(2, .ptr 2 0), (3, .raw (.bool false)), (4, .raw (.string r)), (5, .raw (.bool G)), (6, .ns .u64 (dg M)), (7, .raw (.int .i64 (nn : Nat))), (8, .raw (.int .u64 (dv (R.take p.1) : Nat))), (9, .raw (.int .u64 (pw10 p.1 : Nat))), (29, .raw (.int .i64 (nn : Nat))), (30, .raw (.int .i64 (p.1 : Nat)))], [(2, ⟨true, .c [.raw (.bool false), .ns .u64 []]⟩)]⟩)
    (fun p => nn - p.1) ⟨0, Nat.zero_le _⟩ (Le.mk (And.intro (List.take_zero (l := R)) (And.intro dv_nil (show pw10 0 = 1 from rfl)))) ?_
  rintro ⟨i, hi⟩
  dsimp only at hi ⊢
  clear hz hmin hpl hrn
  have hXl : dv (R.take i) < pw10 i := by
    have := dv_lt (take_all hRa i)
    rwa [List.length_take, Nat.min_eq_left (by omega)] at this
  obtain ⟨X, hX⟩ : ∃ X, dv (R.take i) = X := ⟨_, rfl⟩
  obtain ⟨S, hS⟩ : ∃ S, pw10 i = S := ⟨_, rfl⟩
  rw [hX, hS] at hXl
  have hS0 : 0 < S := by rw [← hS]; exact pw10_pos i
  by_cases hlt : i < nn
  · have hS17 : S ≤ 100000000000000000 := by rw [← hS]; exact pw10_le (j := 17) (by omega)
    obtain ⟨ch, hch⟩ : ∃ ch, R.getD i 0 = ch := ⟨_, rfl⟩
    have hch' : r.data.getD i 0 = ch := by rw [data_getD, hR]; exact hch
    obtain ⟨c, hc⟩ : ∃ c, ch.toNat = c := ⟨_, rfl⟩
    have hget : R[i]? = some ch := by
      rw [← hch, List.getD_eq_getElem?_getD, List.getElem?_eq_getElem (by omega)]; rfl
    have hmem : ch ∈ R := List.mem_of_getElem? hget
    have hcd := isD_spec (List.all_eq_true.1 hRa ch hmem)
    rw [hc] at hcd
    obtain ⟨hc48, hc57⟩ := hcd
    obtain ⟨e, he⟩ : ∃ e : Nat, c - 48 = e := ⟨_, rfl⟩
    have he' : (c : Int) - 48 = (e : Nat) := by omega
    have he9 : e ≤ 9 := by omega
    have hX' : dv (R.take (i + 1)) = 10 * X + e := by
      rw [List.take_add_one, hget]
      simp only [Option.toList_some]
      rw [dv_snoc, hX, ← he, ← hc]; rfl
    have hS' : pw10 (i + 1) = 10 * S := by rw [pw10_succ, hS]
    refine wk hE (And.intro hX (And.intro hS (And.intro hk (And.intro hch' (And.intro hc (And.intro he' (show (i : Int) < nn by omega))))))) ?_
    exact ⟨⟨i + 1, hlt⟩, Le.mk (And.intro hX' hS'), by dsimp only; omega⟩
  · have hin : i = nn := by omega
    subst hin
    have hS18 : S ≤ 1000000000000000000 := by rw [← hS]; exact pw10_le (j := 18) (by omega)
    have lS : Lm [(S : Int)] := ⟨lim1 (by omega), by simp⟩
    have lX : Lm [(X : Int)] := ⟨lim1 (by omega), by simp⟩
    have nS : nb [(S : Int)] = S := by simp [nb, nv]
    have nX : nb [(X : Int)] = X := by simp [nb, nv]
    have nMS : nb (dg (M * S)) = M * S := nb_dg _
    have hnew : dv (pre ++ R.take i) = M * S + X := by
      rw [dv_app, hM, hX, List.length_take, Nat.min_eq_left (by omega), ← hS]; rfl
    have hna : (pre ++ R.take i).all isD = true := by rw [List.all_append, hpa, take_all hRa]; rfl
    have hnl : (pre ++ R.take i).length ≤ 1000 := by
      rw [List.length_append, List.length_take]
      have := congrArg List.length hpr
      rw [List.length_append] at this; omega
    obtain ⟨b3, b4⟩ := dv_lm hna hnl
    rw [hnew] at b3 b4
    have hle : (dg (M * S)).length ≤ (dg (M * S + X)).length := (digs_length_le (by decide) _ _).2 (Nat.lt_of_le_of_lt (Nat.le_add_right _ _) ((digs_length_le (B := B64) (by decide) _ _).1 (Nat.le_refl _)))
    have b5 : Lm (dg (M * S)) := lm_dg (by omega)
    have b6 : (dg (M * S)).length < 100000 := by omega
    obtain ⟨r', hr'⟩ : ∃ r', r.extract i k = r' := ⟨_, rfl⟩
    have hrl : r'.data.toList = R.drop i := by rw [← hr', extract_list, hR, List.take_of_length_le (by omega)]
    have hrs : r'.size < r.size := by rw [← size_len, hrl, hk, List.length_drop]; omega
    refine wk hE (And.intro hX (And.intro hS (And.intro hk (And.intro nM (And.intro nS (And.intro nX (And.intro nMS (And.intro hr' (show ¬ (i : Int) < i by omega))))))))) ?_
    exact ⟨⟨(pre ++ R.take i, r'), by rw [hrl, List.append_assoc, List.take_append_drop, hpr]⟩, Le.mk hnew, hrs⟩
end Go.Hl

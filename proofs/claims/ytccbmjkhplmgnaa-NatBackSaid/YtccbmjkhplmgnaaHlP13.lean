/- strings.IndexByte; nat.Parse -/
import Derived.Test.YtccbmjkhplmgnaaHlBa
import Derived.Test.YtccbmjkhplmgnaaHlPa
import Derived.Test.YtccbmjkhplmgnaaHlH
set_option linter.unusedVariables false
set_option linter.unusedSimpArgs false
namespace Go.Hl
open Go Go.RowKit Go.Proofs
set_option maxHeartbeats 4000000

@[push_cast] def spIB : Sp where
  kind := 0
  pre | [.raw (.string _), .raw (.int .u8 _)] => True
      | _ => False
  res | [.raw (.string s), .raw (.int .u8 c)] => .raw (.int .i64 (Lib.indexByte s.data.toList c.toNat.toUInt8))
      | _ => .any

theorem indexByte_ok : SpOK Try.prog 131 spIB := by
  refine SpOK.zero rfl fun args hp => ?_
  simp only [spIB] at hp ⊢
  split at hp
  · rename_i s c
    intro w X vs hX hl hr
    obtain ⟨v0, h0, r0⟩ := hr 0 _ rfl
    obtain ⟨v1, h1, r1⟩ := hr 1 _ rfl
    have e0 := RI.raw_inv r0
    have e1 := RI.raw_inv r1
    subst e0 e1
    have hvs : vs = #[.string s, .int .u8 c] := by
      apply Array.ext_getElem?
      intro i
      match i with
      | 0 => exact h0
      | 1 => exact h1
      | i + 2 =>
        have : vs.size = 2 := by simpa using hl
        rw [Array.getElem?_eq_none (by omega), Array.getElem?_eq_none (by simp)]
    subst hvs
    refine .inr ⟨run_callFunc_body Try.func131 rfl (by decide) _ w, (indexByte_calls s c w).mono fun e w' ⟨h1, h2⟩ => ?_⟩
    subst h2
    exact ⟨_, h1, RI.raw _, Below.refl _ _⟩
  · exact hp.elim

def upL : List UInt8 := [65, 66, 67, 68, 69, 70]
def idxOk (ch : UInt8) : Bool :=
  (decide (Lib.indexByte hexL ch = (hexV ch : Int)) && decide (hexV ch < 16)) ||
  (decide (Lib.indexByte hexL ch = -1) && ((decide (Lib.indexByte upL ch + 10 = (hexV ch : Int)) && decide (10 ≤ hexV ch) && decide (hexV ch < 16)) || (decide (Lib.indexByte upL ch = -1) && decide (hexV ch = 16))))
theorem idx_all : ∀ n, n < 256 → idxOk (UInt8.ofNat n) = true := by decide +kernel
theorem idx_cases (ch : UInt8) : (Lib.indexByte hexL ch = (hexV ch : Int) ∧ hexV ch < 16) ∨ (Lib.indexByte hexL ch = -1 ∧ ((Lib.indexByte upL ch + 10 = (hexV ch : Int) ∧ 10 ≤ hexV ch ∧ hexV ch < 16) ∨ (Lib.indexByte upL ch = -1 ∧ hexV ch = 16))) := by
  have h := idx_all ch.toNat ch.toNat_lt
  rw [UInt8.ofNat_toNat] at h
  simpa [idxOk, and_assoc] using h

/-- What is read of a text. -/
def parseR (s : ByteArray) : List Int := if hexOk s.data.toList = true then dg (nv 16 (hexR s.data.toList)) else []
@[push_cast] def spParse : Sp := spS 0 (fun s => s.size < 1000000000) (fun s => .tup [.ns .u64 (parseR s), .raw (.bool (hexOk s.data.toList))])

theorem size_list (s : ByteArray) : s.data.toList.length = s.size := by rw [Array.length_toList]; rfl
theorem getD_list (s : ByteArray) (i : Nat) : s.data.getD i 0 = s.data.toList.getD i 0 := by
  rw [Array.getD_eq_getD_getElem?, List.getD_eq_getElem?_getD, Array.getElem?_toList]

theorem parse_ok : SpOK Try.prog 55 spParse := by
  refine SpOK.S fun s hs => ?_
  have hE := env (SOK.cons indexByte_ok (SOK.cons trim_ok (SOK.nil (P := Try.prog))))
  have hsz := size_list s
  obtain ⟨n, hn⟩ : ∃ n, s.size = n := ⟨_, rfl⟩
  rw [hn] at hs hsz
  refine ACall.body hE Try.func55 Try.ntmps55 Try.results55 ?_
  by_cases h0 : n = 0
  · have he : (s.toList == (⟨#[]⟩ : ByteArray).toList) = true := by
      have : s = ⟨#[]⟩ := by
        apply ByteArray.ext
        apply Array.eq_empty_of_size_eq_zero
        exact hn.trans h0
      rw [this]; exact beq_self_eq_true _
    have hok : hexOk s.data.toList = false := by
      have : s.data.toList = [] := List.eq_nil_of_length_eq_zero (by omega)
      rw [this]; rfl
    refine wk hE he ?_
    refine PostL.mk trivial ?_
    simp [parseR, hok]
  have he : (s.toList == (⟨#[]⟩ : ByteArray).toList) = false := by
    rw [beq_eq_false_iff_ne]
    intro e
    have : s = ⟨#[]⟩ := ByteArray.ext (Array.ext' (by rw [ByteArray.toList_eq] at e; rw [e, ByteArray.toList_eq]))
    rw [this] at hn
    exact h0 hn.symm
  obtain ⟨L, hL⟩ : ∃ L, n / 16 + 1 = L := ⟨_, rfl⟩
  have t1 : (n : Int) / 16 + 1 = (L : Int) := by omega
  obtain ⟨R, hR⟩ : ∃ R, hexR s.data.toList = R := ⟨_, rfl⟩
  have hRl : R.length = n := by rw [← hR, hexR_length, hsz]
  refine wk hE (And.intro he (And.intro hn t1)) ?_
  refine AWp.loop (ι := {p : Nat × List Int // p.1 ≤ n ∧ PrsI R p.2 (n - p.1) ∧ ∀ j, j < p.1 → hexV (s.data.toList.getD j 0) < 16})
    (fun p => ⟨[(0, .raw (.string s)), (4, .os 14 1 0 L), (16, .raw (.int .i64 (n : Nat))), (17, .raw (.int .i64 (p.1.1 : Nat)))], [(14, ⟨true, .n .u64 p.1.2⟩)]⟩)
    (fun p => n - p.1.1) ⟨(0, List.replicate L 0), Nat.zero_le _, ?_, fun j hj => by omega⟩ (Le.mk trivial) ?_
  · dsimp only
    rw [Nat.sub_zero, ← hRl]
    exact PrsI.start (by rw [hRl, hL]; simp) (by rw [hRl, hL])
  rintro ⟨⟨i, out⟩, hi, hI, hV⟩
  dsimp only at hi hI hV ⊢
  have hol := hI.hl
  rw [hRl] at hol
  by_cases hlt : i < n
  · obtain ⟨ch, hch⟩ : ∃ ch, s.data.toList.getD i 0 = ch := ⟨_, rfl⟩
    have hch' : s.data.getD i 0 = ch := by rw [getD_list]; exact hch
    have hcc : (ch.toNat).toUInt8 = ch := UInt8.ofNat_toNat
    obtain ⟨k, hk⟩ : ∃ k, n - (i + 1) = k := ⟨_, rfl⟩
    have tk : (n : Int) - 1 - i = k := by omega
    have hnk : n - i = k + 1 := by omega
    rw [hnk] at hI
    have hmem : ch ∈ s.data.toList := by
      rw [← hch, List.getD_eq_getElem?_getD, List.getElem?_eq_getElem (by omega)]
      exact List.getElem_mem _
    obtain ⟨v, hv⟩ : ∃ v, hexV ch = v := ⟨_, rfl⟩
    have hRv : hexV ch < 16 → (v : Int) = R.getD k 0 := fun _ => by
      rw [← hR, hexR_get _ (by omega), hsz, show n - 1 - k = i by omega, hch, hv]
    have t3 : ((k : Int) / 16).toNat = k / 16 := by omega
    have t4 : (4 * ((k : Int) % 16)).toNat = 4 * (k % 16) := by omega
    have step : v < 16 → ∃ o w : Int, out.getD (k / 16) 0 = o ∧ (v : Int) * 2 ^ (4 * (k % 16)) = w ∧ bits .or .u64 o w = o + w ∧ 0 ≤ w ∧ w < 18446744073709551616 ∧ PrsI R (out.set (k / 16) (o + w)) k := fun h16 => by
      obtain ⟨s1, s2, s3, s4, s5, s6, s7⟩ := hI.step (v := v) (by omega) (hRv (by omega)) rfl
      exact ⟨_, _, rfl, rfl, or_join (4 * (k % 16) + 4) _ _ s2 s4 s3 s5 s6 s7, s5, s7, s1⟩
    have hV2 : v < 16 → ∀ j, j < i + 1 → hexV (s.data.toList.getD j 0) < 16 := fun h16 j hj => by
      rcases Nat.lt_or_ge j i with h | h
      · exact hV j h
      · rw [show j = i by omega, hch, hv]; exact h16
    have hk2 : n - (i + 1) = k := hk
    rcases idx_cases ch with ⟨c1, c2⟩ | ⟨c1, c2 | c2⟩
    · rw [hv] at c1 c2
      have c1' : Lib.indexByte [48, 49, 50, 51, 52, 53, 54, 55, 56, 57, 97, 98, 99, 100, 101, 102] ch = (v : Int) := c1
      obtain ⟨o, w, ho, hw, hor, w0, w1, hst⟩ := step c2
      refine wk hE (And.intro hn (And.intro hch' (And.intro hcc (And.intro c1' (And.intro (show (i : Int) < n by omega) (And.intro tk (And.intro t3 (And.intro t4 (And.intro ho (And.intro hw (And.intro hor (show ¬ (v : Int) < 0 by omega)))))))))))) ?_
      exact ⟨⟨(i + 1, out.set (k / 16) (o + w)), hlt, by dsimp only; rw [hk2]; exact hst, hV2 c2⟩, Le.mk trivial, by dsimp only; omega⟩
    · rw [hv] at c2
      obtain ⟨c2, c3, c4⟩ := c2
      have c1' : Lib.indexByte [48, 49, 50, 51, 52, 53, 54, 55, 56, 57, 97, 98, 99, 100, 101, 102] ch = -1 := c1
      have c2' : 10 + Lib.indexByte [65, 66, 67, 68, 69, 70] ch = (v : Int) := by rw [Int.add_comm]; exact c2
      obtain ⟨o, w, ho, hw, hor, w0, w1, hst⟩ := step c4
      obtain ⟨y, hy⟩ : ∃ y, Lib.indexByte [65, 66, 67, 68, 69, 70] ch = y := ⟨_, rfl⟩
      rw [hy] at c2'
      refine wk hE (And.intro hn (And.intro hch' (And.intro hcc (And.intro c1' (And.intro (show (i : Int) < n by omega) (And.intro tk (And.intro t3 (And.intro t4 (And.intro ho (And.intro hw (And.intro hor (And.intro hy (And.intro c2' (show ¬ (v : Int) < 10 by omega)))))))))))))) ?_
      exact ⟨⟨(i + 1, out.set (k / 16) (o + w)), hlt, by dsimp only; rw [hk2]; exact hst, hV2 c4⟩, Le.mk trivial, by dsimp only; omega⟩
    · have c1' : Lib.indexByte [48, 49, 50, 51, 52, 53, 54, 55, 56, 57, 97, 98, 99, 100, 101, 102] ch = -1 := c1
      have c2' : Lib.indexByte [65, 66, 67, 68, 69, 70] ch = -1 := c2.1
      have hok := hexOk_bad hmem (by omega)
      refine wk hE (And.intro hn (And.intro hch' (And.intro hcc (And.intro c1' (And.intro (show (i : Int) < n by omega) (And.intro tk c2')))))) ?_
      refine PostL.mk trivial ?_
      simp [parseR, hok]
  · have hin : i = n := by omega
    subst hin
    rw [Nat.sub_self] at hI
    have hd := hI.done
    have hok : hexOk s.data.toList = true := by
      refine hexOk_of (fun e => h0 (by rw [← hsz, e]; rfl)) (fun c hc => ?_)
      obtain ⟨j, hj, e⟩ := List.getElem_of_mem hc
      have := hV j (by omega)
      rwa [List.getD_eq_getElem?_getD, List.getElem?_eq_getElem hj, Option.getD_some, e] at this
    have hlm : Lm out := ⟨hI.hd, by omega⟩
    refine wk hE (And.intro hd (show ¬ (i : Int) < i by omega)) ?_
    refine PostL.mk trivial ?_
    simp only [parseR, hok, if_true, hR]
end Go.Hl

/- ZedTexts (seat .D) -/
import Derived.Test.YtccbmjkhplmgnaaDoorHlT1
import Derived.Test.YtccbmjkhplmgnaaDoorHlT3
import Derived.Test.YtccbmjkhplmgnaaDoorHlZ9
import Derived.Test.YtccbmjkhplmgnaaDoorHlZ7
import Derived.Test.YtccbmjkhplmgnaaDoorHlZ6
set_option linter.unusedVariables false
set_option linter.unusedSimpArgs false
namespace Go.Hl
open Go Go.RowKit Go.Proofs
set_option maxHeartbeats 8000000

theorem lm_take' {xs : List Int} (h : Lim B64 xs) {n : Nat} (hn : n ≤ 1000) : Lm (xs.take n) ∧ (xs.take n).length ≤ n :=
  ⟨⟨fun x hx => h x (List.mem_of_mem_take hx), by rw [List.length_take]; omega⟩, by rw [List.length_take]; omega⟩

theorem zedTexts_ok {b : Bool} {xs : List Int} {s : ByteArray} (hx : Lim B64 xs) (hs : s.size ≤ maxLen) :
    ACall Tryd.prog 3 [.agg [.raw (.bool b), .ns .u64 xs], .raw (.string s)] (.raw (.bool true)) := by
  have hE := env (SOK.cons shown2_ok (SOK.cons zcut_ok (SOK.cons zparse_ok (SOK.cons rparse_ok (SOK.cons equal_ok (SOK.cons text_ok (SOK.cons rtext_ok (SOK.nil (P := Tryd.prog)))))))))
  obtain ⟨hA, hAl⟩ := lm_take' hx (n := 6) (by decide)
  obtain ⟨A, eA⟩ : ∃ A, xs.take 6 = A := ⟨_, rfl⟩
  rw [eA] at hA hAl
  obtain ⟨Z, eZ⟩ : ∃ Z, zv b A = Z := ⟨_, rfl⟩
  obtain ⟨t, ht⟩ : ∃ t, ByteArray.mk (textL Z).toArray = t := ⟨_, rfl⟩
  have hq : (t.toList == t.toList) = true := beq_self_eq_true _
  obtain ⟨n, hn⟩ : ∃ n, s.size = n := ⟨_, rfl⟩
  have hs : n ≤ 9223372036854775807 := by rw [← hn]; exact hs
  refine ACall.body hE Tryd.func3 Tryd.ntmps3 Tryd.results3 ?_
  have vl : ∀ s1 : ByteArray, s1.size ≤ 100 → (dg (pV s1.data.toList).natAbs).length < 1000000000 := fun s1 h => by
    by_cases ho : pO s1.data.toList = true
    · have hal : (pD s1.data.toList).all isD = true := by unfold pO at ho; rw [Bool.and_eq_true] at ho; exact ho.2
      have hl : (pD s1.data.toList).length ≤ 1000 := by
        have := size_len s1
        rw [pD_eq]; split
        · rw [List.length_drop]; omega
        · omega
      have := (dv_lm hal hl).2
      have e : (pV s1.data.toList).natAbs = dv (pD s1.data.toList) := by unfold pV; rw [if_pos ho]; split <;> simp
      rw [e]; omega
    · have e : (pV s1.data.toList).natAbs = 0 := by unfold pV; rw [if_neg ho]; rfl
      rw [e, dg_zero]; simp
  by_cases h100 : 100 < n
  · obtain ⟨s1, hs1⟩ : ∃ s1, s.extract 0 100 = s1 := ⟨_, rfl⟩
    have hsz : s1.size ≤ 100 := by rw [← size_len, ← hs1, extract_list]; simp; omega
    obtain ⟨V, eV⟩ : ∃ V, pV s1.data.toList = V := ⟨_, rfl⟩
    obtain ⟨O, eO⟩ : ∃ O, pO s1.data.toList = O := ⟨_, rfl⟩
    have hv := vl s1 hsz
    rw [eV] at hv
    have hd : decide (dg V.natAbs = dg V.natAbs) = true := decide_eq_true rfl
    refine wk hE (And.intro eA (And.intro eZ (And.intro ht (And.intro hq (And.intro hn (And.intro (show (100 : Int) < n by omega) (And.intro hs1 (And.intro eV (And.intro eO hd))))))))) ?_
    exact PostL.mk trivial rfl
  · obtain ⟨V, eV⟩ : ∃ V, pV s.data.toList = V := ⟨_, rfl⟩
    obtain ⟨O, eO⟩ : ∃ O, pO s.data.toList = O := ⟨_, rfl⟩
    have hv := vl s (by omega)
    rw [eV] at hv
    have hd : decide (dg V.natAbs = dg V.natAbs) = true := decide_eq_true rfl
    refine wk hE (And.intro eA (And.intro eZ (And.intro ht (And.intro hq (And.intro hn (And.intro (show ¬ (100 : Int) < n by omega) (And.intro eV (And.intro eO hd)))))))) ?_
    exact PostL.mk trivial rfl
end Go.Hl

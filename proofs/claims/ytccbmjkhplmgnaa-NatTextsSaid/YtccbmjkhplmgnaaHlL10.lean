/- NatTexts, NatBack -/
import Derived.Test.YtccbmjkhplmgnaaHlL3
import Derived.Test.YtccbmjkhplmgnaaHlR11
import Derived.Test.YtccbmjkhplmgnaaHlP13
import Derived.Test.YtccbmjkhplmgnaaHlMa
set_option linter.unusedVariables false
set_option linter.unusedSimpArgs false
namespace Go.Hl
open Go Go.RowKit Go.Proofs
set_option maxHeartbeats 8000000

theorem parseR_len (s : ByteArray) : (parseR s).length ≤ s.size := by
  unfold parseR
  split
  · rename_i h
    refine dg_len_le.2 ?_
    have h1 := nv_lt (hexOk_lim h)
    rw [hexR_length, size_list] at h1
    exact Nat.lt_of_lt_of_le h1 (Nat.pow_le_pow_left (by decide) _)
  · simp

theorem natTexts_ok {xs : List Int} (hx : Lim B64 xs) {s : ByteArray} (hs : s.size ≤ maxLen) : ACall Try.prog 12 [.ns .u64 xs, .raw (.string s)] (.raw (.bool true)) := by
  have hE := env (SOK.cons shown_ok (SOK.cons cut_ok (SOK.cons parse_ok (SOK.cons rparse_ok (SOK.cons hex_ok (SOK.cons rhex_ok (SOK.cons same_ok (SOK.nil (P := Try.prog)))))))))
  obtain ⟨hA, hAl⟩ := lm_take hx (n := 40) (by decide)
  obtain ⟨A, eA⟩ : ∃ A, xs.take 40 = A := ⟨_, rfl⟩
  rw [eA] at hA hAl
  obtain ⟨a, ea⟩ : ∃ a, nb A = a := ⟨_, rfl⟩
  have key : ∀ T : ByteArray, T.size ≤ 600 → (parseR T).length < 1000000000 := fun T h => by have := parseR_len T; omega
  have hq : ((⟨(hexT a).toArray⟩ : ByteArray).toList == (⟨(hexT a).toArray⟩ : ByteArray).toList) = true := beq_self_eq_true _
  refine ACall.body hE Try.func12 Try.ntmps12 Try.results12 ?_
  by_cases h : 600 < s.size
  · obtain ⟨T, hT⟩ : ∃ T, s.extract 0 600 = T := ⟨_, rfl⟩
    have hTs : T.size ≤ 600 := by rw [← hT, ByteArray.size_extract]; omega
    have hk := key T hTs
    have hb : (hexOk T.data.toList == hexOk T.data.toList) = true := beq_self_eq_true _
    refine wk hE (And.intro eA (And.intro ea (And.intro hT (And.intro hq (And.intro hb (show (600 : Int) < s.size by omega)))))) ?_
    exact PostL.mk trivial rfl
  · have hk := key s (by omega)
    have hb : (hexOk s.data.toList == hexOk s.data.toList) = true := beq_self_eq_true _
    refine wk hE (And.intro eA (And.intro ea (And.intro hq (And.intro hb (show ¬ (600 : Int) < s.size by omega))))) ?_
    exact PostL.mk trivial rfl

theorem str_pre (l : List UInt8) (j : Nat) : (⟨#[48]⟩ : ByteArray) ++ (⟨(List.replicate j 48 ++ l).toArray⟩ : ByteArray) = ⟨(List.replicate (j + 1) 48 ++ l).toArray⟩ := by
  apply ByteArray.ext
  simp [ByteArray.data_append, List.replicate_succ]

theorem hexT_len {n k : Nat} (h : n < 16 ^ k) : (hexT n).length ≤ k + 1 := by
  unfold hexT
  split
  · simp
  · have := hx_len n k h; omega

theorem hexT_bd {n k : Nat} (h : n < B64 ^ k) : (hexT n).length ≤ 16 * k + 1 := hexT_len (by rw [Nat.pow_mul]; exact h)

theorem natBack_ok {xs : List Int} (hx : Lim B64 xs) {n : Int} (_hn : (Lit.int .i64 n).wf = true) : ACall Try.prog 13 [.ns .u64 xs, .raw (.int .i64 n)] (.raw (.bool true)) := by
  have hE := env (SOK.cons shown_ok (SOK.cons cut_ok (SOK.cons parse_ok (SOK.cons hex_ok (SOK.cons norm_ok (SOK.cons same_ok (SOK.nil (P := Try.prog))))))))
  obtain ⟨hA, hAl⟩ := lm_take hx (n := 40) (by decide)
  have bA := nb_take_pow hx 40
  obtain ⟨A, eA⟩ : ∃ A, xs.take 40 = A := ⟨_, rfl⟩
  rw [eA] at hA hAl bA
  obtain ⟨a, ea⟩ : ∃ a, nb A = a := ⟨_, rfl⟩
  rw [ea] at bA
  obtain ⟨q1, q1l⟩ := lmd bA (by decide)
  obtain ⟨m, hm⟩ : ∃ m : Nat, n % 32 = m := Int.eq_ofNat_of_zero_le (Int.emod_nonneg _ (by decide))
  have hm2 : m < 32 := by omega
  have hTl : (hexT a).length ≤ 16 * 40 + 1 := hexT_bd bA
  refine ACall.body hE Try.func13 Try.ntmps13 Try.results13 ?_
  obtain ⟨H, hH⟩ : ∃ H, hexT a = H := ⟨_, rfl⟩
  rw [hH] at hTl
  refine wk hE (And.intro eA (And.intro ea hH)) ?_
  refine AWp.loop (ι := {j : Nat // j ≤ m}) (fun j => ⟨[(0, .ns .u64 A), (1, .raw (.int .i64 n)), (5, .raw (.bool true)), (6, .raw (.string ⟨(List.replicate j.1 48 ++ H).toArray⟩)), (7, .raw (.int .i64 (j.1 : Nat)))], []⟩) (fun j => m - j.1) ⟨0, Nat.zero_le _⟩ (Le.mk (show List.replicate 0 (48 : UInt8) ++ H = H from rfl)) ?_
  rintro ⟨j, hj⟩
  dsimp only at hj ⊢
  by_cases h : j < m
  · have hp := str_pre H j
    have hs1 : (⟨#[48]⟩ : ByteArray).size = 1 := rfl
    have hs2 : (⟨(List.replicate j 48 ++ H).toArray⟩ : ByteArray).size = j + H.length := by rw [str_size]; simp
    refine wk hE (And.intro hm (And.intro hp (And.intro hs1 (And.intro hs2 (show (j : Int) < m by omega))))) ?_
    exact ⟨⟨j + 1, h⟩, Le.mk trivial, by dsimp only; omega⟩
  · obtain ⟨b1, b2⟩ := hex_back a j
    rw [hH] at b1 b2
    have hp : parseR ⟨(List.replicate j 48 ++ H).toArray⟩ = dg a := by
      unfold parseR
      rw [if_pos b1, b2]
    obtain ⟨Z, hZ⟩ : ∃ Z, List.replicate j 48 ++ H = Z := ⟨_, rfl⟩
    have hs2 : (⟨Z.toArray⟩ : ByteArray).size = Z.length := str_size Z
    have hZl : Z.length = j + H.length := by rw [← hZ]; simp
    rw [hZ] at hp b1
    have b1' : hexOk (⟨Z.toArray⟩ : ByteArray).data.toList = true := b1
    refine wk hE (And.intro hm (And.intro hZ (And.intro hs2 (And.intro hp (And.intro b1 (And.intro ea (show ¬ (j : Int) < m by omega))))))) ?_
    exact PostL.mk trivial rfl
end Go.Hl

/- ZedBack (seat .D) -/
import Derived.Test.YtccbmjkhplmgnaaDoorHlT4
import Derived.Test.YtccbmjkhplmgnaaDoorHlZ3
import Derived.Test.YtccbmjkhplmgnaaDoorHlMa
set_option linter.unusedVariables false
set_option linter.unusedSimpArgs false
namespace Go.Hl
open Go Go.RowKit Go.Proofs
set_option maxHeartbeats 8000000

/-- Noughts ahead of a text. -/
def zk (l : List UInt8) (k : Nat) : ByteArray := ⟨(List.replicate k 48 ++ l).toArray⟩
theorem zk_list (l : List UInt8) (k : Nat) : (zk l k).data.toList = List.replicate k 48 ++ l := rfl
theorem zk_zero (l : List UInt8) : zk l 0 = ⟨l.toArray⟩ := rfl
theorem zk_succ (l : List UInt8) (k : Nat) : ByteArray.mk #[48] ++ zk l k = zk l (k + 1) := str_app [48] _
theorem zk_neg (l : List UInt8) (k : Nat) : (ByteArray.mk #[45] ++ zk l k).data.toList = 45 :: (List.replicate k 48 ++ l) := by
  rw [show ByteArray.mk #[45] ++ zk l k = _ from str_app [45] _]; rfl
theorem zk_size (l : List UInt8) (k : Nat) : (zk l k).size = k + l.length := by
  rw [← size_len, zk_list, List.length_append, List.length_replicate]
theorem textL_len {N : Nat} {L : Nat} (h : (dg N).length ≤ L) : (textL (N : Int)).length ≤ 20 * L + 1 := by
  have h1 : N < B64 ^ L := (digs_length_le (by decide) _ _).1 h
  have h2 : B64 ^ L ≤ 10 ^ (20 * L) := by
    rw [Nat.pow_mul]; exact Nat.pow_le_pow_left (by decide) _
  have h3 : (digs 10 N).length ≤ 20 * L := (digs_length_le (by decide) _ _).2 (Nat.lt_of_lt_of_le h1 h2)
  have h4 : (dx N).length = (digs 10 N).length := by unfold dx; simp
  unfold textL
  split
  · simp
  · rw [if_neg (by omega), Int.natAbs_natCast]; simp; omega

theorem zedBack_ok {b : Bool} {xs : List Int} {m : Int} (hx : Lim B64 xs) :
    ACall Tryd.prog 4 [.agg [.raw (.bool b), .ns .u64 xs], .raw (.int .i64 m)] (.raw (.bool true)) := by
  have hE := env (SOK.cons shown2_ok (SOK.cons zcut_ok (SOK.cons zparse_ok (SOK.cons zabs_ok (SOK.cons text_ok (SOK.cons sign_ok (SOK.cons zsame_ok (SOK.nil (P := Tryd.prog)))))))))
  obtain ⟨hA, hAl⟩ := lm_take' hx (n := 6) (by decide)
  obtain ⟨A, eA⟩ : ∃ A, xs.take 6 = A := ⟨_, rfl⟩
  rw [eA] at hA hAl
  obtain ⟨Z, eZ⟩ : ∃ Z, zv b A = Z := ⟨_, rfl⟩
  obtain ⟨N, eN⟩ : ∃ N, Z.natAbs = N := ⟨_, rfl⟩
  have hNb : N = nb A := by rw [← eN, ← eZ]; unfold zv; rw [zs_abs]
  have hNl : (dg N).length ≤ 6 := by rw [hNb]; exact Nat.le_trans ((digs_length_le (by decide) _ _).2 (nv_lt hA.1)) hAl
  have hNm : Lm (dg N) := lm_dg (by omega)
  have hNm2 : (dg N).length < 100000 := by omega
  obtain ⟨tx, htx⟩ : ∃ tx, textL (N : Int) = tx := ⟨_, rfl⟩
  have htl := textL_len hNl
  rw [htx] at htl
  obtain ⟨c, hc, hc16⟩ : ∃ c : Nat, m % 16 = (c : Nat) ∧ c < 16 := ⟨(m % 16).toNat, by omega, by omega⟩
  have hZ : Z = N ∨ Z = -(N : Int) := by omega
  refine ACall.body hE Tryd.func4 Tryd.ntmps4 Tryd.results4 ?_
  refine wk hE (And.intro eA (And.intro eZ (And.intro eN htx))) ?_
  refine AWp.loop (ι := {k : Nat // k ≤ c}) (fun p => ⟨[(1, .raw (.int .i64 m)), (2, .ptr 2 0), (4, .raw (.bool false)), (5, .raw (.bool true)), (6, .raw (.string (zk tx p.1))), (7, .raw (.int .i64 (p.1 : Nat)))], [(2, ⟨true, .c [.raw (.bool b), .ns .u64 A]⟩)]⟩)
    (fun p => c - p.1) ⟨0, Nat.zero_le _⟩ (Le.mk (zk_zero tx)) ?_
  rintro ⟨k, hk⟩
  dsimp only at hk ⊢
  have hzs := zk_size tx k
  obtain ⟨B, hB⟩ : ∃ B, zk tx k = B := ⟨_, rfl⟩
  obtain ⟨q, hq⟩ : ∃ q, B.size = q := ⟨_, rfl⟩
  rw [hB, hq] at hzs
  by_cases hlt : k < c
  · have h48 : (ByteArray.mk #[48]).size = 1 := rfl
    have hsu := zk_succ tx k
    rw [hB] at hsu
    refine wk hE (And.intro hB (And.intro hc (And.intro hq (And.intro h48 (And.intro hsu (show (k : Int) < c by omega)))))) ?_
    exact ⟨⟨k + 1, hlt⟩, Le.mk trivial, by dsimp only; omega⟩
  · have hkc : k = c := by omega
    subst hkc
    by_cases hneg : Z < 0
    · have hsg : Z.sign < 0 := by rw [Int.sign_eq_neg_one_of_neg hneg]; decide
      obtain ⟨G, eG⟩ : ∃ G, Z.sign = G := ⟨_, rfl⟩
      rw [eG] at hsg
      obtain ⟨B1, hB1⟩ : ∃ B1, ByteArray.mk #[45] ++ B = B1 := ⟨_, rfl⟩
      have hB1l : B1.data.toList = 45 :: (List.replicate k 48 ++ textL (N : Int)) := by rw [← hB1, ← hB, zk_neg, htx]
      have h45 : (ByteArray.mk #[45]).size = 1 := rfl
      have hB1s : B1.size ≤ 1000 := by
        have : B1.data.toList.length = B1.size := size_len B1
        rw [hB1l, htx, List.length_cons, List.length_append, List.length_replicate] at this
        omega
      obtain ⟨o1, o2⟩ := back_neg N k
      rw [← hB1l] at o1 o2
      have hZN : -(N : Int) = Z := by omega
      rw [hZN] at o2
      have hd : decide (Z = Z) = true := decide_eq_true rfl
      have hzv : zv (decide (Z < 0)) (dg N) = Z := by rw [← eN, zv_zi]
      have eG' : G < 0 := hsg
      refine wk hE (And.intro hB (And.intro hc (And.intro hq (And.intro h45 (And.intro hB1 (And.intro eZ (And.intro eN (And.intro eG (And.intro o1 (And.intro o2 (And.intro hd (And.intro hzv (And.intro eG' (show ¬ (k : Int) < k by omega)))))))))))))) ?_
      exact PostL.mk trivial rfl
    · have hsg : ¬ Z.sign < 0 := fun h => hneg (Int.sign_neg_iff.1 h)
      obtain ⟨G, eG⟩ : ∃ G, Z.sign = G := ⟨_, rfl⟩
      rw [eG] at hsg
      have hBl : B.data.toList = List.replicate k 48 ++ textL (N : Int) := by rw [← hB, zk_list, htx]
      obtain ⟨o1, o2⟩ := back_pos N k
      rw [← hBl] at o1 o2
      have hZN : (N : Int) = Z := by omega
      rw [hZN] at o2
      have hd : decide (Z = Z) = true := decide_eq_true rfl
      have hzv : zv (decide (Z < 0)) (dg N) = Z := by rw [← eN, zv_zi]
      refine wk hE (And.intro hB (And.intro hc (And.intro hq (And.intro eZ (And.intro eN (And.intro eG (And.intro o1 (And.intro o2 (And.intro hd (And.intro hzv (And.intro hsg (show ¬ (k : Int) < k by omega)))))))))))) ?_
      exact PostL.mk trivial rfl
end Go.Hl

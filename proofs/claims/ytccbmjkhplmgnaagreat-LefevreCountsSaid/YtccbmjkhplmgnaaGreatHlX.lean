/- lefevre's law: num, Exact, the same ints lefevre's law: the same three numbers; the arcs of the small case lefevre's law: the small case -/
import Derived.Test.YtccbmjkhplmgnaaGreatHlZc
import Derived.Test.YtccbmjkhplmgnaaGreatHlRa
import Derived.Test.YtccbmjkhplmgnaaGreatHlSg2
import Derived.Test.YtccbmjkhplmgnaaGreatHlFa
import Derived.Test.YtccbmjkhplmgnaaGreatHlGc
import Derived.Test.YtccbmjkhplmgnaaGreatHlL0
import Derived.Test.YtccbmjkhplmgnaaGreatHlFb
import Derived.Test.YtccbmjkhplmgnaaGreatHlFc
import Derived.Test.YtccbmjkhplmgnaaGreatHlGb
set_option linter.unusedVariables false
set_option linter.unusedSimpArgs false
namespace Go.Hl
open Go Go.RowKit Go.Proofs
set_option maxHeartbeats 8000000
theorem num_ok : SpOK Tryz.prog 19 spOf := by
  refine SpOK.I fun n ⟨h1, h2⟩ => ?_
  have hE := env (SOK.cons rzof_ok (SOK.nil (P := Tryz.prog)))
  refine ACall.body hE Tryz.func19 Tryz.ntmps19 Tryz.results19 ?_
  refine wk hE trivial ?_
  exact PostL.mk trivial rfl
theorem exact_ok : SpOK Tryz.prog 12 spZEqual := by
  refine SpOK.ZZ fun b A c B ⟨hA, hB⟩ => ?_
  have hE := env (SOK.nil (P := Tryz.prog))
  refine ACall.body hE Tryz.func12 Tryz.ntmps12 Tryz.results12 ?_
  by_cases hbc : b = c
  · subst hbc
    have e0 : (b != b) = false := by simp
    by_cases hl : A.length = B.length
    · have e1 : ((A.length : Int) != (B.length : Int)) = false := by rw [hl]; simp
      refine wk hE (And.intro e0 e1) ?_
      refine AWp.loop (ι := {n : Nat // n ≤ A.length ∧ A.take n = B.take n}) (fun n => ⟨[(2, .ptr 2 0), (3, .ptr 3 0), (5, .raw (.int .i64 (n.1 : Nat)))], [(2, ⟨true, .c [.raw (.bool b), .ns .u64 A]⟩), (3, ⟨true, .c [.raw (.bool b), .ns .u64 B]⟩)]⟩) (fun n => A.length - n.1) ⟨0, Nat.zero_le _, rfl⟩ (Le.mk trivial) ?_
      rintro ⟨n, hn, hd⟩
      dsimp only
      by_cases hlt : n < A.length
      · by_cases hx : A.getD n 0 = B.getD n 0
        · have e2 : (A.getD n 0 != B.getD n 0) = false := by rw [hx]; simp
          refine wk hE (And.intro (show (n : Int) < A.length by omega) e2) ?_
          exact ⟨⟨n + 1, hlt, take_step hlt (by omega) hd hx⟩, Le.mk trivial, by dsimp only; omega⟩
        · have e2 : (A.getD n 0 != B.getD n 0) = true := by rw [bne_iff_ne]; exact hx
          refine wk hE (And.intro (show (n : Int) < A.length by omega) e2) ?_
          refine PostL.mk trivial ?_
          rw [decide_eq_false (fun h => hx (by rw [h]))]; rfl
      · refine wk hE (show ¬ (n : Int) < A.length by omega) ?_
        refine PostL.mk trivial ?_
        rw [List.take_of_length_le (by omega), List.take_of_length_le (by omega)] at hd
        rw [decide_eq_true hd]
        simp [retL, oneOf]
    · have e1 : ((A.length : Int) != (B.length : Int)) = true := by rw [bne_iff_ne]; omega
      refine wk hE (And.intro e0 e1) ?_
      refine PostL.mk trivial ?_
      rw [decide_eq_false (fun h => hl (by rw [h]))]; rfl
  · have e0 : (b == c) = false := by rw [beq_eq_false_iff_ne]; exact hbc
    refine wk hE e0 ?_
    refine PostL.mk trivial ?_
    rw [e0, Bool.and_false]
@[push_cast] def spVV (k : Nat) (pre : List Int → List Int → Prop) (res : List Int → List Int → AV) : Sp where
  kind := k
  pre | [.ns .i64 x0, .ns .i64 x1] => pre x0 x1
      | _ => False
  res | [.ns .i64 x0, .ns .i64 x1] => res x0 x1
      | _ => .any
theorem SpOK.VV {P : Program} {f : FuncId} {pre : List Int → List Int → Prop} {res : List Int → List Int → AV} (h : ∀ x0 x1, pre x0 x1 → ACall P f [.ns .i64 x0, .ns .i64 x1] (res x0 x1)) : SpOK P f (spVV 0 pre res) := by
  refine SpOK.zero rfl fun args hp => ?_
  simp only [spVV] at hp ⊢
  split at hp
  · exact h _ _ hp
  · exact hp.elim
@[push_cast] def spSameI : Sp := spVV 0 (fun xs ys => xs.length < 1000000000 ∧ ys.length < 1000000000) (fun xs ys => .raw (.bool (decide (xs = ys))))
theorem sameI_ok : SpOK Tryz.prog 18 spSameI := by
  refine SpOK.VV fun A B ⟨hA, hB⟩ => ?_
  have hE := env (SOK.nil (P := Tryz.prog))
  refine ACall.body hE Tryz.func18 Tryz.ntmps18 Tryz.results18 ?_
  by_cases hl : A.length = B.length
  · have e1 : ((A.length : Int) != (B.length : Int)) = false := by rw [hl]; simp
    refine wk hE e1 ?_
    refine AWp.loop (ι := {n : Nat // n ≤ A.length ∧ A.take n = B.take n}) (fun n => ⟨[(0, .ns .i64 A), (1, .ns .i64 B), (5, .raw (.int .i64 (n.1 : Nat)))], []⟩) (fun n => A.length - n.1) ⟨0, Nat.zero_le _, rfl⟩ (Le.mk trivial) ?_
    rintro ⟨n, hn, hd⟩
    dsimp only
    by_cases hlt : n < A.length
    · by_cases hx : A.getD n 0 = B.getD n 0
      · have e2 : (A.getD n 0 != B.getD n 0) = false := by rw [hx]; simp
        refine wk hE (And.intro (show (n : Int) < A.length by omega) e2) ?_
        exact ⟨⟨n + 1, hlt, take_step hlt (by omega) hd hx⟩, Le.mk trivial, by dsimp only; omega⟩
      · have e2 : (A.getD n 0 != B.getD n 0) = true := by rw [bne_iff_ne]; exact hx
        refine wk hE (And.intro (show (n : Int) < A.length by omega) e2) ?_
        refine PostL.mk trivial ?_
        rw [decide_eq_false (fun h => hx (by rw [h]))]
    · refine wk hE (show ¬ (n : Int) < A.length by omega) ?_
      refine PostL.mk trivial ?_
      rw [List.take_of_length_le (by omega), List.take_of_length_le (by omega)] at hd
      rw [decide_eq_true hd]
  · have e1 : ((A.length : Int) != (B.length : Int)) = true := by rw [bne_iff_ne]; omega
    refine wk hE e1 ?_
    refine PostL.mk trivial ?_
    rw [decide_eq_false (fun h => hl (by rw [h]))]
end Go.Hl

namespace Go.Hl
open Go Go.RowKit Go.Proofs
set_option maxHeartbeats 8000000
@[push_cast] def spX106 : Sp where
  kind := 0
  pre | [.sl 2 3 [.raw (.bool b0), .ns .u64 x0, .raw (.bool b1), .ns .u64 x1, .raw (.bool b2), .ns .u64 x2], .sl 2 3 [.raw (.bool c0), .ns .u64 y0, .raw (.bool c1), .ns .u64 y1, .raw (.bool c2), .ns .u64 y2]] => (x0.length < 1000000000 ∧ x1.length < 1000000000 ∧ x2.length < 1000000000) ∧ (b0 = c0 ∧ x0 = y0) ∧ (b1 = c1 ∧ x1 = y1) ∧ b2 = c2 ∧ x2 = y2
      | _ => False
  res | _ => .raw (.bool true)
theorem exactAll_ok : SpOK Tryz.prog 22 spX106 := by
  refine SpOK.zero rfl fun args hp => ?_
  simp only [spX106] at hp ⊢
  split at hp
  · rename_i b0 x0 b1 x1 b2 x2 c0 y0 c1 y1 c2 y2
    obtain ⟨⟨l0, l1, l2⟩, ⟨rfl, rfl⟩, ⟨rfl, rfl⟩, rfl, rfl⟩ := hp
    have hE := env (SOK.cons exact_ok (SOK.nil (P := Tryz.prog)))
    refine ACall.body hE Tryz.func22 Tryz.ntmps22 Tryz.results22 ?_
    have d0 : decide (x0 = x0) = true := decide_eq_true rfl
    have d1 : decide (x1 = x1) = true := decide_eq_true rfl
    have d2 : decide (x2 = x2) = true := decide_eq_true rfl
    have e0 : (b0 == b0) = true := beq_self_eq_true _
    have e1 : (b1 == b1) = true := beq_self_eq_true _
    have e2 : (b2 == b2) = true := beq_self_eq_true _
    refine wk hE trivial ?_
    refine AWp.loop (ι := {n : Nat // n ≤ 3}) (fun n => ⟨[(0, .sl 2 3 [.raw (.bool b0), .ns .u64 x0, .raw (.bool b1), .ns .u64 x1, .raw (.bool b2), .ns .u64 x2]), (1, .sl 2 3 [.raw (.bool b0), .ns .u64 x0, .raw (.bool b1), .ns .u64 x1, .raw (.bool b2), .ns .u64 x2]), (5, .raw (.int .i64 (n.1 : Nat)))], []⟩) (fun n => 3 - n.1) ⟨0, Nat.zero_le _⟩ (Le.mk trivial) ?_
    rintro ⟨n, hn⟩
    dsimp only
    rcases (show n = 0 ∨ n = 1 ∨ n = 2 ∨ n = 3 by omega) with rfl | rfl | rfl | rfl
    · refine wk hE (And.intro d0 e0) ?_
      exact ⟨⟨1, by omega⟩, Le.mk trivial, by dsimp only; omega⟩
    · refine wk hE (And.intro d1 e1) ?_
      exact ⟨⟨2, by omega⟩, Le.mk trivial, by dsimp only; omega⟩
    · refine wk hE (And.intro d2 e2) ?_
      exact ⟨⟨3, by omega⟩, Le.mk trivial, by dsimp only; omega⟩
    · refine wk hE trivial ?_
      exact PostL.mk trivial rfl
  · exact hp.elim
theorem mV1 : mV 5 5 17 4 = 3 := mV_eq ⟨⟨3, by decide, by decide, by decide⟩, fun k h0 h1 => by
  rcases (show k = 0 ∨ k = 1 ∨ k = 2 ∨ k = 3 by omega) with rfl | rfl | rfl | rfl <;> decide⟩
theorem mV2 : mV (-5) (-5) 17 4 = 2 := mV_eq ⟨⟨2, by decide, by decide, by decide⟩, fun k h0 h1 => by
  rcases (show k = 0 ∨ k = 1 ∨ k = 2 ∨ k = 3 by omega) with rfl | rfl | rfl | rfl <;> decide⟩
theorem mK1 : mK 5 5 17 4 = 3 := by
  unfold mK
  rw [mV1]
  refine fst_eq (.inr ⟨⟨by decide, by decide⟩, ⟨by decide, by decide⟩, fun j h0 h1 h => ?_⟩)
  rcases (show j = 0 ∨ j = 1 ∨ j = 2 by omega) with rfl | rfl | rfl <;> exact absurd h (by unfold inV Vk; decide)
theorem mK2 : mK (-5) (-5) 17 4 = 2 := by
  unfold mK
  rw [mV2]
  refine fst_eq (.inr ⟨⟨by decide, by decide⟩, ⟨by decide, by decide⟩, fun j h0 h1 h => ?_⟩)
  rcases (show j = 0 ∨ j = 1 by omega) with rfl | rfl <;> exact absurd h (by unfold inV Vk; decide)
theorem dgs (n : Nat) (h0 : 0 < n) (h : n < 18446744073709551616) : dg n = [(n : Int)] := by
  have h1 := eq_digs (B := B64) (xs := [(n : Int)]) (by decide) (Lim.cons (by rw [hB64]; omega) Lim.nil) (.inr (by show (n : Int) ≠ 0; omega))
  have h2 : nv B64 [(n : Int)] = n := nb_one n
  rw [h2] at h1
  exact h1.symm
@[push_cast] def spGapsC : Sp := spZZI 0 (fun b0 x0 b1 x1 n => (Lm x0 ∧ x0.length < 9000) ∧ (Lm x1 ∧ x1.length < 9000) ∧ zv b0 x0 = 5 ∧ zv b1 x1 = 17 ∧ n = 5)
  (fun _ _ _ _ _ => .tup [.sl 2 3 [.raw (.bool false), .ns .u64 [2], .raw (.bool false), .ns .u64 [3], .raw (.bool false), .ns .u64 [5]], .ns .i64 [2, 1, 2], .raw (.int .i64 0)])
theorem gapsC_ok : SpOK Tryz.prog 21 spGapsC := by
  refine SpOK.ZZI fun b0 x0 b1 x1 n ⟨h0, h1, e0, e1, en⟩ => ?_
  subst en
  have hW : GapsW 5 17 5 1 17 3 2 3 2 := ⟨by decide, by decide, by decide, by decide, by decide, by decide, by decide, mK1, mV1, mK2, mV2, by decide, by decide, by decide, by decide, by decide⟩
  refine gaps_a h0 h1 e0 e1 hW _ (fun hl1 hl2 => ?_)
  have h := gaps_t (N := 5) (P := 3) (R := 4) (B1 := decide ((3 : Int) < 0)) (B2 := decide ((2 : Int) < 0)) hl1 hl2 (by decide) (by decide) (by decide) (by decide) (by rw [zv_zi, zv_zi]; decide) (by rw [zv_zi]; decide)
  rw [zv_zi, zv_zi] at h
  have d2 : dg (Int.natAbs 2) = [2] := dgs 2 (by decide) (by decide)
  have d3 : dg (Int.natAbs 3) = [3] := dgs 3 (by decide) (by decide)
  have d5 : dg (Int.natAbs (2 + 3)) = [5] := dgs 5 (by decide) (by decide)
  rw [d2, d3, d5] at h
  rw [d2, d3]
  exact h
end Go.Hl

namespace Go.Hl
open Go Go.RowKit Go.Proofs
set_option maxHeartbeats 8000000
set_option maxRecDepth 100000
@[push_cast] def spShown0 : Sp := sp0 0 (.raw (.bool true))
theorem Vk_lt8 {P : Int → Prop} (h0 : P 0) (h1 : P 1) (h2 : P 2) (h3 : P 3) (h4 : P 4) (h5 : P 5) (h6 : P 6) (h7 : P 7) : ∀ k : Int, 0 ≤ k → k < 8 → P k := fun k k0 k1 => by
  rcases (show k = 0 ∨ k = 1 ∨ k = 2 ∨ k = 3 ∨ k = 4 ∨ k = 5 ∨ k = 6 ∨ k = 7 by omega) with rfl | rfl | rfl | rfl | rfl | rfl | rfl | rfl <;> assumption
theorem cV1 : mV 5 3 17 8 = 1 := mV_eq ⟨⟨3, by decide, by decide, by decide⟩, Vk_lt8 (by decide) (by decide) (by decide) (by decide) (by decide) (by decide) (by decide) (by decide)⟩
theorem cV2 : mV (-5) (-3) 17 8 = 1 := mV_eq ⟨⟨6, by decide, by decide, by decide⟩, Vk_lt8 (by decide) (by decide) (by decide) (by decide) (by decide) (by decide) (by decide) (by decide)⟩
theorem cK1 : mK 5 3 17 8 = 3 := by
  unfold mK
  rw [cV1]
  refine fst_eq (.inr ⟨⟨by decide, by decide⟩, ⟨by decide, by decide⟩, fun j h0 h1 h => ?_⟩)
  rcases (show j = 0 ∨ j = 1 ∨ j = 2 by omega) with rfl | rfl | rfl <;> exact absurd h (by unfold inV Vk; decide)
theorem cK2 : mK (-5) (-3) 17 8 = 6 := by
  unfold mK
  rw [cV2]
  refine fst_eq (.inr ⟨⟨by decide, by decide⟩, ⟨by decide, by decide⟩, fun j h0 h1 h => ?_⟩)
  rcases (show j = 0 ∨ j = 1 ∨ j = 2 ∨ j = 3 ∨ j = 4 ∨ j = 5 by omega) with rfl | rfl | rfl | rfl | rfl | rfl <;> exact absurd h (by unfold inV Vk; decide)
theorem cF : fst' 5 3 17 5 6 8 = 4 := by
  refine fst_eq (.inr ⟨⟨by decide, by decide⟩, ⟨by decide, by decide⟩, fun j h0 h1 h => ?_⟩)
  rcases (show j = 0 ∨ j = 1 ∨ j = 2 ∨ j = 3 by omega) with rfl | rfl | rfl | rfl <;> exact absurd h (by unfold inV Vk; decide)
theorem kfK : fK 5 3 17 5 6 8 = 4 := by unfold fK; rw [cF, if_neg (by decide), if_neg (by decide)]
theorem kfE : fE 5 3 17 5 6 8 = 0 := by unfold fE; rw [cF, if_neg (by decide), if_neg (by decide)]
theorem klK : lK 5 3 17 8 = 3 := by unfold lK; rw [if_neg (by decide), cK1]
theorem klV : lV 5 3 17 8 = 1 := by unfold lV; rw [if_neg (by decide), cV1]
theorem klE : lE 17 8 = 0 := by decide
theorem knK : nK 5 3 17 8 = 3 := by unfold nK; rw [if_neg (by decide), cV1, cV2, cK1, cK2]; decide
theorem knV : nV 5 3 17 8 = 1 := by unfold nV; rw [if_neg (by decide), cV1, cV2]; decide
theorem kwK : wK 5 3 17 5 8 = 3 := by unfold wK; rw [if_neg (by decide)]; decide
theorem kwE : wE 17 5 8 = 0 := by decide
theorem khl : hl 5 3 17 5 8 0 = [0, 3, 7] := by decide
theorem khT : hT 5 3 17 5 8 2 = [0, 3] := by unfold hT; rw [if_neg (by decide)]; show (hl 5 3 17 5 8 0).take 2 = _; rw [khl]; rfl
theorem khM : hM 5 3 17 5 8 2 = true := by unfold hM; rw [if_neg (by decide)]; show decide (2 < (hl 5 3 17 5 8 0).length) = true; rw [khl]; rfl
theorem khE : hE 17 5 8 2 = 0 := by decide
theorem zlit (n : Nat) : zv false [(n : Int)] = n := by
  unfold zv zs; rw [nb_one]; simp
theorem shown15_ok : SpOK Tryz.prog 5 spShown0 := by
  refine SpOK.O ?_
  have hE := env (SOK.cons num_ok (SOK.cons firstX_ok (SOK.cons leastX_ok (SOK.cons near_ok (SOK.cons many_ok (SOK.cons hits_ok (SOK.cons gapsC_ok (SOK.cons exact_ok (SOK.cons exactAll_ok (SOK.cons sameI_ok (SOK.nil (P := Tryz.prog))))))))))))
  have d1 : dg (Int.natAbs 1) = [1] := dgs 1 (by decide) (by decide)
  have d2 : dg (Int.natAbs 2) = [2] := dgs 2 (by decide) (by decide)
  have d3 : dg (Int.natAbs 3) = [3] := dgs 3 (by decide) (by decide)
  have d5 : dg (Int.natAbs 5) = [5] := dgs 5 (by decide) (by decide)
  have d6 : dg (Int.natAbs 6) = [6] := dgs 6 (by decide) (by decide)
  have d17 : dg (Int.natAbs 17) = [17] := dgs 17 (by decide) (by decide)
  have z3 : zv false [3] = 3 := zlit 3
  have z5 : zv false [5] = 5 := zlit 5
  have z6 : zv false [6] = 6 := zlit 6
  have z17 : zv false [17] = 17 := zlit 17
  have l1 : Lm [(1 : Int)] := ⟨Lim.cons (by rw [hB64]; decide) Lim.nil, by simp⟩
  have l2 : Lm [(2 : Int)] := ⟨Lim.cons (by rw [hB64]; decide) Lim.nil, by simp⟩
  have l3 : Lm [(3 : Int)] := ⟨Lim.cons (by rw [hB64]; decide) Lim.nil, by simp⟩
  have l5 : Lm [(5 : Int)] := ⟨Lim.cons (by rw [hB64]; decide) Lim.nil, by simp⟩
  have l6 : Lm [(6 : Int)] := ⟨Lim.cons (by rw [hB64]; decide) Lim.nil, by simp⟩
  have l17 : Lm [(17 : Int)] := ⟨Lim.cons (by rw [hB64]; decide) Lim.nil, by simp⟩
  refine ACall.body hE Tryz.func5 Tryz.ntmps5 Tryz.results5 ?_
  refine wk hE (And.intro d1 (And.intro d2 (And.intro d3 (And.intro d5 (And.intro d6 (And.intro d17 (And.intro z3 (And.intro z5 (And.intro z6 (And.intro z17 (And.intro kfK (And.intro kfE (And.intro klK (And.intro klV (And.intro klE (And.intro knK (And.intro knV (And.intro kwK (And.intro kwE (And.intro khT (And.intro khM khE))))))))))))))))))))) ?_
  exact PostL.mk trivial rfl
end Go.Hl

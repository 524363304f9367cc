/- lefevre: reach lefevre: first lefevre: First lefevre: the least one: the plain law, least, Least lefevre: Least, Near -/
import Derived.Test.YtccbmjkhplmgnaaGreatHlFa
import Derived.Test.YtccbmjkhplmgnaaGreatHlAv32
import Derived.Test.YtccbmjkhplmgnaaGreatHlZc
set_option linter.unusedVariables false
set_option linter.unusedSimpArgs false
namespace Go.Hl
open Go Go.RowKit Go.Proofs
set_option maxHeartbeats 16000000
structure Num where
  b : Bool
  x : List Int
def Num.val (n : Num) : Int := zv n.b n.x
def nm (z : Int) : Num := ⟨decide (z < 0), dg z.natAbs⟩
theorem nm_val (z : Int) : (nm z).val = z := zv_zi z
structure Num.Ok (n : Num) : Prop where
  lm : Lm n.x
  len : n.x.length < 60000
def fnA (s : Num × Num × Num) : AV := .fn 87 [.vp [.raw (.bool s.1.b), .ns .u64 s.1.x], .vp [.raw (.bool s.2.1.b), .ns .u64 s.2.1.x], .vp [.raw (.bool s.2.2.b), .ns .u64 s.2.2.x]]
def vals (st : List (Num × Num × Num)) : List (Int × Int × Int) := st.map fun s => (s.1.val, s.2.1.val, s.2.2.val)
@[push_cast] noncomputable def spReach : Sp := spZZZZ 0 (fun b0 x0 b1 x1 b2 x2 b3 x3 => (Lm x0 ∧ x0.length < 50000) ∧ (Lm x1 ∧ x1.length < 50000) ∧ (Lm x2 ∧ x2.length < 50000) ∧ (Lm x3 ∧ x3.length < 50000) ∧ (0 ≤ zv b0 x0 ∧ zv b0 x0 < zv b1 x1) ∧ (0 ≤ zv b2 x2 ∧ zv b2 x2 ≤ zv b3 x3 ∧ zv b3 x3 < zv b1 x1))
  (fun b0 x0 b1 x1 b2 x2 b3 x3 => .tup [zi (rX (zv b0 x0) (zv b1 x1) (zv b2 x2) (zv b3 x3)), .raw (.bool (rO (zv b0 x0) (zv b1 x1) (zv b2 x2) (zv b3 x3)))])
theorem reach_ok : SpOK Tryz.prog 67 spReach := by
  refine SpOK.ZZZZ fun b0 x0 b1 x1 b2 x2 b3 x3 ⟨⟨h0, h0l⟩, ⟨h1, h1l⟩, ⟨h2, h2l⟩, ⟨h3, h3l⟩, hA, hL⟩ => ?_
  have hE := envL (SOK.cons back_ok (SOK.cons sign_ok (SOK.cons zshl_ok (SOK.cons zcmp_ok (SOK.cons zsub_ok (SOK.cons lup_ok (SOK.cons zmul_ok (SOK.cons zneg_ok (SOK.cons lmod_ok (SOK.nil (P := Tryz.prog)))))))))))
  obtain ⟨A, eA⟩ : ∃ A, zv b0 x0 = A := ⟨_, rfl⟩
  obtain ⟨M, eM⟩ : ∃ M, zv b1 x1 = M := ⟨_, rfl⟩
  obtain ⟨L, eL⟩ : ∃ L, zv b2 x2 = L := ⟨_, rfl⟩
  obtain ⟨R, eR⟩ : ∃ R, zv b3 x3 = R := ⟨_, rfl⟩
  have bM := zv_abs_lt (b := b1) h1 (l := 50000) (by omega)
  rw [eA, eM] at hA
  rw [eL, eR, eM] at hL
  rw [eM] at bM
  have fitM : ∀ z : Int, 0 ≤ z → z ≤ M → (nm z).Ok := fun z hz hzM => by
    have : z.natAbs < B64 ^ 50000 := by omega
    obtain ⟨f1, _, f2⟩ := dgl this (by omega)
    exact ⟨f1, by show (dg z.natAbs).length < 60000; omega⟩
  have lenM : ∀ {a m l r : Int} {st : List (Int × Int × Int)}, RInv A M L R a m l r st → st.length ≤ 64 * 50000 := fun h => by
    refine h.len (Nat.lt_of_lt_of_le bM ?_)
    obtain ⟨l, hl⟩ : ∃ l, l = 50000 := ⟨_, rfl⟩
    rw [← hl, Nat.pow_mul]
    exact Nat.le_refl _
  refine ACall.body hE Tryz.func67 Tryz.ntmps67 Tryz.results67 ?_
  rw [eA, eM, eL, eR]
  refine wk hE trivial ?_
  refine AWp.bare 55 (.c []) trivial ?_
  refine AWp.joinB (ι := {p : Int × List (Num × Num × Num) // (∀ s ∈ p.2, s.1.Ok ∧ s.2.1.Ok ∧ s.2.2.Ok ∧ 0 < s.2.2.val) ∧ p.2.length ≤ 3200000 ∧ Bk (LeastR A M L R) M (vals p.2.reverse) p.1})
    (fun p => ⟨[(8, .ptr 8 0), (9, .raw (.bool false)), (10, .os 55 1 0 p.1.2.length), (11, .ptr 11 0)], [(8, ⟨true, .c [.raw (.bool false), .ns .u64 []]⟩), (11, ⟨true, .c [.raw (.bool (decide (p.1.1 < 0))), .ns .u64 (dg p.1.1.natAbs)]⟩), (55, ⟨true, .c (p.1.2.map fnA)⟩)]⟩) ?_ ?_
  · refine AWp.loop (ι := {p : (Num × Num × Num × Num) × List (Num × Num × Num) // (p.1.1.Ok ∧ p.1.2.1.Ok ∧ p.1.2.2.1.Ok ∧ p.1.2.2.2.Ok) ∧ (∀ s ∈ p.2, s.1.Ok ∧ s.2.1.Ok ∧ s.2.2.Ok ∧ 0 < s.2.2.val) ∧ RInv A M L R p.1.1.val p.1.2.1.val p.1.2.2.1.val p.1.2.2.2.val (vals p.2.reverse)})
      (fun p => ⟨[(4, .ptr 4 0), (5, .ptr 5 0), (6, .ptr 6 0), (7, .ptr 7 0), (8, .ptr 8 0), (9, .raw (.bool false)), (10, .os 55 1 0 p.1.2.length), (11, .ptr 11 0)], [(4, ⟨true, .c [.raw (.bool p.1.1.1.b), .ns .u64 p.1.1.1.x]⟩), (5, ⟨true, .c [.raw (.bool p.1.1.2.1.b), .ns .u64 p.1.1.2.1.x]⟩), (6, ⟨true, .c [.raw (.bool p.1.1.2.2.1.b), .ns .u64 p.1.1.2.2.1.x]⟩), (7, ⟨true, .c [.raw (.bool p.1.1.2.2.2.b), .ns .u64 p.1.1.2.2.2.x]⟩), (8, ⟨true, .c [.raw (.bool false), .ns .u64 []]⟩), (11, ⟨true, .c [.raw (.bool false), .ns .u64 []]⟩), (55, ⟨true, .c (p.1.2.map fnA)⟩)]⟩)
      (fun p => p.1.1.2.1.val.toNat) ⟨((⟨b0, x0⟩, ⟨b1, x1⟩, ⟨b2, x2⟩, ⟨b3, x3⟩), []), ⟨⟨h0, by show x0.length < _; omega⟩, ⟨h1, by show x1.length < _; omega⟩, ⟨h2, by show x2.length < _; omega⟩, ⟨h3, by show x3.length < _; omega⟩⟩, (fun s hs => by cases hs), by
        show RInv A M L R (zv b0 x0) (zv b1 x1) (zv b2 x2) (zv b3 x3) []
        rw [eA, eM, eL, eR]
        exact RInv.start hA hL⟩ (Le.mk (show List.map fnA [] = [] from rfl)) ?_
    rintro ⟨⟨⟨na, nm', nl, nr⟩, st⟩, ⟨oa, om, ol, or⟩, hst, hI⟩
    dsimp only at oa om ol or hst hI ⊢
    obtain ⟨a, ea⟩ : ∃ a, zv na.b na.x = a := ⟨_, rfl⟩
    obtain ⟨m, em⟩ : ∃ m, zv nm'.b nm'.x = m := ⟨_, rfl⟩
    obtain ⟨l, el⟩ : ∃ l, zv nl.b nl.x = l := ⟨_, rfl⟩
    obtain ⟨r, er⟩ : ∃ r, zv nr.b nr.x = r := ⟨_, rfl⟩
    have hI : RInv A M L R a m l r (vals st.reverse) := by rw [← ea, ← em, ← el, ← er]; exact hI
    obtain ⟨oa1, oa2⟩ := oa
    obtain ⟨om1, om2⟩ := om
    obtain ⟨ol1, ol2⟩ := ol
    obtain ⟨or1, or2⟩ := or
    have hsl : st.length ≤ 3200000 := by
      have := lenM hI
      unfold vals at this
      rw [List.length_map, List.length_reverse] at this
      exact this
    have hle := hI.le
    have gh := hI.hl
    have ga := hI.ha
    by_cases hl0 : l = 0
    · have hs : ¬ 0 < l.sign := by rw [hl0]; decide
      refine wk hE (And.intro el hs) ?_
      refine ⟨⟨(0, st), hst, hsl, ?_⟩, Le.mk (And.intro (show dg (Int.natAbs 0) = [] from dg_zero) (show decide ((0 : Int) < 0) = false from rfl))⟩
      subst hl0
      exact hI.zero
    have hl1 : 0 < l := by omega
    have hs : 0 < l.sign := by rw [Int.sign_eq_one_of_pos hl1]; decide
    refine wk hE (And.intro el (And.intro ea hs)) ?_
    refine AWp.test trivial (fun hz => ?_) (fun hz => ?_)
    · have ha0 : a = 0 := Int.sign_eq_zero_iff_zero.1 (eq_of_beq hz)
      refine wk hE trivial ?_
      refine PostL.mk trivial ?_
      subst ha0
      obtain ⟨q1, q2⟩ := rX_none (hI.miss hl1)
      rw [q1, q2]; unfold zi; rw [show Int.natAbs 0 = 0 from rfl, dg_zero]; rfl
    have ha1 : 0 < a := by
      have : a ≠ 0 := fun h => by rw [h] at hz; exact absurd hz (by decide)
      omega
    clear hL hA hz
    refine AWp.skip ?_
    change AWp _ _ _ (.seq _ _) _ _
    refine AWp.seqJ (ι := {p : Num × Num × Num // (p.1.Ok ∧ p.2.1.Ok ∧ p.2.2.Ok) ∧ 0 < p.1.val ∧ 0 < p.2.1.val ∧ 2 * p.1.val ≤ m ∧ RInv A M L R p.1.val m p.2.1.val p.2.2.val (vals st.reverse)})
      (fun p => ⟨[(4, .ptr 4 0), (5, .ptr 5 0), (6, .ptr 6 0), (7, .ptr 7 0), (8, .ptr 8 0), (9, .raw (.bool false)), (10, .os 55 1 0 st.length), (11, .ptr 11 0)], [(4, ⟨true, .c [.raw (.bool p.1.1.b), .ns .u64 p.1.1.x]⟩), (5, ⟨true, .c [.raw (.bool nm'.b), .ns .u64 nm'.x]⟩), (6, ⟨true, .c [.raw (.bool p.1.2.1.b), .ns .u64 p.1.2.1.x]⟩), (7, ⟨true, .c [.raw (.bool p.1.2.2.b), .ns .u64 p.1.2.2.x]⟩), (8, ⟨true, .c [.raw (.bool false), .ns .u64 []]⟩), (11, ⟨true, .c [.raw (.bool false), .ns .u64 []]⟩), (55, ⟨true, .c (st.map fnA)⟩)]⟩) ?_ ?_
    · have f2 := abs_two_lt (show a.natAbs < B64 ^ 50000 by omega)
      obtain ⟨f2a, _, f2b⟩ := dgl f2 (by omega)
      obtain ⟨a2, ha2⟩ : ∃ a2, a * 2 ^ sh 1 = a2 := ⟨_, rfl⟩
      have ha2' : a2 = a * 2 := by rw [← ha2]; rfl
      rw [← ha2'] at f2a f2b
      have gl := hI.hl
      refine wk hE (And.intro el (And.intro ea (And.intro em ha2))) ?_
      refine AWp.test trivial (fun hc => ?_) (fun hc => ?_)
      · have hc := of_decide_eq_true hc
        have hf : m < a2 := by
          unfold cmpZ at hc
          split at hc
          · omega
          · split at hc
            · omega
            · omega
        obtain ⟨u1, hu1⟩ : ∃ u, m - a = u := ⟨_, rfl⟩
        obtain ⟨u2, hu2⟩ : ∃ u, m - r = u := ⟨_, rfl⟩
        obtain ⟨u3, hu3⟩ : ∃ u, m - l = u := ⟨_, rfl⟩
        have o1 := fitM u1 (by omega) (by omega)
        have o2 := fitM u2 (by omega) (by omega)
        have o3 := fitM u3 (by omega) (by omega)
        refine AWp.regionA [(4, 4), (5, 5), (6, 6), (7, 7)] [] hE.hT hE.hS hE.hm ?_ (wk hE (And.intro em (And.intro ea (And.intro er (And.intro el (And.intro hu1 (And.intro hu2 hu3)))))) ?_)
        · intro p i h
          simp only [lk] at h
          split at h
          · rename_i e; cases h; subst e; exact ⟨0, rfl⟩
          split at h
          · rename_i e; cases h; subst e; exact ⟨0, rfl⟩
          split at h
          · rename_i e; cases h; subst e; exact ⟨0, rfl⟩
          split at h
          · rename_i e; cases h; subst e; exact ⟨0, rfl⟩
          · cases h
        · have v1 := nm_val u1
          have v2 := nm_val u2
          have v3 := nm_val u3
          exact ⟨⟨(nm u1, nm u2, nm u3), ⟨o1, o2, o3⟩, by dsimp only; omega, by dsimp only; omega, by dsimp only; omega, by dsimp only; rw [v1, v2, v3, ← hu1, ← hu2, ← hu3]; exact hI.flip hl1 ha1⟩, Le.mk trivial⟩
      · have hc := of_decide_eq_false hc
        have hf : ¬ m < a2 := fun hf => hc (by unfold cmpZ; rw [if_neg (by omega), if_pos hf]; decide)
        refine AWp.skip ?_
        exact ⟨⟨(na, nl, nr), ⟨⟨oa1, oa2⟩, ⟨ol1, ol2⟩, ⟨or1, or2⟩⟩, by show 0 < zv na.b na.x; omega, by show 0 < zv nl.b nl.x; omega, by show 2 * zv na.b na.x ≤ m; omega, by show RInv A M L R (zv na.b na.x) m (zv nl.b nl.x) (zv nr.b nr.x) _; rw [ea, el, er]; exact hI⟩, Le.mk trivial⟩
    · rintro ⟨⟨ma, ml, mr⟩, ⟨oa, ol, or⟩, k1, k2, k3, kI⟩
      dsimp only at oa ol or k1 k2 k3 kI ⊢
      clear hI ga gh hl0 hl1 ha1 hs ea el er oa1 oa2 ol1 ol2 or1 or2
      obtain ⟨a, ea⟩ : ∃ a, zv ma.b ma.x = a := ⟨_, rfl⟩
      obtain ⟨l, el⟩ : ∃ l, zv ml.b ml.x = l := ⟨_, rfl⟩
      obtain ⟨r, er⟩ : ∃ r, zv mr.b mr.x = r := ⟨_, rfl⟩
      have kI : RInv A M L R a m l r (vals st.reverse) := by rw [← ea, ← el, ← er]; exact kI
      have k1 : 0 < a := by rw [← ea]; exact k1
      have k2 : 0 < l := by rw [← el]; exact k2
      have k3 : 2 * a ≤ m := by rw [← ea]; exact k3
      obtain ⟨oa1, oa2⟩ := oa
      obtain ⟨ol1, ol2⟩ := ol
      obtain ⟨or1, or2⟩ := or
      have gh := kI.hl
      have ga := kI.ha
      obtain ⟨t, et⟩ : ∃ t, cl l a = t := ⟨_, rfl⟩
      have t0 : 0 ≤ t := by rw [← et]; exact cl_nonneg k1 (by omega)
      have hal : 1 * l ≤ a * l := Int.mul_le_mul_of_nonneg_right (by omega) (by omega)
      have tl : t ≤ l := by rw [← et]; exact cl_le k1 (by omega)
      have ta : t * a < l + a := by
        have h1 := (cl_spec (u := l) k1).1
        rw [et] at h1
        have : a * (t - 1) = t * a - a := by grind
        omega
      have ta0 : 0 ≤ t * a := Int.mul_nonneg t0 (by omega)
      have ot := fitM t t0 (by omega)
      obtain ⟨ot1, ot2⟩ := ot
      have ot1 : Lm (dg t.natAbs) := ot1
      have ot2 : (dg t.natAbs).length < 60000 := ot2
      obtain ⟨w, ew⟩ : ∃ w, t * a = w := ⟨_, rfl⟩
      rw [ew] at ta ta0
      have fw0 := abs_two_lt bM
      have fw : w.natAbs < B64 ^ (50000 + 1) := by omega
      obtain ⟨fw1, _, fw2⟩ := dgl fw (by omega)
      have fw3 : (dg w.natAbs).length < 60000 := by omega
      clear fw fw2
      refine wk hE (And.intro el (And.intro ea (And.intro er (And.intro et ew)))) ?_
      refine AWp.test trivial (fun hc => ?_) (fun hc => ?_)
      · have hc := of_decide_eq_true hc
        have hf : w ≤ r := by
          unfold cmpZ at hc
          split at hc
          · omega
          · split at hc
            · omega
            · omega
        refine wk hE trivial ?_
        refine ⟨⟨(t, st), hst, hsl, ?_⟩, Le.mk trivial⟩
        dsimp only
        rw [← et]
        exact kI.found k2 k1 (by rw [et, ew]; exact hf)
      · have hc := of_decide_eq_false hc
        have hf : r < w := by
          rcases Int.lt_or_le r w with h | h
          · exact h
          · exact absurd (by unfold cmpZ; split; decide; rw [if_neg (by omega)]; decide) hc
        have hS := kI.step k2 k1 k3 (by rw [et, ew]; exact hf)
        refine AWp.skip ?_
        change AWp _ _ _ (.seq _ _) _ _
        refine AWp.seqJ (ι := Unit) (fun _ => ⟨[(4, .ptr 4 0), (5, .ptr 5 0), (6, .ptr 6 0), (7, .ptr 7 0), (8, .ptr 8 0), (9, .raw (.bool false)), (10, .os 55 1 0 st.length), (11, .ptr 11 0), (13, .ptr 13 0), (14, .ptr 14 0), (15, .ptr 15 0)], [(4, ⟨true, .c [.raw (.bool ma.b), .ns .u64 ma.x]⟩), (5, ⟨true, .c [.raw (.bool nm'.b), .ns .u64 nm'.x]⟩), (6, ⟨true, .c [.raw (.bool ml.b), .ns .u64 ml.x]⟩), (7, ⟨true, .c [.raw (.bool mr.b), .ns .u64 mr.x]⟩), (8, ⟨true, .c [.raw (.bool false), .ns .u64 []]⟩), (11, ⟨true, .c [.raw (.bool false), .ns .u64 []]⟩), (55, ⟨true, .c (st.map fnA)⟩), (13, ⟨true, .c [.raw (.bool ma.b), .ns .u64 ma.x]⟩), (14, ⟨true, .c [.raw (.bool nm'.b), .ns .u64 nm'.x]⟩), (15, ⟨true, .c [.raw (.bool ml.b), .ns .u64 ml.x]⟩)]⟩) ?_ (fun _ => ?_)
        · refine AWp.regionA [(4, 4), (5, 5), (6, 6)] [(13, 3), (14, 4), (15, 5)] hE.hT hE.hS hE.hm ?_ (wk hE trivial ?_)
          · intro p i h
            simp only [lk] at h
            split at h
            · rename_i e; cases h; subst e; exact ⟨0, rfl⟩
            split at h
            · rename_i e; cases h; subst e; exact ⟨0, rfl⟩
            split at h
            · rename_i e; cases h; subst e; exact ⟨0, rfl⟩
            · cases h
          exact ⟨(), Le.mk trivial⟩
        refine AWp.seqJ (ι := Unit) (fun _ => ⟨[(4, .ptr 4 0), (5, .ptr 5 0), (6, .ptr 6 0), (7, .ptr 7 0), (8, .ptr 8 0), (9, .raw (.bool false)), (10, .os 55 1 0 (st ++ [(ml, nm', ma)]).length), (11, .ptr 11 0), (13, .ptr 13 0), (14, .ptr 14 0)], [(4, ⟨true, .c [.raw (.bool ma.b), .ns .u64 ma.x]⟩), (5, ⟨true, .c [.raw (.bool nm'.b), .ns .u64 nm'.x]⟩), (6, ⟨true, .c [.raw (.bool ml.b), .ns .u64 ml.x]⟩), (7, ⟨true, .c [.raw (.bool mr.b), .ns .u64 mr.x]⟩), (8, ⟨true, .c [.raw (.bool false), .ns .u64 []]⟩), (11, ⟨true, .c [.raw (.bool false), .ns .u64 []]⟩), (55, ⟨true, .c ((st ++ [(ml, nm', ma)]).map fnA)⟩), (13, ⟨false, .c [.raw (.bool ma.b), .ns .u64 ma.x]⟩), (14, ⟨false, .c [.raw (.bool nm'.b), .ns .u64 nm'.x]⟩)]⟩)
          (AWp.mkfn hE.hT hE.hS (K1 := fun σ => σ = ?sx) 1 ?_ ?_) (fun _ => ?_)
        rotate_left
        · simp only [List.take]
          refine wk hE trivial ?_
          exact rfl
        · rintro σ1 rfl
          refine ⟨_, _, _, [15, 14, 13], rfl, ?_, rfl, rfl, rfl, rfl, ?_⟩
          · exact ⟨⟨rfl, Nat.zero_lt_succ _⟩, ⟨rfl, Nat.zero_lt_succ _⟩, ⟨rfl, Nat.zero_lt_succ _⟩, trivial⟩
          · change opsA _ _ _ _ _ ⟨[(53, .fn 87 [.vp [.raw (.bool ml.b), .ns .u64 ml.x], .vp [.raw (.bool nm'.b), .ns .u64 nm'.x], .vp [.raw (.bool ma.b), .ns .u64 ma.x]]), (52, .os 55 1 0 st.length), (4, .ptr 4 0), (5, .ptr 5 0), (6, .ptr 6 0), (7, .ptr 7 0), (8, .ptr 8 0), (9, .raw (.bool false)), (10, .os 55 1 0 st.length), (11, .ptr 11 0), (13, .ptr 13 0), (14, .ptr 14 0), (15, .ptr 15 0)], [(13, ⟨false, .c [.raw (.bool ma.b), .ns .u64 ma.x]⟩), (14, ⟨false, .c [.raw (.bool nm'.b), .ns .u64 nm'.x]⟩), (15, ⟨false, .c [.raw (.bool ml.b), .ns .u64 ml.x]⟩), (4, ⟨true, .c [.raw (.bool ma.b), .ns .u64 ma.x]⟩), (5, ⟨true, .c [.raw (.bool nm'.b), .ns .u64 nm'.x]⟩), (6, ⟨true, .c [.raw (.bool ml.b), .ns .u64 ml.x]⟩), (7, ⟨true, .c [.raw (.bool mr.b), .ns .u64 mr.x]⟩), (8, ⟨true, .c [.raw (.bool false), .ns .u64 []]⟩), (11, ⟨true, .c [.raw (.bool false), .ns .u64 []]⟩), (55, ⟨true, .c (st.map fnA)⟩)]⟩
            simp only [List.drop]
            have hfold : List.map fnA st ++ [AV.fn 87 [.vp [.raw (.bool ml.b), .ns .u64 ml.x], .vp [.raw (.bool nm'.b), .ns .u64 nm'.x], .vp [.raw (.bool ma.b), .ns .u64 ma.x]]] = List.map fnA (st ++ [(ml, nm', ma)]) := by rw [List.map_append]; rfl
            have hlen1 : (st ++ [(ml, nm', ma)]).length = st.length + 1 := by simp
            have hlen2 : (List.map fnA st).length = st.length := List.length_map ..
            refine wk hE (And.intro hfold (And.intro hlen1 hlen2)) ?_
            exact ⟨(), Le.mk (And.intro hlen1 hlen2)⟩
        · have o1 := fitM ((-m) % a) hS.ha.1 (by have := hS.ha.2; omega)
          have o2 := fitM (l % a) hS.hl.1 (by have := hS.hl.2; omega)
          have o3 := fitM (r % a) (by have := hS.hl; omega) (by have := hS.hl.2; omega)
          have h1 : (-m).natAbs < B64 ^ 50000 := by rw [Int.natAbs_neg]; omega
          obtain ⟨fm1, _, fm2⟩ := dgl h1 (by omega)
          have fm3 : (dg (-m).natAbs).length < 60000 := by omega
          clear h1 fm2
          obtain ⟨g1, eg1⟩ : ∃ g, -m = g := ⟨_, rfl⟩
          rw [eg1] at fm1 fm3 o1 hS
          refine AWp.regionA [(4, 4), (5, 5), (6, 6), (7, 7), (13, 13), (14, 14)] [] hE.hT hE.hS hE.hm ?_ (wk hE (And.intro em (And.intro eg1 (And.intro ea (And.intro el er)))) ?_)
          · intro p i h
            simp only [lk] at h
            split at h
            · rename_i e; cases h; subst e; exact ⟨0, rfl⟩
            split at h
            · rename_i e; cases h; subst e; exact ⟨0, rfl⟩
            split at h
            · rename_i e; cases h; subst e; exact ⟨0, rfl⟩
            split at h
            · rename_i e; cases h; subst e; exact ⟨0, rfl⟩
            split at h
            · rename_i e; cases h; subst e; exact ⟨0, rfl⟩
            split at h
            · rename_i e; cases h; subst e; exact ⟨0, rfl⟩
            · cases h
          · refine ⟨⟨((nm (g1 % a), ma, nm (l % a), nm (r % a)), st ++ [(ml, nm', ma)]), ⟨o1, ⟨oa1, oa2⟩, o2, o3⟩, fun s hs => ?_, ?_⟩, Le.mk trivial, ?_⟩
            · rcases List.mem_append.1 hs with h | h
              · exact hst s h
              · rw [List.mem_singleton.1 h]
                exact ⟨⟨ol1, ol2⟩, ⟨om1, om2⟩, ⟨oa1, oa2⟩, by show 0 < zv ma.b ma.x; omega⟩
            · dsimp only
              rw [nm_val, nm_val, nm_val]
              have e : vals (st ++ [(ml, nm', ma)]).reverse = (l, m, a) :: vals st.reverse := by
                rw [List.reverse_append]
                show (zv ml.b ml.x, zv nm'.b nm'.x, zv ma.b ma.x) :: vals st.reverse = _
                rw [el, em, ea]
              rw [e]
              show RInv A M L R (g1 % a) (zv ma.b ma.x) (l % a) (r % a) _
              rw [ea]; exact hS
            · show (zv ma.b ma.x).toNat < (zv nm'.b nm'.x).toNat
              rw [ea, em]; omega
  · rintro ⟨⟨x, st⟩, hst, hlen, hbk⟩
    dsimp only at hst hlen hbk ⊢
    have hml : (List.map fnA st).length = st.length := List.length_map ..
    refine wk hE trivial ?_
    refine AWp.loop (ι := {p : Nat × Int // p.1 ≤ st.length ∧ Bk (LeastR A M L R) M (vals (st.take p.1).reverse) p.2}) (fun p => ⟨[(8, .ptr 8 0), (9, .raw (.bool false)), (10, .os 55 1 0 st.length), (11, .ptr 11 0), (16, .raw (.int .i64 ((p.1.1 : Nat) - 1 : Int)))], [(8, ⟨true, .c [.raw (.bool false), .ns .u64 []]⟩), (11, ⟨true, .c [.raw (.bool (decide (p.1.2 < 0))), .ns .u64 (dg p.1.2.natAbs)]⟩), (55, ⟨true, .c (st.map fnA)⟩)]⟩)
      (fun p => p.1.1) ⟨(st.length, x), Nat.le_refl _, by rw [List.take_length]; exact hbk⟩ (Le.mk trivial) ?_
    rintro ⟨⟨k, y⟩, hk, hy⟩
    dsimp only at hk hy ⊢
    clear hbk
    obtain ⟨y0, y1⟩ := hy.rng
    obtain ⟨oy1, oy2⟩ := fitM y y0 y1
    have oy1 : Lm (dg y.natAbs) := oy1
    have oy2 : (dg y.natAbs).length < 60000 := oy2
    cases k with
    | zero =>
      have hfin : LeastR A M L R y := hy.2
      have g1 : ¬ (0 : Int) ≤ ((0 : Nat) : Int) - 1 := by omega
      refine wk hE g1 ?_
      refine PostL.mk trivial ?_
      obtain ⟨q1, q2⟩ := rX_eq hfin
      rw [q1, q2]; rfl
    | succ k =>
      have g1 : (0 : Int) ≤ ((k + 1 : Nat) : Int) - 1 := by omega
      have g2 : ((k + 1 : Nat) : Int) - 1 = (k : Nat) := by omega
      obtain ⟨s, hs⟩ : ∃ s, st[k]? = some s := ⟨st[k], List.getElem?_eq_getElem (by omega)⟩
      have hsm : s ∈ st := List.mem_of_getElem? hs
      obtain ⟨⟨l1, l2⟩, ⟨m1, m2⟩, ⟨a1, a2⟩, apos⟩ := hst s hsm
      have apos : 0 < zv s.2.2.b s.2.2.x := apos
      have hget : (List.map fnA st)[k]? = some (AV.fn 87 [.vp [.raw (.bool s.1.b), .ns .u64 s.1.x], .vp [.raw (.bool s.2.1.b), .ns .u64 s.2.1.x], .vp [.raw (.bool s.2.2.b), .ns .u64 s.2.2.x]]) := by
        rw [List.getElem?_map, hs]; rfl
      have hy' : Bk (LeastR A M L R) M (vals (st.take k).reverse) (cl (zv s.1.b s.1.x + zv s.2.1.b s.2.1.x * y) (zv s.2.2.b s.2.2.x)) := by
        have e : (st.take (k + 1)).reverse = s :: (st.take k).reverse := by
          rw [List.take_add_one, hs, List.reverse_append]; rfl
        rw [e] at hy
        exact hy.2
      obtain ⟨z, ez⟩ : ∃ z, cl (zv s.1.b s.1.x + zv s.2.1.b s.2.1.x * y) (zv s.2.2.b s.2.2.x) = z := ⟨_, rfl⟩
      rw [ez] at hy'
      have hgd : (List.map fnA st).getD k .any = AV.fn 87 [.vp [.raw (.bool s.1.b), .ns .u64 s.1.x], .vp [.raw (.bool s.2.1.b), .ns .u64 s.2.1.x], .vp [.raw (.bool s.2.2.b), .ns .u64 s.2.2.x]] := by
        rw [List.getD_eq_getElem?_getD, hget]; rfl
      refine wk hE (And.intro g1 (And.intro g2 (And.intro hml (And.intro hgd ez)))) ?_
      exact ⟨⟨(k, z), by omega, hy'⟩, Le.mk trivial, by dsimp only; omega⟩
end Go.Hl

namespace Go.Hl
open Go Go.RowKit Go.Proofs
set_option maxHeartbeats 16000000
theorem rX_rng {a m l r : Int} (hm : 0 < m) : 0 ≤ rX a m l r ∧ rX a m l r < m := by
  by_cases he : ∃ x, LeastR a m l r x
  · obtain ⟨x, hx⟩ := he
    rw [(rX_eq hx).1]; exact ⟨hx.1, least_lt hm hx⟩
  · unfold rX; rw [dif_neg he]; exact ⟨Int.le_refl _, hm⟩
@[push_cast] noncomputable def spFirst : Sp := spZZZZZI 0 (fun b0 x0 b1 x1 b2 x2 b3 x3 b4 x4 n => (Lm x0 ∧ x0.length < 20000) ∧ (Lm x1 ∧ x1.length < 20000) ∧ (Lm x2 ∧ x2.length < 20000) ∧ (Lm x3 ∧ x3.length < 20000) ∧ (Lm x4 ∧ x4.length < 20000) ∧ (0 ≤ zv b3 x3 ∧ zv b3 x3 ≤ zv b4 x4 ∧ zv b4 x4 < zv b2 x2) ∧ -9223372036854775808 ≤ n ∧ n < 9223372036854775808)
  (fun b0 x0 b1 x1 b2 x2 b3 x3 b4 x4 n => .raw (.int .i64 (fst' (zv b0 x0) (zv b1 x1) (zv b2 x2) (zv b3 x3) (zv b4 x4) n)))
theorem first_ok : SpOK Tryz.prog 44 spFirst := by
  refine SpOK.ZZZZZI fun b0 x0 b1 x1 b2 x2 b3 x3 b4 x4 n ⟨⟨h0, h0l⟩, ⟨h1, h1l⟩, ⟨h2, h2l⟩, ⟨h3, h3l⟩, ⟨h4, h4l⟩, ⟨hlo, hlh, hhi⟩, hn1, hn2⟩ => ?_
  have hE := env (SOK.cons zsub_ok (SOK.cons lmod_ok (SOK.cons zcmp_ok (SOK.cons reach_ok (SOK.cons small_ok (SOK.nil (P := Tryz.prog)))))))
  have bA := zv_abs_lt (b := b0) h0 (l := 20000) (by omega)
  have bB := zv_abs_lt (b := b1) h1 (l := 20000) (by omega)
  have bM := zv_abs_lt (b := b2) h2 (l := 20000) (by omega)
  have bL := zv_abs_lt (b := b3) h3 (l := 20000) (by omega)
  have bH := zv_abs_lt (b := b4) h4 (l := 20000) (by omega)
  obtain ⟨A, eA⟩ : ∃ A, zv b0 x0 = A := ⟨_, rfl⟩
  obtain ⟨B, eB⟩ : ∃ B, zv b1 x1 = B := ⟨_, rfl⟩
  obtain ⟨M, eM⟩ : ∃ M, zv b2 x2 = M := ⟨_, rfl⟩
  obtain ⟨L, eL⟩ : ∃ L, zv b3 x3 = L := ⟨_, rfl⟩
  obtain ⟨H, eH⟩ : ∃ H, zv b4 x4 = H := ⟨_, rfl⟩
  rw [eL] at hlo hlh bL
  rw [eH] at hlh hhi bH
  rw [eM] at hhi bM
  rw [eB] at bB
  rw [eA] at bA
  have hm : 0 < M := by omega
  have fitM : ∀ z : Int, 0 ≤ z → z < M → Lm (dg z.natAbs) ∧ (dg z.natAbs).length < 50000 := fun z hz hzM => by
    have : z.natAbs < B64 ^ 20000 := by omega
    obtain ⟨f1, _, f2⟩ := dgl this (by omega)
    exact ⟨f1, by omega⟩
  have fs := abs_sub_lt bL bB
  have fh := abs_sub_lt bH bB
  obtain ⟨fs1, _, fs2⟩ := dgl fs (by omega)
  obtain ⟨fh1, _, fh2⟩ := dgl fh (by omega)
  have fs3 : (dg (L - B).natAbs).length < 1000000 := by omega
  have fh3 : (dg (H - B).natAbs).length < 1000000 := by omega
  clear fs fh fs2 fh2 bA bB bM bL bH
  rw [eA, eB, eM, eL, eH]
  refine ACall.body hE Tryz.func44 Tryz.ntmps44 Tryz.results44 ?_
  refine wk hE trivial ?_
  refine AWp.test trivial (fun hc => ?_) (fun hc => ?_)
  · have hn := of_decide_eq_true hc
    refine wk hE trivial ?_
    refine PostL.mk trivial ?_
    rw [fst_eq (isF_none hn)]
  have hn := of_decide_eq_false hc
  clear hc
  have rl := mod_rng (L - B) hm
  have rr := mod_rng (H - B) hm
  have ra := mod_rng A hm
  have hcase1 := isF_over (a := A) (b := B) (n := n) hlo hlh hhi (by omega)
  have hcase2 := isF_reach (a := A) (b := B) (n := n) hlo hlh hhi
  obtain ⟨d1, ed1⟩ : ∃ d, L - B = d := ⟨_, rfl⟩
  obtain ⟨d2, ed2⟩ : ∃ d, H - B = d := ⟨_, rfl⟩
  rw [ed1] at rl fs1 fs3 hcase1 hcase2
  rw [ed2] at rr fh1 fh3 hcase1 hcase2
  obtain ⟨l, el⟩ : ∃ l, d1 % M = l := ⟨_, rfl⟩
  obtain ⟨r, er⟩ : ∃ r, d2 % M = r := ⟨_, rfl⟩
  obtain ⟨a, ea⟩ : ∃ a, A % M = a := ⟨_, rfl⟩
  rw [el] at rl hcase1 hcase2
  rw [er] at rr hcase1 hcase2
  rw [ea] at ra hcase2
  obtain ⟨ol1, ol2⟩ := fitM l rl.1 rl.2
  obtain ⟨or1, or2⟩ := fitM r rr.1 rr.2
  obtain ⟨oa1, oa2⟩ := fitM a ra.1 ra.2
  refine AWp.skip ?_
  change AWp _ _ _ (.seq _ _) _ _
  refine AWp.seqJ (ι := Unit) (fun _ => ⟨[(5, .raw (.int .i64 n)), (6, .ptr 6 0), (8, .ptr 8 0), (13, .ptr 13 0), (14, .ptr 14 0)], [(6, ⟨true, .c [.raw (.bool b0), .ns .u64 x0]⟩), (8, ⟨true, .c [.raw (.bool b2), .ns .u64 x2]⟩), (13, ⟨true, .c [.raw (.bool (decide (l < 0))), .ns .u64 (dg l.natAbs)]⟩), (14, ⟨true, .c [.raw (.bool (decide (r < 0))), .ns .u64 (dg r.natAbs)]⟩)]⟩) ?_ (fun _ => ?_)
  · refine AWp.regionA [(7, 7), (8, 8), (9, 9), (10, 10)] [(13, 10), (14, 11)] hE.hT hE.hS hE.hm ?_ (wk hE (And.intro eB (And.intro eM (And.intro eL (And.intro eH (And.intro ed1 (And.intro ed2 (And.intro el er))))))) ?_)
    · intro p i h
      simp only [lk] at h
      split at h
      · rename_i e; cases h; subst e; exact ⟨0, rfl⟩
      split at h
      · rename_i e; cases h; subst e; exact ⟨0, rfl⟩
      split at h
      · rename_i e; cases h; subst e; exact ⟨0, rfl⟩
      split at h
      · rename_i e; cases h; subst e; exact ⟨0, rfl⟩
      · cases h
    exact ⟨(), Le.mk trivial⟩
  refine wk hE trivial ?_
  refine AWp.test trivial (fun hc => ?_) (fun hc => ?_)
  · have hc := of_decide_eq_true hc
    have hlt : r < l := by
      unfold cmpZ at hc
      split at hc
      · omega
      · split at hc
        · assumption
        · omega
    refine wk hE trivial ?_
    refine PostL.mk trivial ?_
    rw [fst_eq (hcase1 hlt)]
  have hc := of_decide_eq_false hc
  have hle : l ≤ r := by
    rcases Int.lt_or_le r l with h | h
    · exact absurd (by unfold cmpZ; rw [if_neg (by omega), if_pos h]; decide) hc
    · exact h
  obtain ⟨c1, c2⟩ := hcase2 hle
  clear hc hcase1 hcase2
  obtain ⟨x, ex⟩ : ∃ x, rX a M l r = x := ⟨_, rfl⟩
  obtain ⟨o, eo⟩ : ∃ o, rO a M l r = o := ⟨_, rfl⟩
  rw [ex, eo] at c1
  rw [eo] at c2
  have hx : 0 ≤ x ∧ x < M := by rw [← ex]; exact rX_rng hm
  obtain ⟨ox1, ox2⟩ := fitM x hx.1 hx.2
  refine AWp.skip ?_
  change AWp _ _ _ (.seq _ _) _ _
  refine AWp.seqJ (ι := Unit) (fun _ => ⟨[(5, .raw (.int .i64 n)), (15, .ptr 15 0), (16, .raw (.bool o))], [(15, ⟨true, .c [.raw (.bool (decide (x < 0))), .ns .u64 (dg x.natAbs)]⟩)]⟩) ?_ (fun _ => ?_)
  · refine AWp.regionA [(6, 6), (8, 8), (13, 13), (14, 14)] [(15, 10)] hE.hT hE.hS hE.hm ?_ (wk hE (And.intro eA (And.intro eM (And.intro ea (And.intro ex eo)))) ?_)
    · intro p i h
      simp only [lk] at h
      split at h
      · rename_i e; cases h; subst e; exact ⟨0, rfl⟩
      split at h
      · rename_i e; cases h; subst e; exact ⟨0, rfl⟩
      split at h
      · rename_i e; cases h; subst e; exact ⟨0, rfl⟩
      split at h
      · rename_i e; cases h; subst e; exact ⟨0, rfl⟩
      · cases h
    exact ⟨(), Le.mk trivial⟩
  cases o with
  | false =>
    have hf := fst_eq (c2 rfl)
    cases hfit : fits64 x with
    | false =>
      refine wk hE hfit ?_
      refine PostL.mk trivial ?_
      rw [hf]
    | true =>
      refine wk hE hfit ?_
      refine PostL.mk trivial ?_
      rw [hf]
  | true =>
    have hf := fst_eq (c1 rfl)
    cases hfit : fits64 x with
    | false =>
      have hge : ¬ x < n := by
        unfold fits64 at hfit
        have := of_decide_eq_false hfit
        omega
      rw [if_neg hge] at hf
      refine wk hE hfit ?_
      refine PostL.mk trivial ?_
      rw [hf]
    | true =>
      by_cases hlt : x < n
      · rw [if_pos hlt] at hf
        have hge : ¬ n ≤ x := by omega
        refine wk hE (And.intro hfit hge) ?_
        refine PostL.mk trivial ?_
        rw [hf]
      · rw [if_neg hlt] at hf
        have hge : n ≤ x := by omega
        refine wk hE (And.intro hfit hge) ?_
        refine PostL.mk trivial ?_
        rw [hf]
end Go.Hl

namespace Go.Hl
open Go Go.RowKit Go.Proofs
set_option maxHeartbeats 16000000
theorem sign_lt1 {z : Int} : z.sign < 1 ↔ z < 1 := by
  rcases Int.lt_trichotomy z 0 with h | h | h
  · rw [Int.sign_eq_neg_one_of_neg h]; omega
  · subst h; simp
  · rw [Int.sign_eq_one_of_pos h]; omega
theorem sign_lt0 {z : Int} : z.sign < 0 ↔ z < 0 := by
  rcases Int.lt_trichotomy z 0 with h | h | h
  · rw [Int.sign_eq_neg_one_of_neg h]; omega
  · subst h; simp
  · rw [Int.sign_eq_one_of_pos h]; omega
theorem cmp_lt0 {x y : Int} : cmpZ x y < 0 ↔ x < y := by unfold cmpZ; split; omega; split <;> omega
theorem cmp_le0 {x y : Int} : cmpZ x y ≤ 0 ↔ x ≤ y := by unfold cmpZ; split; omega; split <;> omega
theorem cmp_gt0 {x y : Int} : 0 < cmpZ x y ↔ y < x := by unfold cmpZ; split; omega; split <;> omega
theorem cmp_ge0 {x y : Int} : 0 ≤ cmpZ x y ↔ y ≤ x := by unfold cmpZ; split; omega; split <;> omega
theorem fst_rng {a b m lo hi n : Int} (hlo : 0 ≤ lo) (hlh : lo ≤ hi) (hhi : hi < m) : IsF a b m lo hi n (fst' a b m lo hi n) := by
  have : ∃ k, IsF a b m lo hi n k := by
    by_cases hn : n < 1
    · exact ⟨_, isF_none hn⟩
    · rcases Int.lt_or_le ((hi - b) % m) ((lo - b) % m) with h | h
      · exact ⟨_, isF_over hlo hlh hhi (by omega) h⟩
      · obtain ⟨h1, h2⟩ := isF_reach (a := a) (b := b) (n := n) hlo hlh hhi h
        cases ho : rO (a % m) m ((lo - b) % m) ((hi - b) % m) with
        | true => exact ⟨_, h1 ho⟩
        | false => exact ⟨_, h2 ho⟩
  obtain ⟨k, hk⟩ := this
  rw [fst_eq hk]; exact hk
def badF (m lo hi n : Int) : Prop := m < 1 ∨ lo < 0 ∨ hi < lo ∨ m ≤ hi ∨ n < 0
instance (m lo hi n : Int) : Decidable (badF m lo hi n) := by unfold badF; infer_instance
noncomputable def fK (a b m lo hi n : Int) : Int := if badF m lo hi n then 0 else if fst' a b m lo hi n < 0 then 0 else fst' a b m lo hi n
noncomputable def fE (a b m lo hi n : Int) : Int := if badF m lo hi n then 1 else if fst' a b m lo hi n < 0 then 8 else 0
@[push_cast] noncomputable def spFirstX : Sp := spZZZZZI 0 (fun _ x0 _ x1 _ x2 _ x3 _ x4 n => (Lm x0 ∧ x0.length < 20000) ∧ (Lm x1 ∧ x1.length < 20000) ∧ (Lm x2 ∧ x2.length < 20000) ∧ (Lm x3 ∧ x3.length < 20000) ∧ (Lm x4 ∧ x4.length < 20000) ∧ -9223372036854775808 ≤ n ∧ n < 9223372036854775808)
  (fun b0 x0 b1 x1 b2 x2 b3 x3 b4 x4 n => .tup [.raw (.int .i64 (fK (zv b0 x0) (zv b1 x1) (zv b2 x2) (zv b3 x3) (zv b4 x4) n)), .raw (.int .i64 (fE (zv b0 x0) (zv b1 x1) (zv b2 x2) (zv b3 x3) (zv b4 x4) n))])
theorem firstX_ok : SpOK Tryz.prog 20 spFirstX := by
  refine SpOK.ZZZZZI fun b0 x0 b1 x1 b2 x2 b3 x3 b4 x4 n ⟨⟨h0, h0l⟩, ⟨h1, h1l⟩, ⟨h2, h2l⟩, ⟨h3, h3l⟩, ⟨h4, h4l⟩, hn1, hn2⟩ => ?_
  have hE := env (SOK.cons sign_ok (SOK.cons zcmp_ok (SOK.cons first_ok (SOK.nil (P := Tryz.prog)))))
  obtain ⟨A, eA⟩ : ∃ A, zv b0 x0 = A := ⟨_, rfl⟩
  obtain ⟨B, eB⟩ : ∃ B, zv b1 x1 = B := ⟨_, rfl⟩
  obtain ⟨M, eM⟩ : ∃ M, zv b2 x2 = M := ⟨_, rfl⟩
  obtain ⟨L, eL⟩ : ∃ L, zv b3 x3 = L := ⟨_, rfl⟩
  obtain ⟨H, eH⟩ : ∃ H, zv b4 x4 = H := ⟨_, rfl⟩
  rw [eA, eB, eM, eL, eH]
  refine ACall.body hE Tryz.func20 Tryz.ntmps20 Tryz.results20 ?_
  have bad : badF M L H n → AV.tup [.raw (.int .i64 0), .raw (.int .i64 1)] = AV.tup [.raw (.int .i64 (fK A B M L H n)), .raw (.int .i64 (fE A B M L H n))] := fun h => by
    unfold fK fE; rw [if_pos h, if_pos h]
  by_cases c1 : M < 1
  · refine wk hE (And.intro eM (sign_lt1.2 c1)) ?_
    refine PostL.mk trivial ?_
    exact bad (.inl c1)
  have d1 : ¬ M.sign < 1 := fun h => c1 (sign_lt1.1 h)
  by_cases c2 : L < 0
  · refine wk hE (And.intro eM (And.intro eL (And.intro d1 (sign_lt0.2 c2)))) ?_
    refine PostL.mk trivial ?_
    exact bad (.inr (.inl c2))
  have d2 : ¬ L.sign < 0 := fun h => c2 (sign_lt0.1 h)
  by_cases c3 : H < L
  · refine wk hE (And.intro eM (And.intro eL (And.intro eH (And.intro d1 (And.intro d2 (cmp_lt0.2 c3)))))) ?_
    refine PostL.mk trivial ?_
    exact bad (.inr (.inr (.inl c3)))
  have d3 : ¬ cmpZ H L < 0 := fun h => c3 (cmp_lt0.1 h)
  by_cases c4 : M ≤ H
  · refine wk hE (And.intro eM (And.intro eL (And.intro eH (And.intro d1 (And.intro d2 (And.intro d3 (cmp_le0.2 c4))))))) ?_
    refine PostL.mk trivial ?_
    exact bad (.inr (.inr (.inr (.inl c4))))
  have d4 : ¬ cmpZ M H ≤ 0 := fun h => c4 (cmp_le0.1 h)
  by_cases c5 : n < 0
  · refine wk hE (And.intro eM (And.intro eL (And.intro eH (And.intro d1 (And.intro d2 (And.intro d3 (And.intro d4 c5))))))) ?_
    refine PostL.mk trivial ?_
    exact bad (.inr (.inr (.inr (.inr c5))))
  have nb : ¬ badF M L H n := by unfold badF; omega
  have hK : fK A B M L H n = if fst' A B M L H n < 0 then 0 else fst' A B M L H n := by unfold fK; rw [if_neg nb]
  have hEr : fE A B M L H n = if fst' A B M L H n < 0 then 8 else 0 := by unfold fE; rw [if_neg nb]
  have hlo : 0 ≤ L := by omega
  have hlh : L ≤ H := by omega
  have hhi : H < M := by omega
  obtain ⟨k, ek⟩ : ∃ k, fst' A B M L H n = k := ⟨_, rfl⟩
  rw [ek] at hK hEr
  clear bad nb
  by_cases c6 : k < 0
  · rw [if_pos c6] at hK hEr
    refine wk hE (And.intro eA (And.intro eB (And.intro eM (And.intro eL (And.intro eH (And.intro d1 (And.intro d2 (And.intro d3 (And.intro d4 (And.intro c5 (And.intro ek c6))))))))))) ?_
    refine PostL.mk trivial ?_
    rw [hK, hEr]
  · rw [if_neg c6] at hK hEr
    refine wk hE (And.intro eA (And.intro eB (And.intro eM (And.intro eL (And.intro eH (And.intro d1 (And.intro d2 (And.intro d3 (And.intro d4 (And.intro c5 (And.intro ek c6))))))))))) ?_
    refine PostL.mk trivial ?_
    rw [hK, hEr]
end Go.Hl

namespace Go.Hl
open Go Go.RowKit Go.Proofs
set_option maxHeartbeats 16000000
def IsM (a b m n v : Int) : Prop := (∃ k, 0 ≤ k ∧ k < n ∧ Vk a b m k = v) ∧ ∀ k, 0 ≤ k → k < n → v ≤ Vk a b m k
theorem isM_unique {a b m n v w : Int} (h : IsM a b m n v) (k : IsM a b m n w) : v = w := by
  obtain ⟨⟨i, i0, i1, i2⟩, h2⟩ := h
  obtain ⟨⟨j, j0, j1, j2⟩, k2⟩ := k
  have := h2 j j0 j1
  have := k2 i i0 i1
  omega
open Classical in
noncomputable def mV (a b m n : Int) : Int := if h : ∃ v, IsM a b m n v then Classical.choose h else 0
theorem mV_eq {a b m n v : Int} (h : IsM a b m n v) : mV a b m n = v := by
  have he : ∃ v, IsM a b m n v := ⟨v, h⟩
  unfold mV
  rw [dif_pos he]
  exact isM_unique (Classical.choose_spec he) h
noncomputable def mK (a b m n : Int) : Int := fst' a b m (mV a b m n) (mV a b m n) n
structure LInv (a b m n lo hi : Int) : Prop where
  rng : 0 ≤ lo ∧ lo ≤ hi ∧ hi < m
  at_ : ∃ k, 0 ≤ k ∧ k < n ∧ Vk a b m k = hi
  low : ∀ k, 0 ≤ k → k < n → lo ≤ Vk a b m k
theorem LInv.start {a b m n : Int} (hm : 0 < m) (hn : 1 ≤ n) : LInv a b m n 0 (b % m) := by
  have h := mod_rng b hm
  refine ⟨⟨Int.le_refl _, h.1, h.2⟩, ⟨0, by omega, by omega, by unfold Vk; rw [Int.mul_zero, Int.zero_add]⟩, fun k _ _ => (mod_rng _ hm).1⟩
theorem LInv.none {a b m n lo hi mid : Int} (h : LInv a b m n lo hi) (h1 : lo ≤ mid) (h2 : mid < hi) (hk : IsF a b m lo mid n (-1)) : LInv a b m n (mid + 1) hi := by
  refine ⟨⟨by have := h.rng; omega, by omega, h.rng.2.2⟩, h.at_, fun k k0 k1 => ?_⟩
  rcases hk with ⟨_, hk⟩ | ⟨hk, _⟩
  · have g1 := hk k k0 k1
    have g2 := h.low k k0 k1
    rcases Int.lt_or_le (Vk a b m k) (mid + 1) with h' | h'
    · exact absurd ⟨g2, by omega⟩ g1
    · exact h'
  · omega
theorem LInv.some {a b m n lo hi mid k : Int} (h : LInv a b m n lo hi) (h2 : mid < hi) (k0 : 0 ≤ k) (hk : IsF a b m lo mid n k) : LInv a b m n lo (Vk a b m k) ∧ Vk a b m k ≤ mid := by
  rcases hk with ⟨e, _⟩ | ⟨hk, hv, _⟩
  · omega
  · exact ⟨⟨⟨h.rng.1, hv.1, by have := hv.2; have := h.rng; omega⟩, ⟨k, hk.1, hk.2, rfl⟩, h.low⟩, hv.2⟩
theorem LInv.done {a b m n lo : Int} (h : LInv a b m n lo lo) : mV a b m n = lo := mV_eq ⟨h.at_, h.low⟩
@[push_cast] noncomputable def spLeast : Sp := spZZZI 0 (fun _ x0 _ x1 b2 x2 n => (Lm x0 ∧ x0.length < 10000) ∧ (Lm x1 ∧ x1.length < 10000) ∧ (Lm x2 ∧ x2.length < 10000) ∧ 0 < zv b2 x2 ∧ 1 ≤ n ∧ n < 9223372036854775808)
  (fun b0 x0 b1 x1 b2 x2 n => .tup [.raw (.int .i64 (mK (zv b0 x0) (zv b1 x1) (zv b2 x2) n)), zi (mV (zv b0 x0) (zv b1 x1) (zv b2 x2) n)])
theorem least_ok : SpOK Tryz.prog 27 spLeast := by
  refine SpOK.ZZZI fun b0 x0 b1 x1 b2 x2 n ⟨⟨h0, h0l⟩, ⟨h1, h1l⟩, ⟨h2, h2l⟩, hm, hn1, hn2⟩ => ?_
  have hE := env (SOK.cons lmod_ok (SOK.cons zcmp_ok (SOK.cons zadd_ok (SOK.cons zshr_ok (SOK.cons first_ok (SOK.cons of_ok (SOK.cons zmul_ok (SOK.nil (P := Tryz.prog)))))))))
  have bA := zv_abs_lt (b := b0) h0 (l := 10000) (by omega)
  have bB := zv_abs_lt (b := b1) h1 (l := 10000) (by omega)
  have bM := zv_abs_lt (b := b2) h2 (l := 10000) (by omega)
  obtain ⟨A, eA⟩ : ∃ A, zv b0 x0 = A := ⟨_, rfl⟩
  obtain ⟨B, eB⟩ : ∃ B, zv b1 x1 = B := ⟨_, rfl⟩
  obtain ⟨M, eM⟩ : ∃ M, zv b2 x2 = M := ⟨_, rfl⟩
  rw [eA] at bA
  rw [eB] at bB
  rw [eM] at bM hm
  have fitM : ∀ z : Int, 0 ≤ z → z ≤ 2 * M → Lm (dg z.natAbs) ∧ (dg z.natAbs).length < 20000 := fun z hz hzM => by
    have h1 := powA bM bM
    have : z.natAbs < B64 ^ (10000 + 1) := by omega
    obtain ⟨f1, _, f2⟩ := dgl this (by omega)
    exact ⟨f1, by omega⟩
  rw [eA, eB, eM]
  refine ACall.body hE Tryz.func27 Tryz.ntmps27 Tryz.results27 ?_
  have hs := LInv.start (a := A) (b := B) (n := n) hm hn1
  obtain ⟨v0, ev0⟩ : ∃ v, B % M = v := ⟨_, rfl⟩
  rw [ev0] at hs
  obtain ⟨ov1, ov2⟩ := fitM v0 hs.rng.2.1 (by have := hs.rng; omega)
  refine wk hE (And.intro eB (And.intro eM ev0)) ?_
  refine AWp.loop (ι := {p : Int × Int // LInv A B M n p.1 p.2}) (fun p => ⟨[(3, .raw (.int .i64 n)), (4, .ptr 4 0), (5, .ptr 5 0), (6, .ptr 6 0), (8, .raw (.int .i64 0)), (9, .ptr 9 0), (10, .ptr 10 0), (11, .ptr 11 0)], [(4, ⟨true, .c [.raw (.bool b0), .ns .u64 x0]⟩), (5, ⟨true, .c [.raw (.bool b1), .ns .u64 x1]⟩), (6, ⟨true, .c [.raw (.bool b2), .ns .u64 x2]⟩), (9, ⟨true, .c [.raw (.bool false), .ns .u64 []]⟩), (10, ⟨true, .c [.raw (.bool (decide (p.1.1 < 0))), .ns .u64 (dg p.1.1.natAbs)]⟩), (11, ⟨true, .c [.raw (.bool (decide (p.1.2 < 0))), .ns .u64 (dg p.1.2.natAbs)]⟩)]⟩)
    (fun p => (p.1.2 - p.1.1).toNat) ⟨(0, v0), hs⟩ (Le.mk (And.intro (show dg (Int.natAbs 0) = [] from dg_zero) (show decide ((0 : Int) < 0) = false from rfl))) ?_
  rintro ⟨⟨lo, hi⟩, hI⟩
  dsimp only at hI ⊢
  clear hs ov1 ov2
  have hr := hI.rng
  obtain ⟨ol1, ol2⟩ := fitM lo (by omega) (by omega)
  obtain ⟨oh1, oh2⟩ := fitM hi (by omega) (by omega)
  by_cases hlt : lo < hi
  · obtain ⟨s, es⟩ : ∃ s, lo + hi = s := ⟨_, rfl⟩
    obtain ⟨os1, os2⟩ := fitM s (by omega) (by omega)
    obtain ⟨mid, emid⟩ : ∃ mid, s / 2 ^ sh 1 = mid := ⟨_, rfl⟩
    have emid' : mid = s / 2 := by rw [← emid]; rfl
    obtain ⟨om1, om2⟩ := fitM mid (by omega) (by omega)
    obtain ⟨k, ek⟩ : ∃ k, fst' A B M lo mid n = k := ⟨_, rfl⟩
    have hk := fst_rng (a := A) (b := B) (n := n) hr.1 (show lo ≤ mid by omega) (show mid < M by omega)
    rw [ek] at hk
    have hk1 : -1 ≤ k ∧ k < n := by
      rcases hk with ⟨h, _⟩ | ⟨h, _⟩
      · omega
      · omega
    by_cases hneg : k < 0
    · have hkm : k = -1 := by
        rcases hk with ⟨h, _⟩ | ⟨h, _⟩
        · exact h
        · omega
      subst hkm
      have hI' := hI.none (by omega) (by omega) hk
      obtain ⟨m1, em1⟩ : ∃ m1, mid + 1 = m1 := ⟨_, rfl⟩
      rw [em1] at hI'
      have hone : zv false (dg (Int.natAbs 1)) = 1 := zv_zi 1
      obtain ⟨c1, c1'⟩ := nat_abs_lt (z := 1) (l := 1) (by decide) (by omega)
      refine wk hE (And.intro eA (And.intro eB (And.intro eM (And.intro (cmp_lt0.2 hlt) (And.intro es (And.intro emid (And.intro ek (And.intro hone em1)))))))) ?_
      exact ⟨⟨(m1, hi), hI'⟩, Le.mk trivial, by dsimp only; omega⟩
    · have hI' := hI.some (by omega) (by omega) hk
      obtain ⟨hI', hle⟩ := hI'
      have e1 : Vk A B M k = (A * k + B) % M := rfl
      obtain ⟨w, ew⟩ : ∃ w, A * k = w := ⟨_, rfl⟩
      obtain ⟨u, eu⟩ : ∃ u, w + B = u := ⟨_, rfl⟩
      obtain ⟨v, ev⟩ : ∃ v, u % M = v := ⟨_, rfl⟩
      rw [e1, ew, eu, ev] at hI' hle
      have bk : k.natAbs < B64 ^ 1 := by rw [Nat.pow_one]; unfold B64; omega
      have bw := abs_mul_lt bA bk
      rw [ew] at bw
      have bB2 := pw_add 1 bB
      have bu := abs_add_lt bw bB2
      rw [eu] at bu
      obtain ⟨ow1, _, ow2⟩ := dgl bw (by omega)
      obtain ⟨ou1, _, ou2⟩ := dgl bu (by omega)
      obtain ⟨okk1, okk2⟩ := nat_abs_lt (z := k) (l := 1) bk (by omega)
      have hzk : zv false (dg k.natAbs) = k := by have := zv_zi k; rwa [decide_eq_false hneg] at this
      clear bw bB2 bu bk
      refine wk hE (And.intro eA (And.intro eB (And.intro eM (And.intro (cmp_lt0.2 hlt) (And.intro es (And.intro emid (And.intro ek (And.intro hneg (And.intro hzk (And.intro ew (And.intro eu ev))))))))))) ?_
      exact ⟨⟨(lo, v), hI'⟩, Le.mk trivial, by dsimp only; omega⟩
  · have he : lo = hi := by omega
    subst he
    have hd := hI.done
    have hc : ¬ cmpZ lo lo < 0 := fun h => by have := cmp_lt0.1 h; omega
    obtain ⟨k, ek⟩ : ∃ k, fst' A B M lo lo n = k := ⟨_, rfl⟩
    refine wk hE (And.intro eA (And.intro eB (And.intro eM (And.intro hc ek)))) ?_
    refine PostL.mk trivial ?_
    unfold mK
    rw [hd, ek]
    rfl
end Go.Hl

namespace Go.Hl
open Go Go.RowKit Go.Proofs
set_option maxHeartbeats 16000000
def badL (m n : Int) : Prop := m < 1 ∨ n < 1
instance (m n : Int) : Decidable (badL m n) := by unfold badL; infer_instance
noncomputable def lK (a b m n : Int) : Int := if badL m n then 0 else mK a b m n
noncomputable def lV (a b m n : Int) : Int := if badL m n then 0 else mV a b m n
def lE (m n : Int) : Int := if badL m n then 1 else 0
@[push_cast] noncomputable def spLeastX : Sp := spZZZI 0 (fun _ x0 _ x1 _ x2 n => (Lm x0 ∧ x0.length < 10000) ∧ (Lm x1 ∧ x1.length < 10000) ∧ (Lm x2 ∧ x2.length < 10000) ∧ -9223372036854775808 ≤ n ∧ n < 9223372036854775808)
  (fun b0 x0 b1 x1 b2 x2 n => .tup [.raw (.int .i64 (lK (zv b0 x0) (zv b1 x1) (zv b2 x2) n)), zi (lV (zv b0 x0) (zv b1 x1) (zv b2 x2) n), .raw (.int .i64 (lE (zv b2 x2) n))])
theorem leastX_ok : SpOK Tryz.prog 9 spLeastX := by
  refine SpOK.ZZZI fun b0 x0 b1 x1 b2 x2 n ⟨⟨h0, h0l⟩, ⟨h1, h1l⟩, ⟨h2, h2l⟩, hn1, hn2⟩ => ?_
  have hE := env (SOK.cons sign_ok (SOK.cons least_ok (SOK.nil (P := Tryz.prog))))
  obtain ⟨A, eA⟩ : ∃ A, zv b0 x0 = A := ⟨_, rfl⟩
  obtain ⟨B, eB⟩ : ∃ B, zv b1 x1 = B := ⟨_, rfl⟩
  obtain ⟨M, eM⟩ : ∃ M, zv b2 x2 = M := ⟨_, rfl⟩
  rw [eA, eB, eM]
  refine ACall.body hE Tryz.func9 Tryz.ntmps9 Tryz.results9 ?_
  have bad : badL M n → AV.tup [.raw (.int .i64 0), .agg [.raw (.bool false), .ns .u64 []], .raw (.int .i64 1)] = AV.tup [.raw (.int .i64 (lK A B M n)), zi (lV A B M n), .raw (.int .i64 (lE M n))] := fun h => by
    unfold lK lV lE; rw [if_pos h, if_pos h, if_pos h]; unfold zi; rw [show Int.natAbs 0 = 0 from rfl, dg_zero]; rfl
  by_cases c1 : M < 1
  · refine wk hE (And.intro eM (sign_lt1.2 c1)) ?_
    refine PostL.mk trivial ?_
    exact bad (.inl c1)
  have d1 : ¬ M.sign < 1 := fun h => c1 (sign_lt1.1 h)
  by_cases c2 : n < 1
  · refine wk hE (And.intro eM (And.intro d1 c2)) ?_
    refine PostL.mk trivial ?_
    exact bad (.inr c2)
  have nb : ¬ badL M n := by unfold badL; omega
  have h1 : lK A B M n = mK A B M n := if_neg nb
  have h2 : lV A B M n = mV A B M n := if_neg nb
  have h3 : lE M n = 0 := if_neg nb
  rw [h1, h2, h3]
  obtain ⟨k, ek⟩ : ∃ k, mK A B M n = k := ⟨_, rfl⟩
  obtain ⟨v, ev⟩ : ∃ v, mV A B M n = v := ⟨_, rfl⟩
  rw [ek, ev]
  clear bad nb h1 h2 h3
  refine wk hE (And.intro eA (And.intro eB (And.intro eM (And.intro d1 (And.intro c2 (And.intro ek ev)))))) ?_
  exact PostL.mk trivial rfl
theorem mV_rng {a b m n : Int} (hm : 0 < m) (hn : 1 ≤ n) : IsM a b m n (mV a b m n) := by
  have key : ∀ t : Nat, ∀ lo hi, LInv a b m n lo hi → (hi - lo).toNat = t → ∃ v, IsM a b m n v := by
    intro t
    induction t using Nat.strongRecOn with
    | ind t ih =>
      intro lo hi h ht
      by_cases hlt : lo < hi
      · have hr := h.rng
        have hk := fst_rng (a := a) (b := b) (n := n) hr.1 (show lo ≤ (lo + hi) / 2 by omega) (show (lo + hi) / 2 < m by omega)
        by_cases hneg : fst' a b m lo ((lo + hi) / 2) n < 0
        · have e : fst' a b m lo ((lo + hi) / 2) n = -1 := by
            rcases hk with ⟨e, _⟩ | ⟨e, _⟩
            · exact e
            · omega
          rw [e] at hk
          exact ih _ (by omega) _ _ (h.none (by omega) (by omega) hk) rfl
        · obtain ⟨h1, h2⟩ := h.some (by omega) (by omega) hk
          exact ih _ (by have := h1.rng; omega) _ _ h1 rfl
      · have : lo = hi := by have := h.rng; omega
        subst this
        exact ⟨lo, h.at_, h.low⟩
  obtain ⟨v, hv⟩ := key _ _ _ (LInv.start (a := a) (b := b) hm hn) rfl
  rw [mV_eq hv]; exact hv
theorem mV_bd {a b m n : Int} (hm : 0 < m) (hn : 1 ≤ n) : 0 ≤ mV a b m n ∧ mV a b m n < m := by
  obtain ⟨⟨k, _, _, h⟩, _⟩ := mV_rng (a := a) (b := b) hm hn
  rw [← h]; exact mod_rng _ hm
theorem mK_isF {a b m n : Int} (hm : 0 < m) (hn : 1 ≤ n) : IsF a b m (mV a b m n) (mV a b m n) n (mK a b m n) ∧ 0 ≤ mK a b m n ∧ mK a b m n < n := by
  obtain ⟨h1, h2⟩ := mV_bd (a := a) (b := b) hm hn
  have h := fst_rng (a := a) (b := b) (n := n) h1 (Int.le_refl _) h2
  refine ⟨h, ?_⟩
  have h' : IsF a b m (mV a b m n) (mV a b m n) n (mK a b m n) := h
  obtain ⟨⟨k, k0, k1, hk⟩, _⟩ := mV_rng (a := a) (b := b) hm hn
  rcases h' with ⟨_, e⟩ | ⟨e, _⟩
  · exact absurd ⟨by omega, by omega⟩ (e k k0 k1)
  · exact e
noncomputable def nK (a b m n : Int) : Int := if badL m n then 0 else if mV a b m n < mV (-a) (-b) m n then mK a b m n else if mV (-a) (-b) m n < mV a b m n then mK (-a) (-b) m n else if mK (-a) (-b) m n < mK a b m n then mK (-a) (-b) m n else mK a b m n
noncomputable def nV (a b m n : Int) : Int := if badL m n then 0 else if mV (-a) (-b) m n < mV a b m n then mV (-a) (-b) m n else mV a b m n
@[push_cast] noncomputable def spNear : Sp := spZZZI 0 (fun _ x0 _ x1 _ x2 n => (Lm x0 ∧ x0.length < 9000) ∧ (Lm x1 ∧ x1.length < 9000) ∧ (Lm x2 ∧ x2.length < 9000) ∧ -9223372036854775808 ≤ n ∧ n < 9223372036854775808)
  (fun b0 x0 b1 x1 b2 x2 n => .tup [.raw (.int .i64 (nK (zv b0 x0) (zv b1 x1) (zv b2 x2) n)), zi (nV (zv b0 x0) (zv b1 x1) (zv b2 x2) n), .raw (.int .i64 (lE (zv b2 x2) n))])
theorem near_ok : SpOK Tryz.prog 11 spNear := by
  refine SpOK.ZZZI fun b0 x0 b1 x1 b2 x2 n ⟨⟨h0, h0l⟩, ⟨h1, h1l⟩, ⟨h2, h2l⟩, hn1, hn2⟩ => ?_
  have hE := env (SOK.cons sign_ok (SOK.cons least_ok (SOK.cons zneg_ok (SOK.cons zcmp_ok (SOK.nil (P := Tryz.prog))))))
  have bA := zv_abs_lt (b := b0) h0 (l := 9000) (by omega)
  have bB := zv_abs_lt (b := b1) h1 (l := 9000) (by omega)
  have bM := zv_abs_lt (b := b2) h2 (l := 9000) (by omega)
  obtain ⟨A, eA⟩ : ∃ A, zv b0 x0 = A := ⟨_, rfl⟩
  obtain ⟨B, eB⟩ : ∃ B, zv b1 x1 = B := ⟨_, rfl⟩
  obtain ⟨M, eM⟩ : ∃ M, zv b2 x2 = M := ⟨_, rfl⟩
  rw [eA] at bA
  rw [eB] at bB
  rw [eM] at bM
  rw [eA, eB, eM]
  refine ACall.body hE Tryz.func11 Tryz.ntmps11 Tryz.results11 ?_
  have bad : badL M n → AV.tup [.raw (.int .i64 0), .agg [.raw (.bool false), .ns .u64 []], .raw (.int .i64 1)] = AV.tup [.raw (.int .i64 (nK A B M n)), zi (nV A B M n), .raw (.int .i64 (lE M n))] := fun h => by
    unfold nK nV lE; rw [if_pos h, if_pos h, if_pos h]; unfold zi; rw [show Int.natAbs 0 = 0 from rfl, dg_zero]; rfl
  by_cases c1 : M < 1
  · refine wk hE (And.intro eM (sign_lt1.2 c1)) ?_
    refine PostL.mk trivial ?_
    exact bad (.inl c1)
  have d1 : ¬ M.sign < 1 := fun h => c1 (sign_lt1.1 h)
  by_cases c2 : n < 1
  · refine wk hE (And.intro eM (And.intro d1 c2)) ?_
    refine PostL.mk trivial ?_
    exact bad (.inr c2)
  have nb : ¬ badL M n := by unfold badL; omega
  have h3 : lE M n = 0 := if_neg nb
  have hv1 := mV_bd (a := A) (b := B) (n := n) (m := M) (by omega) (by omega)
  have hv2 := mV_bd (a := -A) (b := -B) (n := n) (m := M) (by omega) (by omega)
  have hk : nK A B M n = _ := if_neg nb
  have hv : nV A B M n = _ := if_neg nb
  rw [hk, hv, h3]
  obtain ⟨na, ena⟩ : ∃ x, -A = x := ⟨_, rfl⟩
  obtain ⟨nb', enb⟩ : ∃ x, -B = x := ⟨_, rfl⟩
  have bA' : (na).natAbs < B64 ^ 9000 := by rw [← ena, Int.natAbs_neg]; exact bA
  have bB' : (nb').natAbs < B64 ^ 9000 := by rw [← enb, Int.natAbs_neg]; exact bB
  obtain ⟨oa1, _, oa2⟩ := dgl bA' (by omega)
  obtain ⟨ob1, _, ob2⟩ := dgl bB' (by omega)
  rw [ena, enb] at hv2 ⊢
  have fitM : ∀ z : Int, 0 ≤ z → z < M → Lm (dg z.natAbs) ∧ (dg z.natAbs).length < 20000 := fun z hz hzM => by
    have : z.natAbs < B64 ^ 9000 := by omega
    obtain ⟨f1, _, f2⟩ := dgl this (by omega)
    exact ⟨f1, by omega⟩
  obtain ⟨k, ek⟩ : ∃ k, mK A B M n = k := ⟨_, rfl⟩
  obtain ⟨v, ev⟩ : ∃ v, mV A B M n = v := ⟨_, rfl⟩
  obtain ⟨l, el⟩ : ∃ k, mK na nb' M n = k := ⟨_, rfl⟩
  obtain ⟨w, ew⟩ : ∃ v, mV na nb' M n = v := ⟨_, rfl⟩
  rw [ek, ev, el, ew]
  rw [ev] at hv1
  rw [ew] at hv2
  obtain ⟨ov1, ov2⟩ := fitM v hv1.1 hv1.2
  obtain ⟨ow1, ow2⟩ := fitM w hv2.1 hv2.2
  clear bad nb hk hv h3 bA bB bA' bB' bM fitM
  by_cases hc : v < w
  · have hc1 := cmp_lt0.2 hc
    rw [if_pos hc, if_neg (show ¬ w < v by omega)]
    refine wk hE (And.intro eA (And.intro eB (And.intro eM (And.intro d1 (And.intro c2 (And.intro ena (And.intro enb (And.intro ek (And.intro ev (And.intro el (And.intro ew hc1))))))))))) ?_
    exact PostL.mk trivial rfl
  by_cases hc' : w < v
  · have hc1 : ¬ cmpZ v w < 0 := fun h => hc (cmp_lt0.1 h)
    have hc2 := cmp_gt0.2 hc'
    rw [if_neg hc, if_pos hc', if_pos hc']
    refine wk hE (And.intro eA (And.intro eB (And.intro eM (And.intro d1 (And.intro c2 (And.intro ena (And.intro enb (And.intro ek (And.intro ev (And.intro el (And.intro ew (And.intro hc1 hc2)))))))))))) ?_
    exact PostL.mk trivial rfl
  · have hc1 : ¬ cmpZ v w < 0 := fun h => hc (cmp_lt0.1 h)
    have hc2 : ¬ 0 < cmpZ v w := fun h => hc' (cmp_gt0.1 h)
    rw [if_neg hc, if_neg hc', if_neg hc']
    by_cases hkl : l < k
    · rw [if_pos hkl]
      refine wk hE (And.intro eA (And.intro eB (And.intro eM (And.intro d1 (And.intro c2 (And.intro ena (And.intro enb (And.intro ek (And.intro ev (And.intro el (And.intro ew (And.intro hc1 (And.intro hc2 hkl))))))))))))) ?_
      exact PostL.mk trivial rfl
    · rw [if_neg hkl]
      refine wk hE (And.intro eA (And.intro eB (And.intro eM (And.intro d1 (And.intro c2 (And.intro ena (And.intro enb (And.intro ek (And.intro ev (And.intro el (And.intro ew (And.intro hc1 (And.intro hc2 hkl))))))))))))) ?_
      exact PostL.mk trivial rfl
end Go.Hl

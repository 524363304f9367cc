/- LefevreTries: the loop LefevreTries, joined -/
import Derived.Test.YtccbmjkhplmgnaaHlVa
import Derived.Test.YtccbmjkhplmgnaaHlV8
import Derived.Test.YtccbmjkhplmgnaaHlAx
set_option linter.unusedVariables false
set_option linter.unusedSimpArgs false
namespace Go.Hl
open Go Go.RowKit Go.Proofs
set_option maxHeartbeats 8000000
set_option maxRecDepth 100000
structure TInv (A B M L H N : Int) (k : Nat) (f a n V D : Int) : Prop where
  kN : (k : Int) ≤ N
  ff : IsF A B M L H k f
  vv : Mn (Vk A B M) M k V a
  dd : Mn (dk A B M) M k D n
theorem TInv.start {A B M L H N : Int} (hN : 0 ≤ N) : TInv A B M L H N 0 (-1) 0 0 M M := ⟨by simpa using hN, isF_start, Mn.start _ _, Mn.start _ _⟩
theorem Mn.rng {g : Int → Int} {m k v at_ : Int} (h : Mn g m k v at_) (hm : 0 < m) (hg : ∀ j, 0 ≤ g j ∧ g j < m) (hk : 0 ≤ k) : (0 ≤ v ∧ v ≤ m) ∧ 0 ≤ at_ ∧ at_ ≤ k := by
  rcases h.is with ⟨h1, h2⟩ | ⟨h1, h2, _⟩
  · omega
  · have := hg at_; omega
def fNext (A B M L H : Int) (k : Nat) (f : Int) : Int := if f < 0 ∧ L ≤ Vk A B M k ∧ Vk A B M k ≤ H then k else f
theorem TInv.next {A B M L H N : Int} {k : Nat} {f a n V D : Int} (h : TInv A B M L H N k f a n V D) (hk : (k : Int) < N) :
    TInv A B M L H N (k + 1) (fNext A B M L H k f) (if Vk A B M k < V then (k : Int) else a) (if dk A B M k < D then (k : Int) else n) (if Vk A B M k < V then Vk A B M k else V) (if dk A B M k < D then dk A B M k else D) := by
  have hc : ((k + 1 : Nat) : Int) = (k : Int) + 1 := by omega
  refine ⟨by omega, ?_, ?_, ?_⟩
  · rw [hc]
    obtain ⟨h1, h2, h3⟩ := isF_step (by omega) h.ff
    unfold fNext
    by_cases hf : f < 0
    · by_cases hv : inV A B M L H k
      · rw [if_pos ⟨hf, hv.1, hv.2⟩]; exact h1 hf hv
      · rw [if_neg (fun e => hv ⟨e.2.1, e.2.2⟩)]; exact h2 hf hv
    · rw [if_neg (fun e => hf e.1)]; exact h3 hf
  · rw [hc]
    split
    · rename_i hl; exact h.vv.less (by omega) hl
    · rename_i hl; exact h.vv.more hl
  · rw [hc]
    split
    · rename_i hl; exact h.dd.less (by omega) hl
    · rename_i hl; exact h.dd.more hl
def lnT (z : Int) : Prop := Lm (dg z.natAbs) ∧ (dg z.natAbs).length < 1000
theorem tries_loop {b0 b1 b2 b3 b4 : Bool} {x0 x1 x2 x3 x4 : List Int} {A B M L H N : Int} (m0 : Lm x0) (m1 : Lm x1) (m2 : Lm x2) (m3 : Lm x3) (m4 : Lm x4) (l0 : x0.length ≤ 2) (l1 : x1.length ≤ 2) (l2 : x2.length ≤ 2) (l3 : x3.length ≤ 2) (l4 : x4.length ≤ 2) (eA : zv b0 x0 = A) (eB : zv b1 x1 = B) (eM : zv b2 x2 = M) (eL : zv b3 x3 = L) (eH : zv b4 x4 = H) (hM : 0 < M) (hL : 0 ≤ L) (hLH : L ≤ H) (hHM : H < M) (hN : 1 ≤ N) (hN2 : N ≤ 300)
    (hT : ∀ (f a n V D : Int), TInv A B M L H N N.toNat f a n V D → AWp Try.prog (tab false) 293 (tl 7 ((Try.f24.body.getD .skip))) (PostL (tab false) [.tmp 6] [4] (.raw (.bool true))) ⟨[(3, .ptr 3 0), (4, .ptr 4 0), (5, .ptr 5 0), (7, .raw (.bool true)), (8, .raw (.int .i64 f)), (9, .raw (.int .i64 a)), (10, .raw (.int .i64 n)), (11, .ptr 11 0), (12, .ptr 12 0), (13, .os 149 1 0 ((hl A B M H N.toNat 0)).length), (14, .raw (.int .i64 N))], [(3, ⟨true, .c [.raw (.bool b0), .ns .u64 x0, .raw (.bool b1), .ns .u64 x1, .raw (.bool b2), .ns .u64 x2, .raw (.int .i64 N)]⟩), (4, ⟨true, .c [.raw (.bool b3), .ns .u64 x3]⟩), (5, ⟨true, .c [.raw (.bool b4), .ns .u64 x4]⟩), (11, ⟨true, .c [.raw (.bool (decide (V < 0))), .ns .u64 (dg (V).natAbs)]⟩), (12, ⟨true, .c [.raw (.bool (decide (D < 0))), .ns .u64 (dg (D).natAbs)]⟩), (149, ⟨true, .n .i64 ((hl A B M H N.toNat 0))⟩)]⟩) :
    AWp Try.prog (tab false) 293 (tl 6 ((Try.f24.body.getD .skip))) (PostL (tab false) [.tmp 6] [4] (.raw (.bool true))) ⟨[(3, .ptr 3 0), (4, .ptr 4 0), (5, .ptr 5 0), (7, .raw (.bool true)), (8, .raw (.int .i64 (-1))), (9, .raw (.int .i64 0)), (10, .raw (.int .i64 0)), (11, .ptr 11 0), (12, .ptr 12 0), (13, .os 149 1 0 0)], [(3, ⟨true, .c [.raw (.bool b0), .ns .u64 x0, .raw (.bool b1), .ns .u64 x1, .raw (.bool b2), .ns .u64 x2, .raw (.int .i64 N)]⟩), (4, ⟨true, .c [.raw (.bool b3), .ns .u64 x3]⟩), (5, ⟨true, .c [.raw (.bool b4), .ns .u64 x4]⟩), (11, ⟨true, .c [.raw (.bool (decide (M < 0))), .ns .u64 (dg (M).natAbs)]⟩), (12, ⟨true, .c [.raw (.bool (decide (M < 0))), .ns .u64 (dg (M).natAbs)]⟩), (149, ⟨true, .n .i64 []⟩)]⟩ := by
  have hE := env (SOK.cons num_ok (SOK.cons rzmul_ok (SOK.cons rzadd_ok (SOK.cons rzdivmod_ok (SOK.cons rzsub_ok (SOK.cons rzcmp_ok (SOK.nil (P := Try.prog))))))))
  have bA := zv_abs_lt (b := b0) m0 (l := 2) (by omega)
  have bB := zv_abs_lt (b := b1) m1 (l := 2) (by omega)
  have bM := zv_abs_lt (b := b2) m2 (l := 2) (by omega)
  rw [eA] at bA
  rw [eB] at bB
  rw [eM] at bM
  have lnM : ∀ z : Int, 0 ≤ z → z ≤ M → lnT z := fun z z0 z1 => fit_of (k := 2) (by decide) (by omega)
  change AWp _ _ _ (.seq _ _) _ _
  refine wk hE trivial ?_
  refine AWp.loop (ι := {p : Nat × Int × Int × Int × Int × Int // TInv A B M L H N p.1 p.2.1 p.2.2.1 p.2.2.2.1 p.2.2.2.2.1 p.2.2.2.2.2}) (fun p => ⟨[(3, .ptr 3 0), (4, .ptr 4 0), (5, .ptr 5 0), (7, .raw (.bool true)), (8, .raw (.int .i64 p.1.2.1)), (9, .raw (.int .i64 p.1.2.2.1)), (10, .raw (.int .i64 p.1.2.2.2.1)), (11, .ptr 11 0), (12, .ptr 12 0), (13, .os 149 1 0 ((hl A B M H p.1.1 0)).length), (14, .raw (.int .i64 (p.1.1 : Nat)))], [(3, ⟨true, .c [.raw (.bool b0), .ns .u64 x0, .raw (.bool b1), .ns .u64 x1, .raw (.bool b2), .ns .u64 x2, .raw (.int .i64 N)]⟩), (4, ⟨true, .c [.raw (.bool b3), .ns .u64 x3]⟩), (5, ⟨true, .c [.raw (.bool b4), .ns .u64 x4]⟩), (11, ⟨true, .c [.raw (.bool (decide (p.1.2.2.2.2.1 < 0))), .ns .u64 (dg (p.1.2.2.2.2.1).natAbs)]⟩), (12, ⟨true, .c [.raw (.bool (decide (p.1.2.2.2.2.2 < 0))), .ns .u64 (dg (p.1.2.2.2.2.2).natAbs)]⟩), (149, ⟨true, .n .i64 ((hl A B M H p.1.1 0))⟩)]⟩)
    (fun p => N.toNat - p.1.1) ⟨(0, -1, 0, 0, M, M), TInv.start (by omega)⟩ (Le.mk (And.intro (show hl A B M H 0 0 = [] from rfl) (And.intro (show ([] : List Int).length = 0 from rfl) (show ((0 : Nat) : Int) = 0 from rfl)))) ?_
  rintro ⟨⟨k, f, a, n, V, D⟩, hI⟩
  dsimp only at hI ⊢
  obtain ⟨l, el⟩ : ∃ l, hl A B M H k 0 = l := ⟨_, rfl⟩
  have hll : l.length ≤ k := by rw [← el]; exact hl_len _ _ _ _ _ _
  refine wk hE el ?_
  refine AWp.test trivial (fun hk => ?_) (fun hk => ?_)
  rotate_left
  · have hk := of_decide_eq_false hk
    have hkN : (k : Int) = N := by have := hI.kN; omega
    have hkn : N.toNat = k := by omega
    have h := hT f a n V D (by rw [hkn]; exact hI)
    rw [hkn, el] at h
    refine AWp.exit ?_
    refine Im.thenX (Im.thenX (Im.blkX (Im.thn Im.refl))) hE ?_
    exact AWp.weak (Le.mk hkN) h
  have hk := of_decide_eq_true hk
  have hnext := hI.next hk
  have hv0 : 0 ≤ Vk A B M k ∧ Vk A B M k < M := mod_rng _ hM
  have hd0 := dk_rng hM A B k
  have hV := hI.vv.rng hM (fun j => mod_rng _ hM) (by omega)
  have hD := hI.dd.rng hM (fun j => dk_rng hM A B j) (by omega)
  have hf0 : -1 ≤ f ∧ f < 300 := by
    rcases hI.ff with ⟨h, _⟩ | ⟨h, _⟩ <;> omega
  have hkb : (k : Int) < 300 := by omega
  have hsn := hl_snoc A B M H k 0
  rw [el, show (0 : Int) + (k : Int) = k by omega] at hsn
  unfold fNext at hnext
  have hdk : dk A B M k = if Vk A B M k < M - Vk A B M k then Vk A B M k else M - Vk A B M k := rfl
  have eR : rz (A * (k : Int) + B) M = Vk A B M k := by unfold rz Vk; rw [if_neg (by omega)]
  have bk : ((k : Int)).natAbs < B64 ^ 1 := i64_lt (by omega) (by omega)
  have bP : (A * (k : Int)).natAbs < B64 ^ 3 := abs_mul_lt (k := 2) (l := 1) bA bk
  have bS : (A * (k : Int) + B).natAbs < B64 ^ 4 := abs_add_lt (l := 3) bP (pow64_le bB (by decide))
  obtain ⟨ok1, ok2⟩ := fit_of (by decide) bk
  obtain ⟨oP1, oP2⟩ := fit_of (by decide) bP
  obtain ⟨oS1, oS2⟩ := fit_of (by decide) bS
  obtain ⟨P, eP⟩ : ∃ P, A * (k : Int) = P := ⟨_, rfl⟩
  rw [eP] at eR oP1 oP2 oS1 oS2
  obtain ⟨S, eS⟩ : ∃ S, P + B = S := ⟨_, rfl⟩
  rw [eS] at eR oS1 oS2
  obtain ⟨Q, eQ⟩ : ∃ Q, S / M = Q := ⟨_, rfl⟩
  obtain ⟨v, ev⟩ : ∃ v, Vk A B M k = v := ⟨_, rfl⟩
  rw [ev] at eR hnext hv0 hdk hsn
  obtain ⟨d1, ed1⟩ : ∃ d1, M - v = d1 := ⟨_, rfl⟩
  rw [ed1] at hdk
  obtain ⟨d, ed⟩ : ∃ d, dk A B M k = d := ⟨_, rfl⟩
  rw [ed] at hnext hd0 hdk
  have hne : decide (M ≠ 0) = true := decide_eq_true (by omega)
  obtain ⟨ov1, ov2⟩ := lnM v (by omega) (by omega)
  obtain ⟨od1, od2⟩ := lnM d (by omega) (by omega)
  obtain ⟨oe1, oe2⟩ := lnM d1 (by omega) (by omega)
  obtain ⟨oV1, oV2⟩ := lnM V (by omega) (by omega)
  obtain ⟨oD1, oD2⟩ := lnM D (by omega) (by omega)
  obtain ⟨oL1, oL2⟩ := lnM L (by omega) (by omega)
  obtain ⟨oH1, oH2⟩ := lnM H (by omega) (by omega)
  clear hT lnM bA bB bM bk bP bS ev ed
  refine AWp.skip ?_
  change AWp _ _ _ (.seq (.block 1 _) _) _ _
  refine AWp.seq (AWp.block ?_)
  refine AWp.seqJ (ι := Unit) (fun _ => ⟨[(3, .ptr 3 0), (4, .ptr 4 0), (5, .ptr 5 0), (7, .raw (.bool true)), (8, .raw (.int .i64 f)), (9, .raw (.int .i64 a)), (10, .raw (.int .i64 n)), (11, .ptr 11 0), (12, .ptr 12 0), (13, .os 149 1 0 (l).length), (14, .raw (.int .i64 (k : Nat))), (16, .ptr 16 0), (18, .any)], [(3, ⟨true, .c [.raw (.bool b0), .ns .u64 x0, .raw (.bool b1), .ns .u64 x1, .raw (.bool b2), .ns .u64 x2, .raw (.int .i64 N)]⟩), (4, ⟨true, .c [.raw (.bool b3), .ns .u64 x3]⟩), (5, ⟨true, .c [.raw (.bool b4), .ns .u64 x4]⟩), (11, ⟨true, .c [.raw (.bool (decide (V < 0))), .ns .u64 (dg (V).natAbs)]⟩), (12, ⟨true, .c [.raw (.bool (decide (D < 0))), .ns .u64 (dg (D).natAbs)]⟩), (149, ⟨true, .n .i64 (l)⟩), (16, ⟨true, .c [.raw (.bool (decide (v < 0))), .ns .u64 (dg (v).natAbs)]⟩)]⟩) ?_ (fun _ => ?_)
  · refine wk hE (And.intro eA (And.intro eB (And.intro eM (And.intro eP (And.intro eS (And.intro eQ (And.intro eR hne))))))) ?_
    exact ⟨(), Le.mk trivial⟩
  refine wkR hE (And.intro eM ed1) ?_
  refine AWp.seqJ (ι := Unit) (fun _ => ⟨[(3, .ptr 3 0), (4, .ptr 4 0), (5, .ptr 5 0), (7, .raw (.bool true)), (8, .raw (.int .i64 f)), (9, .raw (.int .i64 a)), (10, .raw (.int .i64 n)), (11, .ptr 11 0), (12, .ptr 12 0), (13, .os 149 1 0 (l).length), (14, .raw (.int .i64 (k : Nat))), (16, .ptr 16 0), (18, .ptr 18 0)], [(3, ⟨true, .c [.raw (.bool b0), .ns .u64 x0, .raw (.bool b1), .ns .u64 x1, .raw (.bool b2), .ns .u64 x2, .raw (.int .i64 N)]⟩), (4, ⟨true, .c [.raw (.bool b3), .ns .u64 x3]⟩), (5, ⟨true, .c [.raw (.bool b4), .ns .u64 x4]⟩), (11, ⟨true, .c [.raw (.bool (decide (V < 0))), .ns .u64 (dg (V).natAbs)]⟩), (12, ⟨true, .c [.raw (.bool (decide (D < 0))), .ns .u64 (dg (D).natAbs)]⟩), (149, ⟨true, .n .i64 (l)⟩), (16, ⟨true, .c [.raw (.bool (decide (v < 0))), .ns .u64 (dg (v).natAbs)]⟩), (18, ⟨true, .c [.raw (.bool (decide (d < 0))), .ns .u64 (dg (d).natAbs)]⟩)]⟩) ?_ (fun _ => ?_)
  · by_cases hc : v < d1
    · rw [if_pos hc] at hdk
      subst hdk
      refine wk hE (cmp_lt0.2 hc) ?_
      exact ⟨(), Le.mk trivial⟩
    · rw [if_neg hc] at hdk
      subst hdk
      have hc' : ¬ cmpZ v d < 0 := fun h => hc (cmp_lt0.1 h)
      refine wk hE hc' ?_
      exact ⟨(), Le.mk trivial⟩
  obtain ⟨f', ef⟩ : ∃ f', (if f < 0 ∧ L ≤ v ∧ v ≤ H then (k : Int) else f) = f' := ⟨_, rfl⟩
  obtain ⟨a', ea⟩ : ∃ a', (if v < V then (k : Int) else a) = a' := ⟨_, rfl⟩
  obtain ⟨n', en⟩ : ∃ n', (if d < D then (k : Int) else n) = n' := ⟨_, rfl⟩
  obtain ⟨V', eV⟩ : ∃ V', (if v < V then v else V) = V' := ⟨_, rfl⟩
  obtain ⟨D', eD⟩ : ∃ D', (if d < D then d else D) = D' := ⟨_, rfl⟩
  rw [ef, ea, en, eV, eD] at hnext
  refine AWp.seqJ (ι := Unit) (fun _ => ⟨[(3, .ptr 3 0), (4, .ptr 4 0), (5, .ptr 5 0), (7, .raw (.bool true)), (8, .raw (.int .i64 f')), (9, .raw (.int .i64 a)), (10, .raw (.int .i64 n)), (11, .ptr 11 0), (12, .ptr 12 0), (13, .os 149 1 0 (l).length), (14, .raw (.int .i64 (k : Nat))), (16, .ptr 16 0), (18, .ptr 18 0)], [(3, ⟨true, .c [.raw (.bool b0), .ns .u64 x0, .raw (.bool b1), .ns .u64 x1, .raw (.bool b2), .ns .u64 x2, .raw (.int .i64 N)]⟩), (4, ⟨true, .c [.raw (.bool b3), .ns .u64 x3]⟩), (5, ⟨true, .c [.raw (.bool b4), .ns .u64 x4]⟩), (11, ⟨true, .c [.raw (.bool (decide (V < 0))), .ns .u64 (dg (V).natAbs)]⟩), (12, ⟨true, .c [.raw (.bool (decide (D < 0))), .ns .u64 (dg (D).natAbs)]⟩), (149, ⟨true, .n .i64 (l)⟩), (16, ⟨true, .c [.raw (.bool (decide (v < 0))), .ns .u64 (dg (v).natAbs)]⟩), (18, ⟨true, .c [.raw (.bool (decide (d < 0))), .ns .u64 (dg (d).natAbs)]⟩)]⟩) ?_ (fun _ => ?_)
  · by_cases h1 : f < 0
    · by_cases h2 : L ≤ v
      · by_cases h3 : v ≤ H
        · rw [if_pos ⟨h1, h2, h3⟩] at ef
          subst ef
          refine wk hE (And.intro eL (And.intro eH (And.intro h1 (And.intro (cmp_ge0.2 h2) (cmp_le0.2 h3))))) ?_
          exact ⟨(), Le.mk trivial⟩
        · rw [if_neg (fun h => h3 h.2.2)] at ef
          subst ef
          have h3' : ¬ cmpZ v H ≤ 0 := fun h => h3 (cmp_le0.1 h)
          refine wk hE (And.intro eL (And.intro eH (And.intro h1 (And.intro (cmp_ge0.2 h2) h3')))) ?_
          exact ⟨(), Le.mk trivial⟩
      · rw [if_neg (fun h => h2 h.2.1)] at ef
        subst ef
        have h2' : ¬ 0 ≤ cmpZ v L := fun h => h2 (cmp_ge0.1 h)
        refine wk hE (And.intro eL (And.intro h1 h2')) ?_
        exact ⟨(), Le.mk trivial⟩
    · rw [if_neg (fun h => h1 h.1)] at ef
      subst ef
      refine wk hE h1 ?_
      exact ⟨(), Le.mk trivial⟩
  refine AWp.seqJ (ι := Unit) (fun _ => ⟨[(3, .ptr 3 0), (4, .ptr 4 0), (5, .ptr 5 0), (7, .raw (.bool true)), (8, .raw (.int .i64 f')), (9, .raw (.int .i64 a')), (10, .raw (.int .i64 n)), (11, .ptr 11 0), (12, .ptr 12 0), (13, .os 149 1 0 (l).length), (14, .raw (.int .i64 (k : Nat))), (16, .ptr 16 0), (18, .ptr 18 0)], [(3, ⟨true, .c [.raw (.bool b0), .ns .u64 x0, .raw (.bool b1), .ns .u64 x1, .raw (.bool b2), .ns .u64 x2, .raw (.int .i64 N)]⟩), (4, ⟨true, .c [.raw (.bool b3), .ns .u64 x3]⟩), (5, ⟨true, .c [.raw (.bool b4), .ns .u64 x4]⟩), (11, ⟨true, .c [.raw (.bool (decide (V' < 0))), .ns .u64 (dg (V').natAbs)]⟩), (12, ⟨true, .c [.raw (.bool (decide (D < 0))), .ns .u64 (dg (D).natAbs)]⟩), (149, ⟨true, .n .i64 (l)⟩), (16, ⟨true, .c [.raw (.bool (decide (v < 0))), .ns .u64 (dg (v).natAbs)]⟩), (18, ⟨true, .c [.raw (.bool (decide (d < 0))), .ns .u64 (dg (d).natAbs)]⟩)]⟩) ?_ (fun _ => ?_)
  · by_cases h1 : v < V
    · rw [if_pos h1] at ea eV
      subst ea; subst eV
      refine wk hE (cmp_lt0.2 h1) ?_
      exact ⟨(), Le.mk trivial⟩
    · rw [if_neg h1] at ea eV
      subst ea; subst eV
      have h1' : ¬ cmpZ v V < 0 := fun h => h1 (cmp_lt0.1 h)
      refine wk hE h1' ?_
      exact ⟨(), Le.mk trivial⟩
  refine AWp.seqJ (ι := Unit) (fun _ => ⟨[(3, .ptr 3 0), (4, .ptr 4 0), (5, .ptr 5 0), (7, .raw (.bool true)), (8, .raw (.int .i64 f')), (9, .raw (.int .i64 a')), (10, .raw (.int .i64 n')), (11, .ptr 11 0), (12, .ptr 12 0), (13, .os 149 1 0 (l).length), (14, .raw (.int .i64 (k : Nat))), (16, .ptr 16 0), (18, .ptr 18 0)], [(3, ⟨true, .c [.raw (.bool b0), .ns .u64 x0, .raw (.bool b1), .ns .u64 x1, .raw (.bool b2), .ns .u64 x2, .raw (.int .i64 N)]⟩), (4, ⟨true, .c [.raw (.bool b3), .ns .u64 x3]⟩), (5, ⟨true, .c [.raw (.bool b4), .ns .u64 x4]⟩), (11, ⟨true, .c [.raw (.bool (decide (V' < 0))), .ns .u64 (dg (V').natAbs)]⟩), (12, ⟨true, .c [.raw (.bool (decide (D' < 0))), .ns .u64 (dg (D').natAbs)]⟩), (149, ⟨true, .n .i64 (l)⟩), (16, ⟨true, .c [.raw (.bool (decide (v < 0))), .ns .u64 (dg (v).natAbs)]⟩), (18, ⟨true, .c [.raw (.bool (decide (d < 0))), .ns .u64 (dg (d).natAbs)]⟩)]⟩) ?_ (fun _ => ?_)
  · by_cases h1 : d < D
    · rw [if_pos h1] at en eD
      subst en; subst eD
      refine wk hE (cmp_lt0.2 h1) ?_
      exact ⟨(), Le.mk trivial⟩
    · rw [if_neg h1] at en eD
      subst en; subst eD
      have h1' : ¬ cmpZ d D < 0 := fun h => h1 (cmp_lt0.1 h)
      refine wk hE h1' ?_
      exact ⟨(), Le.mk trivial⟩
  have hmu : N.toNat - (k + 1) < N.toNat - k := by omega
  by_cases h1 : v < H
  · rw [if_pos h1] at hsn
    refine wk hE (And.intro eH (cmp_lt0.2 h1)) ?_
    exact ⟨⟨(k + 1, f', a', n', V', D'), hnext⟩, Le.mk (And.intro hsn (show (l ++ [(k : Int)]).length = l.length + 1 by simp)), hmu⟩
  · rw [if_neg h1, List.append_nil] at hsn
    have h1' : ¬ cmpZ v H < 0 := fun h => h1 (cmp_lt0.1 h)
    refine wk hE (And.intro eH h1') ?_
    exact ⟨⟨(k + 1, f', a', n', V', D'), hnext⟩, Le.mk hsn, hmu⟩
end Go.Hl

namespace Go.Hl
open Go Go.RowKit Go.Proofs
set_option maxHeartbeats 8000000
set_option maxRecDepth 100000
theorem tries_t {b0 b1 b2 b3 b4 : Bool} {x0 x1 x2 x3 x4 : List Int} {A B M L H N f a n V D : Int} {l : List Int} (m0 : Lm x0) (m1 : Lm x1) (m2 : Lm x2) (m3 : Lm x3) (m4 : Lm x4) (l0 : x0.length ≤ 2) (l1 : x1.length ≤ 2) (l2 : x2.length ≤ 2) (l3 : x3.length ≤ 2) (l4 : x4.length ≤ 2) (eA : zv b0 x0 = A) (eB : zv b1 x1 = B) (eM : zv b2 x2 = M) (eL : zv b3 x3 = L) (eH : zv b4 x4 = H) (hN : 1 ≤ N) (hN2 : N ≤ 300) (ll : l.length ≤ 300)
    {k e : Int} (f1 : fK A B M L H N = k) (f2 : fE A B M L H N = e) (hc : (f < 0 ∧ k = 0 ∧ e = 8) ∨ (¬ f < 0 ∧ k = f ∧ e = 0)) (g1 : lK A B M N = a) (g2 : lV A B M N = V) (g3 : lE M N = 0) (h1 : nK A B M N = n) (h2 : nV A B M N = D)
    (w1 : wK A B M H N = (l.length : Int)) (w2 : wE M H N = 0) (t1 : hT A B M H N 300 = l) (t2 : hM A B M H N 300 = false) (t3 : hE M H N 300 = 0) (oV : lnT V) (oD : lnT D) :
    AWp Try.prog (tab false) 293 (tl 7 ((Try.f24.body.getD .skip))) (PostL (tab false) [.tmp 6] [4] (.raw (.bool true))) ⟨[(3, .ptr 3 0), (4, .ptr 4 0), (5, .ptr 5 0), (7, .raw (.bool true)), (8, .raw (.int .i64 f)), (9, .raw (.int .i64 a)), (10, .raw (.int .i64 n)), (11, .ptr 11 0), (12, .ptr 12 0), (13, .os 149 1 0 (l).length), (14, .raw (.int .i64 N))], [(3, ⟨true, .c [.raw (.bool b0), .ns .u64 x0, .raw (.bool b1), .ns .u64 x1, .raw (.bool b2), .ns .u64 x2, .raw (.int .i64 N)]⟩), (4, ⟨true, .c [.raw (.bool b3), .ns .u64 x3]⟩), (5, ⟨true, .c [.raw (.bool b4), .ns .u64 x4]⟩), (11, ⟨true, .c [.raw (.bool (decide (V < 0))), .ns .u64 (dg (V).natAbs)]⟩), (12, ⟨true, .c [.raw (.bool (decide (D < 0))), .ns .u64 (dg (D).natAbs)]⟩), (149, ⟨true, .n .i64 (l)⟩)]⟩ := by
  have hE := env (SOK.cons firstX_ok (SOK.cons leastX_ok (SOK.cons near_ok (SOK.cons many_ok (SOK.cons hits_ok (SOK.cons exact_ok (SOK.cons sameI_ok (SOK.nil (P := Try.prog)))))))))
  obtain ⟨oV1, oV2⟩ := oV
  obtain ⟨oD1, oD2⟩ := oD
  change AWp _ _ _ (.seq _ _) _ _
  refine wkR hE (And.intro eA (And.intro eB (And.intro eM (And.intro eL (And.intro eH (And.intro f1 f2)))))) ?_
  refine wkR hE (And.intro eA (And.intro eB (And.intro eM (And.intro g1 (And.intro g2 g3))))) ?_
  refine wkR hE (And.intro eA (And.intro eB (And.intro eM (And.intro h1 (And.intro h2 g3))))) ?_
  refine wkR hE (And.intro eA (And.intro eB (And.intro eM (And.intro eH (And.intro w1 w2))))) ?_
  refine wkR hE (And.intro eA (And.intro eB (And.intro eM (And.intro eH (And.intro t1 (And.intro t2 t3)))))) ?_
  refine AWp.seqJ (ι := Unit) (fun _ => ⟨[(7, .raw (.bool true)), (9, .raw (.int .i64 a)), (10, .raw (.int .i64 n)), (11, .ptr 11 0), (12, .ptr 12 0), (13, .os 149 1 0 l.length), (21, .raw (.int .i64 a)), (22, .ptr 22 0), (23, .raw (.int .i64 0)), (24, .raw (.int .i64 n)), (25, .ptr 25 0), (26, .raw (.int .i64 0)), (27, .raw (.int .i64 (l.length : Int))), (28, .raw (.int .i64 0)), (29, .ns .i64 l), (30, .raw (.bool false)), (31, .raw (.int .i64 0))], [(11, ⟨true, .c [.raw (.bool (decide (V < 0))), .ns .u64 (dg (V).natAbs)]⟩), (12, ⟨true, .c [.raw (.bool (decide (D < 0))), .ns .u64 (dg (D).natAbs)]⟩), (149, ⟨true, .n .i64 l⟩), (22, ⟨true, .c [.raw (.bool (decide (V < 0))), .ns .u64 (dg (V).natAbs)]⟩), (25, ⟨true, .c [.raw (.bool (decide (D < 0))), .ns .u64 (dg (D).natAbs)]⟩)]⟩) ?_ (fun _ => ?_)
  · rcases hc with ⟨hf, hk, he⟩ | ⟨hf, hk, he⟩
    · subst hk; subst he
      have hf2 : ¬ 0 ≤ f := by omega
      refine wk hE (And.intro hf hf2) ?_
      exact ⟨(), Le.mk trivial⟩
    · subst hk; subst he
      have e0 : (k != k) = false := by simp
      have hf' : 0 ≤ k := by omega
      refine wk hE (And.intro hf (And.intro hf' e0)) ?_
      exact ⟨(), Le.mk trivial⟩
  have aa : (a == a) = true := beq_self_eq_true _
  have nn : (n == n) = true := beq_self_eq_true _
  have lll : ((l.length : Int) == (l.length : Int)) = true := beq_self_eq_true _
  have dV : decide (dg V.natAbs = dg V.natAbs) = true := decide_eq_true rfl
  have bV : (decide (V < 0) == decide (V < 0)) = true := beq_self_eq_true _
  have dD : decide (dg D.natAbs = dg D.natAbs) = true := decide_eq_true rfl
  have bD : (decide (D < 0) == decide (D < 0)) = true := beq_self_eq_true _
  have dl : decide (l = l) = true := decide_eq_true rfl
  refine wk hE (And.intro aa (And.intro nn (And.intro lll (And.intro dV (And.intro bV (And.intro dD (And.intro bD dl))))))) ?_
  exact PostL.mk trivial rfl
theorem lefevreTries_ok {b0 b1 b2 b3 b4 : Bool} {x0 x1 x2 x3 x4 : List Int} {N : Int} (h0 : Lim B64 x0) (h1 : Lim B64 x1) (h2 : Lim B64 x2) (hN : (Lit.int .i64 N).wf = true) (h3 : Lim B64 x3) (h4 : Lim B64 x4) :
    ACall Try.prog 24 [.agg [.raw (.bool b0), .ns .u64 x0, .raw (.bool b1), .ns .u64 x1, .raw (.bool b2), .ns .u64 x2, .raw (.int .i64 N)], .agg [.raw (.bool b3), .ns .u64 x3], .agg [.raw (.bool b4), .ns .u64 x4]] (.raw (.bool true)) := by
  obtain ⟨N1, N2⟩ := rng64 hN
  have hE := env (SOK.cons shown15_ok (SOK.cons fits_ok (SOK.cons rzsign_ok (SOK.cons rzcmp_ok (SOK.cons rznorm_ok (SOK.nil (P := Try.prog)))))))
  refine ACall.body hE Try.func24 Try.ntmps24 Try.results24 ?_
  obtain ⟨F, eF⟩ : ∃ F, fitB x0 x1 x2 2 = F := ⟨_, rfl⟩
  cases F
  · refine wk hE eF ?_
    exact PostL.mk trivial rfl
  obtain ⟨l0, l1, l2⟩ := fit_true eF
  have m0 := lm_of h0 (k := 2) (by omega) (by decide)
  have m1 := lm_of h1 (k := 2) (by omega) (by decide)
  have m2 := lm_of h2 (k := 2) (by omega) (by decide)
  by_cases hl3 : 2 < (x3.length : Int)
  · refine wk hE (And.intro eF hl3) ?_
    exact PostL.mk trivial rfl
  by_cases hl4 : 2 < (x4.length : Int)
  · refine wk hE (And.intro eF (And.intro hl3 hl4)) ?_
    exact PostL.mk trivial rfl
  have m3 := lm_of h3 (k := 2) (by omega) (by decide)
  have m4 := lm_of h4 (k := 2) (by omega) (by decide)
  obtain ⟨A, eA⟩ : ∃ A, zv b0 x0 = A := ⟨_, rfl⟩
  obtain ⟨B, eB⟩ : ∃ B, zv b1 x1 = B := ⟨_, rfl⟩
  obtain ⟨M, eM⟩ : ∃ M, zv b2 x2 = M := ⟨_, rfl⟩
  obtain ⟨L, eL⟩ : ∃ L, zv b3 x3 = L := ⟨_, rfl⟩
  obtain ⟨H, eH⟩ : ∃ H, zv b4 x4 = H := ⟨_, rfl⟩
  by_cases hn : N < 1
  · refine wk hE (And.intro eF (And.intro hl3 (And.intro hl4 (And.intro eM (And.intro eL (And.intro eH hn)))))) ?_
    exact PostL.mk trivial rfl
  by_cases hn3 : 300 < N
  · refine wk hE (And.intro eF (And.intro hl3 (And.intro hl4 (And.intro eM (And.intro eL (And.intro eH (And.intro hn hn3))))))) ?_
    exact PostL.mk trivial rfl
  by_cases ha : L.sign < 0
  · refine wk hE (And.intro eF (And.intro hl3 (And.intro hl4 (And.intro eM (And.intro eL (And.intro eH (And.intro hn (And.intro hn3 ha)))))))) ?_
    exact PostL.mk trivial rfl
  by_cases hb : 0 < cmpZ L H
  · refine wk hE (And.intro eF (And.intro hl3 (And.intro hl4 (And.intro eM (And.intro eL (And.intro eH (And.intro hn (And.intro hn3 (And.intro ha hb))))))))) ?_
    exact PostL.mk trivial rfl
  by_cases hc : 0 ≤ cmpZ H M
  · refine wk hE (And.intro eF (And.intro hl3 (And.intro hl4 (And.intro eM (And.intro eL (And.intro eH (And.intro hn (And.intro hn3 (And.intro ha (And.intro hb hc)))))))))) ?_
    exact PostL.mk trivial rfl
  refine wk hE (And.intro eF (And.intro hl3 (And.intro hl4 (And.intro eM (And.intro eL (And.intro eH (And.intro hn (And.intro hn3 (And.intro ha hb))))))))) ?_
  refine AWp.test trivial (fun h => absurd (of_decide_eq_true h) hc) (fun _ => ?_)
  refine AWp.skip ?_
  have hL : 0 ≤ L := by have := @sign_lt0 L; omega
  have hLH : L ≤ H := by have := @cmp_gt0 L H; omega
  have hHM : H < M := by have := @cmp_ge0 H M; omega
  have hM : 0 < M := by omega
  have bM := zv_abs_lt (b := b2) m2 (l := 2) (by omega)
  rw [eM] at bM
  obtain ⟨oM1, oM2⟩ := fit_of (z := M) (k := 2) (by decide) bM
  refine AWp.weak (σ' := ⟨[(3, .ptr 3 0), (4, .ptr 4 0), (5, .ptr 5 0), (7, .raw (.bool true))], [(3, ⟨true, .c [.raw (.bool b0), .ns .u64 x0, .raw (.bool b1), .ns .u64 x1, .raw (.bool b2), .ns .u64 x2, .raw (.int .i64 N)]⟩), (4, ⟨true, .c [.raw (.bool b3), .ns .u64 x3]⟩), (5, ⟨true, .c [.raw (.bool b4), .ns .u64 x4]⟩)]⟩) (Le.mk trivial) ?_
  change AWp Try.prog (tab false) 293 (tl 3 ((Try.f24.body.getD .skip))) (PostL (tab false) [.tmp 6] [4] (.raw (.bool true))) _
  change AWp _ _ _ (.seq _ (.seq _ (.seq _ _))) _ _
  refine wkR hE trivial ?_
  refine AWp.seqJ (ι := Unit) (fun _ => ⟨[(3, .ptr 3 0), (4, .ptr 4 0), (5, .ptr 5 0), (7, .raw (.bool true)), (8, .raw (.int .i64 (-1))), (9, .raw (.int .i64 0)), (10, .raw (.int .i64 0)), (11, .ptr 11 0), (12, .ptr 12 0)], [(3, ⟨true, .c [.raw (.bool b0), .ns .u64 x0, .raw (.bool b1), .ns .u64 x1, .raw (.bool b2), .ns .u64 x2, .raw (.int .i64 N)]⟩), (4, ⟨true, .c [.raw (.bool b3), .ns .u64 x3]⟩), (5, ⟨true, .c [.raw (.bool b4), .ns .u64 x4]⟩), (11, ⟨true, .c [.raw (.bool (decide (M < 0))), .ns .u64 (dg (M).natAbs)]⟩), (12, ⟨true, .c [.raw (.bool (decide (M < 0))), .ns .u64 (dg (M).natAbs)]⟩)]⟩) ?_ (fun _ => ?_)
  · refine AWp.regionF [(3, 3)] [(11, 6), (12, 7)] [(81, 3, 3)] hE.hT hE.hS hE.hm ?_ (wk hE eM ?_)
    · intro p i h
      simp only [lk] at h
      split at h
      · rename_i e; cases h; subst e; exact ⟨0, rfl⟩
      · cases h
    exact ⟨(), Le.mk trivial⟩
  refine wkR hE trivial ?_
  refine AWp.mv 13 84 149 trivial ?_
  clear hE
  refine AWp.weak (Le.mk trivial) (tries_loop m0 m1 m2 m3 m4 (by omega) (by omega) (by omega) (by omega) (by omega) eA eB eM eL eH hM hL hLH hHM (by omega) (by omega) (fun f a n V D hI => ?_))
  obtain ⟨kN, hF, hV, hD⟩ := hI
  rw [show ((N.toNat : Nat) : Int) = N by omega] at hF hV hD
  have hf := fst_eq hF
  have hv := least_of hM (by omega) hV
  have hd := near_of hM (by omega) hD
  have rV := hV.rng hM (fun j => mod_rng _ hM) (by omega)
  have rD := hD.rng hM (fun j => dk_rng hM A B j) (by omega)
  have nbF : ¬ badF M L H N := by unfold badF; omega
  have nbL : ¬ badL M N := by unfold badL; omega
  have nbM : ¬ badM M H N := by unfold badM; omega
  have nbH : ¬ badH M H N 300 := by unfold badH; omega
  have hll := hl_len A B M H N.toNat 0
  have hlc := hl_count A B M H N.toNat
  have hts := hits_all (a := A) (b := B) (m := M) (w := H) (n := N) (most := 300) nbH (L := hl A B M H N.toNat 0) (by omega) rfl
  have lnM : ∀ z : Int, 0 ≤ z → z ≤ M → lnT z := fun z z0 z1 => fit_of (k := 2) (by decide) (by omega)
  refine tries_t m0 m1 m2 m3 m4 (by omega) (by omega) (by omega) (by omega) (by omega) eA eB eM eL eH (by omega) (by omega) (by omega) rfl rfl ?_ ?_ ?_ ?_ ?_ ?_ ?_ (wE_good nbM) hts.1 hts.2.1 hts.2.2 (lnM V (by omega) (by omega)) (lnM D (by omega) (by omega))
  · unfold fK fE
    rw [if_neg nbF, if_neg nbF, hf]
    by_cases h : f < 0
    · exact .inl ⟨h, if_pos h, if_pos h⟩
    · exact .inr ⟨h, if_neg h, if_neg h⟩
  · unfold lK; rw [if_neg nbL]; exact hv.2
  · unfold lV; rw [if_neg nbL]; exact hv.1
  · unfold lE; rw [if_neg nbL]
  · exact hd.2
  · exact hd.1
  · rw [wK_good nbM]
    show ((cW A B M H N.toNat : Nat) : Int) = _
    rw [hlc]
end Go.Hl

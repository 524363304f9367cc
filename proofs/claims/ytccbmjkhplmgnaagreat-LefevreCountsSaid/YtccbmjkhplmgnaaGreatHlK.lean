/- ref15: Mod, V, floors ref15: below, from, first, First LefevreFirsts: a line in memory of its own; kept -/
import Derived.Test.YtccbmjkhplmgnaaGreatHlVa
import Derived.Test.YtccbmjkhplmgnaaGreatHlV8
import Derived.Test.YtccbmjkhplmgnaaGreatHlFc
import Derived.Test.YtccbmjkhplmgnaaGreatHlAx
set_option linter.unusedVariables false
set_option linter.unusedSimpArgs false
namespace Go.Hl
open Go Go.RowKit Go.Proofs
set_option maxHeartbeats 16000000
set_option maxRecDepth 100000
theorem rmod_ok : SpOK Tryz.prog 59 spLMod := by
  refine SpOK.ZZ fun b x c y ⟨hx, hxl, hy, hyl, hpos⟩ => ?_
  have hE := env (SOK.cons rzdivmod_ok (SOK.nil (P := Tryz.prog)))
  obtain ⟨X, eX⟩ : ∃ X, zv b x = X := ⟨_, rfl⟩
  obtain ⟨Y, eY⟩ : ∃ Y, zv c y = Y := ⟨_, rfl⟩
  rw [eX, eY]
  rw [eY] at hpos
  have hr : rz X Y = X % Y := if_neg (by omega)
  obtain ⟨r, er⟩ : ∃ r, X % Y = r := ⟨_, rfl⟩
  rw [er] at hr ⊢
  obtain ⟨q, eq⟩ : ∃ q, X / Y = q := ⟨_, rfl⟩
  refine ACall.body hE Tryz.func59 Tryz.ntmps59 Tryz.results59 ?_
  refine wk hE (And.intro eX (And.intro eY (And.intro eq hr))) ?_
  exact PostL.mk trivial rfl
@[push_cast] def spRV : Sp := spZZZI 0 (fun _ x0 _ x1 b2 x2 n => (Lm x0 ∧ x0.length < 400) ∧ (Lm x1 ∧ x1.length < 400) ∧ (Lm x2 ∧ x2.length < 400) ∧ 0 < zv b2 x2 ∧ -9223372036854775808 ≤ n ∧ n < 9223372036854775808)
  (fun b0 x0 b1 x1 b2 x2 n => zi (Vk (zv b0 x0) (zv b1 x1) (zv b2 x2) n))
theorem rv_ok : SpOK Tryz.prog 42 spRV := by
  refine SpOK.ZZZI fun b0 x0 b1 x1 b2 x2 n ⟨⟨h0, h0l⟩, ⟨h1, h1l⟩, ⟨h2, h2l⟩, hM, hn1, hn2⟩ => ?_
  have hE := env (SOK.cons rmod_ok (SOK.cons rzof_ok (SOK.cons rzmul_ok (SOK.cons rzadd_ok (SOK.nil (P := Tryz.prog))))))
  have bA := zv_abs_lt (b := b0) h0 (l := 400) (by omega)
  have bB := zv_abs_lt (b := b1) h1 (l := 400) (by omega)
  obtain ⟨A, eA⟩ : ∃ A, zv b0 x0 = A := ⟨_, rfl⟩
  obtain ⟨B, eB⟩ : ∃ B, zv b1 x1 = B := ⟨_, rfl⟩
  obtain ⟨M, eM⟩ : ∃ M, zv b2 x2 = M := ⟨_, rfl⟩
  rw [eA] at bA
  rw [eB] at bB
  rw [eM] at hM
  rw [eA, eB, eM]
  have bN := i64_lt hn1 hn2
  have bP := abs_mul_lt bA bN
  have bB2 := pw_add 1 bB
  have bS := abs_add_lt bP bB2
  obtain ⟨oN1, oN2⟩ := fit_of (by decide) bN
  obtain ⟨oP1, oP2⟩ := fit_of (by decide) bP
  obtain ⟨oS1, oS2⟩ := fit_of (by decide) bS
  have hv : Vk A B M n = (A * n + B) % M := rfl
  rw [hv]
  obtain ⟨P, eP⟩ : ∃ P, A * n = P := ⟨_, rfl⟩
  rw [eP] at oP1 oP2 oS1 oS2 ⊢
  obtain ⟨S, eS⟩ : ∃ S, P + B = S := ⟨_, rfl⟩
  rw [eS] at oS1 oS2 ⊢
  obtain ⟨V, eV⟩ : ∃ V, S % M = V := ⟨_, rfl⟩
  rw [eV]
  clear bA bB bN bP bS hv
  refine ACall.body hE Tryz.func42 Tryz.ntmps42 Tryz.results42 ?_
  refine wk hE (And.intro eA (And.intro eB (And.intro eM (And.intro eP (And.intro eS eV))))) ?_
  exact PostL.mk trivial rfl
@[push_cast] def spRF (k : Nat) : Sp := spZZZZ 0 (fun b0 x0 b1 x1 b2 x2 _ x3 => (Lm x0 ∧ x0.length < 5000) ∧ (Lm x1 ∧ x1.length < 5000) ∧ (Lm x2 ∧ x2.length < 5000) ∧ (Lm x3 ∧ x3.length < 5000) ∧ 0 ≤ zv b0 x0 ∧ 0 ≤ zv b1 x1 ∧ 0 < zv b2 x2 ∧ zv b2 x2 < k)
  (fun b0 x0 b1 x1 b2 x2 b3 x3 => zi (fI (zv b0 x0) (zv b1 x1) (zv b2 x2) (zv b3 x3)))
theorem fit_big {z : Int} {k : Nat} (hk : k < 900000) (h : z.natAbs < B64 ^ k) : Lm (dg z.natAbs) ∧ (dg z.natAbs).length < 1000000 := by
  obtain ⟨f1, _, f2⟩ := dgl h (by omega)
  exact ⟨f1, by omega⟩
theorem fit_5k {z : Int} {k : Nat} (hk : k < 5000) (h : z.natAbs < B64 ^ k) : Lm (dg z.natAbs) ∧ (dg z.natAbs).length < 5000 := by
  obtain ⟨f1, _, f2⟩ := dgl h (by omega)
  exact ⟨f1, by omega⟩
theorem fI_neg {a b m n : Int} (h : n ≤ 0) : fI a b m n = 0 := by
  unfold fI
  rw [show n.toNat = 0 by omega]; rfl
theorem rfloors_k : ∀ k, SpOK Tryz.prog 60 (spRF k)
  | 0 => SpOK.ZZZZ fun b0 x0 b1 x1 b2 x2 b3 x3 ⟨_, _, _, _, _, _, h1, h2⟩ => by simp at h2; omega
  | k + 1 => by
    have ih := rfloors_k k
    refine SpOK.ZZZZ fun b0 x0 b1 x1 b2 x2 b3 x3 ⟨⟨h0, h0l⟩, ⟨h1, h1l⟩, ⟨h2, h2l⟩, ⟨h3, h3l⟩, hA, hB, hM, hk⟩ => ?_
    have hE := env (SOK.cons ih (SOK.cons rzsign_ok (SOK.cons rzdivmod_ok (SOK.cons rzof_ok (SOK.cons rzsub_ok (SOK.cons rzmul_ok (SOK.cons rzshr_ok (SOK.cons rzadd_ok (SOK.nil (P := Tryz.prog))))))))))
    obtain ⟨l, hl⟩ : ∃ l, l = 4999 := ⟨_, rfl⟩
    have bA := zv_abs_lt (b := b0) h0 (l := l) (by omega)
    have bB := zv_abs_lt (b := b1) h1 (l := l) (by omega)
    have bM := zv_abs_lt (b := b2) h2 (l := l) (by omega)
    have bN := zv_abs_lt (b := b3) h3 (l := l) (by omega)
    obtain ⟨a, eA⟩ : ∃ A, zv b0 x0 = A := ⟨_, rfl⟩
    obtain ⟨b, eB⟩ : ∃ B, zv b1 x1 = B := ⟨_, rfl⟩
    obtain ⟨m, eM⟩ : ∃ M, zv b2 x2 = M := ⟨_, rfl⟩
    obtain ⟨n, eN⟩ : ∃ N, zv b3 x3 = N := ⟨_, rfl⟩
    rw [eA] at bA hA
    rw [eB] at bB hB
    rw [eM] at bM hM hk
    rw [eN] at bN
    rw [eA, eB, eM, eN]
    refine ACall.body hE Tryz.func60 Tryz.ntmps60 Tryz.results60 ?_
    by_cases hn : n ≤ 0
    · have hs : n.sign ≤ 0 := Int.sign_nonpos_iff.2 hn
      refine wk hE (And.intro eN hs) ?_
      refine PostL.mk trivial ?_
      rw [fI_neg hn]
      exact zi_zero
    have hn0 : 0 < n := by omega
    have hs : ¬ n.sign ≤ 0 := fun h => hn (Int.sign_nonpos_iff.1 h)
    have hround := fI_round hA hB hM hn0
    have ra := mod_rng a hM
    have rb := mod_rng b hM
    have q0 : 0 ≤ a / m := Int.ediv_nonneg hA (by omega)
    have p0 : 0 ≤ b / m := Int.ediv_nonneg hB (by omega)
    have qa : a / m ≤ a := Int.ediv_le_self _ hA
    have pb : b / m ≤ b := Int.ediv_le_self _ hB
    have rt := mod_rng (a % m * n + b % m) hM
    have tt := topI_le hA hB hM (show 0 ≤ n by omega)
    have z1 := rz_pos (x := a) hM
    have z2 := rz_pos (x := b) hM
    have z3 := rz_pos (x := a % m * n + b % m) hM
    have hx0 : 0 < (a % m * n + b % m) / m → 0 < a % m := fun hp => by
      rcases Int.lt_or_le 0 (a % m) with h' | h'
      · exact h'
      · exfalso
        have e : a % m = 0 := by omega
        rw [e, Int.zero_mul, Int.zero_add, Int.ediv_eq_zero_of_lt rb.1 rb.2] at hp
        omega
    obtain ⟨q, eq⟩ : ∃ q, a / m = q := ⟨_, rfl⟩
    obtain ⟨x, ex⟩ : ∃ x, a % m = x := ⟨_, rfl⟩
    obtain ⟨p, ep⟩ : ∃ p, b / m = p := ⟨_, rfl⟩
    obtain ⟨y, ey⟩ : ∃ y, b % m = y := ⟨_, rfl⟩
    obtain ⟨n1, en1⟩ : ∃ n1, n - 1 = n1 := ⟨_, rfl⟩
    obtain ⟨w, ew⟩ : ∃ w, n * n1 = w := ⟨_, rfl⟩
    obtain ⟨pr, epr⟩ : ∃ pr, w / 2 ^ sh 1 = pr := ⟨_, rfl⟩
    have epr' : w / 2 = pr := epr
    rw [eq, ex, ep, ey, en1, ew, epr'] at hround
    rw [ex, ey] at rt tt z3 hx0
    rw [ex] at z1 ra
    rw [ey] at z2 rb
    rw [eq] at q0 qa
    rw [ep] at p0 pb
    obtain ⟨g1, eg1⟩ : ∃ g, q * pr = g := ⟨_, rfl⟩
    obtain ⟨g2, eg2⟩ : ∃ g, p * n = g := ⟨_, rfl⟩
    obtain ⟨g3, eg3⟩ : ∃ g, g1 + g2 = g := ⟨_, rfl⟩
    obtain ⟨h1', eh1⟩ : ∃ g, x * n = g := ⟨_, rfl⟩
    obtain ⟨h2', eh2⟩ : ∃ g, h1' + y = g := ⟨_, rfl⟩
    rw [eh1, eh2] at rt tt z3 hround hx0
    obtain ⟨top, etop⟩ : ∃ g, h2' / m = g := ⟨_, rfl⟩
    obtain ⟨rest, erest⟩ : ∃ g, h2' % m = g := ⟨_, rfl⟩
    rw [erest] at rt z3 hround
    rw [etop] at tt hx0 hround
    rw [eg1, eg2, eg3] at hround
    have bq : q.natAbs < B64 ^ l := by omega
    have bp : p.natAbs < B64 ^ l := by omega
    have bx : x.natAbs < B64 ^ l := by omega
    have by_ : y.natAbs < B64 ^ l := by omega
    have bn1 : n1.natAbs < B64 ^ l := by omega
    have brest : rest.natAbs < B64 ^ l := by omega
    have btop : top.natAbs < B64 ^ l := by omega
    have bw : w.natAbs < B64 ^ (l + l) := by rw [← ew]; exact abs_mul_lt bN bn1
    have bpr : pr.natAbs < B64 ^ (l + l) := by
      have : 0 ≤ w := by rw [← ew]; exact Int.mul_nonneg (by omega) (by omega)
      omega
    have bg1 : g1.natAbs < B64 ^ (l + (l + l)) := by rw [← eg1]; exact abs_mul_lt bq bpr
    have bg2 : g2.natAbs < B64 ^ (l + (l + l)) := by rw [← eg2]; exact pow64_le (abs_mul_lt bp bN) (by omega)
    have bg3 : g3.natAbs < B64 ^ (l + (l + l) + 1) := by rw [← eg3]; exact abs_add_lt bg1 bg2
    have bh1 : h1'.natAbs < B64 ^ (l + l) := by rw [← eh1]; exact abs_mul_lt bx bN
    have bh2 : h2'.natAbs < B64 ^ (l + l + 1) := by rw [← eh2]; exact abs_add_lt bh1 (pow64_le by_ (by omega))
    obtain ⟨oq1, oq2⟩ := fit_big (by omega) bq
    obtain ⟨op1, op2⟩ := fit_big (by omega) bp
    obtain ⟨ox1, ox2⟩ := fit_5k (by omega) bx
    obtain ⟨oy1, oy2⟩ := fit_big (by omega) by_
    obtain ⟨on1, on2⟩ := fit_big (by omega) bn1
    obtain ⟨orest1, orest2⟩ := fit_5k (by omega) brest
    obtain ⟨otop1, otop2⟩ := fit_5k (by omega) btop
    obtain ⟨ow1, ow2⟩ := fit_big (by omega) bw
    obtain ⟨opr1, opr2⟩ := fit_big (by omega) bpr
    obtain ⟨og11, og12⟩ := fit_big (by omega) bg1
    obtain ⟨og21, og22⟩ := fit_big (by omega) bg2
    obtain ⟨og31, og32⟩ := fit_big (by omega) bg3
    obtain ⟨oh11, oh12⟩ := fit_big (by omega) bh1
    obtain ⟨oh21, oh22⟩ := fit_big (by omega) bh2
    obtain ⟨F, eF⟩ : ∃ F, fI m rest x top = F := ⟨_, rfl⟩
    rw [eF] at hround
    have hone : zv false (dg (Int.natAbs 1)) = 1 := zv_zi 1
    obtain ⟨c1, c1'⟩ := fit_of (z := 1) (k := 1) (by decide) (by decide)
    have hne : decide (m ≠ 0) = true := decide_eq_true (by omega)
    have hF0 : 0 < top → F.natAbs < B64 ^ (l + l + 1 + l) := fun _ => by
      have g1 := fI_bound x (show 0 ≤ m by omega) rt.1 tt.1
      have g2 := fI_nonneg m rest x top
      rw [eF] at g1 g2
      have g3 := abs_mul_lt (abs_add_lt (abs_mul_lt bM btop) (pow64_le brest (show l ≤ l + l by omega))) btop
      omega
    clear bq bp bx by_ bn1 brest btop bw bpr bg1 bg2 bh1 bh2 bA bB bM bN ih
    refine wkR hE trivial ?_
    refine AWp.seqJ (ι := Unit) (fun _ => ⟨[(4, .ptr 4 0), (5, .ptr 5 0), (6, .ptr 6 0), (7, .ptr 7 0), (8, .ptr 8 0)], [(4, ⟨true, .c [.raw (.bool b0), .ns .u64 x0]⟩), (5, ⟨true, .c [.raw (.bool b1), .ns .u64 x1]⟩), (6, ⟨true, .c [.raw (.bool b2), .ns .u64 x2]⟩), (7, ⟨true, .c [.raw (.bool b3), .ns .u64 x3]⟩), (8, ⟨true, .c [.raw (.bool false), .ns .u64 []]⟩)]⟩) ?_ (fun _ => ?_)
    · refine wk hE (And.intro eN hs) ?_
      exact ⟨(), Le.mk trivial⟩
    refine wkR hE (And.intro eA (And.intro eM (And.intro eq z1))) ?_
    refine wkR hE (And.intro eB (And.intro eM (And.intro ep z2))) ?_
    refine AWp.seqJ (ι := Unit) (fun _ => ⟨[(4, .ptr 4 0), (5, .ptr 5 0), (6, .ptr 6 0), (7, .ptr 7 0), (8, .ptr 8 0), (9, .ptr 9 0), (10, .ptr 10 0), (12, .ptr 12 0), (13, .ptr 13 0), (15, .ptr 15 0)], [(4, ⟨true, .c [.raw (.bool b0), .ns .u64 x0]⟩), (5, ⟨true, .c [.raw (.bool b1), .ns .u64 x1]⟩), (6, ⟨true, .c [.raw (.bool b2), .ns .u64 x2]⟩), (7, ⟨true, .c [.raw (.bool b3), .ns .u64 x3]⟩), (8, ⟨true, .c [.raw (.bool false), .ns .u64 []]⟩), (9, ⟨true, .c [.raw (.bool (decide (q < 0))), .ns .u64 (dg q.natAbs)]⟩), (10, ⟨true, .c [.raw (.bool (decide (x < 0))), .ns .u64 (dg x.natAbs)]⟩), (12, ⟨true, .c [.raw (.bool (decide (p < 0))), .ns .u64 (dg p.natAbs)]⟩), (13, ⟨true, .c [.raw (.bool (decide (y < 0))), .ns .u64 (dg y.natAbs)]⟩), (15, ⟨true, .c [.raw (.bool (decide (pr < 0))), .ns .u64 (dg pr.natAbs)]⟩)]⟩) ?_ (fun _ => ?_)
    · refine AWp.regionA [(7, 7)] [(15, 6)] hE.hT hE.hS hE.hm ?_ (wk hE (And.intro eN (And.intro hone (And.intro en1 (And.intro ew epr)))) ?_)
      · intro p i h
        simp only [lk] at h
        split at h
        · rename_i e; cases h; subst e; exact ⟨0, rfl⟩
        · cases h
      exact ⟨(), Le.mk trivial⟩
    refine AWp.seqJ (ι := Unit) (fun _ => ⟨[(6, .ptr 6 0), (7, .ptr 7 0), (8, .ptr 8 0), (10, .ptr 10 0), (13, .ptr 13 0), (16, .ptr 16 0)], [(6, ⟨true, .c [.raw (.bool b2), .ns .u64 x2]⟩), (7, ⟨true, .c [.raw (.bool b3), .ns .u64 x3]⟩), (8, ⟨true, .c [.raw (.bool false), .ns .u64 []]⟩), (10, ⟨true, .c [.raw (.bool (decide (x < 0))), .ns .u64 (dg x.natAbs)]⟩), (13, ⟨true, .c [.raw (.bool (decide (y < 0))), .ns .u64 (dg y.natAbs)]⟩), (16, ⟨true, .c [.raw (.bool (decide (g3 < 0))), .ns .u64 (dg g3.natAbs)]⟩)]⟩) ?_ (fun _ => ?_)
    · refine AWp.regionA [(9, 9), (15, 15), (12, 12), (7, 7)] [(16, 7)] hE.hT hE.hS hE.hm ?_ (wk hE (And.intro eN (And.intro eg1 (And.intro eg2 eg3))) ?_)
      · intro p i h
        simp only [lk] at h
        split at h
        · rename_i e; cases h; subst e; exact ⟨0, rfl⟩
        split at h
        · rename_i e; cases h; subst e; exact ⟨0, rfl⟩
        split at h
        · rename_i e; cases h; subst e; exact ⟨0, rfl⟩
        split at h
        · rename_i e; cases h; subst e; exact ⟨0, rfl⟩
        · cases h
      exact ⟨(), Le.mk trivial⟩
    refine AWp.seqJ (ι := Unit) (fun _ => ⟨[(6, .ptr 6 0), (8, .ptr 8 0), (10, .ptr 10 0), (16, .ptr 16 0), (17, .ptr 17 0), (18, .ptr 18 0)], [(6, ⟨true, .c [.raw (.bool b2), .ns .u64 x2]⟩), (8, ⟨true, .c [.raw (.bool false), .ns .u64 []]⟩), (10, ⟨true, .c [.raw (.bool (decide (x < 0))), .ns .u64 (dg x.natAbs)]⟩), (16, ⟨true, .c [.raw (.bool (decide (g3 < 0))), .ns .u64 (dg g3.natAbs)]⟩), (17, ⟨true, .c [.raw (.bool (decide (top < 0))), .ns .u64 (dg top.natAbs)]⟩), (18, ⟨true, .c [.raw (.bool (decide (rest < 0))), .ns .u64 (dg rest.natAbs)]⟩)]⟩) ?_ (fun _ => ?_)
    · refine AWp.regionA [(10, 10), (7, 7), (13, 13), (6, 6)] [(17, 11), (18, 12)] hE.hT hE.hS hE.hm ?_ (wk hE (And.intro eN (And.intro eM (And.intro eh1 (And.intro eh2 (And.intro etop (And.intro z3 hne)))))) ?_)
      · intro p i h
        simp only [lk] at h
        split at h
        · rename_i e; cases h; subst e; exact ⟨0, rfl⟩
        split at h
        · rename_i e; cases h; subst e; exact ⟨0, rfl⟩
        split at h
        · rename_i e; cases h; subst e; exact ⟨0, rfl⟩
        split at h
        · rename_i e; cases h; subst e; exact ⟨0, rfl⟩
        · cases h
      exact ⟨(), Le.mk trivial⟩
    by_cases htop : top = 0
    · have hs0 : (top.sign == 0) = true := by rw [htop]; rfl
      refine wk hE hs0 ?_
      refine PostL.mk trivial ?_
      rw [hround, ← eF, htop, fI_n0, Int.add_zero]
      rfl
    have ht0 : 0 < top := by omega
    have hs1 : (top.sign == 0) = false := by rw [Int.sign_eq_one_of_pos ht0]; rfl
    have hxp := hx0 ht0
    have bF := hF0 ht0
    obtain ⟨oF1, oF2⟩ := fit_big (by omega) bF
    obtain ⟨T, eT⟩ : ∃ T, g3 + F = T := ⟨_, rfl⟩
    rw [eT] at hround
    rw [hround]
    refine AWp.seqJ (ι := Unit) (fun _ => ⟨[(6, .ptr 6 0), (8, .ptr 8 0), (10, .ptr 10 0), (16, .ptr 16 0), (17, .ptr 17 0), (18, .ptr 18 0)], [(6, ⟨true, .c [.raw (.bool b2), .ns .u64 x2]⟩), (8, ⟨true, .c [.raw (.bool false), .ns .u64 []]⟩), (10, ⟨true, .c [.raw (.bool (decide (x < 0))), .ns .u64 (dg x.natAbs)]⟩), (16, ⟨true, .c [.raw (.bool (decide (g3 < 0))), .ns .u64 (dg g3.natAbs)]⟩), (17, ⟨true, .c [.raw (.bool (decide (top < 0))), .ns .u64 (dg top.natAbs)]⟩), (18, ⟨true, .c [.raw (.bool (decide (rest < 0))), .ns .u64 (dg rest.natAbs)]⟩)]⟩) ?_ (fun _ => ?_)
    · refine wk hE hs1 ?_
      exact ⟨(), Le.mk trivial⟩
    refine AWp.seqJ (ι := Unit) (fun _ => ⟨[(8, .ptr 8 0)], [(8, ⟨true, .c [.raw (.bool (decide (T < 0))), .ns .u64 (dg T.natAbs)]⟩)]⟩) ?_ (fun _ => ?_)
    · refine AWp.regionA [(16, 16), (6, 6), (18, 18), (10, 10), (17, 17), (8, 8)] [] hE.hT hE.hS hE.hm ?_ (wk hE (And.intro eM (And.intro eF eT)) ?_)
      · intro p i h
        simp only [lk] at h
        split at h
        · rename_i e; cases h; subst e; exact ⟨0, rfl⟩
        split at h
        · rename_i e; cases h; subst e; exact ⟨0, rfl⟩
        split at h
        · rename_i e; cases h; subst e; exact ⟨0, rfl⟩
        split at h
        · rename_i e; cases h; subst e; exact ⟨0, rfl⟩
        split at h
        · rename_i e; cases h; subst e; exact ⟨0, rfl⟩
        split at h
        · rename_i e; cases h; subst e; exact ⟨0, rfl⟩
        · cases h
      exact ⟨(), Le.mk trivial⟩
    refine wk hE trivial ?_
    exact PostL.mk trivial rfl
end Go.Hl

namespace Go.Hl
open Go Go.RowKit Go.Proofs
set_option maxHeartbeats 16000000
set_option maxRecDepth 100000
@[push_cast] def spRFl : Sp := spZZZZ 0 (fun b0 x0 b1 x1 b2 x2 _ x3 => (Lm x0 ∧ x0.length < 5000) ∧ (Lm x1 ∧ x1.length < 5000) ∧ (Lm x2 ∧ x2.length < 5000) ∧ (Lm x3 ∧ x3.length < 5000) ∧ 0 ≤ zv b0 x0 ∧ 0 ≤ zv b1 x1 ∧ 0 < zv b2 x2)
  (fun b0 x0 b1 x1 b2 x2 b3 x3 => zi (fI (zv b0 x0) (zv b1 x1) (zv b2 x2) (zv b3 x3)))
theorem rfloors_ok : SpOK Tryz.prog 60 spRFl := by
  refine SpOK.ZZZZ fun b0 x0 b1 x1 b2 x2 b3 x3 ⟨h0, h1, h2, h3, hA, hB, hM⟩ => ?_
  exact ((rfloors_k ((zv b2 x2).toNat + 1)) [.agg [.raw (.bool b0), .ns .u64 x0], .agg [.raw (.bool b1), .ns .u64 x1], .agg [.raw (.bool b2), .ns .u64 x2], .agg [.raw (.bool b3), .ns .u64 x3]] ⟨h0, h1, h2, h3, hA, hB, hM, by omega⟩).1 rfl
@[push_cast] noncomputable def spRBelow : Sp := spZZZZI 0 (fun _ x0 _ x1 b2 x2 b3 x3 n => (Lm x0 ∧ x0.length < 400) ∧ (Lm x1 ∧ x1.length < 400) ∧ (Lm x2 ∧ x2.length < 400) ∧ (Lm x3 ∧ x3.length < 500) ∧ 0 < zv b2 x2 ∧ 0 ≤ zv b3 x3 ∧ zv b3 x3 ≤ zv b2 x2 ∧ 0 ≤ n ∧ n < 9223372036854775808)
  (fun b0 x0 b1 x1 b2 x2 b3 x3 n => .raw (.int .i64 (cI (zv b0 x0) (zv b1 x1) (zv b2 x2) (zv b3 x3) n)))
theorem rbelow_ok : SpOK Tryz.prog 32 spRBelow := by
  refine SpOK.ZZZZI fun b0 x0 b1 x1 b2 x2 b3 x3 n ⟨⟨h0, h0l⟩, ⟨h1, h1l⟩, ⟨h2, h2l⟩, ⟨h3, h3l⟩, hM, hW0, hWM, hn, hn2⟩ => ?_
  have hE := env (SOK.cons rmod_ok (SOK.cons rzadd_ok (SOK.cons rzof_ok (SOK.cons rfloors_ok (SOK.cons rzsub_ok (SOK.cons rzsmall_ok (SOK.nil (P := Tryz.prog))))))))
  have bM := zv_abs_lt (b := b2) h2 (l := 400) (by omega)
  obtain ⟨A, eA⟩ : ∃ A, zv b0 x0 = A := ⟨_, rfl⟩
  obtain ⟨B, eB⟩ : ∃ B, zv b1 x1 = B := ⟨_, rfl⟩
  obtain ⟨M, eM⟩ : ∃ M, zv b2 x2 = M := ⟨_, rfl⟩
  obtain ⟨W, eW⟩ : ∃ W, zv b3 x3 = W := ⟨_, rfl⟩
  rw [eM] at bM hM hWM
  rw [eW] at hW0 hWM
  rw [eA, eB, eM, eW]
  have hme := many_eq (a := A) (b := B) hM hW0 hWM hn
  have hcr := cI_rng (a := A) (b := B) (m := M) (w := W) hn
  have ra := mod_rng A hM
  have rb := mod_rng B hM
  have fit : ∀ z : Int, 0 ≤ z → z ≤ 2 * M → Lm (dg z.natAbs) ∧ (dg z.natAbs).length < 1000 := fun z hz hzM => by
    have h1 := powA bM bM
    have : z.natAbs < B64 ^ (400 + 1) := by omega
    obtain ⟨f1, _, f2⟩ := dgl this (by omega)
    exact ⟨f1, by omega⟩
  have bx : ∀ z, 0 ≤ z → z ≤ 2 * M → (fI (A % M) z M n).natAbs < B64 ^ (400 + 1 + 1 + 1) := fun z hz hz2 => by
    have h1 := fI_bound M ra.1 hz hn (b := z)
    have h2 := fI_nonneg (A % M) z M n
    have h3 := powA bM bM
    have k1 : (A % M).natAbs < B64 ^ 400 := by omega
    have k2 : n.natAbs < B64 ^ 1 := by rw [Nat.pow_one]; unfold B64; omega
    have k3 := abs_mul_lt k1 k2
    have k4 : z.natAbs < B64 ^ (400 + 1) := by omega
    have k5 := abs_mul_lt (abs_add_lt k3 k4) k2
    omega
  obtain ⟨x, ex⟩ : ∃ x, A % M = x := ⟨_, rfl⟩
  obtain ⟨y, ey⟩ : ∃ y, B % M = y := ⟨_, rfl⟩
  rw [ex] at ra hme bx
  rw [ey] at rb hme
  obtain ⟨u, eu⟩ : ∃ u, y + M = u := ⟨_, rfl⟩
  rw [eu] at hme
  obtain ⟨v, ev⟩ : ∃ v, u - W = v := ⟨_, rfl⟩
  rw [ev] at hme
  have b1 := bx u (by omega) (by omega)
  have b2' := bx v (by omega) (by omega)
  obtain ⟨s, es⟩ : ∃ s, fI x u M n = s := ⟨_, rfl⟩
  obtain ⟨t, et⟩ : ∃ t, fI x v M n = t := ⟨_, rfl⟩
  rw [es] at hme b1
  rw [et] at hme b2'
  obtain ⟨c, ec⟩ : ∃ c, cI A B M W n = c := ⟨_, rfl⟩
  rw [ec] at hme hcr ⊢
  have hfit : fits64 c = true := decide_eq_true (by omega)
  have u0 : 0 ≤ u := by omega
  have v0 : 0 ≤ v := by omega
  obtain ⟨ox1, ox2⟩ := fit x ra.1 (by omega)
  obtain ⟨oy1, oy2⟩ := fit y rb.1 (by omega)
  obtain ⟨ou1, ou2⟩ := fit u u0 (by omega)
  obtain ⟨ov1, ov2⟩ := fit v v0 (by omega)
  obtain ⟨os1, _, os2⟩ := dgl b1 (by omega)
  obtain ⟨ot1, _, ot2⟩ := dgl b2' (by omega)
  have bn : n.natAbs < B64 ^ 1 := by rw [Nat.pow_one]; unfold B64; omega
  obtain ⟨on1, _, on2⟩ := dgl bn (by omega)
  have bc : c.natAbs < B64 ^ 1 := by rw [Nat.pow_one]; unfold B64; omega
  obtain ⟨oc1, _, oc2⟩ := dgl bc (by omega)
  have x0' : 0 ≤ x := ra.1
  clear fit bx b1 b2' hcr ra rb bn bc bM
  refine ACall.body hE Tryz.func32 Tryz.ntmps32 Tryz.results32 ?_
  refine wkR hE trivial ?_
  refine wkR hE (And.intro eA (And.intro eM ex)) ?_
  refine AWp.seqJ (ι := Unit) (fun _ => ⟨[(4, .raw (.int .i64 n)), (7, .ptr 7 0), (8, .ptr 8 0), (11, .ptr 11 0), (12, .ptr 12 0)], [(7, ⟨true, .c [.raw (.bool b2), .ns .u64 x2]⟩), (8, ⟨true, .c [.raw (.bool b3), .ns .u64 x3]⟩), (11, ⟨true, .c [.raw (.bool (decide (x < 0))), .ns .u64 (dg x.natAbs)]⟩), (12, ⟨true, .c [.raw (.bool (decide (u < 0))), .ns .u64 (dg u.natAbs)]⟩)]⟩) ?_ (fun _ => ?_)
  · refine AWp.regionA [(6, 6), (7, 7)] [(12, 5)] hE.hT hE.hS hE.hm ?_ (wk hE (And.intro eB (And.intro eM (And.intro ey eu))) ?_)
    · intro p i h
      simp only [lk] at h
      split at h
      · rename_i e; cases h; subst e; exact ⟨0, rfl⟩
      split at h
      · rename_i e; cases h; subst e; exact ⟨0, rfl⟩
      · cases h
    exact ⟨(), Le.mk trivial⟩
  refine AWp.seqJ (ι := Unit) (fun _ => ⟨[(4, .raw (.int .i64 n)), (7, .ptr 7 0), (8, .ptr 8 0), (11, .ptr 11 0), (12, .ptr 12 0), (13, .ptr 13 0)], [(7, ⟨true, .c [.raw (.bool b2), .ns .u64 x2]⟩), (8, ⟨true, .c [.raw (.bool b3), .ns .u64 x3]⟩), (11, ⟨true, .c [.raw (.bool (decide (x < 0))), .ns .u64 (dg x.natAbs)]⟩), (12, ⟨true, .c [.raw (.bool (decide (u < 0))), .ns .u64 (dg u.natAbs)]⟩), (13, ⟨true, .c [.raw (.bool (decide (s < 0))), .ns .u64 (dg s.natAbs)]⟩)]⟩) ?_ (fun _ => ?_)
  · refine AWp.regionA [(11, 11), (12, 12), (7, 7)] [(13, 6)] hE.hT hE.hS hE.hm ?_ (wk hE (And.intro eM es) ?_)
    · intro p i h
      simp only [lk] at h
      split at h
      · rename_i e; cases h; subst e; exact ⟨0, rfl⟩
      split at h
      · rename_i e; cases h; subst e; exact ⟨0, rfl⟩
      split at h
      · rename_i e; cases h; subst e; exact ⟨0, rfl⟩
      · cases h
    exact ⟨(), Le.mk trivial⟩
  refine AWp.seqJ (ι := Unit) (fun _ => ⟨[(4, .raw (.int .i64 n)), (13, .ptr 13 0), (14, .ptr 14 0)], [(13, ⟨true, .c [.raw (.bool (decide (s < 0))), .ns .u64 (dg s.natAbs)]⟩), (14, ⟨true, .c [.raw (.bool (decide (t < 0))), .ns .u64 (dg t.natAbs)]⟩)]⟩) ?_ (fun _ => ?_)
  · refine AWp.regionA [(11, 11), (12, 12), (8, 8), (7, 7)] [(14, 8)] hE.hT hE.hS hE.hm ?_ (wk hE (And.intro eM (And.intro eW (And.intro ev et))) ?_)
    · intro p i h
      simp only [lk] at h
      split at h
      · rename_i e; cases h; subst e; exact ⟨0, rfl⟩
      split at h
      · rename_i e; cases h; subst e; exact ⟨0, rfl⟩
      split at h
      · rename_i e; cases h; subst e; exact ⟨0, rfl⟩
      split at h
      · rename_i e; cases h; subst e; exact ⟨0, rfl⟩
      · cases h
    exact ⟨(), Le.mk trivial⟩
  refine wk hE (And.intro hme hfit) ?_
  exact PostL.mk trivial rfl
@[push_cast] noncomputable def spRFrom : Sp := spZZZZZI 0 (fun _ x0 _ x1 b2 x2 b3 x3 b4 x4 n => (Lm x0 ∧ x0.length < 400) ∧ (Lm x1 ∧ x1.length < 400) ∧ (Lm x2 ∧ x2.length < 400) ∧ (Lm x3 ∧ x3.length < 400) ∧ (Lm x4 ∧ x4.length < 400) ∧ (0 ≤ zv b3 x3 ∧ zv b3 x3 ≤ zv b4 x4 ∧ zv b4 x4 < zv b2 x2) ∧ 0 ≤ n ∧ n < 9223372036854775808)
  (fun b0 x0 b1 x1 b2 x2 b3 x3 b4 x4 n => .raw (.int .i64 (cI (zv b0 x0) (zv b1 x1) (zv b2 x2) (zv b4 x4 + 1) n - cI (zv b0 x0) (zv b1 x1) (zv b2 x2) (zv b3 x3) n)))
theorem rfrom_ok : SpOK Tryz.prog 64 spRFrom := by
  refine SpOK.ZZZZZI fun b0 x0 b1 x1 b2 x2 b3 x3 b4 x4 n ⟨⟨h0, h0l⟩, ⟨h1, h1l⟩, ⟨h2, h2l⟩, ⟨h3, h3l⟩, ⟨h4, h4l⟩, ⟨hlo, hlh, hhi⟩, hn, hn2⟩ => ?_
  have hE := env (SOK.cons rzof_ok (SOK.cons rzadd_ok (SOK.cons rbelow_ok (SOK.nil (P := Tryz.prog)))))
  have bH := zv_abs_lt (b := b4) h4 (l := 1 + 399) (by omega)
  obtain ⟨A, eA⟩ : ∃ A, zv b0 x0 = A := ⟨_, rfl⟩
  obtain ⟨B, eB⟩ : ∃ B, zv b1 x1 = B := ⟨_, rfl⟩
  obtain ⟨M, eM⟩ : ∃ M, zv b2 x2 = M := ⟨_, rfl⟩
  obtain ⟨L, eL⟩ : ∃ L, zv b3 x3 = L := ⟨_, rfl⟩
  obtain ⟨H, eH⟩ : ∃ H, zv b4 x4 = H := ⟨_, rfl⟩
  rw [eL] at hlo hlh
  rw [eH] at hlh hhi bH
  rw [eM] at hhi
  rw [eA, eB, eM, eL, eH]
  have r1 := cI_rng (a := A) (b := B) (m := M) (w := H + 1) hn
  have r2 := cI_rng (a := A) (b := B) (m := M) (w := L) hn
  have q1 : Int.natAbs 1 < B64 ^ 1 := by decide
  have q2 := pw_add 399 q1
  have bH1 := abs_add_lt bH q2
  obtain ⟨oH1, _, oH2⟩ := dgl bH1 (by omega)
  obtain ⟨H1, eH1⟩ : ∃ H1, H + 1 = H1 := ⟨_, rfl⟩
  rw [eH1] at r1 oH1 oH2 ⊢
  obtain ⟨K1, e1⟩ : ∃ K, cI A B M H1 n = K := ⟨_, rfl⟩
  obtain ⟨K2, e2⟩ : ∃ K, cI A B M L n = K := ⟨_, rfl⟩
  rw [e1] at r1 ⊢
  rw [e2] at r2 ⊢
  have hone : zv false (dg (Int.natAbs 1)) = 1 := zv_zi 1
  obtain ⟨c1, c1'⟩ := fit_of (z := 1) (k := 1) (by decide) (by decide)
  clear bH bH1
  refine ACall.body hE Tryz.func64 Tryz.ntmps64 Tryz.results64 ?_
  refine wk hE (And.intro eA (And.intro eB (And.intro eM (And.intro eL (And.intro eH (And.intro hone (And.intro eH1 (And.intro e1 e2)))))))) ?_
  exact PostL.mk trivial rfl
@[push_cast] noncomputable def spRFirst : Sp := spZZZZZI 0 (fun _ x0 _ x1 b2 x2 b3 x3 b4 x4 n => (Lm x0 ∧ x0.length < 400) ∧ (Lm x1 ∧ x1.length < 400) ∧ (Lm x2 ∧ x2.length < 400) ∧ (Lm x3 ∧ x3.length < 400) ∧ (Lm x4 ∧ x4.length < 400) ∧ (0 ≤ zv b3 x3 ∧ zv b3 x3 ≤ zv b4 x4 ∧ zv b4 x4 < zv b2 x2) ∧ -9223372036854775808 ≤ n ∧ n < 9223372036854775808)
  (fun b0 x0 b1 x1 b2 x2 b3 x3 b4 x4 n => .raw (.int .i64 (fst' (zv b0 x0) (zv b1 x1) (zv b2 x2) (zv b3 x3) (zv b4 x4) n)))
theorem rfirst_ok : SpOK Tryz.prog 41 spRFirst := by
  refine SpOK.ZZZZZI fun b0 x0 b1 x1 b2 x2 b3 x3 b4 x4 n ⟨⟨h0, h0l⟩, ⟨h1, h1l⟩, ⟨h2, h2l⟩, ⟨h3, h3l⟩, ⟨h4, h4l⟩, ⟨hlo, hlh, hhi⟩, hn1, hn2⟩ => ?_
  have hE := env (SOK.cons rfrom_ok (SOK.nil (P := Tryz.prog)))
  obtain ⟨A, eA⟩ : ∃ A, zv b0 x0 = A := ⟨_, rfl⟩
  obtain ⟨B, eB⟩ : ∃ B, zv b1 x1 = B := ⟨_, rfl⟩
  obtain ⟨M, eM⟩ : ∃ M, zv b2 x2 = M := ⟨_, rfl⟩
  obtain ⟨L, eL⟩ : ∃ L, zv b3 x3 = L := ⟨_, rfl⟩
  obtain ⟨H, eH⟩ : ∃ H, zv b4 x4 = H := ⟨_, rfl⟩
  rw [eL] at hlo hlh
  rw [eH] at hlh hhi
  rw [eM] at hhi
  rw [eA, eB, eM, eL, eH]
  refine ACall.body hE Tryz.func41 Tryz.ntmps41 Tryz.results41 ?_
  by_cases hn : n < 1
  · refine wk hE hn ?_
    refine PostL.mk trivial ?_
    rw [fst_eq (isF_none hn)]
  have hr := cI_range (a := A) (b := B) (m := M) (lo := L) (hi := H) (n := n) (by omega) hlh
  obtain ⟨K, eK⟩ : ∃ K, cI A B M (H + 1) n - cI A B M L n = K := ⟨_, rfl⟩
  rw [eK] at hr
  by_cases hz : K = 0
  · have hz' : (K == 0) = true := by rw [hz]; rfl
    refine wk hE (And.intro eA (And.intro eB (And.intro eM (And.intro eL (And.intro eH (And.intro hn (And.intro eK hz'))))))) ?_
    refine PostL.mk trivial ?_
    rw [fst_zero (hr.2.1 hz)]
  have hz' : (K == 0) = false := by rw [beq_eq_false_iff_ne]; exact hz
  have hst := BInv.start (n := n) (by omega) (fun h => hz (hr.2.2 h))
  refine wk hE (And.intro eA (And.intro eB (And.intro eM (And.intro eL (And.intro eH (And.intro hn (And.intro eK hz'))))))) ?_
  refine AWp.loop (ι := {p : Int × Int // BInv A B M L H n p.1 p.2}) (fun p => ⟨[(6, .ptr 6 0), (7, .ptr 7 0), (8, .ptr 8 0), (9, .ptr 9 0), (10, .ptr 10 0), (13, .raw (.int .i64 p.1.1)), (14, .raw (.int .i64 p.1.2))], [(6, ⟨true, .c [.raw (.bool b0), .ns .u64 x0]⟩), (7, ⟨true, .c [.raw (.bool b1), .ns .u64 x1]⟩), (8, ⟨true, .c [.raw (.bool b2), .ns .u64 x2]⟩), (9, ⟨true, .c [.raw (.bool b3), .ns .u64 x3]⟩), (10, ⟨true, .c [.raw (.bool b4), .ns .u64 x4]⟩)]⟩)
    (fun p => (p.1.2 - p.1.1).toNat) ⟨(0, n), hst⟩ (Le.mk trivial) ?_
  rintro ⟨⟨x, y⟩, hI⟩
  dsimp only at hI ⊢
  have hrg := hI.rng
  by_cases hd : 1 < y - x
  · have hm1 : x < x + (y - x).tdiv 2 ∧ x + (y - x).tdiv 2 < y := by
      rw [Int.tdiv_eq_ediv_of_nonneg (by omega)]; omega
    obtain ⟨t, et⟩ : ∃ t, (y - x).tdiv 2 = t := ⟨_, rfl⟩
    rw [et] at hm1
    obtain ⟨z, ez⟩ : ∃ z, x + t = z := ⟨_, rfl⟩
    rw [ez] at hm1
    have hr2 := cI_range (a := A) (b := B) (m := M) (lo := L) (hi := H) (n := z) (by omega) hlh
    obtain ⟨K2, eK2⟩ : ∃ K, cI A B M (H + 1) z - cI A B M L z = K := ⟨_, rfl⟩
    rw [eK2] at hr2
    have hmu : (y - z).toNat < (y - x).toNat ∧ (z - x).toNat < (y - x).toNat := by omega
    by_cases hz2 : K2 = 0
    · have hz3 : (K2 == 0) = true := by rw [hz2]; rfl
      have hnx := hI.up hm1.2 (by omega) (hr2.2.1 hz2)
      refine wk hE (And.intro eA (And.intro eB (And.intro eM (And.intro eL (And.intro eH (And.intro hd (And.intro et (And.intro ez (And.intro eK2 hz3))))))))) ?_
      exact ⟨⟨(z, y), hnx⟩, Le.mk trivial, hmu.1⟩
    · have hz3 : (K2 == 0) = false := by rw [beq_eq_false_iff_ne]; exact hz2
      have hnx := hI.down (z := z) (by omega) hm1.1 (fun h => hz2 (hr2.2.2 h))
      refine wk hE (And.intro eA (And.intro eB (And.intro eM (And.intro eL (And.intro eH (And.intro hd (And.intro et (And.intro ez (And.intro eK2 hz3))))))))) ?_
      exact ⟨⟨(x, z), hnx⟩, Le.mk trivial, hmu.2⟩
  · have hdn := hI.done hd
    refine wk hE hd ?_
    refine PostL.mk trivial ?_
    rw [hdn]
@[push_cast] noncomputable def spRFirstX : Sp := spZZZZZI 0 (fun _ x0 _ x1 _ x2 _ x3 _ x4 n => (Lm x0 ∧ x0.length < 400) ∧ (Lm x1 ∧ x1.length < 400) ∧ (Lm x2 ∧ x2.length < 400) ∧ (Lm x3 ∧ x3.length < 400) ∧ (Lm x4 ∧ x4.length < 400) ∧ -9223372036854775808 ≤ n ∧ n < 9223372036854775808)
  (fun b0 x0 b1 x1 b2 x2 b3 x3 b4 x4 n => .tup [.raw (.int .i64 (fK (zv b0 x0) (zv b1 x1) (zv b2 x2) (zv b3 x3) (zv b4 x4) n)), .raw (.int .i64 (fE (zv b0 x0) (zv b1 x1) (zv b2 x2) (zv b3 x3) (zv b4 x4) n))])
end Go.Hl

namespace Go.Hl
open Go Go.RowKit Go.Proofs
set_option maxHeartbeats 8000000
set_option maxRecDepth 100000
@[push_cast] def spX140 : Sp where
  kind := 0
  pre | [.sl 2 3 [.raw (.bool b0), .ns .u64 x0, .raw (.bool b1), .ns .u64 x1, .raw (.bool b2), .ns .u64 x2]] => x0.length < 1000000 ∧ x1.length < 1000000 ∧ x2.length < 1000000
      | _ => False
  res | [.sl 2 3 [.raw (.bool b0), .ns .u64 x0, .raw (.bool b1), .ns .u64 x1, .raw (.bool b2), .ns .u64 x2]] => .sl 2 3 [.raw (.bool b0), .ns .u64 x0, .raw (.bool b1), .ns .u64 x1, .raw (.bool b2), .ns .u64 x2]
      | _ => .any
theorem ownAll_ok : SpOK Tryz.prog 23 spX140 := by
  refine SpOK.zero rfl fun args hp => ?_
  simp only [spX140] at hp ⊢
  split at hp
  · rename_i b0 x0 b1 x1 b2 x2
    obtain ⟨l0, l1, l2⟩ := hp
    have hE := env (SOK.nil (P := Tryz.prog))
    refine ACall.body hE Tryz.func23 Tryz.ntmps23 Tryz.results23 ?_
    refine wk hE trivial ?_
    refine AWp.mv 3 6 29 trivial ?_
    refine AWp.loop (ι := {q : Nat × List AV // q = (0, []) ∨ q = (1, [.raw (.bool b0), .ns .u64 x0]) ∨ q = (2, [.raw (.bool b0), .ns .u64 x0, .raw (.bool b1), .ns .u64 x1]) ∨ q = (3, [.raw (.bool b0), .ns .u64 x0, .raw (.bool b1), .ns .u64 x1, .raw (.bool b2), .ns .u64 x2])})
      (fun q => ⟨[(0, .sl 2 3 [.raw (.bool b0), .ns .u64 x0, .raw (.bool b1), .ns .u64 x1, .raw (.bool b2), .ns .u64 x2]), (3, .os 29 2 0 q.1.1), (4, .raw (.int .i64 (q.1.1 : Nat)))], [(29, ⟨true, .c q.1.2⟩)]⟩) (fun q => 3 - q.1.1) ⟨(0, []), .inl rfl⟩ (Le.mk trivial) ?_
    rintro ⟨⟨i, cs⟩, h⟩
    dsimp only at h ⊢
    rcases h with h | h | h | h
    · cases h
      refine wk hE trivial ?_
      exact ⟨⟨(1, _), .inr (.inl rfl)⟩, Le.mk trivial, by dsimp only; omega⟩
    · cases h
      refine wk hE trivial ?_
      exact ⟨⟨(2, _), .inr (.inr (.inl rfl))⟩, Le.mk trivial, by dsimp only; omega⟩
    · cases h
      refine wk hE trivial ?_
      exact ⟨⟨(3, _), .inr (.inr (.inr rfl))⟩, Le.mk trivial, by dsimp only; omega⟩
    · cases h
      refine wk hE trivial ?_
      exact PostL.mk trivial rfl
  · exact hp.elim
@[push_cast] def spOwn : Sp where
  kind := 0
  pre | [.agg [.raw (.bool b0), .ns .u64 x0, .raw (.bool b1), .ns .u64 x1, .raw (.bool b2), .ns .u64 x2, .raw (.int .i64 n)]] => x0.length < 1000000 ∧ x1.length < 1000000 ∧ x2.length < 1000000
      | _ => False
  res | [.agg [.raw (.bool b0), .ns .u64 x0, .raw (.bool b1), .ns .u64 x1, .raw (.bool b2), .ns .u64 x2, .raw (.int .i64 n)]] => .agg [.raw (.bool b0), .ns .u64 x0, .raw (.bool b1), .ns .u64 x1, .raw (.bool b2), .ns .u64 x2, .raw (.int .i64 n)]
      | _ => .any
theorem own_ok : SpOK Tryz.prog 7 spOwn := by
  refine SpOK.zero rfl fun args hp => ?_
  simp only [spOwn] at hp ⊢
  split at hp
  · rename_i b0 x0 b1 x1 b2 x2 n
    obtain ⟨l0, l1, l2⟩ := hp
    have hE := env (SOK.cons ownAll_ok (SOK.nil (P := Tryz.prog)))
    refine ACall.body hE Tryz.func7 Tryz.ntmps7 Tryz.results7 ?_
    refine wk hE trivial ?_
    exact PostL.mk trivial rfl
  · exact hp.elim
@[push_cast] def spKept : Sp where
  kind := 0
  pre | [.agg [.raw (.bool b0), .ns .u64 x0, .raw (.bool b1), .ns .u64 x1, .raw (.bool b2), .ns .u64 x2, .raw (.int .i64 n)], .agg [.raw (.bool c0), .ns .u64 y0, .raw (.bool c1), .ns .u64 y1, .raw (.bool c2), .ns .u64 y2, .raw (.int .i64 m)]] => (b0 = c0 ∧ x0 = y0) ∧ (b1 = c1 ∧ x1 = y1) ∧ (b2 = c2 ∧ x2 = y2) ∧ x0.length < 1000000 ∧ x1.length < 1000000 ∧ x2.length < 1000000
      | _ => False
  res | _ => .raw (.bool true)
theorem kept_ok : SpOK Tryz.prog 13 spKept := by
  refine SpOK.zero rfl fun args hp => ?_
  simp only [spKept] at hp ⊢
  split at hp
  · rename_i b0 x0 b1 x1 b2 x2 n c0 y0 c1 y1 c2 y2 m
    obtain ⟨⟨rfl, rfl⟩, ⟨rfl, rfl⟩, ⟨rfl, rfl⟩, l0, l1, l2⟩ := hp
    have hE := env (SOK.cons exact_ok (SOK.nil (P := Tryz.prog)))
    have d0 : decide (x0 = x0) = true := decide_eq_true rfl
    have d1 : decide (x1 = x1) = true := decide_eq_true rfl
    have d2 : decide (x2 = x2) = true := decide_eq_true rfl
    have e0 : (b0 == b0) = true := beq_self_eq_true _
    have e1 : (b1 == b1) = true := beq_self_eq_true _
    have e2 : (b2 == b2) = true := beq_self_eq_true _
    refine ACall.body hE Tryz.func13 Tryz.ntmps13 Tryz.results13 ?_
    refine wk hE (And.intro d0 (And.intro d1 (And.intro d2 (And.intro e0 (And.intro e1 e2))))) ?_
    exact PostL.mk trivial rfl
  · exact hp.elim
end Go.Hl

/- lefevre: floors lefevre: Many -/
import Derived.Test.YtccbmjkhplmgnaaGreatHlFa
import Derived.Test.YtccbmjkhplmgnaaGreatHlFb
set_option linter.unusedVariables false
set_option linter.unusedSimpArgs false
namespace Go.Hl
open Go Go.RowKit Go.Proofs
set_option maxHeartbeats 16000000
def fI (a b m n : Int) : Int := (fS a.toNat b.toNat m.toNat n.toNat : Nat)
theorem fI_n0 (a b m : Int) : fI a b m 0 = 0 := rfl
theorem fI_nonneg (a b m n : Int) : 0 ≤ fI a b m n := by unfold fI; omega
theorem fI_round {a b m n : Int} (ha : 0 ≤ a) (hb : 0 ≤ b) (hm : 0 < m) (hn : 0 < n) :
    fI a b m n = a / m * (n * (n - 1) / 2) + b / m * n + fI m ((a % m * n + b % m) % m) (a % m) ((a % m * n + b % m) / m) := by
  obtain ⟨a, rfl⟩ := Int.eq_ofNat_of_zero_le ha
  obtain ⟨b, rfl⟩ := Int.eq_ofNat_of_zero_le hb
  obtain ⟨m, rfl⟩ := Int.eq_ofNat_of_zero_le (show 0 ≤ m by omega)
  obtain ⟨n, rfl⟩ := Int.eq_ofNat_of_zero_le (show 0 ≤ n by omega)
  have h := fS_round (a := a) (b := b) (m := m) (n := n) (by omega)
  have e1 : ((n : Int) - 1) = ((n - 1 : Nat) : Int) := by omega
  rw [e1]
  have c1 : ((a % m * n + b % m : Nat) : Int) = (a : Int) % m * n + (b : Int) % m := by
    rw [Int.natCast_add, Int.natCast_mul, Int.natCast_emod, Int.natCast_emod]
  rw [← c1]
  unfold fI
  have t1 : ((m : Int)).toNat = m := Int.toNat_natCast m
  have t2 : (((a % m * n + b % m : Nat) : Int) % (m : Int)).toNat = (a % m * n + b % m) % m := by rw [← Int.natCast_emod, Int.toNat_natCast]
  have t3 : (((a : Int)) % (m : Int)).toNat = a % m := by rw [← Int.natCast_emod, Int.toNat_natCast]
  have t4 : (((a % m * n + b % m : Nat) : Int) / (m : Int)).toNat = (a % m * n + b % m) / m := by rw [← Int.natCast_ediv, Int.toNat_natCast]
  rw [t1, t2, t3, t4, Int.toNat_natCast, Int.toNat_natCast, Int.toNat_natCast, h]
  rw [Int.natCast_add, Int.natCast_add, Int.natCast_mul, Int.natCast_mul, Int.natCast_ediv, Int.natCast_ediv, Int.natCast_ediv, Int.natCast_mul]
  rfl
theorem fI_bound {a b n : Int} (m : Int) (ha : 0 ≤ a) (hb : 0 ≤ b) (hn : 0 ≤ n) : fI a b m n ≤ (a * n + b) * n := by
  obtain ⟨a, rfl⟩ := Int.eq_ofNat_of_zero_le ha
  obtain ⟨b, rfl⟩ := Int.eq_ofNat_of_zero_le hb
  obtain ⟨n, rfl⟩ := Int.eq_ofNat_of_zero_le hn
  have h := fS_bound a b m.toNat n
  unfold fI
  rw [Int.toNat_natCast, Int.toNat_natCast, Int.toNat_natCast]
  have : (((a * n + b) * n : Nat) : Int) = ((a : Int) * n + b) * n := by rw [Int.natCast_mul, Int.natCast_add, Int.natCast_mul]
  rw [← this]
  omega
theorem topI_le {a b m n : Int} (ha : 0 ≤ a) (hb : 0 ≤ b) (hm : 0 < m) (hn : 0 ≤ n) : 0 ≤ (a % m * n + b % m) / m ∧ (a % m * n + b % m) / m ≤ n := by
  obtain ⟨a, rfl⟩ := Int.eq_ofNat_of_zero_le ha
  obtain ⟨b, rfl⟩ := Int.eq_ofNat_of_zero_le hb
  obtain ⟨m, rfl⟩ := Int.eq_ofNat_of_zero_le (show 0 ≤ m by omega)
  obtain ⟨n, rfl⟩ := Int.eq_ofNat_of_zero_le hn
  have h := top_le (a := a) (b := b) (m := m) (n := n) (by omega)
  have c1 : ((a % m * n + b % m : Nat) : Int) = (a : Int) % m * n + (b : Int) % m := by
    rw [Int.natCast_add, Int.natCast_mul, Int.natCast_emod, Int.natCast_emod]
  rw [← c1, ← Int.natCast_ediv]
  exact ⟨Int.natCast_nonneg _, Int.ofNat_le.2 h⟩
structure FInv (A B M N a b m n s : Int) : Prop where
  a0 : 0 ≤ a
  b0 : 0 ≤ b
  m0 : 0 ≤ m
  n0 : 0 ≤ n
  s0 : 0 ≤ s
  mn : 0 < n → 0 < m
  aC : a ≤ A ∨ a ≤ M
  bC : b ≤ B ∨ b ≤ M
  mC : m ≤ M
  nC : n ≤ N
  tot : s + fI a b m n = fI A B M N
theorem FInv.round {A B M N a b m n s : Int} (h : FInv A B M N a b m n s) (hn : 0 < n) :
    FInv A B M N m ((a % m * n + b % m) % m) (a % m) ((a % m * n + b % m) / m) (s + (a / m * (n * (n - 1) / 2) + b / m * n)) := by
  have hm := h.mn hn
  have r1 := mod_rng a hm
  have r2 := mod_rng (a % m * n + b % m) hm
  have ht := topI_le h.a0 h.b0 hm h.n0
  have q0 : 0 ≤ a / m := Int.ediv_nonneg h.a0 h.m0
  have p0 : 0 ≤ b / m := Int.ediv_nonneg h.b0 h.m0
  have w0 : 0 ≤ n * (n - 1) / 2 := Int.ediv_nonneg (Int.mul_nonneg h.n0 (by omega)) (by omega)
  have g1 := Int.mul_nonneg q0 w0
  have g2 := Int.mul_nonneg p0 h.n0
  have hs := h.s0
  refine ⟨h.m0, r2.1, r1.1, ht.1, by omega, fun hp => ?_, .inr h.mC, .inr (by have := h.mC; omega), by have := h.mC; omega, by have := h.nC; omega, ?_⟩
  · rcases Int.lt_or_le 0 (a % m) with h' | h'
    · exact h'
    · exfalso
      have e : a % m = 0 := by omega
      have r3 := mod_rng b hm
      rw [e, Int.zero_mul, Int.zero_add, Int.ediv_eq_zero_of_lt r3.1 r3.2] at hp
      omega
  · have := fI_round h.a0 h.b0 hm hn
    have := h.tot
    omega
theorem FInv.parts {A B M N a b m n s : Int} (h : FInv A B M N a b m n s) (hn : 0 < n) :
    (0 ≤ a / m * (n * (n - 1) / 2) ∧ a / m * (n * (n - 1) / 2) ≤ fI A B M N) ∧ (0 ≤ b / m * n ∧ b / m * n ≤ fI A B M N) ∧ a / m * (n * (n - 1) / 2) + b / m * n ≤ fI A B M N ∧ s + (a / m * (n * (n - 1) / 2) + b / m * n) ≤ fI A B M N := by
  have hm := h.mn hn
  have q0 : 0 ≤ a / m := Int.ediv_nonneg h.a0 h.m0
  have p0 : 0 ≤ b / m := Int.ediv_nonneg h.b0 h.m0
  have w0 : 0 ≤ n * (n - 1) / 2 := Int.ediv_nonneg (Int.mul_nonneg h.n0 (by omega)) (by omega)
  have g1 := Int.mul_nonneg q0 w0
  have g2 := Int.mul_nonneg p0 h.n0
  have hs := h.s0
  have := fI_round h.a0 h.b0 hm hn
  have := h.tot
  have := fI_nonneg m ((a % m * n + b % m) % m) (a % m) ((a % m * n + b % m) / m)
  omega
theorem FInv.done {A B M N a b m s : Int} (h : FInv A B M N a b m 0 s) : s = fI A B M N := by
  have := h.tot
  rw [fI_n0] at this; omega
theorem FInv.start {A B M N : Int} (hA : 0 ≤ A) (hB : 0 ≤ B) (hM : 0 < M) (hN : 0 ≤ N) : FInv A B M N A B M N 0 :=
  ⟨hA, hB, by omega, hN, Int.le_refl _, fun _ => hM, .inl (Int.le_refl _), .inl (Int.le_refl _), Int.le_refl _, Int.le_refl _, by omega⟩
@[push_cast] def spFloors : Sp := spZZZZ 0 (fun b0 x0 b1 x1 b2 x2 b3 x3 => (Lm x0 ∧ x0.length < 5000) ∧ (Lm x1 ∧ x1.length < 5000) ∧ (Lm x2 ∧ x2.length < 5000) ∧ (Lm x3 ∧ x3.length < 5000) ∧ 0 ≤ zv b0 x0 ∧ 0 ≤ zv b1 x1 ∧ 0 < zv b2 x2 ∧ 0 ≤ zv b3 x3)
  (fun b0 x0 b1 x1 b2 x2 b3 x3 => zi (fI (zv b0 x0) (zv b1 x1) (zv b2 x2) (zv b3 x3)))
theorem floors_ok : SpOK Tryz.prog 35 spFloors := by
  refine SpOK.ZZZZ fun b0 x0 b1 x1 b2 x2 b3 x3 ⟨⟨h0, h0l⟩, ⟨h1, h1l⟩, ⟨h2, h2l⟩, ⟨h3, h3l⟩, hA, hB, hM, hN⟩ => ?_
  have hE := env (SOK.cons sign_ok (SOK.cons zdivmod_ok (SOK.cons of_ok (SOK.cons zsub_ok (SOK.cons zmul_ok (SOK.cons zshr_ok (SOK.cons zadd_ok (SOK.nil (P := Tryz.prog)))))))))
  have bA := zv_abs_lt (b := b0) h0 (l := 5000) (by omega)
  have bB := zv_abs_lt (b := b1) h1 (l := 5000) (by omega)
  have bM := zv_abs_lt (b := b2) h2 (l := 5000) (by omega)
  have bN := zv_abs_lt (b := b3) h3 (l := 5000) (by omega)
  obtain ⟨A, eA⟩ : ∃ A, zv b0 x0 = A := ⟨_, rfl⟩
  obtain ⟨B, eB⟩ : ∃ B, zv b1 x1 = B := ⟨_, rfl⟩
  obtain ⟨M, eM⟩ : ∃ M, zv b2 x2 = M := ⟨_, rfl⟩
  obtain ⟨N, eN⟩ : ∃ N, zv b3 x3 = N := ⟨_, rfl⟩
  rw [eA] at bA hA
  rw [eB] at bB hB
  rw [eM] at bM hM
  rw [eN] at bN hN
  have b5 := abs_mul_lt bA bN
  have b6 := pw_add 5000 bB
  have b7 := abs_mul_lt (abs_add_lt b5 b6) bN
  have bT : (fI A B M N).natAbs < B64 ^ (5000 + 5000 + 1 + 5000) := by
    have h1 := fI_bound M hA hB hN
    have h2 := fI_nonneg A B M N
    omega
  have fitT : ∀ z : Int, 0 ≤ z → z ≤ fI A B M N → Lm (dg z.natAbs) ∧ (dg z.natAbs).length < 20000 := fun z hz hzM => by
    have : z.natAbs < B64 ^ (5000 + 5000 + 1 + 5000) := by omega
    obtain ⟨f1, _, f2⟩ := dgl this (by omega)
    exact ⟨f1, by omega⟩
  have fit5 : ∀ z : Int, 0 ≤ z → (z ≤ A ∨ z ≤ B ∨ z ≤ M ∨ z ≤ N) → Lm (dg z.natAbs) ∧ (dg z.natAbs).length < 6000 := fun z hz hzM => by
    have : z.natAbs < B64 ^ 5000 := by omega
    obtain ⟨f1, _, f2⟩ := dgl this (by omega)
    exact ⟨f1, by omega⟩
  have hst := FInv.start hA hB hM hN
  obtain ⟨T, eT⟩ : ∃ T, fI A B M N = T := ⟨_, rfl⟩
  clear b5 b6 b7 bT
  refine ACall.body hE Tryz.func35 Tryz.ntmps35 Tryz.results35 ?_
  rw [eA, eB, eM, eN]
  refine wk hE trivial ?_
  refine AWp.loop (ι := {p : (Num × Num × Num × Num) × Int // (p.1.1.Ok ∧ p.1.2.1.Ok ∧ p.1.2.2.1.Ok ∧ p.1.2.2.2.Ok) ∧ FInv A B M N p.1.1.val p.1.2.1.val p.1.2.2.1.val p.1.2.2.2.val p.2})
    (fun p => ⟨[(4, .ptr 4 0), (5, .ptr 5 0), (6, .ptr 6 0), (7, .ptr 7 0), (8, .ptr 8 0), (9, .ptr 9 0)], [(4, ⟨true, .c [.raw (.bool p.1.1.1.b), .ns .u64 p.1.1.1.x]⟩), (5, ⟨true, .c [.raw (.bool p.1.1.2.1.b), .ns .u64 p.1.1.2.1.x]⟩), (6, ⟨true, .c [.raw (.bool p.1.1.2.2.1.b), .ns .u64 p.1.1.2.2.1.x]⟩), (7, ⟨true, .c [.raw (.bool p.1.1.2.2.2.b), .ns .u64 p.1.1.2.2.2.x]⟩), (8, ⟨true, .c [.raw (.bool false), .ns .u64 []]⟩), (9, ⟨true, .c [.raw (.bool (decide (p.1.2 < 0))), .ns .u64 (dg p.1.2.natAbs)]⟩)]⟩)
    (fun p => p.1.1.2.2.1.val.toNat) ⟨((⟨b0, x0⟩, ⟨b1, x1⟩, ⟨b2, x2⟩, ⟨b3, x3⟩), 0), ⟨⟨h0, by show x0.length < _; omega⟩, ⟨h1, by show x1.length < _; omega⟩, ⟨h2, by show x2.length < _; omega⟩, ⟨h3, by show x3.length < _; omega⟩⟩, by
      show FInv A B M N (zv b0 x0) (zv b1 x1) (zv b2 x2) (zv b3 x3) 0
      rw [eA, eB, eM, eN]; exact hst⟩ (Le.mk (And.intro (show dg (Int.natAbs 0) = [] from dg_zero) (show decide ((0 : Int) < 0) = false from rfl))) ?_
  rintro ⟨⟨⟨na, nb, nm', nn⟩, s⟩, ⟨oa, ob, om, on⟩, hI⟩
  dsimp only at oa ob om on hI ⊢
  obtain ⟨a, ea⟩ : ∃ a, zv na.b na.x = a := ⟨_, rfl⟩
  obtain ⟨b, eb⟩ : ∃ b, zv nb.b nb.x = b := ⟨_, rfl⟩
  obtain ⟨m, em⟩ : ∃ m, zv nm'.b nm'.x = m := ⟨_, rfl⟩
  obtain ⟨n, en⟩ : ∃ n, zv nn.b nn.x = n := ⟨_, rfl⟩
  have hI : FInv A B M N a b m n s := by rw [← ea, ← eb, ← em, ← en]; exact hI
  obtain ⟨oa1, oa2⟩ := oa
  obtain ⟨ob1, ob2⟩ := ob
  obtain ⟨om1, om2⟩ := om
  obtain ⟨on1, on2⟩ := on
  by_cases hn : n = 0
  · subst hn
    have hs : ¬ 0 < (0 : Int).sign := by decide
    have hd := hI.done
    refine wk hE (And.intro en hs) ?_
    refine PostL.mk trivial ?_
    rw [← hd]
    rfl
  have hn0 : 0 < n := by have := hI.n0; omega
  have hs : 0 < n.sign := by rw [Int.sign_eq_one_of_pos hn0]; decide
  have hm := hI.mn hn0
  have hpt := hI.parts hn0
  have hnx := hI.round hn0
  have hle := hI.mC
  have hnN := hI.nC
  have hsT : s ≤ fI A B M N := by have := hI.tot; have := fI_nonneg a b m n; omega
  have hs0 := hI.s0
  rw [eT] at hpt hsT
  have ra := mod_rng a hm
  have rb := mod_rng b hm
  have q0 : 0 ≤ a / m := Int.ediv_nonneg hI.a0 hI.m0
  have p0 : 0 ≤ b / m := Int.ediv_nonneg hI.b0 hI.m0
  have qa : a / m ≤ a := Int.ediv_le_self _ hI.a0
  have pb : b / m ≤ b := Int.ediv_le_self _ hI.b0
  have rt := mod_rng (a % m * n + b % m) hm
  have tt := topI_le hI.a0 hI.b0 hm hI.n0
  have z1 := rz_pos (x := a) hm
  have z2 := rz_pos (x := b) hm
  have z3 := rz_pos (x := a % m * n + b % m) hm
  obtain ⟨q, eq⟩ : ∃ q, a / m = q := ⟨_, rfl⟩
  obtain ⟨x, ex⟩ : ∃ x, a % m = x := ⟨_, rfl⟩
  obtain ⟨p, ep⟩ : ∃ p, b / m = p := ⟨_, rfl⟩
  obtain ⟨y, ey⟩ : ∃ y, b % m = y := ⟨_, rfl⟩
  obtain ⟨n1, en1⟩ : ∃ n1, n - 1 = n1 := ⟨_, rfl⟩
  obtain ⟨w, ew⟩ : ∃ w, n * n1 = w := ⟨_, rfl⟩
  obtain ⟨pr, epr⟩ : ∃ pr, w / 2 ^ sh 1 = pr := ⟨_, rfl⟩
  have epr' : w / 2 = pr := epr
  rw [eq, ex, ep, ey, en1, ew, epr'] at hnx
  rw [eq, ep, en1, ew, epr'] at hpt
  rw [ex, ey] at rt tt z3
  rw [ex] at z1 ra
  rw [ey] at z2 rb
  rw [eq] at q0 qa
  rw [ep] at p0 pb
  obtain ⟨g1, eg1⟩ : ∃ g, q * pr = g := ⟨_, rfl⟩
  obtain ⟨g2, eg2⟩ : ∃ g, p * n = g := ⟨_, rfl⟩
  obtain ⟨g3, eg3⟩ : ∃ g, g1 + g2 = g := ⟨_, rfl⟩
  obtain ⟨s', es'⟩ : ∃ g, s + g3 = g := ⟨_, rfl⟩
  obtain ⟨h1', eh1⟩ : ∃ g, x * n = g := ⟨_, rfl⟩
  obtain ⟨h2', eh2⟩ : ∃ g, h1' + y = g := ⟨_, rfl⟩
  rw [eh1, eh2] at rt tt z3 hnx
  obtain ⟨top, etop⟩ : ∃ g, h2' / m = g := ⟨_, rfl⟩
  obtain ⟨rest, erest⟩ : ∃ g, h2' % m = g := ⟨_, rfl⟩
  rw [erest] at rt z3
  rw [etop] at tt
  rw [eg1, eg2, eg3, es', etop, erest] at hnx
  rw [eg1, eg2, eg3, es'] at hpt
  have bn : n.natAbs < B64 ^ 5000 := by omega
  have bn1 : n1.natAbs < B64 ^ 5000 := by omega
  have bx : x.natAbs < B64 ^ 5000 := by omega
  have bw := abs_mul_lt bn bn1
  rw [ew] at bw
  have bh1 := abs_mul_lt bx bn
  rw [eh1] at bh1
  have by2 := pw_add 5000 (show y.natAbs < B64 ^ 5000 by omega)
  have bh2 := abs_add_lt bh1 by2
  rw [eh2] at bh2
  have bpr : pr.natAbs < B64 ^ (5000 + 5000) := by
    have : pr.natAbs ≤ w.natAbs := by rw [← epr']; exact Int.natAbs_ediv_le_natAbs w 2
    omega
  obtain ⟨ow1, _, ow2⟩ := dgl bw (by omega)
  obtain ⟨oh11, _, oh12⟩ := dgl bh1 (by omega)
  obtain ⟨oh21, _, oh22⟩ := dgl bh2 (by omega)
  obtain ⟨opr1, _, opr2⟩ := dgl bpr (by omega)
  have aC := hI.aC
  have bC := hI.bC
  obtain ⟨oq1, oq2⟩ := fit5 q q0 (by omega)
  obtain ⟨ox1, ox2⟩ := fit5 x ra.1 (by omega)
  obtain ⟨op1, op2⟩ := fit5 p p0 (by omega)
  obtain ⟨oy1, oy2⟩ := fit5 y rb.1 (by omega)
  obtain ⟨onn1, onn2⟩ := fit5 n1 (by omega) (by omega)
  obtain ⟨otop1, otop2⟩ := fit5 top tt.1 (by omega)
  obtain ⟨orest1, orest2⟩ := fit5 rest rt.1 (by omega)
  obtain ⟨os1, os2⟩ := fitT s hs0 (by rw [eT]; exact hsT)
  obtain ⟨og11, og12⟩ := fitT g1 hpt.1.1 (by rw [eT]; exact hpt.1.2)
  obtain ⟨og21, og22⟩ := fitT g2 hpt.2.1.1 (by rw [eT]; exact hpt.2.1.2)
  obtain ⟨og31, og32⟩ := fitT g3 (by omega) (by rw [eT]; exact hpt.2.2.1)
  obtain ⟨os'1, os'2⟩ := fitT s' (by omega) (by rw [eT]; exact hpt.2.2.2)
  obtain ⟨c1, c1'⟩ := nat_abs_lt (z := 1) (l := 1) (by decide) (by omega)
  have hone : zv false (dg (Int.natAbs 1)) = 1 := zv_zi 1
  clear bA bB bM bN hA hB hN h0 h1 h2 h3 h0l h1l h2l h3l hn bn bn1 bx bw bh1 by2 bh2 bpr aC bC hpt ra rb rt tt hsT hs0 fit5 fitT hI hnN q0 p0 qa pb hst
  refine wk hE en ?_
  refine AWp.test trivial (fun _ => ?_) (fun hc => absurd hs (of_decide_eq_false hc))
  refine AWp.skip ?_
  change AWp _ _ _ (.block _ _) _ _
  refine AWp.block ?_
  refine wkR hE (And.intro ea (And.intro em (And.intro eq z1))) ?_
  refine wkR hE (And.intro eb (And.intro em (And.intro ep z2))) ?_
  refine AWp.seqJ (ι := Unit) (fun _ => ⟨[(4, .ptr 4 0), (5, .ptr 5 0), (6, .ptr 6 0), (7, .ptr 7 0), (8, .ptr 8 0), (9, .ptr 9 0), (10, .ptr 10 0), (11, .ptr 11 0), (13, .ptr 13 0), (14, .ptr 14 0), (16, .ptr 16 0)], [(4, ⟨true, .c [.raw (.bool na.b), .ns .u64 na.x]⟩), (5, ⟨true, .c [.raw (.bool nb.b), .ns .u64 nb.x]⟩), (6, ⟨true, .c [.raw (.bool nm'.b), .ns .u64 nm'.x]⟩), (7, ⟨true, .c [.raw (.bool nn.b), .ns .u64 nn.x]⟩), (8, ⟨true, .c [.raw (.bool false), .ns .u64 []]⟩), (9, ⟨true, .c [.raw (.bool (decide (s < 0))), .ns .u64 (dg s.natAbs)]⟩), (10, ⟨true, .c [.raw (.bool (decide (q < 0))), .ns .u64 (dg q.natAbs)]⟩), (11, ⟨true, .c [.raw (.bool (decide (x < 0))), .ns .u64 (dg x.natAbs)]⟩), (13, ⟨true, .c [.raw (.bool (decide (p < 0))), .ns .u64 (dg p.natAbs)]⟩), (14, ⟨true, .c [.raw (.bool (decide (y < 0))), .ns .u64 (dg y.natAbs)]⟩), (16, ⟨true, .c [.raw (.bool (decide (pr < 0))), .ns .u64 (dg pr.natAbs)]⟩)]⟩) ?_ (fun _ => ?_)
  · refine wk hE (And.intro en (And.intro hone (And.intro en1 (And.intro ew epr)))) ?_
    exact ⟨(), Le.mk trivial⟩
  refine AWp.seqJ (ι := Unit) (fun _ => ⟨[(4, .ptr 4 0), (5, .ptr 5 0), (6, .ptr 6 0), (7, .ptr 7 0), (8, .ptr 8 0), (9, .ptr 9 0), (11, .ptr 11 0), (14, .ptr 14 0)], [(4, ⟨true, .c [.raw (.bool na.b), .ns .u64 na.x]⟩), (5, ⟨true, .c [.raw (.bool nb.b), .ns .u64 nb.x]⟩), (6, ⟨true, .c [.raw (.bool nm'.b), .ns .u64 nm'.x]⟩), (7, ⟨true, .c [.raw (.bool nn.b), .ns .u64 nn.x]⟩), (8, ⟨true, .c [.raw (.bool false), .ns .u64 []]⟩), (9, ⟨true, .c [.raw (.bool (decide (s' < 0))), .ns .u64 (dg s'.natAbs)]⟩), (11, ⟨true, .c [.raw (.bool (decide (x < 0))), .ns .u64 (dg x.natAbs)]⟩), (14, ⟨true, .c [.raw (.bool (decide (y < 0))), .ns .u64 (dg y.natAbs)]⟩)]⟩) ?_ (fun _ => ?_)
  · refine wk hE (And.intro en (And.intro eg1 (And.intro eg2 (And.intro eg3 es')))) ?_
    exact ⟨(), Le.mk trivial⟩
  refine AWp.seqJ (ι := Unit) (fun _ => ⟨[(4, .ptr 4 0), (5, .ptr 5 0), (6, .ptr 6 0), (7, .ptr 7 0), (8, .ptr 8 0), (9, .ptr 9 0), (11, .ptr 11 0), (17, .ptr 17 0), (18, .ptr 18 0)], [(4, ⟨true, .c [.raw (.bool na.b), .ns .u64 na.x]⟩), (5, ⟨true, .c [.raw (.bool nb.b), .ns .u64 nb.x]⟩), (6, ⟨true, .c [.raw (.bool nm'.b), .ns .u64 nm'.x]⟩), (7, ⟨true, .c [.raw (.bool nn.b), .ns .u64 nn.x]⟩), (8, ⟨true, .c [.raw (.bool false), .ns .u64 []]⟩), (9, ⟨true, .c [.raw (.bool (decide (s' < 0))), .ns .u64 (dg s'.natAbs)]⟩), (11, ⟨true, .c [.raw (.bool (decide (x < 0))), .ns .u64 (dg x.natAbs)]⟩), (17, ⟨true, .c [.raw (.bool (decide (top < 0))), .ns .u64 (dg top.natAbs)]⟩), (18, ⟨true, .c [.raw (.bool (decide (rest < 0))), .ns .u64 (dg rest.natAbs)]⟩)]⟩) ?_ (fun _ => ?_)
  · refine AWp.regionA [(11, 11), (7, 7), (14, 14), (6, 6)] [(17, 11), (18, 12)] hE.hT hE.hS hE.hm ?_ (wk hE (And.intro en (And.intro em (And.intro eh1 (And.intro eh2 (And.intro etop z3))))) ?_)
    · intro p i h
      simp only [lk] at h
      split at h
      · rename_i e; cases h; subst e; exact ⟨0, rfl⟩
      split at h
      · rename_i e; cases h; subst e; exact ⟨0, rfl⟩
      split at h
      · rename_i e; cases h; subst e; exact ⟨0, rfl⟩
      split at h
      · rename_i e; cases h; subst e; exact ⟨0, rfl⟩
      · cases h
    exact ⟨(), Le.mk trivial⟩
  refine AWp.regionA [(4, 4), (5, 5), (6, 6), (7, 7), (11, 11), (17, 17), (18, 18)] [] hE.hT hE.hS hE.hm ?_ (wk hE trivial ?_)
  · intro p i h
    simp only [lk] at h
    split at h
    · rename_i e; cases h; subst e; exact ⟨0, rfl⟩
    split at h
    · rename_i e; cases h; subst e; exact ⟨0, rfl⟩
    split at h
    · rename_i e; cases h; subst e; exact ⟨0, rfl⟩
    split at h
    · rename_i e; cases h; subst e; exact ⟨0, rfl⟩
    split at h
    · rename_i e; cases h; subst e; exact ⟨0, rfl⟩
    split at h
    · rename_i e; cases h; subst e; exact ⟨0, rfl⟩
    split at h
    · rename_i e; cases h; subst e; exact ⟨0, rfl⟩
    · cases h
  refine ⟨⟨((nm', nm rest, nm x, nm top), s'), ⟨⟨om1, om2⟩, ⟨orest1, by show (dg rest.natAbs).length < _; omega⟩, ⟨ox1, by show (dg x.natAbs).length < _; omega⟩, ⟨otop1, by show (dg top.natAbs).length < _; omega⟩⟩, ?_⟩, Le.mk trivial, ?_⟩
  · dsimp only
    rw [nm_val, nm_val, nm_val]
    show FInv A B M N (zv nm'.b nm'.x) rest x top s'
    rw [em]; exact hnx
  · show (nm x).val.toNat < (zv nm'.b nm'.x).toNat
    rw [nm_val, em]; have := mod_rng a hm; omega
end Go.Hl

namespace Go.Hl
open Go Go.RowKit Go.Proofs
set_option maxHeartbeats 16000000
noncomputable def cI (a b m w n : Int) : Int := (cW a b m w n.toNat : Nat)
theorem cI_rng {a b m w n : Int} (hn : 0 ≤ n) : 0 ≤ cI a b m w n ∧ cI a b m w n ≤ n := by
  unfold cI cW
  have h : sm (fun k => if Vk a b m k < w then 1 else 0) n.toNat ≤ sm (fun _ => 1) n.toNat := sm_le (fun i _ => by split <;> omega)
  rw [sm_const] at h
  omega
theorem many_eq {a b m w n : Int} (hm : 0 < m) (hw : 0 ≤ w) (hwm : w ≤ m) (hn : 0 ≤ n) : fI (a % m) (b % m + m) m n - fI (a % m) (b % m + m - w) m n = cI a b m w n := by
  have ra := mod_rng a hm
  have rb := mod_rng b hm
  obtain ⟨x, hx⟩ := Int.eq_ofNat_of_zero_le ra.1
  obtain ⟨y, hy⟩ := Int.eq_ofNat_of_zero_le rb.1
  obtain ⟨m', hm'⟩ := Int.eq_ofNat_of_zero_le (show 0 ≤ m by omega)
  obtain ⟨w', hw'⟩ := Int.eq_ofNat_of_zero_le hw
  have hv : ∀ k : Nat, Vk a b m k = ((x * k + y) % m' : Nat) := fun k => by
    unfold Vk
    have e1 := Int.mul_ediv_add_emod a m
    have e2 := Int.mul_ediv_add_emod b m
    have : a * k + b = (x * k + y : Int) + m * (a / m * k + b / m) := by rw [← hx, ← hy]; clear hx hy hm' hw' ra rb hm hw hwm hn; grind
    rw [this, Int.add_mul_emod_self_left, hm', Int.natCast_emod, Int.natCast_add, Int.natCast_mul]
  rw [hx, hy]
  have key : fS x (y + m') m' n.toNat = fS x (y + m' - w') m' n.toNat + cW a b m w n.toNat := by
    unfold fS cW
    rw [← sm_add]
    refine sm_congr (fun k _ => ?_)
    have hm0 : 0 < m' := by omega
    have hw0 : w' ≤ m' := by omega
    rw [term_diff k hm0 hw0, hv, hw']
    by_cases h : (x * k + y) % m' < w'
    · rw [if_pos h, if_pos (Int.ofNat_lt.2 h)]
    · rw [if_neg h, if_neg (fun h' => h (Int.ofNat_lt.1 h'))]
  have t1 : ((x : Int)).toNat = x := Int.toNat_natCast x
  have t2 : ((y : Int) + m).toNat = y + m' := by omega
  have t3 : ((y : Int) + m - w).toNat = y + m' - w' := by omega
  have t4 : m.toNat = m' := by omega
  unfold fI cI
  rw [t1, t2, t3, t4, key]
  omega
def badM (m w n : Int) : Prop := m < 1 ∨ w < 0 ∨ m < w ∨ n < 0
instance (m w n : Int) : Decidable (badM m w n) := by unfold badM; infer_instance
noncomputable def wK (a b m w n : Int) : Int := if badM m w n then 0 else cI a b m w n
def wE (m w n : Int) : Int := if badM m w n then 1 else 0
@[push_cast] noncomputable def spMany : Sp := spZZZZI 0 (fun _ x0 _ x1 _ x2 _ x3 n => (Lm x0 ∧ x0.length < 4000) ∧ (Lm x1 ∧ x1.length < 4000) ∧ (Lm x2 ∧ x2.length < 4000) ∧ (Lm x3 ∧ x3.length < 4000) ∧ -9223372036854775808 ≤ n ∧ n < 9223372036854775808)
  (fun b0 x0 b1 x1 b2 x2 b3 x3 n => .tup [.raw (.int .i64 (wK (zv b0 x0) (zv b1 x1) (zv b2 x2) (zv b3 x3) n)), .raw (.int .i64 (wE (zv b2 x2) (zv b3 x3) n))])
theorem many_ok : SpOK Tryz.prog 15 spMany := by
  refine SpOK.ZZZZI fun b0 x0 b1 x1 b2 x2 b3 x3 n ⟨⟨h0, h0l⟩, ⟨h1, h1l⟩, ⟨h2, h2l⟩, ⟨h3, h3l⟩, hn1, hn2⟩ => ?_
  have hE := env (SOK.cons sign_ok (SOK.cons zcmp_ok (SOK.cons lmod_ok (SOK.cons of_ok (SOK.cons zadd_ok (SOK.cons floors_ok (SOK.cons zsub_ok (SOK.cons small_ok (SOK.nil (P := Tryz.prog))))))))))
  have bM := zv_abs_lt (b := b2) h2 (l := 4000) (by omega)
  obtain ⟨A, eA⟩ : ∃ A, zv b0 x0 = A := ⟨_, rfl⟩
  obtain ⟨B, eB⟩ : ∃ B, zv b1 x1 = B := ⟨_, rfl⟩
  obtain ⟨M, eM⟩ : ∃ M, zv b2 x2 = M := ⟨_, rfl⟩
  obtain ⟨W, eW⟩ : ∃ W, zv b3 x3 = W := ⟨_, rfl⟩
  rw [eM] at bM
  rw [eA, eB, eM, eW]
  refine ACall.body hE Tryz.func15 Tryz.ntmps15 Tryz.results15 ?_
  refine wkR hE trivial ?_
  refine AWp.seqJ (ι := {u : Unit // ¬ badM M W n}) (fun _ => ⟨[(4, .raw (.int .i64 n)), (5, .ptr 5 0), (6, .ptr 6 0), (7, .ptr 7 0), (8, .ptr 8 0)], [(5, ⟨true, .c [.raw (.bool b0), .ns .u64 x0]⟩), (6, ⟨true, .c [.raw (.bool b1), .ns .u64 x1]⟩), (7, ⟨true, .c [.raw (.bool b2), .ns .u64 x2]⟩), (8, ⟨true, .c [.raw (.bool b3), .ns .u64 x3]⟩)]⟩) ?_ ?_
  · have bad : badM M W n → AV.tup [.raw (.int .i64 0), .raw (.int .i64 1)] = AV.tup [.raw (.int .i64 (wK A B M W n)), .raw (.int .i64 (wE M W n))] := fun h => by
      unfold wK wE; rw [if_pos h, if_pos h]
    by_cases c1 : M < 1
    · refine wk hE (And.intro eM (sign_lt1.2 c1)) ?_
      refine PostL.mk trivial ?_
      exact bad (.inl c1)
    have d1 : ¬ M.sign < 1 := fun h => c1 (sign_lt1.1 h)
    by_cases c2 : W < 0
    · refine wk hE (And.intro eM (And.intro eW (And.intro d1 (sign_lt0.2 c2)))) ?_
      refine PostL.mk trivial ?_
      exact bad (.inr (.inl c2))
    have d2 : ¬ W.sign < 0 := fun h => c2 (sign_lt0.1 h)
    by_cases c3 : M < W
    · refine wk hE (And.intro eM (And.intro eW (And.intro d1 (And.intro d2 (cmp_gt0.2 c3))))) ?_
      refine PostL.mk trivial ?_
      exact bad (.inr (.inr (.inl c3)))
    have d3 : ¬ 0 < cmpZ W M := fun h => c3 (cmp_gt0.1 h)
    by_cases c4 : n < 0
    · refine wk hE (And.intro eM (And.intro eW (And.intro d1 (And.intro d2 (And.intro d3 c4))))) ?_
      refine PostL.mk trivial ?_
      exact bad (.inr (.inr (.inr c4)))
    · refine wk hE (And.intro eM (And.intro eW (And.intro d1 (And.intro d2 (And.intro d3 c4))))) ?_
      exact ⟨⟨(), by unfold badM; omega⟩, Le.mk trivial⟩
  rintro ⟨_, hnb⟩
  have hM : 0 < M := by unfold badM at hnb; omega
  have hW : 0 ≤ W ∧ W ≤ M := by unfold badM at hnb; omega
  have hn : 0 ≤ n := by unfold badM at hnb; omega
  have e1 : wK A B M W n = cI A B M W n := if_neg hnb
  have e2 : wE M W n = 0 := if_neg hnb
  have hme := many_eq (a := A) (b := B) hM hW.1 hW.2 hn
  have hcr := cI_rng (a := A) (b := B) (m := M) (w := W) hn
  have ra := mod_rng A hM
  have rb := mod_rng B hM
  rw [e1, e2]
  have fit : ∀ z : Int, 0 ≤ z → z ≤ 2 * M → Lm (dg z.natAbs) ∧ (dg z.natAbs).length < 5000 := fun z hz hzM => by
    have h1 := powA bM bM
    have : z.natAbs < B64 ^ (4000 + 1) := by omega
    obtain ⟨f1, _, f2⟩ := dgl this (by omega)
    exact ⟨f1, by omega⟩
  have bx : ∀ z, 0 ≤ z → z ≤ 2 * M → (fI (A % M) z M n).natAbs < B64 ^ (4000 + 1 + 1 + 1) := fun z hz hz2 => by
    have h1 := fI_bound M ra.1 hz hn (b := z)
    have h2 := fI_nonneg (A % M) z M n
    have h3 := powA bM bM
    have k1 : (A % M).natAbs < B64 ^ 4000 := by omega
    have k2 : n.natAbs < B64 ^ 1 := by rw [Nat.pow_one]; unfold B64; omega
    have k3 := abs_mul_lt k1 k2
    have k4 : z.natAbs < B64 ^ (4000 + 1) := by omega
    have k5 := abs_mul_lt (abs_add_lt k3 k4) k2
    omega
  obtain ⟨x, ex⟩ : ∃ x, A % M = x := ⟨_, rfl⟩
  obtain ⟨y, ey⟩ : ∃ y, B % M = y := ⟨_, rfl⟩
  rw [ex] at ra hme bx
  rw [ey] at rb hme
  obtain ⟨u, eu⟩ : ∃ u, y + M = u := ⟨_, rfl⟩
  rw [eu] at hme
  obtain ⟨v, ev⟩ : ∃ v, u - W = v := ⟨_, rfl⟩
  rw [ev] at hme
  have b1 := bx u (by omega) (by omega)
  have b2' := bx v (by omega) (by omega)
  obtain ⟨s, es⟩ : ∃ s, fI x u M n = s := ⟨_, rfl⟩
  obtain ⟨t, et⟩ : ∃ t, fI x v M n = t := ⟨_, rfl⟩
  rw [es] at hme b1
  rw [et] at hme b2'
  obtain ⟨c, ec⟩ : ∃ c, cI A B M W n = c := ⟨_, rfl⟩
  rw [ec] at hme hcr ⊢
  have hfit : fits64 c = true := decide_eq_true (by omega)
  have u0 : 0 ≤ u := by omega
  have v0 : 0 ≤ v := by omega
  obtain ⟨ox1, ox2⟩ := fit x ra.1 (by omega)
  obtain ⟨oy1, oy2⟩ := fit y rb.1 (by omega)
  obtain ⟨ou1, ou2⟩ := fit u u0 (by omega)
  obtain ⟨ov1, ov2⟩ := fit v v0 (by omega)
  obtain ⟨os1, _, os2⟩ := dgl b1 (by omega)
  obtain ⟨ot1, _, ot2⟩ := dgl b2' (by omega)
  have bn : n.natAbs < B64 ^ 1 := by rw [Nat.pow_one]; unfold B64; omega
  obtain ⟨on1, _, on2⟩ := dgl bn (by omega)
  have bc : c.natAbs < B64 ^ 1 := by rw [Nat.pow_one]; unfold B64; omega
  obtain ⟨oc1, _, oc2⟩ := dgl bc (by omega)
  have x0' : 0 ≤ x := ra.1
  clear fit bx b1 b2' hcr ra rb bn bc hnb e1 e2
  refine AWp.seqJ (ι := Unit) (fun _ => ⟨[(7, .ptr 7 0), (8, .ptr 8 0), (12, .ptr 12 0), (13, .ptr 13 0), (14, .ptr 14 0)], [(7, ⟨true, .c [.raw (.bool b2), .ns .u64 x2]⟩), (8, ⟨true, .c [.raw (.bool b3), .ns .u64 x3]⟩), (12, ⟨true, .c [.raw (.bool (decide (x < 0))), .ns .u64 (dg x.natAbs)]⟩), (13, ⟨true, .c [.raw (.bool (decide (y < 0))), .ns .u64 (dg y.natAbs)]⟩), (14, ⟨true, .c [.raw (.bool (decide (n < 0))), .ns .u64 (dg n.natAbs)]⟩)]⟩) ?_ (fun _ => ?_)
  · refine AWp.regionA [(5, 5), (6, 6), (7, 7)] [(12, 8), (13, 9), (14, 10)] hE.hT hE.hS hE.hm ?_ (wk hE (And.intro eA (And.intro eB (And.intro eM (And.intro ex ey)))) ?_)
    · intro p i h
      simp only [lk] at h
      split at h
      · rename_i e; cases h; subst e; exact ⟨0, rfl⟩
      split at h
      · rename_i e; cases h; subst e; exact ⟨0, rfl⟩
      split at h
      · rename_i e; cases h; subst e; exact ⟨0, rfl⟩
      · cases h
    exact ⟨(), Le.mk trivial⟩
  refine wk hE (And.intro eM (And.intro eW (And.intro eu (And.intro ev (And.intro es (And.intro et (And.intro hme hfit))))))) ?_
  exact PostL.mk trivial rfl
end Go.Hl

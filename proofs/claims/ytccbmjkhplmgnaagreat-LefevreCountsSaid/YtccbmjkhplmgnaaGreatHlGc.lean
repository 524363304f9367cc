/- lefevre: Gaps, up to the arcs lefevre: Gaps, the arcs -/
import Derived.Test.YtccbmjkhplmgnaaGreatHlGb
import Derived.Test.YtccbmjkhplmgnaaGreatHlFa
import Derived.Test.YtccbmjkhplmgnaaGreatHlZa
set_option linter.unusedVariables false
set_option linter.unusedSimpArgs false
namespace Go.Hl
open Go Go.RowKit Go.Proofs
set_option maxHeartbeats 3200000
set_option maxRecDepth 100000
theorem AWp.joinE {P : Program} {T : Tab} {n : Nat} {Q : Exit → St → Prop} {σ : St} {x y : Code} {ι : Type} (J : ι → St) (h1 : AWp P T n x (EThen (fun σ => ∃ i, Le σ (J i)) Q) σ) (h2 : ∀ i, AWp P T n y Q (J i)) : AWp P T n x (EThen (AWp P T n y Q) Q) σ :=
  h1.mono fun e σ' h => by
    cases e with
    | normal => obtain ⟨i, hi⟩ := h; exact (h2 i).weak hi
    | _ => exact h
structure GapsW (A M N G Q v1 v2 k1 k2 : Int) : Prop where
  hM : 1 ≤ M
  hN : 1 < N
  hN2 : N < 9223372036854775808
  eG : (Nat.gcd A.natAbs M.natAbs : Int) = G
  gG : 1 ≤ G
  eQ : M / G = Q
  lQ : N < Q
  eK1 : mK A A M (N - 1) = k1
  eV1 : mV A A M (N - 1) = v1
  eK2 : mK (-A) (-A) M (N - 1) = k2
  eV2 : mV (-A) (-A) M (N - 1) = v2
  r1 : 0 ≤ k1 ∧ k1 < N - 1
  r2 : 0 ≤ k2 ∧ k2 < N - 1
  s1 : 0 ≤ v1 ∧ v1 < M
  s2 : 0 ≤ v2 ∧ v2 < M
  lt : v2 < v1
theorem gaps_a {b0 b1 : Bool} {x0 x1 : List Int} {N A M G Q v1 v2 k1 k2 : Int} (h0 : Lm x0 ∧ x0.length < 9000) (h1 : Lm x1 ∧ x1.length < 9000) (eA : zv b0 x0 = A) (eM : zv b1 x1 = M) (W : GapsW A M N G Q v1 v2 k1 k2) (r : AV)
    (hT : Lm (dg v1.natAbs) ∧ (dg v1.natAbs).length < 9500 → Lm (dg v2.natAbs) ∧ (dg v2.natAbs).length < 9500 → AWp Tryz.prog (tab false) 117 (tl 10 (Tryz.f21.body.getD .skip)) (PostL (tab false) [.tmp 6, .tmp 7, .tmp 8] [46, 39, 30] r) ⟨[(2, .raw (.int .i64 N)), (15, .raw (.int .i64 (k2 + 1))), (17, .raw (.int .i64 (k1 + 1))), (16, .ptr 16 0), (18, .ptr 18 0)], [(16, ⟨true, .c [.raw (.bool (decide (v2 < 0))), .ns .u64 (dg v2.natAbs)]⟩), (18, ⟨true, .c [.raw (.bool (decide (v1 < 0))), .ns .u64 (dg v1.natAbs)]⟩)]⟩) :
    ACall Tryz.prog 21 [.agg [.raw (.bool b0), .ns .u64 x0], .agg [.raw (.bool b1), .ns .u64 x1], .raw (.int .i64 N)] r := by
  have hE := env (SOK.cons sign_ok (SOK.cons zgcd_ok (SOK.cons zdivmod_ok (SOK.cons of_ok (SOK.cons zcmp_ok (SOK.cons least_ok (SOK.cons zneg_ok (SOK.nil (P := Tryz.prog)))))))))
  obtain ⟨hM, hN, hN2, eG, gG, eQ, lQ, eK1, eV1, eK2, eV2, r1, r2, s1, s2, lt⟩ := W
  obtain ⟨h0, h0l⟩ := h0
  obtain ⟨h1, h1l⟩ := h1
  have bA := zv_abs_lt (b := b0) h0 (l := 9000) (by omega)
  have bM := zv_abs_lt (b := b1) h1 (l := 9000) (by omega)
  rw [eA] at bA
  rw [eM] at bM
  have fitM : ∀ z : Int, 0 ≤ z → z ≤ M → Lm (dg z.natAbs) ∧ (dg z.natAbs).length < 9500 := fun z hz hzM => by
    have : z.natAbs < B64 ^ 9000 := by omega
    obtain ⟨f1, _, f2⟩ := dgl this (by omega)
    exact ⟨f1, by omega⟩
  have hGM : G ≤ M := by
    rw [← eG]
    have : Nat.gcd A.natAbs M.natAbs ≤ M.natAbs := Nat.gcd_le_right _ (by omega)
    omega
  have hQ0 : 0 ≤ Q := by omega
  have hQM : Q ≤ M := by rw [← eQ]; exact Int.ediv_le_self _ (by omega)
  obtain ⟨og1, og2⟩ := fitM G (by omega) hGM
  obtain ⟨oq1, oq2⟩ := fitM Q (by omega) hQM
  obtain ⟨ov1, ov2⟩ := fitM v1 s1.1 (by omega)
  obtain ⟨ow1, ow2⟩ := fitM v2 s2.1 (by omega)
  obtain ⟨R, eR⟩ : ∃ R, rz M G = R := ⟨_, rfl⟩
  obtain ⟨A', eA'⟩ : ∃ A', -A = A' := ⟨_, rfl⟩
  have bA' : A'.natAbs < B64 ^ 9000 := by rw [← eA']; omega
  obtain ⟨oa1, _, oa2⟩ := dgl bA' (by omega)
  have bn : N.natAbs < B64 ^ 1 := by rw [Nat.pow_one]; unfold B64; omega
  obtain ⟨on1, _, on2⟩ := dgl bn (by omega)
  have d1 : ¬ M.sign < 1 := fun h => by have := sign_lt1.1 h; omega
  have d2 : ¬ 0 ≤ cmpZ N Q := fun h => by have := cmp_ge0.1 h; omega
  rw [eA'] at eK2 eV2
  clear fitM bn bA bA' hGM
  refine ACall.body hE Tryz.func21 Tryz.ntmps21 Tryz.results21 ?_
  have d3 : ¬ N < 1 := by omega
  refine wk hE (And.intro eA (And.intro eM (And.intro d1 (And.intro d3 (And.intro eG (And.intro eQ (And.intro eR d2))))))) ?_
  have hn1 : ¬ N = 1 := by omega
  refine AWp.test trivial (fun hc => absurd (of_decide_eq_true hc) hn1) (fun _ => ?_)
  refine AWp.skip ?_
  change AWp _ _ _ (.seq _ _) _ _
  have hM0 : 0 < M := by omega
  refine wkR hE (And.intro eA (And.intro eM (And.intro eK1 eV1))) ?_
  refine AWp.seqJ (ι := Unit) (fun _ => ⟨[(2, .raw (.int .i64 N)), (15, .raw (.int .i64 k1)), (17, .raw (.int .i64 k2)), (16, .ptr 16 0), (18, .ptr 18 0)], [(16, ⟨true, .c [.raw (.bool (decide (v1 < 0))), .ns .u64 (dg v1.natAbs)]⟩), (18, ⟨true, .c [.raw (.bool (decide (v2 < 0))), .ns .u64 (dg v2.natAbs)]⟩)]⟩) ?_ (fun _ => ?_)
  · refine AWp.regionA [(3, 3), (4, 4)] [(18, 11)] hE.hT hE.hS hE.hm ?_ (wk hE (And.intro eA (And.intro eA' (And.intro eM (And.intro eK2 eV2)))) ?_)
    · intro p i h
      simp only [lk] at h
      split at h
      · rename_i e; cases h; subst e; exact ⟨0, rfl⟩
      split at h
      · rename_i e; cases h; subst e; exact ⟨0, rfl⟩
      · cases h
    exact ⟨(), Le.mk trivial⟩
  have hf1 : -9223372036854775808 ≤ k1 + 1 ∧ k1 + 1 < 9223372036854775808 := by omega
  refine wk hE trivial ?_
  refine AWp.test trivial (fun _ => ?_) (fun hc => absurd (cmp_gt0.2 lt) (of_decide_eq_false hc))
  refine AWp.joinE (fun (_ : Unit) => ⟨[(2, .raw (.int .i64 N)), (15, .raw (.int .i64 (k2 + 1))), (17, .raw (.int .i64 (k1 + 1))), (16, .ptr 16 0), (18, .ptr 18 0)], [(16, ⟨true, .c [.raw (.bool (decide (v2 < 0))), .ns .u64 (dg v2.natAbs)]⟩), (18, ⟨true, .c [.raw (.bool (decide (v1 < 0))), .ns .u64 (dg v1.natAbs)]⟩)]⟩) ?_ (fun _ => ?_)
  · refine AWp.regionA [(16, 16), (18, 18)] [] hE.hT hE.hS hE.hm ?_ (wk hE trivial ?_)
    · intro p i h
      simp only [lk] at h
      split at h
      · rename_i e; cases h; subst e; exact ⟨0, rfl⟩
      split at h
      · rename_i e; cases h; subst e; exact ⟨0, rfl⟩
      · cases h
    exact ⟨(), Le.mk trivial⟩
  exact hT ⟨ov1, ov2⟩ ⟨ow1, ow2⟩
end Go.Hl

namespace Go.Hl
open Go Go.RowKit Go.Proofs
set_option maxHeartbeats 3200000
set_option maxRecDepth 100000
theorem cmp_m1 {x y : Int} (h : x < y) : cmpZ x y = -1 := by unfold cmpZ; rw [if_pos h]
theorem gaps_t {N P R : Int} {B1 B2 : Bool} {X1 X2 : List Int} (h1 : Lm X1 ∧ X1.length < 9500) (h2 : Lm X2 ∧ X2.length < 9500) (hN : 1 < N ∧ N < 9223372036854775808) (hP : 0 < P ∧ P < N) (hR : 0 < R ∧ R < N) (hPR : N < P + R)
    (hlt : zv B2 X2 < zv B1 X1) (hv : 0 < zv B2 X2) :
    AWp Tryz.prog (tab false) 117 (tl 10 (Tryz.f21.body.getD .skip)) (PostL (tab false) [.tmp 6, .tmp 7, .tmp 8] [46, 39, 30] (.tup [.sl 2 3 [.raw (.bool B2), .ns .u64 X2, .raw (.bool B1), .ns .u64 X1, .raw (.bool (decide (zv B2 X2 + zv B1 X1 < 0))), .ns .u64 (dg (zv B2 X2 + zv B1 X1).natAbs)], .ns .i64 [N - P, N - R, P - (N - R)], .raw (.int .i64 0)]))
      ⟨[(2, .raw (.int .i64 N)), (15, .raw (.int .i64 P)), (17, .raw (.int .i64 R)), (16, .ptr 16 0), (18, .ptr 18 0)], [(16, ⟨true, .c [.raw (.bool B2), .ns .u64 X2]⟩), (18, ⟨true, .c [.raw (.bool B1), .ns .u64 X1]⟩)]⟩ := by
  have h1a := h1.1; have h1b := h1.2; have h2a := h2.1; have h2b := h2.2
  have hE := env (SOK.cons zadd_ok (SOK.nil (P := Tryz.prog)))
  intro κ β a w hn hm hC
  have hmu := hm rfl
  obtain ⟨p16, o16, C16, e16, q16, j16, g16⟩ := hC.vp0 (t := 16) (id := 16) rfl rfl
  obtain ⟨p18, o18, C18, e18, q18, j18, g18⟩ := hC.vp0 (t := 18) (id := 18) rfl rfl
  have xnot : ∀ p, (κ.w0.heap.size ≤ p ∨ κ.mu ≠ none) → κ.X0 p → False := fun p h hx => by
    have := hC.x0 p hx
    rcases h with h | h
    · omega
    · exact h hmu
  have q2 := RI.raw_inv (hC.rel 2)
  have q15 := RI.raw_inv (hC.rel 15)
  have q17 := RI.raw_inv (hC.rel 17)
  have s16 : RI w κ.X0 (.vp [.raw (.bool B2), .ns .u64 X2]) (a.tmps.getD 16 undef) := by
    rw [q16]; exact RI.vp_of (fun h0 h => xnot p16 (j16 h0).1 h) (CellsAt.weak' (fun _ _ h => .inl h) g16)
  have s18 : RI w κ.X0 (.vp [.raw (.bool B1), .ns .u64 X1]) (a.tmps.getD 18 undef) := by
    rw [q18]; exact RI.vp_of (fun h0 h => xnot p18 (j18 h0).1 h) (CellsAt.weak' (fun _ _ h => .inl h) g18)
  have sz : a.tmps.size = 117 := hC.sz.trans hn
  have df := hC.dfr
  have hch := hC.chg
  have hx0 := hC.x0
  have hw0 : κ.w0.heap.size ≤ w.heap.size := hC.chg.size
  clear hC q16 q18 g16 g18
  refine wp_seq (wp_region_list (wpList_value (x := .pointer (some ⟨w.heap.size, 0, none⟩)) (w' := (w.alloc (.cells #[.slice none 0 0] 46))) rfl ?_ (wpList_nil ?_)))
  · have v69 := Tryz.zeroValue46
    simp [execOp, go_sem, v69]
  refine wp_seq (wp_region_list (wpList_value (x := .pointer (some ⟨w.heap.size + 1, 0, none⟩)) (w' := ((w.alloc (.cells #[.slice none 0 0] 46)).alloc (.cells #[.slice none 0 0] 39))) rfl ?_ (wpList_nil ?_)))
  · have v70 := Tryz.zeroValue39
    simp [execOp, go_sem, v70]
  have e19 : ((a.put (some 19) (.pointer (some ⟨w.heap.size, 0, none⟩))).put (some 20) (.pointer (some ⟨w.heap.size + 1, 0, none⟩))).tmps.getD 19 undef = .pointer (some ⟨w.heap.size, 0, none⟩) := by
    rw [put_keep (by decide)]; exact put_at (by rw [sz]; decide)
  have e20 : ((a.put (some 19) (.pointer (some ⟨w.heap.size, 0, none⟩))).put (some 20) (.pointer (some ⟨w.heap.size + 1, 0, none⟩))).tmps.getD 20 undef = .pointer (some ⟨w.heap.size + 1, 0, none⟩) := put_at (by rw [put_size, sz]; decide)
  have ek : ∀ t, t ≠ 19 → t ≠ 20 → ((a.put (some 19) (.pointer (some ⟨w.heap.size, 0, none⟩))).put (some 20) (.pointer (some ⟨w.heap.size + 1, 0, none⟩))).tmps.getD t undef = a.tmps.getD t undef := fun t h1 h2 => by
    rw [put_keep (fun e => h2 (Option.some.inj e).symm), put_keep (fun e => h1 (Option.some.inj e).symm)]
  have esz : ((a.put (some 19) (.pointer (some ⟨w.heap.size, 0, none⟩))).put (some 20) (.pointer (some ⟨w.heap.size + 1, 0, none⟩))).tmps.size = 117 := by rw [put_size, put_size, sz]
  have edf : ((a.put (some 19) (.pointer (some ⟨w.heap.size, 0, none⟩))).put (some 20) (.pointer (some ⟨w.heap.size + 1, 0, none⟩))).defers = [] := by rw [put_defers, put_defers, df]
  show Code.wp _ _ _ ((a.put (some 19) (.pointer (some ⟨w.heap.size, 0, none⟩))).put (some 20) (.pointer (some ⟨w.heap.size + 1, 0, none⟩))) _
  generalize ((a.put (some 19) (.pointer (some ⟨w.heap.size, 0, none⟩))).put (some 20) (.pointer (some ⟨w.heap.size + 1, 0, none⟩))) = a2 at *
  refine wp_seq (wp_region_list (wpList_value (x := (Value.func (.func 48) #[] #[.pointer (some ⟨w.heap.size, 0, none⟩), .pointer (some ⟨w.heap.size + 1, 0, none⟩)])) (w' := ((w.alloc (.cells #[.slice none 0 0] 46)).alloc (.cells #[.slice none 0 0] 39))) rfl ?_ (wpList_value (x := (Value.func (.func 48) #[] #[.pointer (some ⟨w.heap.size, 0, none⟩), .pointer (some ⟨w.heap.size + 1, 0, none⟩)])) (w' := ((w.alloc (.cells #[.slice none 0 0] 46)).alloc (.cells #[.slice none 0 0] 39))) rfl ?_ (wpList_nil ?_))))
  · simp [execOp, go_sem, Act.eval, e19, e20]
  · have e92 : (a2.put (some 92) (Value.func (.func 48) #[] #[.pointer (some ⟨w.heap.size, 0, none⟩), .pointer (some ⟨w.heap.size + 1, 0, none⟩)])).tmps.getD 92 undef = (Value.func (.func 48) #[] #[.pointer (some ⟨w.heap.size, 0, none⟩), .pointer (some ⟨w.heap.size + 1, 0, none⟩)]) := put_at (by rw [esz]; decide)
    have e92' : (a2.put (some 92) (Value.func (.func 48) #[] #[.pointer (some ⟨w.heap.size, 0, none⟩), .pointer (some ⟨w.heap.size + 1, 0, none⟩)])).eval (.tmp 92) = (Value.func (.func 48) #[] #[.pointer (some ⟨w.heap.size, 0, none⟩), .pointer (some ⟨w.heap.size + 1, 0, none⟩)]) := e92
    show (execOp (a2.put (some 92) (Value.func (.func 48) #[] #[.pointer (some ⟨w.heap.size, 0, none⟩), .pointer (some ⟨w.heap.size + 1, 0, none⟩)])).eval _).run _ _ = _
    unfold execOp
    simp only [e92']
    simp [go_sem]
  obtain ⟨bl, ebl⟩ : ∃ bl, w.heap.size = bl := ⟨_, rfl⟩
  obtain ⟨bm, ebm⟩ : ∃ bm, w.heap.size + 1 = bm := ⟨_, rfl⟩
  obtain ⟨fv, efv⟩ : ∃ fv, (Value.func (.func 48) #[] #[.pointer (some ⟨w.heap.size, 0, none⟩), .pointer (some ⟨w.heap.size + 1, 0, none⟩)]) = fv := ⟨_, rfl⟩
  show Code.wp _ _ _ ((a2.put (some 92) (Value.func (.func 48) #[] #[.pointer (some ⟨w.heap.size, 0, none⟩), .pointer (some ⟨w.heap.size + 1, 0, none⟩)])).put (some 21) (Value.func (.func 48) #[] #[.pointer (some ⟨w.heap.size, 0, none⟩), .pointer (some ⟨w.heap.size + 1, 0, none⟩)])) _
  rw [efv]
  have f21 : ((a2.put (some 92) fv).put (some 21) fv).tmps.getD 21 undef = fv := put_at (by rw [put_size, esz]; decide)
  have fk : ∀ t, t ≠ 92 → t ≠ 21 → ((a2.put (some 92) fv).put (some 21) fv).tmps.getD t undef = a2.tmps.getD t undef := fun t h1 h2 => by
    rw [put_keep (fun e => h2 (Option.some.inj e).symm), put_keep (fun e => h1 (Option.some.inj e).symm)]
  have fsz : ((a2.put (some 92) fv).put (some 21) fv).tmps.size = 117 := by rw [put_size, put_size, esz]
  have fdf : ((a2.put (some 92) fv).put (some 21) fv).defers = [] := by rw [put_defers, put_defers, edf]
  generalize ((a2.put (some 92) fv).put (some 21) fv) = a3 at *
  have hb : Below w.heap.size w ((w.alloc (.cells #[.slice none 0 0] 46)).alloc (.cells #[.slice none 0 0] 39)) := ((Below.refl _ w).alloc (Nat.le_refl _) _).alloc (by rw [World.size_alloc]; omega) _
  have bxl : Boxed ((w.alloc (.cells #[.slice none 0 0] 46)).alloc (.cells #[.slice none 0 0] 39)) bl 46 (.slice none 0 0) := by rw [← ebl]; exact (Boxed.new w 46 _).alloc _
  have bxm : Boxed ((w.alloc (.cells #[.slice none 0 0] 46)).alloc (.cells #[.slice none 0 0] 39)) bm 39 (.slice none 0 0) := by
    have := Boxed.new (w.alloc (.cells #[.slice none 0 0] 46)) 39 (.slice none 0 0)
    rw [World.size_alloc, ebm] at this
    exact this
  obtain ⟨w2, ew2⟩ : ∃ w2, ((w.alloc (.cells #[.slice none 0 0] 46)).alloc (.cells #[.slice none 0 0] 39)) = w2 := ⟨_, rfl⟩
  rw [ew2] at hb bxl bxm ⊢
  have ri0 : ∀ {c : AV} {v : Value}, RI w κ.X0 c v → RI w2 (fun b => XP bl bm (.slice none 0 0) (.slice none 0 0) b ∨ κ.X0 b) c v := fun r => r.keep (keepOf _ hb) (fun b hbb hx => by
    rcases hx with (rfl | rfl | hx | hx) | hx
    · omega
    · omega
    · cases hx
    · cases hx
    · exact hx)
  rw [ebm, ebl] at efv
  have T0 : GT κ.X0 bl bm bl 0 [] [] (.slice none 0 0) (.slice none 0 0) [] [(2, .raw (.int .i64 N)), (15, .raw (.int .i64 P)), (17, .raw (.int .i64 R)), (16, .vp [.raw (.bool B2), .ns .u64 X2]), (18, .vp [.raw (.bool B1), .ns .u64 X1]), (19, .raw (.pointer (some ⟨bl, 0, none⟩))), (20, .raw (.pointer (some ⟨bm, 0, none⟩))), (21, .raw (.func (.func 48) #[] #[.pointer (some ⟨bl, 0, none⟩), .pointer (some ⟨bm, 0, none⟩)]))] a3 w2 := by
    refine ⟨fsz, fdf, bxl, bxm, World.ownsRow_nil _ _ _ _, World.ownsRow_nil _ _ _ _, fun b hb => Nat.lt_of_lt_of_le (hx0 b hb) (by omega), Nat.le_refl _, ⟨⟨rfl, ?_⟩, ⟨rfl, ?_⟩, ⟨rfl, ?_⟩, ⟨rfl, ?_⟩, ⟨rfl, ?_⟩, ⟨rfl, ?_⟩, ⟨rfl, ?_⟩, ⟨rfl, ?_⟩, trivial⟩, fun p hp => by cases hp⟩
    · show RI _ _ _ (a3.tmps.getD 2 undef)
      rw [fk 2 (by decide) (by decide), ek 2 (by decide) (by decide), q2]; exact RI.raw _
    · show RI _ _ _ (a3.tmps.getD 15 undef)
      rw [fk 15 (by decide) (by decide), ek 15 (by decide) (by decide), q15]; exact RI.raw _
    · show RI _ _ _ (a3.tmps.getD 17 undef)
      rw [fk 17 (by decide) (by decide), ek 17 (by decide) (by decide), q17]; exact RI.raw _
    · show RI _ _ _ (a3.tmps.getD 16 undef)
      rw [fk 16 (by decide) (by decide), ek 16 (by decide) (by decide)]; exact ri0 s16
    · show RI _ _ _ (a3.tmps.getD 18 undef)
      rw [fk 18 (by decide) (by decide), ek 18 (by decide) (by decide)]; exact ri0 s18
    · show RI _ _ _ (a3.tmps.getD 19 undef)
      rw [fk 19 (by decide) (by decide), e19, ebl]; exact RI.raw _
    · show RI _ _ _ (a3.tmps.getD 20 undef)
      rw [fk 20 (by decide) (by decide), e20, ebm]; exact RI.raw _
    · show RI _ _ _ (a3.tmps.getD 21 undef)
      rw [f21, ← efv]; exact RI.raw _
  have hlm : bl ≠ bm := by omega
  have hbm' : bl ≤ bm := by omega
  have hb0 : Below bl w w2 := by rw [← ebl]; exact hb
  clear ek fk e19 e20 f21 efv fsz fdf esz edf q2 q15 q17 s16 s18 ri0 bxl bxm hb ew2 sz df
  obtain ⟨vl0, evl⟩ : ∃ v : Value, v = .slice none 0 0 := ⟨_, rfl⟩
  obtain ⟨vm0, evm⟩ : ∃ v : Value, v = .slice none 0 0 := ⟨_, rfl⟩
  have T0 : GT κ.X0 bl bm bl 0 [] [] vl0 vm0 [] [(2, .raw (.int .i64 N)), (15, .raw (.int .i64 P)), (17, .raw (.int .i64 R)), (16, .vp [.raw (.bool B2), .ns .u64 X2]), (18, .vp [.raw (.bool B1), .ns .u64 X1]), (19, .raw (.pointer (some ⟨bl, 0, none⟩))), (20, .raw (.pointer (some ⟨bm, 0, none⟩))), (21, .raw (.func (.func 48) #[] #[.pointer (some ⟨bl, 0, none⟩), .pointer (some ⟨bm, 0, none⟩)]))] a3 w2 := by rw [evl, evm]; exact T0
  refine wp_seq (wp_region_lit ?_)
  refine wpList_seg (l := [_, _, _, _, _]) (K := fun σ => (σ.get 93 = .raw (.func (.func 48) #[] #[.pointer (some ⟨bl, 0, none⟩), .pointer (some ⟨bm, 0, none⟩)]) ∧ σ.get 94 = .agg [.raw (.bool (B2)), .ns .u64 (X2)] ∧ σ.get 97 = .raw (.int .i64 (N - P))) ∧ Has σ [(2, .raw (.int .i64 N)), (15, .raw (.int .i64 P)), (17, .raw (.int .i64 R)), (16, .vp [.raw (.bool B2), .ns .u64 X2]), (18, .vp [.raw (.bool B1), .ns .u64 X1]), (19, .raw (.pointer (some ⟨bl, 0, none⟩))), (20, .raw (.pointer (some ⟨bm, 0, none⟩))), (21, .raw (.func (.func 48) #[] #[.pointer (some ⟨bl, 0, none⟩), .pointer (some ⟨bm, 0, none⟩)]))]) hE rfl T0.conc (by kernel_rfl) ?_ ?_
  · clear T0
    refine wk hE trivial ?_
    exact ⟨⟨rfl, rfl, rfl⟩, ⟨rfl, rfl⟩, ⟨rfl, rfl⟩, ⟨rfl, rfl⟩, ⟨rfl, rfl⟩, ⟨rfl, rfl⟩, ⟨rfl, rfl⟩, ⟨rfl, rfl⟩, ⟨rfl, rfl⟩, trivial⟩
  intro σ0 β0 b0 u0 ⟨⟨kf, kx, kk⟩, kh⟩ hC0
  obtain ⟨S0, hbe⟩ := T0.seg hC0 kh
  have rf := hC0.rel 93
  rw [kf] at rf
  have rf := RI.raw_inv rf
  have rk := hC0.rel 97
  rw [kk] at rk
  have rk := RI.raw_inv rk
  have rx := hC0.rel 94
  rw [kx] at rx
  have rx : RI _ _ _ _ := rx
  obtain ⟨s0, ex, rx⟩ := RI.num_agg rx
  have rx : RI u0 (fun b => XP bl bm vl0 vm0 b ∨ κ.X0 b) (.ns .u64 (X2)) s0 := rx.keep (Keep.refl _ _) (fun _ _ h => .inl h)
  have fl : ∀ {c : AV} {v : Value}, RI u0 (fun b => XP bl bm vl0 vm0 b ∨ κ.X0 b) c v → RI u0 (fun _ => False) c v := fun r => r.keep (Keep.refl _ _) (fun _ _ h => h.elim)
  have hcall := put_0 (b := (B2)) (s := s0) u0 S0.hl S0.hm hlm (Nat.le_refl _) hbm' (show 0 < N - P by omega) (by omega) h2.1 (fl rx) evl S0.rL S0.rM
  refine wpList_callv (f := 48) (vs := #[.agg #[.bool (B2), s0], .int .i64 (N - P), .pointer (some ⟨bl, 0, none⟩), .pointer (some ⟨bm, 0, none⟩)]) rfl ?_ ?_
  · have e1 := rf; rw [Array.getD_eq_getD_getElem?] at e1
    have e2 := ex; rw [Array.getD_eq_getD_getElem?] at e2
    have e3 := rk; rw [Array.getD_eq_getD_getElem?] at e3
    simp [execOp, go_sem, e1, e2, e3]
  refine hcall.mono ?_
  rintro e w3 ⟨⟨v, rfl⟩, hp⟩
  refine ⟨v, rfl, wpList_nil ?_⟩
  obtain ⟨vl1, vm1, T1⟩ := S0.call hp (d := 98) (v := v) (by intro p hp e; simp only [List.mem_cons, List.not_mem_nil, or_false] at hp; rcases hp with rfl | rfl | rfl | rfl | rfl | rfl | rfl | rfl <;> cases e) rx
  have hb1 : Below bl w w3 := (hb0.trans (hbe.mono (by have := T0.hl.lt; omega))).trans hp.below
  show Code.wp _ _ _ (b0.put (some 98) v) _
  generalize (b0.put (some 98) v) = a4 at *
  clear hp hcall fl rx ex kx rk kk rf kf kh hbe S0 T0 hC0 hb0
  have c1 : cmpZ (zv B2 X2) (zv B1 X1) = -1 := cmp_m1 hlt
  refine wp_seq (wp_region_lit ?_)
  refine wpList_seg (l := [_, _, _, _, _]) (K := fun σ => (σ.get 99 = .raw (.func (.func 48) #[] #[.pointer (some ⟨bl, 0, none⟩), .pointer (some ⟨bm, 0, none⟩)]) ∧ σ.get 100 = .agg [.raw (.bool (B1)), .ns .u64 (X1)] ∧ σ.get 103 = .raw (.int .i64 (N - R))) ∧ Has σ [(2, .raw (.int .i64 N)), (15, .raw (.int .i64 P)), (17, .raw (.int .i64 R)), (16, .vp [.raw (.bool B2), .ns .u64 X2]), (18, .vp [.raw (.bool B1), .ns .u64 X1]), (19, .raw (.pointer (some ⟨bl, 0, none⟩))), (20, .raw (.pointer (some ⟨bm, 0, none⟩))), (21, .raw (.func (.func 48) #[] #[.pointer (some ⟨bl, 0, none⟩), .pointer (some ⟨bm, 0, none⟩)]))]) hE rfl T1.conc (by kernel_rfl) ?_ ?_
  · clear T1
    refine wk hE trivial ?_
    exact ⟨⟨rfl, rfl, rfl⟩, ⟨rfl, rfl⟩, ⟨rfl, rfl⟩, ⟨rfl, rfl⟩, ⟨rfl, rfl⟩, ⟨rfl, rfl⟩, ⟨rfl, rfl⟩, ⟨rfl, rfl⟩, ⟨rfl, rfl⟩, trivial⟩
  intro σ1 β1 b1 u1 ⟨⟨kf, kx, kk⟩, kh⟩ hC1
  obtain ⟨S1, hbe⟩ := T1.seg hC1 kh
  have rf := hC1.rel 99
  rw [kf] at rf
  have rf := RI.raw_inv rf
  have rk := hC1.rel 103
  rw [kk] at rk
  have rk := RI.raw_inv rk
  have rx := hC1.rel 100
  rw [kx] at rx
  have rx : RI _ _ _ _ := rx
  obtain ⟨s1, ex, rx⟩ := RI.num_agg rx
  have rx : RI u1 (fun b => XP bl bm vl1 vm1 b ∨ κ.X0 b) (.ns .u64 (X1)) s1 := rx.keep (Keep.refl _ _) (fun _ _ h => .inl h)
  have fl : ∀ {c : AV} {v : Value}, RI u1 (fun b => XP bl bm vl1 vm1 b ∨ κ.X0 b) c v → RI u1 (fun _ => False) c v := fun r => r.keep (Keep.refl _ _) (fun _ _ h => h.elim)
  have hcall := put_1 (b := (B1)) (s := s1) u1 S1.hl S1.hm hlm (Nat.le_refl _) hbm' (show 0 < N - R by omega) (by omega) h1.1 (fl rx) h2.1 (fl (S1.yr (.ns .u64 X2, s0) (by simp))) (c1) S1.rL S1.rM
  refine wpList_callv (f := 48) (vs := #[.agg #[.bool (B1), s1], .int .i64 (N - R), .pointer (some ⟨bl, 0, none⟩), .pointer (some ⟨bm, 0, none⟩)]) rfl ?_ ?_
  · have e1 := rf; rw [Array.getD_eq_getD_getElem?] at e1
    have e2 := ex; rw [Array.getD_eq_getD_getElem?] at e2
    have e3 := rk; rw [Array.getD_eq_getD_getElem?] at e3
    simp [execOp, go_sem, e1, e2, e3]
  refine hcall.mono ?_
  rintro e w4 ⟨⟨v, rfl⟩, hp⟩
  refine ⟨v, rfl, wpList_nil ?_⟩
  obtain ⟨vl2, vm2, T2⟩ := S1.call hp (d := 104) (v := v) (by intro p hp e; simp only [List.mem_cons, List.not_mem_nil, or_false] at hp; rcases hp with rfl | rfl | rfl | rfl | rfl | rfl | rfl | rfl <;> cases e) rx
  have hb2 : Below bl w w4 := (hb1.trans (hbe.mono (by have := T1.hl.lt; omega))).trans hp.below
  show Code.wp _ _ _ (b1.put (some 104) v) _
  generalize (b1.put (some 104) v) = a5 at *
  clear hp hcall fl rx ex kx rk kk rf kf kh hbe S1 T1 hC1 hb1
  obtain ⟨S, eS⟩ : ∃ S, zv B2 X2 + zv B1 X1 = S := ⟨_, rfl⟩
  have hS : zv B1 X1 < S := by omega
  have bS : Lm (dg S.natAbs) := by
    have b1 := zv_abs_lt (b := B1) h1.1 (l := 9500) (by omega)
    have b2 := zv_abs_lt (b := B2) h2.1 (l := 9500) (by omega)
    have h3 := powA b2 b1
    have h4 : S.natAbs < B64 ^ (9500 + 1) := by omega
    exact (dgl h4 (by omega)).1
  have c2 : cmpZ (zv B1 X1) (zv (decide (S < 0)) (dg S.natAbs)) = -1 := by rw [zv_zi]; exact cmp_m1 hS
  refine wp_seq (wp_region_lit ?_)
  refine wpList_seg (l := [_, _, _, _, _, _, _, _, _]) (K := fun σ => (σ.get 105 = .raw (.func (.func 48) #[] #[.pointer (some ⟨bl, 0, none⟩), .pointer (some ⟨bm, 0, none⟩)]) ∧ σ.get 108 = .agg [.raw (.bool (decide (S < 0))), .ns .u64 (dg S.natAbs)] ∧ σ.get 113 = .raw (.int .i64 (P - (N - R)))) ∧ Has σ [(2, .raw (.int .i64 N)), (15, .raw (.int .i64 P)), (17, .raw (.int .i64 R)), (16, .vp [.raw (.bool B2), .ns .u64 X2]), (18, .vp [.raw (.bool B1), .ns .u64 X1]), (19, .raw (.pointer (some ⟨bl, 0, none⟩))), (20, .raw (.pointer (some ⟨bm, 0, none⟩))), (21, .raw (.func (.func 48) #[] #[.pointer (some ⟨bl, 0, none⟩), .pointer (some ⟨bm, 0, none⟩)]))]) hE rfl T2.conc (by kernel_rfl) ?_ ?_
  · clear T2
    refine wk hE eS ?_
    exact ⟨⟨rfl, rfl, rfl⟩, ⟨rfl, rfl⟩, ⟨rfl, rfl⟩, ⟨rfl, rfl⟩, ⟨rfl, rfl⟩, ⟨rfl, rfl⟩, ⟨rfl, rfl⟩, ⟨rfl, rfl⟩, ⟨rfl, rfl⟩, trivial⟩
  intro σ2 β2 b2 u2 ⟨⟨kf, kx, kk⟩, kh⟩ hC2
  obtain ⟨S2, hbe⟩ := T2.seg hC2 kh
  have rf := hC2.rel 105
  rw [kf] at rf
  have rf := RI.raw_inv rf
  have rk := hC2.rel 113
  rw [kk] at rk
  have rk := RI.raw_inv rk
  have rx := hC2.rel 108
  rw [kx] at rx
  have rx : RI _ _ _ _ := rx
  obtain ⟨s2, ex, rx⟩ := RI.num_agg rx
  have rx : RI u2 (fun b => XP bl bm vl2 vm2 b ∨ κ.X0 b) (.ns .u64 (dg S.natAbs)) s2 := rx.keep (Keep.refl _ _) (fun _ _ h => .inl h)
  have fl : ∀ {c : AV} {v : Value}, RI u2 (fun b => XP bl bm vl2 vm2 b ∨ κ.X0 b) c v → RI u2 (fun _ => False) c v := fun r => r.keep (Keep.refl _ _) (fun _ _ h => h.elim)
  have hcall := put_2 (b := (decide (S < 0))) (s := s2) u2 S2.hl S2.hm hlm (Nat.le_refl _) hbm' (show 0 < P - (N - R) by omega) (by omega) bS (fl rx) h2.1 (fl (S2.yr (.ns .u64 X2, s0) (by simp))) h1.1 (fl (S2.yr (.ns .u64 X1, s1) (by simp))) (c2) S2.rL S2.rM
  refine wpList_callv (f := 48) (vs := #[.agg #[.bool (decide (S < 0)), s2], .int .i64 (P - (N - R)), .pointer (some ⟨bl, 0, none⟩), .pointer (some ⟨bm, 0, none⟩)]) rfl ?_ ?_
  · have e1 := rf; rw [Array.getD_eq_getD_getElem?] at e1
    have e2 := ex; rw [Array.getD_eq_getD_getElem?] at e2
    have e3 := rk; rw [Array.getD_eq_getD_getElem?] at e3
    simp [execOp, go_sem, e1, e2, e3]
  refine hcall.mono ?_
  rintro e w5 ⟨⟨v, rfl⟩, hp⟩
  refine ⟨v, rfl, wpList_nil ?_⟩
  obtain ⟨vl3, vm3, T3⟩ := S2.call hp (d := 114) (v := v) (by intro p hp e; simp only [List.mem_cons, List.not_mem_nil, or_false] at hp; rcases hp with rfl | rfl | rfl | rfl | rfl | rfl | rfl | rfl <;> cases e) rx
  have hb3 : Below bl w w5 := (hb2.trans (hbe.mono (by have := T2.hl.lt; omega))).trans hp.below
  show Code.wp _ _ _ (b2.put (some 114) v) _
  generalize (b2.put (some 114) v) = a6 at *
  clear hp hcall fl rx ex kx rk kk rf kf kh hbe S2 T2 hC2 hb2
  rw [eS]
  have hXb : ∀ b, κ.X0 b → b < bl := fun b hb => Nat.lt_of_lt_of_le (hx0 b hb) (by omega)
  have kx : ∀ {c : AV} {v : Value}, RI w5 (fun b => XP bl bm vl3 vm3 b ∨ κ.X0 b) c v → RI w5 κ.X0 c v := fun r => r.keep (Keep.refl _ _) (fun _ _ h => .inr h)
  have rl := ri_rows (cs := [.raw (.bool B2), .ns .u64 X2, .raw (.bool B1), .ns .u64 X1, .raw (.bool (decide (S < 0))), .ns .u64 (dg S.natAbs)]) hXb T3.rL (by decide) rfl (fun j c hj => by
    have y0 := kx (T3.yr (.ns .u64 X2, s0) (by simp))
    have y1 := kx (T3.yr (.ns .u64 X1, s1) (by simp))
    have y2 := kx (T3.yr (.ns .u64 (dg S.natAbs), s2) (by simp))
    rcases j with _ | _ | _ | _ | _ | _ | j
    · cases hj; exact ⟨_, rfl, RI.raw _⟩
    · cases hj; exact ⟨_, rfl, y0⟩
    · cases hj; exact ⟨_, rfl, RI.raw _⟩
    · cases hj; exact ⟨_, rfl, y1⟩
    · cases hj; exact ⟨_, rfl, RI.raw _⟩
    · cases hj; exact ⟨_, rfl, y2⟩
    · cases hj)
  have rm : RI w5 κ.X0 (.ns .i64 [N - P, N - R, P - (N - R)]) vm3 := ri_row (T := [N - P, N - R, P - (N - R)]) hXb T3.rM
  have G3 : Good κ.X0 a6 w5 [(19, .vp [.sl 2 3 [.raw (.bool B2), .ns .u64 X2, .raw (.bool B1), .ns .u64 X1, .raw (.bool (decide (S < 0))), .ns .u64 (dg S.natAbs)]]), (20, .vp [.ns .i64 [N - P, N - R, P - (N - R)]])] := by
    refine ⟨⟨rfl, ?_⟩, ⟨rfl, ?_⟩, trivial⟩
    · show RI _ _ _ (a6.tmps.getD 19 undef)
      rw [T3.gd.fn2 (t := 19) rfl]
      exact ri_vp1 T3.hl.cell (fun h => by have := hXb _ h; omega) rl
    · show RI _ _ _ (a6.tmps.getD 20 undef)
      rw [T3.gd.fn2 (t := 20) rfl]
      exact ri_vp1 T3.hm.cell (fun h => by have := hXb _ h; omega) rm
  have hC := G3.conc (n := 117) T3.sz T3.df (fun b hb => by have := hXb b hb; have := T3.hl.lt; omega)
  clear T3 G3 rl rm kx bS c1 c2 hS
  refine wp_of_awp (T := tab false) (Q := fun e σ => (e = .normal ∨ e = .ret) ∧ Has σ [(6, .sl 2 3 [.raw (.bool B2), .ns .u64 X2, .raw (.bool B1), .ns .u64 X1, .raw (.bool (decide (S < 0))), .ns .u64 (dg S.natAbs)]), (7, .ns .i64 [N - P, N - R, P - (N - R)]), (8, .raw (.int .i64 0))]) ?_ rfl rfl hC ?_
  · clear hC
    refine wk hE trivial ?_
    exact ⟨.inr rfl, ⟨rfl, rfl⟩, ⟨rfl, rfl⟩, ⟨rfl, rfl⟩, trivial⟩
  rintro e b9 w9 ⟨σ9, β9, ⟨he, hs9⟩, hC9⟩
  have hb9 := hC9.chg.belowW
  have g9 := hs9.good (X := κ.X0) hC9 (fun _ h => h)
  have hbe : Below w.heap.size w w9 := (hb3.mono (by omega)).trans (hb9.mono hb3.size)
  refine ⟨⟨[(6, .sl 2 3 [.raw (.bool B2), .ns .u64 X2, .raw (.bool B1), .ns .u64 X1, .raw (.bool (decide (S < 0))), .ns .u64 (dg S.natAbs)]), (7, .ns .i64 [N - P, N - R, P - (N - R)]), (8, .raw (.int .i64 0))], []⟩, fun _ => none, ?_, ?_⟩
  · rcases he with rfl | rfl
    · exact PostL.mk trivial rfl
    · exact PostL.mk trivial rfl
  refine ⟨hC9.sz.trans hn.symm, fun t => ?_, hC9.dfr, fun id blk hi => (by cases hi), fun i j b c x y _ hx => (by cases hx), hch.below hbe, hx0⟩
  simp only [St.get]
  cases hl : Hl.lk ([(6, .sl 2 3 [.raw (.bool B2), .ns .u64 X2, .raw (.bool B1), .ns .u64 X1, .raw (.bool (decide (S < 0))), .ns .u64 (dg S.natAbs)]), (7, .ns .i64 [N - P, N - R, P - (N - R)]), (8, .raw (.int .i64 0))] : List (Nat × AV)) t with
  | none => exact RI.any _
  | some v =>
    obtain ⟨h1, h2⟩ := g9.lk t v hl
    refine RV.of h1 (h2.keep (Keep.refl _ w9) (fun b _ hb => ?_))
    rcases hb with hb | ⟨_, _, _, hb, _⟩
    · exact hb
    · cases hb
end Go.Hl

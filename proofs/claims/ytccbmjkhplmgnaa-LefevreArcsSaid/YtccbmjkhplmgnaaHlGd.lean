/- lefevre: Gaps: the closure where nothing is to be laid, and where the length is there lefevre: Gaps, two lengths lefevre: Gaps: the contract -/
import Derived.Test.YtccbmjkhplmgnaaHlGb
import Derived.Test.YtccbmjkhplmgnaaHlGc
import Derived.Test.YtccbmjkhplmgnaaHlVa
set_option linter.unusedVariables false
set_option linter.unusedSimpArgs false
namespace Go.Hl
open Go Go.RowKit Go.Proofs
set_option maxRecDepth 100000
set_option maxHeartbeats 3200000
theorem wl_value {P : Program} {ops : Array Oper} {o : Oper} {rest : List Oper} {Q : Exit → Act → World → Prop} {a : Act} {w w' : World} {x : Value} {d n : Nat} (hg : o.guard = none) (hr : (execOp a.eval o).run P w = .ok (.value x) w') (hd : o.dst = some d) (hs : a.tmps.size = n) (hn : d < n)
    (h : ∀ a' : Act, a'.tmps.size = n → a'.defers = a.defers → a'.tmps.getD d undef = x → (∀ t, t ≠ d → a'.tmps.getD t undef = a.tmps.getD t undef) → wpList P ops Q rest a' w') : wpList P ops Q (o :: rest) a w := by
  refine wpList_value hg hr ?_
  rw [hd]
  exact h _ (put_size.trans hs) put_defers (put_at (by omega)) (fun t ht => put_keep (fun e => ht (Option.some.inj e).symm))
set_option linter.unusedVariables false in
theorem put_z {bl bm base : Nat} {b : Bool} {x : List Int} {s vl vm : Value} {k : Int} (W : World) (hl : Boxed W bl 69 vl) (hm : Boxed W bm 70 vm) (hlm : bl ≠ bm) (hbl : base ≤ bl) (hbm : base ≤ bm) (hk : k = 0)
    (hx : Lm x) (r : RI W (fun _ => False) (.ns .u64 x) s)
    {b1 b2 : Bool} {x1 x2 : List Int} {s1 s2 : Value} {k1 k2 : Int} (hx1 : Lm x1) (r1 : RI W (fun _ => False) (.ns .u64 x1) s1) (hx2 : Lm x2) (r2 : RI W (fun _ => False) (.ns .u64 x2) s2)
    (rowL : W.ownsRow base 43 2 vl 2 [.bool b1, s1, .bool b2, s2]) (rowM : W.ownsRow base 2 1 vm 2 [.int .i64 k1, .int .i64 k2]) :
    Calls Try.prog 146 #[.agg #[.bool b, s], .int .i64 k, .pointer (some ⟨bl, 0, none⟩), .pointer (some ⟨bm, 0, none⟩)] W fun e W' => (∃ v, e = .returned v) ∧ PutR bl bm base 2 2 [.bool b1, s1, .bool b2, s2] [.int .i64 k1, .int .i64 k2] vl vm W W' := by
  have hE := env (SOK.cons zcmp_ok (SOK.nil (P := Try.prog)))
  refine calls_of_wp Try.func146 rfl ?_
  rw [Try.ntmps146]
  obtain ⟨a0, ea0⟩ : ∃ a0 : Act, { tmps := #[.agg #[.bool b, s], .int .i64 k, .pointer (some ⟨bl, 0, none⟩), .pointer (some ⟨bm, 0, none⟩)] ++ Array.replicate (43 - #[Value.agg #[.bool b, s], .int .i64 k, .pointer (some ⟨bl, 0, none⟩), .pointer (some ⟨bm, 0, none⟩)].size) undef, defers := [] } = a0 := ⟨_, rfl⟩
  rw [ea0]
  have sg : ∀ j v, #[Value.agg #[.bool b, s], .int .i64 k, .pointer (some ⟨bl, 0, none⟩), .pointer (some ⟨bm, 0, none⟩)][j]? = some v → a0.tmps.getD j undef = v := fun j v hv => by
    rw [← ea0]
    exact start_get hv
  have g0 := sg 0 (.agg #[.bool b, s]) rfl
  have g1 := sg 1 (.int .i64 k) rfl
  have g2 := sg 2 (.pointer (some ⟨bl, 0, none⟩)) rfl
  have g3 := sg 3 (.pointer (some ⟨bm, 0, none⟩)) rfl
  have hs0 : a0.tmps.size = 43 := by rw [← ea0]; simp
  have hd0 : a0.defers = [] := by rw [← ea0]
  clear sg ea0
  refine wp_seq (wp_region_list ?_)
  have hbox : (execOp a0.eval { dst := some 4, op := Op.box 43 (Operand.tmp 0), type := 0, pos := "lefevre.go:205", after := #[], guard := none }).run Try.prog W = .ok (.value (.pointer (some ⟨W.heap.size, 0, none⟩))) (W.alloc (.cells #[.bool b, s] 43)) := by
    have e0 : a0.eval (.tmp 0) = .agg #[.bool b, s] := g0
    have a43 := Try.isAgg43; have z43 := Try.sizeOf43
    unfold execOp
    simp only [e0]
    simp [go_sem, a43, z43]
  refine wpList_value rfl hbox (wpList_nil ?_)
  clear hbox
  obtain ⟨W1, eW1⟩ : ∃ W1, W.alloc (.cells #[.bool b, s] 43) = W1 := ⟨_, rfl⟩
  obtain ⟨a1, ea1⟩ : ∃ a1, a0.put (some 4) (.pointer (some ⟨W.heap.size, 0, none⟩)) = a1 := ⟨_, rfl⟩
  show Code.wp _ _ _ (a0.put (some 4) (.pointer (some ⟨W.heap.size, 0, none⟩))) _
  rw [eW1, ea1]
  have hbW : Below W.heap.size W W1 := by rw [← eW1]; exact (Below.refl _ W).alloc (Nat.le_refl _) _
  have hsW : W1.heap.size = W.heap.size + 1 := by rw [← eW1, World.size_alloc]
  have hb4 : W1.heap[W.heap.size]? = some (.cells #[.bool b, s] 43) := by rw [← eW1]; exact World.alloc_heap_new W _
  have hll := hl.lt
  have hml := hm.lt
  have hl1 : Boxed W1 bl 69 vl := (hbW.block _ hll).trans hl
  have hm1 : Boxed W1 bm 70 vm := (hbW.block _ hml).trans hm
  have rowL1 : W1.ownsRow base 43 2 vl 2 [.bool b1, s1, .bool b2, s2] := by rw [← eW1]; exact rowL.alloc _
  have rowM1 : W1.ownsRow base 2 1 vm 2 [.int .i64 k1, .int .i64 k2] := by rw [← eW1]; exact rowM.alloc _
  have q1 : a1.tmps.getD 1 undef = .int .i64 k := by rw [← ea1, put_keep (by decide)]; exact g1
  have q2 : a1.tmps.getD 2 undef = .pointer (some ⟨bl, 0, none⟩) := by rw [← ea1, put_keep (by decide)]; exact g2
  have q3 : a1.tmps.getD 3 undef = .pointer (some ⟨bm, 0, none⟩) := by rw [← ea1, put_keep (by decide)]; exact g3
  have q4 : a1.tmps.getD 4 undef = .pointer (some ⟨W.heap.size, 0, none⟩) := by rw [← ea1]; simp [Act.put, Array.getD, hs0]
  have hs1 : a1.tmps.size = 43 := by rw [← ea1]; simp [Act.put, hs0]
  have hd1 : a1.defers = [] := by rw [← ea1]; exact hd0
  clear ea1 g0 g1 g2 g3 hs0 hd0 eW1
  have rk : ∀ {c : AV} {v : Value}, RI W (fun _ => False) c v → RI W1 (fun _ => False) c v := fun r => r.keep (keepOf _ hbW) (fun _ _ h => h)
  have gd : Good (fun _ => False) a1 W1 [(1, .raw (.int .i64 k)), (2, .vp [.sl 2 2 [.raw (.bool b1), .ns .u64 x1, .raw (.bool b2), .ns .u64 x2]]), (4, .vp [.raw (.bool b), .ns .u64 x])] := by
    refine ⟨⟨rfl, ?_⟩, ⟨rfl, ?_⟩, ⟨rfl, ?_⟩, trivial⟩
    · rw [q1]; exact RI.raw _
    · rw [q2]
      refine ri_vp1 hl1.cell (fun h => h) ?_
      refine ri_rows (fun _ h => h.elim) rowL1 (by decide) (by simp) (fun j c hj => ?_)
      rcases j with _ | _ | _ | _ | j
      · cases hj; exact ⟨_, rfl, RI.raw _⟩
      · cases hj; exact ⟨_, rfl, rk r1⟩
      · cases hj; exact ⟨_, rfl, RI.raw _⟩
      · cases hj; exact ⟨_, rfl, rk r2⟩
      · cases hj
    · rw [q4]
      exact ri_vp2 (cell_at hb4 rfl) (cell_at hb4 rfl) (fun h => h) (RI.raw _) (rk r)
  have hC := gd.conc (n := 43) hs1 hd1 (fun _ h => h.elim)
  refine wp_seq (wp_mono (regionD_keep (Q := fun e σ => e = .normal ∧ σ.get 23 = .raw (.bool false)) [1, 2, 3, 4] hE rfl hC (by kernel_rfl) (by kernel_rfl) rfl rfl ?_) ?_)
  · clear rowL rowM rowL1 rowM1 hl hm hl1 hm1 rk gd hC
    refine wk hE (show ¬ 0 < k by omega) ?_
    exact ⟨rfl, rfl⟩
  intro e a2 W2 hK
  have he : e = .normal := by
    cases e with
    | normal => rfl
    | _ => obtain ⟨_, _, h, _⟩ := hK; exact h.1
  subst he
  obtain ⟨⟨σ2, β2, ⟨_, h23⟩, hC2⟩, hkeep⟩ := hK
  have f23 := hC2.rel 23
  rw [h23] at f23
  have f23 := RI.raw_inv f23
  have hbW2 := hC2.chg.belowW
  have hs2 : a2.tmps.size = 43 := hC2.sz
  have hd2 := hC2.dfr
  have p1 : a2.tmps.getD 1 undef = .int .i64 k := (hkeep 1 (by simp)).trans q1
  have p2 : a2.tmps.getD 2 undef = .pointer (some ⟨bl, 0, none⟩) := (hkeep 2 (by simp)).trans q2
  have p3 : a2.tmps.getD 3 undef = .pointer (some ⟨bm, 0, none⟩) := (hkeep 3 (by simp)).trans q3
  have p4 : a2.tmps.getD 4 undef = .pointer (some ⟨W.heap.size, 0, none⟩) := (hkeep 4 (by simp)).trans q4
  have hl2 : Boxed W2 bl 69 vl := (hbW2.block _ hl1.lt).trans hl1
  have hm2 : Boxed W2 bm 70 vm := (hbW2.block _ hm1.lt).trans hm1
  have hb42 : W2.heap[W.heap.size]? = some (.cells #[.bool b, s] 43) := (hbW2.block _ (by show W.heap.size < W1.heap.size; omega)).trans hb4
  have rowL2 : W2.ownsRow base 43 2 vl 2 [.bool b1, s1, .bool b2, s2] := rowL1.kept (row := none) (below_grown hbW2) (by cases vl.ownBlock with | none => exact .inl rfl | some g => exact .inr (by simp))
  have rowM2 : W2.ownsRow base 2 1 vm 2 [.int .i64 k1, .int .i64 k2] := rowM1.kept (row := none) (below_grown hbW2) (by cases vm.ownBlock with | none => exact .inl rfl | some g => exact .inr (by simp))
  clear hkeep hC2 h23 hC gd q1 q2 q3 q4 hs1 hd1
  refine wp_cond_false f23 ?_
  refine wp_seq (wp_region_list ?_)
  refine wpList_value (x := .int .i64 k) (w' := W2) rfl ?_ ?_
  · rw [← p1]; rfl
  refine wpList_value (x := .bool false) (w' := W2) rfl ?_ ?_
  · have e33 : (a2.put (some 33) (.int .i64 k)).eval (.tmp 33) = .int .i64 k := by
      show (a2.put (some 33) (.int .i64 k)).tmps.getD 33 undef = _
      simp [Act.put, Array.getD, hs2]
    unfold execOp
    simp only [e33]
    simp [go_sem, hk]
  refine wpList_nil (wp_cond_false ?_ ?_)
  · show ((a2.put (some 33) (.int .i64 k)).put (some 34) (.bool false)).tmps.getD 34 undef = _
    simp [Act.put, Array.getD, hs2]
  refine wp_skip ?_
  refine ⟨hd2, .tuple #[], by simp [results, Try.results146, go_sem], ⟨_, rfl⟩, ⟨⟨vl, vm, hl2, hm2, rowL2, rowM2, fun x hx => .inl hx⟩, fun x hx hX => ?_, ?_⟩⟩
  · exact (hbW2.block x (by omega)).trans (hbW.block x hx)
  · have := hl.lt
    exact (hbW.mono (by omega)).trans (hbW2.mono (by omega))
set_option linter.unusedVariables false in
theorem put_e {bl bm base : Nat} {b : Bool} {x : List Int} {s vl vm : Value} {k : Int} (W : World) (hl : Boxed W bl 69 vl) (hm : Boxed W bm 70 vm) (hlm : bl ≠ bm) (hbl : base ≤ bl) (hbm : base ≤ bm) (hk : 0 < k) (hk2 : k < 9223372036854775808)
    (hx : Lm x) (r : RI W (fun _ => False) (.ns .u64 x) s)
    {b1 : Bool} {x1 : List Int} {s1 : Value} {k1 : Int} (hx1 : Lm x1) (r1 : RI W (fun _ => False) (.ns .u64 x1) s1) (hc : cmpZ (zv b1 x1) (zv b x) = 0) (hk3 : 0 ≤ k1 ∧ k1 + k < 9223372036854775808)
    (rowL : W.ownsRow base 43 2 vl 1 [.bool b1, s1]) (rowM : W.ownsRow base 2 1 vm 1 [.int .i64 k1]) :
    Calls Try.prog 146 #[.agg #[.bool b, s], .int .i64 k, .pointer (some ⟨bl, 0, none⟩), .pointer (some ⟨bm, 0, none⟩)] W fun e W' => (∃ v, e = .returned v) ∧ PutR bl bm base 1 1 [.bool b1, s1] [.int .i64 (k1 + k)] vl vm W W' := by
  have hE := env (SOK.cons zcmp_ok (SOK.nil (P := Try.prog)))
  refine calls_of_wp Try.func146 rfl ?_
  rw [Try.ntmps146]
  obtain ⟨a0, ea0⟩ : ∃ a0 : Act, { tmps := #[.agg #[.bool b, s], .int .i64 k, .pointer (some ⟨bl, 0, none⟩), .pointer (some ⟨bm, 0, none⟩)] ++ Array.replicate (43 - #[Value.agg #[.bool b, s], .int .i64 k, .pointer (some ⟨bl, 0, none⟩), .pointer (some ⟨bm, 0, none⟩)].size) undef, defers := [] } = a0 := ⟨_, rfl⟩
  rw [ea0]
  have sg : ∀ j v, #[Value.agg #[.bool b, s], .int .i64 k, .pointer (some ⟨bl, 0, none⟩), .pointer (some ⟨bm, 0, none⟩)][j]? = some v → a0.tmps.getD j undef = v := fun j v hv => by
    rw [← ea0]
    exact start_get hv
  have g0 := sg 0 (.agg #[.bool b, s]) rfl
  have g1 := sg 1 (.int .i64 k) rfl
  have g2 := sg 2 (.pointer (some ⟨bl, 0, none⟩)) rfl
  have g3 := sg 3 (.pointer (some ⟨bm, 0, none⟩)) rfl
  have hs0 : a0.tmps.size = 43 := by rw [← ea0]; simp
  have hd0 : a0.defers = [] := by rw [← ea0]
  clear sg ea0
  refine wp_seq (wp_region_list ?_)
  have hbox : (execOp a0.eval { dst := some 4, op := Op.box 43 (Operand.tmp 0), type := 0, pos := "lefevre.go:205", after := #[], guard := none }).run Try.prog W = .ok (.value (.pointer (some ⟨W.heap.size, 0, none⟩))) (W.alloc (.cells #[.bool b, s] 43)) := by
    have e0 : a0.eval (.tmp 0) = .agg #[.bool b, s] := g0
    have a43 := Try.isAgg43; have z43 := Try.sizeOf43
    unfold execOp
    simp only [e0]
    simp [go_sem, a43, z43]
  refine wpList_value rfl hbox (wpList_nil ?_)
  clear hbox
  obtain ⟨W1, eW1⟩ : ∃ W1, W.alloc (.cells #[.bool b, s] 43) = W1 := ⟨_, rfl⟩
  obtain ⟨a1, ea1⟩ : ∃ a1, a0.put (some 4) (.pointer (some ⟨W.heap.size, 0, none⟩)) = a1 := ⟨_, rfl⟩
  show Code.wp _ _ _ (a0.put (some 4) (.pointer (some ⟨W.heap.size, 0, none⟩))) _
  rw [eW1, ea1]
  have hbW : Below W.heap.size W W1 := by rw [← eW1]; exact (Below.refl _ W).alloc (Nat.le_refl _) _
  have hsW : W1.heap.size = W.heap.size + 1 := by rw [← eW1, World.size_alloc]
  have hb4 : W1.heap[W.heap.size]? = some (.cells #[.bool b, s] 43) := by rw [← eW1]; exact World.alloc_heap_new W _
  have hll := hl.lt
  have hml := hm.lt
  have hl1 : Boxed W1 bl 69 vl := (hbW.block _ hll).trans hl
  have hm1 : Boxed W1 bm 70 vm := (hbW.block _ hml).trans hm
  have rowL1 : W1.ownsRow base 43 2 vl 1 [.bool b1, s1] := by rw [← eW1]; exact rowL.alloc _
  have rowM1 : W1.ownsRow base 2 1 vm 1 [.int .i64 k1] := by rw [← eW1]; exact rowM.alloc _
  have q1 : a1.tmps.getD 1 undef = .int .i64 k := by rw [← ea1, put_keep (by decide)]; exact g1
  have q2 : a1.tmps.getD 2 undef = .pointer (some ⟨bl, 0, none⟩) := by rw [← ea1, put_keep (by decide)]; exact g2
  have q3 : a1.tmps.getD 3 undef = .pointer (some ⟨bm, 0, none⟩) := by rw [← ea1, put_keep (by decide)]; exact g3
  have q4 : a1.tmps.getD 4 undef = .pointer (some ⟨W.heap.size, 0, none⟩) := by rw [← ea1]; simp [Act.put, Array.getD, hs0]
  have hs1 : a1.tmps.size = 43 := by rw [← ea1]; simp [Act.put, hs0]
  have hd1 : a1.defers = [] := by rw [← ea1]; exact hd0
  clear ea1 g0 g1 g2 g3 hs0 hd0 eW1
  have rk : ∀ {c : AV} {v : Value}, RI W (fun _ => False) c v → RI W1 (fun _ => False) c v := fun r => r.keep (keepOf _ hbW) (fun _ _ h => h)
  have gd : Good (fun _ => False) a1 W1 [(1, .raw (.int .i64 k)), (2, .vp [.sl 2 1 [.raw (.bool b1), .ns .u64 x1]]), (4, .vp [.raw (.bool b), .ns .u64 x])] := by
    refine ⟨⟨rfl, ?_⟩, ⟨rfl, ?_⟩, ⟨rfl, ?_⟩, trivial⟩
    · rw [q1]; exact RI.raw _
    · rw [q2]
      refine ri_vp1 hl1.cell (fun h => h) ?_
      refine ri_rows (fun _ h => h.elim) rowL1 (by decide) (by simp) (fun j c hj => ?_)
      rcases j with _ | _ | j
      · cases hj; exact ⟨_, rfl, RI.raw _⟩
      · cases hj; exact ⟨_, rfl, rk r1⟩
      · cases hj
    · rw [q4]
      exact ri_vp2 (cell_at hb4 rfl) (cell_at hb4 rfl) (fun h => h) (RI.raw _) (rk r)
  have hC := gd.conc (n := 43) hs1 hd1 (fun _ h => h.elim)
  refine wp_seq (wp_mono (regionD_keep (Q := fun e σ => e = .normal ∧ σ.get 23 = .raw (.bool true)) [1, 2, 3, 4] hE rfl hC (by kernel_rfl) (by kernel_rfl) rfl rfl ?_) ?_)
  · clear rowL rowM rowL1 rowM1 hl hm hl1 hm1 rk gd hC
    refine wk hE (And.intro hk hc) ?_
    exact ⟨rfl, rfl⟩
  intro e a2 W2 hK
  have he : e = .normal := by
    cases e with
    | normal => rfl
    | _ => obtain ⟨_, _, h, _⟩ := hK; exact h.1
  subst he
  obtain ⟨⟨σ2, β2, ⟨_, h23⟩, hC2⟩, hkeep⟩ := hK
  have f23 := hC2.rel 23
  rw [h23] at f23
  have f23 := RI.raw_inv f23
  have hbW2 := hC2.chg.belowW
  have hs2 : a2.tmps.size = 43 := hC2.sz
  have hd2 := hC2.dfr
  have p1 : a2.tmps.getD 1 undef = .int .i64 k := (hkeep 1 (by simp)).trans q1
  have p2 : a2.tmps.getD 2 undef = .pointer (some ⟨bl, 0, none⟩) := (hkeep 2 (by simp)).trans q2
  have p3 : a2.tmps.getD 3 undef = .pointer (some ⟨bm, 0, none⟩) := (hkeep 3 (by simp)).trans q3
  have p4 : a2.tmps.getD 4 undef = .pointer (some ⟨W.heap.size, 0, none⟩) := (hkeep 4 (by simp)).trans q4
  have hl2 : Boxed W2 bl 69 vl := (hbW2.block _ hl1.lt).trans hl1
  have hm2 : Boxed W2 bm 70 vm := (hbW2.block _ hm1.lt).trans hm1
  have hb42 : W2.heap[W.heap.size]? = some (.cells #[.bool b, s] 43) := (hbW2.block _ (by show W.heap.size < W1.heap.size; omega)).trans hb4
  have rowL2 : W2.ownsRow base 43 2 vl 1 [.bool b1, s1] := rowL1.kept (row := none) (below_grown hbW2) (by cases vl.ownBlock with | none => exact .inl rfl | some g => exact .inr (by simp))
  have rowM2 : W2.ownsRow base 2 1 vm 1 [.int .i64 k1] := rowM1.kept (row := none) (below_grown hbW2) (by cases vm.ownBlock with | none => exact .inl rfl | some g => exact .inr (by simp))
  clear hkeep hC2 h23 hC gd q1 q2 q3 q4 hs1 hd1
  refine wp_cond_true f23 ?_
  have hrow := rowM2
  obtain ⟨_, hrow⟩ := hrow
  rcases hrow with ⟨_, h0⟩ | ⟨g, cap, cur, evm, hg0, hg, hlc, hcm, hsz, ht⟩
  · omega
  have c0 : cur[0]? = some (.int .i64 k1) := by
    have h1 : (cur.toList.take (1 * 1))[0]? = some (.int .i64 k1) := by rw [ht]; rfl
    rw [List.getElem?_take_of_lt (by decide)] at h1
    simpa using h1
  have hc0 : W2.cell? ⟨g, 0, none⟩ = some (.int .i64 k1) := cell_at hg c0
  have hf0 : W2.frozen? ⟨g, 0, none⟩ = false := froz_at hg
  have t2 := Try.underlying2; have a2' := Try.isAgg2; have z2 := Try.sizeOf2
  have t70 := Try.underlying70; have u70 := run_underlying Try.underlying70
  refine wp_region_list ?_
  refine wl_value (d := 24) (n := 43) (x := vm) (w' := W2) rfl (load_box rfl p3 (Try.isAgg70 _) hm2.cell (by rw [evm]; rfl)) rfl hs2 (by decide) (fun a3 s3 d3 g24 k3 => ?_)
  refine wl_value (d := 25) (n := 43) (x := vm) (w' := W2) rfl (load_box rfl ((k3 3 (by decide)).trans p3) (Try.isAgg70 _) hm2.cell (by rw [evm]; rfl)) rfl s3 (by decide) (fun a4 s4 d4 g25 k4 => ?_)
  refine wl_value (d := 26) (n := 43) (x := .int .i64 1) (w' := W2) rfl ?_ rfl s4 (by decide) (fun a5 s5 d5 g26 k5 => ?_)
  · have q := g25
    rw [evm, Array.getD_eq_getD_getElem?] at q
    simp [execOp, go_sem, q, u70]
  refine wl_value (d := 27) (n := 43) (x := .int .i64 0) (w' := W2) rfl ?_ rfl s5 (by decide) (fun a6 s6 d6 g27 k6 => ?_)
  · have q := g26
    rw [Array.getD_eq_getD_getElem?] at q
    simp [execOp, go_sem, q]
    exact w64 (by decide) (by decide)
  have r24 : a6.tmps.getD 24 undef = vm := (k6 24 (by decide)).trans ((k5 24 (by decide)).trans ((k4 24 (by decide)).trans g24))
  have r1 : a6.tmps.getD 1 undef = .int .i64 k := (k6 1 (by decide)).trans ((k5 1 (by decide)).trans ((k4 1 (by decide)).trans ((k3 1 (by decide)).trans p1)))
  refine wl_value (d := 28) (n := 43) (x := .pointer (some ⟨g, 0, none⟩)) (w' := W2) rfl ?_ rfl s6 (by decide) (fun a7 s7 d7 g28 k7 => ?_)
  · have q := r24
    have q' := g27
    rw [evm, Array.getD_eq_getD_getElem?] at q
    rw [Array.getD_eq_getD_getElem?] at q'
    simp [execOp, go_sem, q, q', u70, t70, a2', z2]
  refine wl_value (d := 29) (n := 43) (x := .int .i64 k1) (w' := W2) rfl (load_box rfl g28 (Try.isAgg2 _) hc0 rfl) rfl s7 (by decide) (fun a8 s8 d8 g29 k8 => ?_)
  refine wl_value (d := 30) (n := 43) (x := .int .i64 k) (w' := W2) rfl ?_ rfl s8 (by decide) (fun a9 s9 d9 g30 k9 => ?_)
  · have q := (k8 1 (by decide)).trans ((k7 1 (by decide)).trans r1)
    rw [Array.getD_eq_getD_getElem?] at q
    simp [execOp, go_sem, q]
  refine wl_value (d := 31) (n := 43) (x := .int .i64 (k1 + k)) (w' := W2) rfl ?_ rfl s9 (by decide) (fun a10 s10 d10 g31 k10 => ?_)
  · have q := (k9 29 (by decide)).trans g29
    have q' := g30
    rw [Array.getD_eq_getD_getElem?] at q q'
    have hw : IntKind.i64.wrap (k1 + k) = k1 + k := w64 (by omega) (by omega)
    simp [execOp, go_sem, q, q', hw]
  refine wl_value (d := 32) (n := 43) (x := .pointer (some ⟨g, 0, none⟩)) (w' := W2) rfl ?_ rfl s10 (by decide) (fun a11 s11 d11 g32 k11 => ?_)
  · have q := (k10 24 (by decide)).trans ((k9 24 (by decide)).trans ((k8 24 (by decide)).trans ((k7 24 (by decide)).trans r24)))
    have q' := (k10 27 (by decide)).trans ((k9 27 (by decide)).trans ((k8 27 (by decide)).trans ((k7 27 (by decide)).trans g27)))
    rw [evm, Array.getD_eq_getD_getElem?] at q
    rw [Array.getD_eq_getD_getElem?] at q'
    simp [execOp, go_sem, q, q', u70, t70, a2', z2]
  refine wpList_none (w' := W2.setCell ⟨g, 0, none⟩ (.int .i64 (k1 + k))) rfl ?_ ?_
  · have q := g32
    have q' := (k11 31 (by decide)).trans g31
    rw [Array.getD_eq_getD_getElem?] at q q'
    simp [execOp, go_sem, q, q', hc0, hf0, z2]
  refine wpList_nil ?_
  have hgne : g ≠ bl ∧ g ≠ bm := by
    constructor
    · intro e
      have := (show W2.heap[bl]? = _ from hl2)
      rw [← e, hg] at this
      simp at this
    · intro e
      have := (show W2.heap[bm]? = _ from hm2)
      rw [← e, hg] at this
      simp at this
  have neM : vl.ownBlock ≠ some g := by
    rcases rows_ne (by decide) rowM2 rowL2 with h | h
    · rw [h]; exact fun e => by cases e
    · intro e; apply h; rw [evm, e]; rfl
  have hset := setCell_at (u := .int .i64 (k1 + k)) hg (show 0 < cur.size by omega)
  have hoth : ∀ x, x ≠ g → (W2.setCell ⟨g, 0, none⟩ (.int .i64 (k1 + k))).heap[x]? = W2.heap[x]? := fun x hx => Below.heap_setCell _ _ _ _ hx
  refine ⟨d11.trans (d10.trans (d9.trans (d8.trans (d7.trans (d6.trans (d5.trans (d4.trans (d3.trans hd2)))))))), .tuple #[], by simp [results, Try.results146, go_sem], ⟨_, rfl⟩, ⟨⟨vl, vm, (hoth bl (Ne.symm hgne.1)).trans hl2, (hoth bm (Ne.symm hgne.2)).trans hm2, ownsRow_setCell_other rowL2 neM _, ?_, fun x hx => .inl hx⟩, fun x hx hX => ?_, ?_⟩⟩
  · refine ⟨rfl, .inr ⟨g, cap, _, evm, hg0, hset, hlc, hcm, by simpa using hsz, ?_⟩⟩
    have hcl : cur.toList = .int .i64 k1 :: cur.toList.tail := by
      cases h : cur.toList with
      | nil => simp [← Array.getElem?_toList, h] at c0
      | cons y l => simp [← Array.getElem?_toList, h] at c0; rw [c0]; rfl
    rw [Array.toList_set, hcl]
    rfl
  · have hxg : x ≠ g := fun e => hX (.inr (.inr (.inr (by rw [evm, e]; rfl))))
    exact (hoth x hxg).trans ((hbW2.block x (by omega)).trans (hbW.block x hx))
  · have := hl.lt
    exact ((hbW.mono (by omega)).trans (hbW2.mono (by omega))).trans ((Below.refl base W2).setCell (p := ⟨g, 0, none⟩) hg0 _)
end Go.Hl

namespace Go.Hl
open Go Go.RowKit Go.Proofs
set_option maxHeartbeats 3200000
set_option maxRecDepth 100000
theorem GT.call' {X0 : Nat → Prop} {bl bm base n n' : Nat} {L K L' K' : List Value} {vl vm : Value} {ys : List (AV × Value)} {l : List (Nat × AV)} {a : Act} {w w' : World} (h : GT X0 bl bm base n L K vl vm ys l a w) (hp : PutR bl bm base n' n' L' K' vl vm w w') {d : Nat} {v : Value} (hd : ∀ p ∈ l, d ≠ p.1) {c : AV} {s : Value} (hs : RI w (fun b => XP bl bm vl vm b ∨ X0 b) c s) :
    ∃ vl' vm', GT X0 bl bm base n' L' K' vl' vm' ((c, s) :: ys) l (a.put (some d) v) w' := by
  obtain ⟨vl', vm', h1, h2, h3, h4, h5⟩ := hp.p
  have kp : Keep (fun b => XP bl bm vl vm b ∨ X0 b) w w' := ⟨hp.below.size, fun b hb hx => hp.keep b hb (fun h => hx (.inl h))⟩
  have xk : ∀ b, b < w.heap.size → (XP bl bm vl' vm' b ∨ X0 b) → (XP bl bm vl vm b ∨ X0 b) := fun b hb hx => by
    rcases hx with hx | hx
    · rcases h5 b hx with h | h
      · exact .inl h
      · omega
    · exact .inr hx
  refine ⟨vl', vm', ⟨put_size.trans h.sz, put_defers.trans h.df, h1, h2, h3, h4, h.xo, h.hb, ?_, fun p hpp => ?_⟩⟩
  · exact h.gd.keep kp xk (fun p hp => put_keep (fun e => hd p hp (Option.some.inj e)))
  · rcases List.mem_cons.1 hpp with rfl | hpp
    · exact hs.keep kp xk
    · exact (h.yr p hpp).keep kp xk
theorem gaps_t2 {N P R : Int} {B1 B2 : Bool} {X1 X2 : List Int} (h1 : Lm X1 ∧ X1.length < 9500) (h2 : Lm X2 ∧ X2.length < 9500) (hN : 1 < N ∧ N < 9223372036854775808) (hP : 0 < P ∧ P < N) (hR : 0 < R ∧ R < N) (hPR : N = P + R)
    (hlt : zv B2 X2 < zv B1 X1) (hv : 0 < zv B2 X2) :
    AWp Try.prog (tab false) 117 (tl 10 (Try.f105.body.getD .skip)) (PostL (tab false) [.tmp 6, .tmp 7, .tmp 8] [69, 70, 64] (.tup [.sl 2 2 [.raw (.bool B2), .ns .u64 X2, .raw (.bool B1), .ns .u64 X1], .ns .i64 [N - P, N - R], .raw (.int .i64 0)]))
      ⟨[(2, .raw (.int .i64 N)), (15, .raw (.int .i64 P)), (17, .raw (.int .i64 R)), (16, .ptr 16 0), (18, .ptr 18 0)], [(16, ⟨true, .c [.raw (.bool B2), .ns .u64 X2]⟩), (18, ⟨true, .c [.raw (.bool B1), .ns .u64 X1]⟩)]⟩ := by
  have h1a := h1.1; have h1b := h1.2; have h2a := h2.1; have h2b := h2.2
  have hE := env (SOK.cons zadd_ok (SOK.nil (P := Try.prog)))
  intro κ β a w hn hm hC
  have hmu := hm rfl
  obtain ⟨p16, o16, C16, e16, q16, j16, g16⟩ := hC.vp0 (t := 16) (id := 16) rfl rfl
  obtain ⟨p18, o18, C18, e18, q18, j18, g18⟩ := hC.vp0 (t := 18) (id := 18) rfl rfl
  have xnot : ∀ p, (κ.w0.heap.size ≤ p ∨ κ.mu ≠ none) → κ.X0 p → False := fun p h hx => by
    have := hC.x0 p hx
    rcases h with h | h
    · omega
    · exact h hmu
  have q2 := RI.raw_inv (hC.rel 2)
  have q15 := RI.raw_inv (hC.rel 15)
  have q17 := RI.raw_inv (hC.rel 17)
  have s16 : RI w κ.X0 (.vp [.raw (.bool B2), .ns .u64 X2]) (a.tmps.getD 16 undef) := by
    rw [q16]; exact RI.vp_of (fun h0 h => xnot p16 (j16 h0).1 h) (CellsAt.weak' (fun _ _ h => .inl h) g16)
  have s18 : RI w κ.X0 (.vp [.raw (.bool B1), .ns .u64 X1]) (a.tmps.getD 18 undef) := by
    rw [q18]; exact RI.vp_of (fun h0 h => xnot p18 (j18 h0).1 h) (CellsAt.weak' (fun _ _ h => .inl h) g18)
  have sz : a.tmps.size = 117 := hC.sz.trans hn
  have df := hC.dfr
  have hch := hC.chg
  have hx0 := hC.x0
  have hw0 : κ.w0.heap.size ≤ w.heap.size := hC.chg.size
  clear hC q16 q18 g16 g18
  refine wp_seq (wp_region_list (wpList_value (x := .pointer (some ⟨w.heap.size, 0, none⟩)) (w' := (w.alloc (.cells #[.slice none 0 0] 69))) rfl ?_ (wpList_nil ?_)))
  · have v69 := Try.zeroValue69
    simp [execOp, go_sem, v69]
  refine wp_seq (wp_region_list (wpList_value (x := .pointer (some ⟨w.heap.size + 1, 0, none⟩)) (w' := ((w.alloc (.cells #[.slice none 0 0] 69)).alloc (.cells #[.slice none 0 0] 70))) rfl ?_ (wpList_nil ?_)))
  · have v70 := Try.zeroValue70
    simp [execOp, go_sem, v70]
  have e19 : ((a.put (some 19) (.pointer (some ⟨w.heap.size, 0, none⟩))).put (some 20) (.pointer (some ⟨w.heap.size + 1, 0, none⟩))).tmps.getD 19 undef = .pointer (some ⟨w.heap.size, 0, none⟩) := by
    rw [put_keep (by decide)]; exact put_at (by rw [sz]; decide)
  have e20 : ((a.put (some 19) (.pointer (some ⟨w.heap.size, 0, none⟩))).put (some 20) (.pointer (some ⟨w.heap.size + 1, 0, none⟩))).tmps.getD 20 undef = .pointer (some ⟨w.heap.size + 1, 0, none⟩) := put_at (by rw [put_size, sz]; decide)
  have ek : ∀ t, t ≠ 19 → t ≠ 20 → ((a.put (some 19) (.pointer (some ⟨w.heap.size, 0, none⟩))).put (some 20) (.pointer (some ⟨w.heap.size + 1, 0, none⟩))).tmps.getD t undef = a.tmps.getD t undef := fun t h1 h2 => by
    rw [put_keep (fun e => h2 (Option.some.inj e).symm), put_keep (fun e => h1 (Option.some.inj e).symm)]
  have esz : ((a.put (some 19) (.pointer (some ⟨w.heap.size, 0, none⟩))).put (some 20) (.pointer (some ⟨w.heap.size + 1, 0, none⟩))).tmps.size = 117 := by rw [put_size, put_size, sz]
  have edf : ((a.put (some 19) (.pointer (some ⟨w.heap.size, 0, none⟩))).put (some 20) (.pointer (some ⟨w.heap.size + 1, 0, none⟩))).defers = [] := by rw [put_defers, put_defers, df]
  show Code.wp _ _ _ ((a.put (some 19) (.pointer (some ⟨w.heap.size, 0, none⟩))).put (some 20) (.pointer (some ⟨w.heap.size + 1, 0, none⟩))) _
  generalize ((a.put (some 19) (.pointer (some ⟨w.heap.size, 0, none⟩))).put (some 20) (.pointer (some ⟨w.heap.size + 1, 0, none⟩))) = a2 at *
  refine wp_seq (wp_region_list (wpList_value (x := (Value.func (.func 146) #[] #[.pointer (some ⟨w.heap.size, 0, none⟩), .pointer (some ⟨w.heap.size + 1, 0, none⟩)])) (w' := ((w.alloc (.cells #[.slice none 0 0] 69)).alloc (.cells #[.slice none 0 0] 70))) rfl ?_ (wpList_value (x := (Value.func (.func 146) #[] #[.pointer (some ⟨w.heap.size, 0, none⟩), .pointer (some ⟨w.heap.size + 1, 0, none⟩)])) (w' := ((w.alloc (.cells #[.slice none 0 0] 69)).alloc (.cells #[.slice none 0 0] 70))) rfl ?_ (wpList_nil ?_))))
  · simp [execOp, go_sem, Act.eval, e19, e20]
  · have e92 : (a2.put (some 92) (Value.func (.func 146) #[] #[.pointer (some ⟨w.heap.size, 0, none⟩), .pointer (some ⟨w.heap.size + 1, 0, none⟩)])).tmps.getD 92 undef = (Value.func (.func 146) #[] #[.pointer (some ⟨w.heap.size, 0, none⟩), .pointer (some ⟨w.heap.size + 1, 0, none⟩)]) := put_at (by rw [esz]; decide)
    have e92' : (a2.put (some 92) (Value.func (.func 146) #[] #[.pointer (some ⟨w.heap.size, 0, none⟩), .pointer (some ⟨w.heap.size + 1, 0, none⟩)])).eval (.tmp 92) = (Value.func (.func 146) #[] #[.pointer (some ⟨w.heap.size, 0, none⟩), .pointer (some ⟨w.heap.size + 1, 0, none⟩)]) := e92
    show (execOp (a2.put (some 92) (Value.func (.func 146) #[] #[.pointer (some ⟨w.heap.size, 0, none⟩), .pointer (some ⟨w.heap.size + 1, 0, none⟩)])).eval _).run _ _ = _
    unfold execOp
    simp only [e92']
    simp [go_sem]
  obtain ⟨bl, ebl⟩ : ∃ bl, w.heap.size = bl := ⟨_, rfl⟩
  obtain ⟨bm, ebm⟩ : ∃ bm, w.heap.size + 1 = bm := ⟨_, rfl⟩
  obtain ⟨fv, efv⟩ : ∃ fv, (Value.func (.func 146) #[] #[.pointer (some ⟨w.heap.size, 0, none⟩), .pointer (some ⟨w.heap.size + 1, 0, none⟩)]) = fv := ⟨_, rfl⟩
  show Code.wp _ _ _ ((a2.put (some 92) (Value.func (.func 146) #[] #[.pointer (some ⟨w.heap.size, 0, none⟩), .pointer (some ⟨w.heap.size + 1, 0, none⟩)])).put (some 21) (Value.func (.func 146) #[] #[.pointer (some ⟨w.heap.size, 0, none⟩), .pointer (some ⟨w.heap.size + 1, 0, none⟩)])) _
  rw [efv]
  have f21 : ((a2.put (some 92) fv).put (some 21) fv).tmps.getD 21 undef = fv := put_at (by rw [put_size, esz]; decide)
  have fk : ∀ t, t ≠ 92 → t ≠ 21 → ((a2.put (some 92) fv).put (some 21) fv).tmps.getD t undef = a2.tmps.getD t undef := fun t h1 h2 => by
    rw [put_keep (fun e => h2 (Option.some.inj e).symm), put_keep (fun e => h1 (Option.some.inj e).symm)]
  have fsz : ((a2.put (some 92) fv).put (some 21) fv).tmps.size = 117 := by rw [put_size, put_size, esz]
  have fdf : ((a2.put (some 92) fv).put (some 21) fv).defers = [] := by rw [put_defers, put_defers, edf]
  generalize ((a2.put (some 92) fv).put (some 21) fv) = a3 at *
  have hb : Below w.heap.size w ((w.alloc (.cells #[.slice none 0 0] 69)).alloc (.cells #[.slice none 0 0] 70)) := ((Below.refl _ w).alloc (Nat.le_refl _) _).alloc (by rw [World.size_alloc]; omega) _
  have bxl : Boxed ((w.alloc (.cells #[.slice none 0 0] 69)).alloc (.cells #[.slice none 0 0] 70)) bl 69 (.slice none 0 0) := by rw [← ebl]; exact (Boxed.new w 69 _).alloc _
  have bxm : Boxed ((w.alloc (.cells #[.slice none 0 0] 69)).alloc (.cells #[.slice none 0 0] 70)) bm 70 (.slice none 0 0) := by
    have := Boxed.new (w.alloc (.cells #[.slice none 0 0] 69)) 70 (.slice none 0 0)
    rw [World.size_alloc, ebm] at this
    exact this
  obtain ⟨w2, ew2⟩ : ∃ w2, ((w.alloc (.cells #[.slice none 0 0] 69)).alloc (.cells #[.slice none 0 0] 70)) = w2 := ⟨_, rfl⟩
  rw [ew2] at hb bxl bxm ⊢
  have ri0 : ∀ {c : AV} {v : Value}, RI w κ.X0 c v → RI w2 (fun b => XP bl bm (.slice none 0 0) (.slice none 0 0) b ∨ κ.X0 b) c v := fun r => r.keep (keepOf _ hb) (fun b hbb hx => by
    rcases hx with (rfl | rfl | hx | hx) | hx
    · omega
    · omega
    · cases hx
    · cases hx
    · exact hx)
  rw [ebm, ebl] at efv
  have T0 : GT κ.X0 bl bm bl 0 [] [] (.slice none 0 0) (.slice none 0 0) [] [(2, .raw (.int .i64 N)), (15, .raw (.int .i64 P)), (17, .raw (.int .i64 R)), (16, .vp [.raw (.bool B2), .ns .u64 X2]), (18, .vp [.raw (.bool B1), .ns .u64 X1]), (19, .raw (.pointer (some ⟨bl, 0, none⟩))), (20, .raw (.pointer (some ⟨bm, 0, none⟩))), (21, .raw (.func (.func 146) #[] #[.pointer (some ⟨bl, 0, none⟩), .pointer (some ⟨bm, 0, none⟩)]))] a3 w2 := by
    refine ⟨fsz, fdf, bxl, bxm, World.ownsRow_nil _ _ _ _, World.ownsRow_nil _ _ _ _, fun b hb => Nat.lt_of_lt_of_le (hx0 b hb) (by omega), Nat.le_refl _, ⟨⟨rfl, ?_⟩, ⟨rfl, ?_⟩, ⟨rfl, ?_⟩, ⟨rfl, ?_⟩, ⟨rfl, ?_⟩, ⟨rfl, ?_⟩, ⟨rfl, ?_⟩, ⟨rfl, ?_⟩, trivial⟩, fun p hp => by cases hp⟩
    · show RI _ _ _ (a3.tmps.getD 2 undef)
      rw [fk 2 (by decide) (by decide), ek 2 (by decide) (by decide), q2]; exact RI.raw _
    · show RI _ _ _ (a3.tmps.getD 15 undef)
      rw [fk 15 (by decide) (by decide), ek 15 (by decide) (by decide), q15]; exact RI.raw _
    · show RI _ _ _ (a3.tmps.getD 17 undef)
      rw [fk 17 (by decide) (by decide), ek 17 (by decide) (by decide), q17]; exact RI.raw _
    · show RI _ _ _ (a3.tmps.getD 16 undef)
      rw [fk 16 (by decide) (by decide), ek 16 (by decide) (by decide)]; exact ri0 s16
    · show RI _ _ _ (a3.tmps.getD 18 undef)
      rw [fk 18 (by decide) (by decide), ek 18 (by decide) (by decide)]; exact ri0 s18
    · show RI _ _ _ (a3.tmps.getD 19 undef)
      rw [fk 19 (by decide) (by decide), e19, ebl]; exact RI.raw _
    · show RI _ _ _ (a3.tmps.getD 20 undef)
      rw [fk 20 (by decide) (by decide), e20, ebm]; exact RI.raw _
    · show RI _ _ _ (a3.tmps.getD 21 undef)
      rw [f21, ← efv]; exact RI.raw _
  have hlm : bl ≠ bm := by omega
  have hbm' : bl ≤ bm := by omega
  have hb0 : Below bl w w2 := by rw [← ebl]; exact hb
  clear ek fk e19 e20 f21 efv fsz fdf esz edf q2 q15 q17 s16 s18 ri0 bxl bxm hb ew2 sz df
  obtain ⟨vl0, evl⟩ : ∃ v : Value, v = .slice none 0 0 := ⟨_, rfl⟩
  obtain ⟨vm0, evm⟩ : ∃ v : Value, v = .slice none 0 0 := ⟨_, rfl⟩
  have T0 : GT κ.X0 bl bm bl 0 [] [] vl0 vm0 [] [(2, .raw (.int .i64 N)), (15, .raw (.int .i64 P)), (17, .raw (.int .i64 R)), (16, .vp [.raw (.bool B2), .ns .u64 X2]), (18, .vp [.raw (.bool B1), .ns .u64 X1]), (19, .raw (.pointer (some ⟨bl, 0, none⟩))), (20, .raw (.pointer (some ⟨bm, 0, none⟩))), (21, .raw (.func (.func 146) #[] #[.pointer (some ⟨bl, 0, none⟩), .pointer (some ⟨bm, 0, none⟩)]))] a3 w2 := by rw [evl, evm]; exact T0
  refine wp_seq (wp_region_lit ?_)
  refine wpList_seg (l := [_, _, _, _, _]) (K := fun σ => (σ.get 93 = .raw (.func (.func 146) #[] #[.pointer (some ⟨bl, 0, none⟩), .pointer (some ⟨bm, 0, none⟩)]) ∧ σ.get 94 = .agg [.raw (.bool (B2)), .ns .u64 (X2)] ∧ σ.get 97 = .raw (.int .i64 (N - P))) ∧ Has σ [(2, .raw (.int .i64 N)), (15, .raw (.int .i64 P)), (17, .raw (.int .i64 R)), (16, .vp [.raw (.bool B2), .ns .u64 X2]), (18, .vp [.raw (.bool B1), .ns .u64 X1]), (19, .raw (.pointer (some ⟨bl, 0, none⟩))), (20, .raw (.pointer (some ⟨bm, 0, none⟩))), (21, .raw (.func (.func 146) #[] #[.pointer (some ⟨bl, 0, none⟩), .pointer (some ⟨bm, 0, none⟩)]))]) hE rfl T0.conc (by kernel_rfl) ?_ ?_
  · clear T0
    refine wk hE trivial ?_
    exact ⟨⟨rfl, rfl, rfl⟩, ⟨rfl, rfl⟩, ⟨rfl, rfl⟩, ⟨rfl, rfl⟩, ⟨rfl, rfl⟩, ⟨rfl, rfl⟩, ⟨rfl, rfl⟩, ⟨rfl, rfl⟩, ⟨rfl, rfl⟩, trivial⟩
  intro σ0 β0 b0 u0 ⟨⟨kf, kx, kk⟩, kh⟩ hC0
  obtain ⟨S0, hbe⟩ := T0.seg hC0 kh
  have rf := hC0.rel 93
  rw [kf] at rf
  have rf := RI.raw_inv rf
  have rk := hC0.rel 97
  rw [kk] at rk
  have rk := RI.raw_inv rk
  have rx := hC0.rel 94
  rw [kx] at rx
  have rx : RI _ _ _ _ := rx
  obtain ⟨s0, ex, rx⟩ := RI.num_agg rx
  have rx : RI u0 (fun b => XP bl bm vl0 vm0 b ∨ κ.X0 b) (.ns .u64 (X2)) s0 := rx.keep (Keep.refl _ _) (fun _ _ h => .inl h)
  have fl : ∀ {c : AV} {v : Value}, RI u0 (fun b => XP bl bm vl0 vm0 b ∨ κ.X0 b) c v → RI u0 (fun _ => False) c v := fun r => r.keep (Keep.refl _ _) (fun _ _ h => h.elim)
  have hcall := put_0 (b := (B2)) (s := s0) u0 S0.hl S0.hm hlm (Nat.le_refl _) hbm' (show 0 < N - P by omega) (by omega) h2.1 (fl rx) evl S0.rL S0.rM
  refine wpList_callv (f := 146) (vs := #[.agg #[.bool (B2), s0], .int .i64 (N - P), .pointer (some ⟨bl, 0, none⟩), .pointer (some ⟨bm, 0, none⟩)]) rfl ?_ ?_
  · have e1 := rf; rw [Array.getD_eq_getD_getElem?] at e1
    have e2 := ex; rw [Array.getD_eq_getD_getElem?] at e2
    have e3 := rk; rw [Array.getD_eq_getD_getElem?] at e3
    simp [execOp, go_sem, e1, e2, e3]
  refine hcall.mono ?_
  rintro e w3 ⟨⟨v, rfl⟩, hp⟩
  refine ⟨v, rfl, wpList_nil ?_⟩
  obtain ⟨vl1, vm1, T1⟩ := S0.call hp (d := 98) (v := v) (by intro p hp e; simp only [List.mem_cons, List.not_mem_nil, or_false] at hp; rcases hp with rfl | rfl | rfl | rfl | rfl | rfl | rfl | rfl <;> cases e) rx
  have hb1 : Below bl w w3 := (hb0.trans (hbe.mono (by have := T0.hl.lt; omega))).trans hp.below
  show Code.wp _ _ _ (b0.put (some 98) v) _
  generalize (b0.put (some 98) v) = a4 at *
  clear hp hcall fl rx ex kx rk kk rf kf kh hbe S0 T0 hC0 hb0
  have c1 : cmpZ (zv B2 X2) (zv B1 X1) = -1 := cmp_m1 hlt
  refine wp_seq (wp_region_lit ?_)
  refine wpList_seg (l := [_, _, _, _, _]) (K := fun σ => (σ.get 99 = .raw (.func (.func 146) #[] #[.pointer (some ⟨bl, 0, none⟩), .pointer (some ⟨bm, 0, none⟩)]) ∧ σ.get 100 = .agg [.raw (.bool (B1)), .ns .u64 (X1)] ∧ σ.get 103 = .raw (.int .i64 (N - R))) ∧ Has σ [(2, .raw (.int .i64 N)), (15, .raw (.int .i64 P)), (17, .raw (.int .i64 R)), (16, .vp [.raw (.bool B2), .ns .u64 X2]), (18, .vp [.raw (.bool B1), .ns .u64 X1]), (19, .raw (.pointer (some ⟨bl, 0, none⟩))), (20, .raw (.pointer (some ⟨bm, 0, none⟩))), (21, .raw (.func (.func 146) #[] #[.pointer (some ⟨bl, 0, none⟩), .pointer (some ⟨bm, 0, none⟩)]))]) hE rfl T1.conc (by kernel_rfl) ?_ ?_
  · clear T1
    refine wk hE trivial ?_
    exact ⟨⟨rfl, rfl, rfl⟩, ⟨rfl, rfl⟩, ⟨rfl, rfl⟩, ⟨rfl, rfl⟩, ⟨rfl, rfl⟩, ⟨rfl, rfl⟩, ⟨rfl, rfl⟩, ⟨rfl, rfl⟩, ⟨rfl, rfl⟩, trivial⟩
  intro σ1 β1 b1 u1 ⟨⟨kf, kx, kk⟩, kh⟩ hC1
  obtain ⟨S1, hbe⟩ := T1.seg hC1 kh
  have rf := hC1.rel 99
  rw [kf] at rf
  have rf := RI.raw_inv rf
  have rk := hC1.rel 103
  rw [kk] at rk
  have rk := RI.raw_inv rk
  have rx := hC1.rel 100
  rw [kx] at rx
  have rx : RI _ _ _ _ := rx
  obtain ⟨s1, ex, rx⟩ := RI.num_agg rx
  have rx : RI u1 (fun b => XP bl bm vl1 vm1 b ∨ κ.X0 b) (.ns .u64 (X1)) s1 := rx.keep (Keep.refl _ _) (fun _ _ h => .inl h)
  have fl : ∀ {c : AV} {v : Value}, RI u1 (fun b => XP bl bm vl1 vm1 b ∨ κ.X0 b) c v → RI u1 (fun _ => False) c v := fun r => r.keep (Keep.refl _ _) (fun _ _ h => h.elim)
  have hcall := put_1 (b := (B1)) (s := s1) u1 S1.hl S1.hm hlm (Nat.le_refl _) hbm' (show 0 < N - R by omega) (by omega) h1.1 (fl rx) h2.1 (fl (S1.yr (.ns .u64 X2, s0) (by simp))) (c1) S1.rL S1.rM
  refine wpList_callv (f := 146) (vs := #[.agg #[.bool (B1), s1], .int .i64 (N - R), .pointer (some ⟨bl, 0, none⟩), .pointer (some ⟨bm, 0, none⟩)]) rfl ?_ ?_
  · have e1 := rf; rw [Array.getD_eq_getD_getElem?] at e1
    have e2 := ex; rw [Array.getD_eq_getD_getElem?] at e2
    have e3 := rk; rw [Array.getD_eq_getD_getElem?] at e3
    simp [execOp, go_sem, e1, e2, e3]
  refine hcall.mono ?_
  rintro e w4 ⟨⟨v, rfl⟩, hp⟩
  refine ⟨v, rfl, wpList_nil ?_⟩
  obtain ⟨vl2, vm2, T2⟩ := S1.call hp (d := 104) (v := v) (by intro p hp e; simp only [List.mem_cons, List.not_mem_nil, or_false] at hp; rcases hp with rfl | rfl | rfl | rfl | rfl | rfl | rfl | rfl <;> cases e) rx
  have hb2 : Below bl w w4 := (hb1.trans (hbe.mono (by have := T1.hl.lt; omega))).trans hp.below
  show Code.wp _ _ _ (b1.put (some 104) v) _
  generalize (b1.put (some 104) v) = a5 at *
  clear hp hcall fl rx ex kx rk kk rf kf kh hbe S1 T1 hC1 hb1
  obtain ⟨S, eS⟩ : ∃ S, zv B2 X2 + zv B1 X1 = S := ⟨_, rfl⟩
  have hS : zv B1 X1 < S := by omega
  have bS : Lm (dg S.natAbs) := by
    have b1 := zv_abs_lt (b := B1) h1.1 (l := 9500) (by omega)
    have b2 := zv_abs_lt (b := B2) h2.1 (l := 9500) (by omega)
    have h3 := powA b2 b1
    have h4 : S.natAbs < B64 ^ (9500 + 1) := by omega
    exact (dgl h4 (by omega)).1
  refine wp_seq (wp_region_lit ?_)
  refine wpList_seg (l := [_, _, _, _, _, _, _, _, _]) (K := fun σ => (σ.get 105 = .raw (.func (.func 146) #[] #[.pointer (some ⟨bl, 0, none⟩), .pointer (some ⟨bm, 0, none⟩)]) ∧ σ.get 108 = .agg [.raw (.bool (decide (S < 0))), .ns .u64 (dg S.natAbs)] ∧ σ.get 113 = .raw (.int .i64 (P - (N - R)))) ∧ Has σ [(2, .raw (.int .i64 N)), (15, .raw (.int .i64 P)), (17, .raw (.int .i64 R)), (16, .vp [.raw (.bool B2), .ns .u64 X2]), (18, .vp [.raw (.bool B1), .ns .u64 X1]), (19, .raw (.pointer (some ⟨bl, 0, none⟩))), (20, .raw (.pointer (some ⟨bm, 0, none⟩))), (21, .raw (.func (.func 146) #[] #[.pointer (some ⟨bl, 0, none⟩), .pointer (some ⟨bm, 0, none⟩)]))]) hE rfl T2.conc (by kernel_rfl) ?_ ?_
  · clear T2
    refine wk hE eS ?_
    exact ⟨⟨rfl, rfl, rfl⟩, ⟨rfl, rfl⟩, ⟨rfl, rfl⟩, ⟨rfl, rfl⟩, ⟨rfl, rfl⟩, ⟨rfl, rfl⟩, ⟨rfl, rfl⟩, ⟨rfl, rfl⟩, ⟨rfl, rfl⟩, trivial⟩
  intro σ2 β2 b2 u2 ⟨⟨kf, kx, kk⟩, kh⟩ hC2
  obtain ⟨S2, hbe⟩ := T2.seg hC2 kh
  have rf := hC2.rel 105
  rw [kf] at rf
  have rf := RI.raw_inv rf
  have rk := hC2.rel 113
  rw [kk] at rk
  have rk := RI.raw_inv rk
  have rx := hC2.rel 108
  rw [kx] at rx
  have rx : RI _ _ _ _ := rx
  obtain ⟨s2, ex, rx⟩ := RI.num_agg rx
  have rx : RI u2 (fun b => XP bl bm vl2 vm2 b ∨ κ.X0 b) (.ns .u64 (dg S.natAbs)) s2 := rx.keep (Keep.refl _ _) (fun _ _ h => .inl h)
  have fl : ∀ {c : AV} {v : Value}, RI u2 (fun b => XP bl bm vl2 vm2 b ∨ κ.X0 b) c v → RI u2 (fun _ => False) c v := fun r => r.keep (Keep.refl _ _) (fun _ _ h => h.elim)
  have hcall := put_z (b := (decide (S < 0))) (s := s2) u2 S2.hl S2.hm hlm (Nat.le_refl _) hbm' (show P - (N - R) = 0 by omega) bS (fl rx) h2.1 (fl (S2.yr (.ns .u64 X2, s0) (by simp))) h1.1 (fl (S2.yr (.ns .u64 X1, s1) (by simp))) S2.rL S2.rM
  refine wpList_callv (f := 146) (vs := #[.agg #[.bool (decide (S < 0)), s2], .int .i64 (P - (N - R)), .pointer (some ⟨bl, 0, none⟩), .pointer (some ⟨bm, 0, none⟩)]) rfl ?_ ?_
  · have e1 := rf; rw [Array.getD_eq_getD_getElem?] at e1
    have e2 := ex; rw [Array.getD_eq_getD_getElem?] at e2
    have e3 := rk; rw [Array.getD_eq_getD_getElem?] at e3
    simp [execOp, go_sem, e1, e2, e3]
  refine hcall.mono ?_
  rintro e w5 ⟨⟨v, rfl⟩, hp⟩
  refine ⟨v, rfl, wpList_nil ?_⟩
  obtain ⟨vl3, vm3, T3⟩ := S2.call' hp (d := 114) (v := v) (by intro p hp e; simp only [List.mem_cons, List.not_mem_nil, or_false] at hp; rcases hp with rfl | rfl | rfl | rfl | rfl | rfl | rfl | rfl <;> cases e) rx
  have hb3 : Below bl w w5 := (hb2.trans (hbe.mono (by have := T2.hl.lt; omega))).trans hp.below
  show Code.wp _ _ _ (b2.put (some 114) v) _
  generalize (b2.put (some 114) v) = a6 at *
  clear hp hcall fl rx ex kx rk kk rf kf kh hbe S2 T2 hC2 hb2
  have hXb : ∀ b, κ.X0 b → b < bl := fun b hb => Nat.lt_of_lt_of_le (hx0 b hb) (by omega)
  have kx : ∀ {c : AV} {v : Value}, RI w5 (fun b => XP bl bm vl3 vm3 b ∨ κ.X0 b) c v → RI w5 κ.X0 c v := fun r => r.keep (Keep.refl _ _) (fun _ _ h => .inr h)
  have rl := ri_rows (cs := [.raw (.bool B2), .ns .u64 X2, .raw (.bool B1), .ns .u64 X1]) hXb T3.rL (by decide) rfl (fun j c hj => by
    have y0 := kx (T3.yr (.ns .u64 X2, s0) (by simp))
    have y1 := kx (T3.yr (.ns .u64 X1, s1) (by simp))
    rcases j with _ | _ | _ | _ | j
    · cases hj; exact ⟨_, rfl, RI.raw _⟩
    · cases hj; exact ⟨_, rfl, y0⟩
    · cases hj; exact ⟨_, rfl, RI.raw _⟩
    · cases hj; exact ⟨_, rfl, y1⟩
    · cases hj)
  have rm : RI w5 κ.X0 (.ns .i64 [N - P, N - R]) vm3 := ri_row (T := [N - P, N - R]) hXb T3.rM
  have G3 : Good κ.X0 a6 w5 [(19, .vp [.sl 2 2 [.raw (.bool B2), .ns .u64 X2, .raw (.bool B1), .ns .u64 X1]]), (20, .vp [.ns .i64 [N - P, N - R]])] := by
    refine ⟨⟨rfl, ?_⟩, ⟨rfl, ?_⟩, trivial⟩
    · show RI _ _ _ (a6.tmps.getD 19 undef)
      rw [T3.gd.fn2 (t := 19) rfl]
      exact ri_vp1 T3.hl.cell (fun h => by have := hXb _ h; omega) rl
    · show RI _ _ _ (a6.tmps.getD 20 undef)
      rw [T3.gd.fn2 (t := 20) rfl]
      exact ri_vp1 T3.hm.cell (fun h => by have := hXb _ h; omega) rm
  have hC := G3.conc (n := 117) T3.sz T3.df (fun b hb => by have := hXb b hb; have := T3.hl.lt; omega)
  clear T3 G3 rl rm kx bS c1 hS
  refine wp_of_awp (T := tab false) (Q := fun e σ => (e = .normal ∨ e = .ret) ∧ Has σ [(6, .sl 2 2 [.raw (.bool B2), .ns .u64 X2, .raw (.bool B1), .ns .u64 X1]), (7, .ns .i64 [N - P, N - R]), (8, .raw (.int .i64 0))]) ?_ rfl rfl hC ?_
  · clear hC
    refine wk hE trivial ?_
    exact ⟨.inr rfl, ⟨rfl, rfl⟩, ⟨rfl, rfl⟩, ⟨rfl, rfl⟩, trivial⟩
  rintro e b9 w9 ⟨σ9, β9, ⟨he, hs9⟩, hC9⟩
  have hb9 := hC9.chg.belowW
  have g9 := hs9.good (X := κ.X0) hC9 (fun _ h => h)
  have hbe : Below w.heap.size w w9 := (hb3.mono (by omega)).trans (hb9.mono hb3.size)
  refine ⟨⟨[(6, .sl 2 2 [.raw (.bool B2), .ns .u64 X2, .raw (.bool B1), .ns .u64 X1]), (7, .ns .i64 [N - P, N - R]), (8, .raw (.int .i64 0))], []⟩, fun _ => none, ?_, ?_⟩
  · rcases he with rfl | rfl
    · exact PostL.mk trivial rfl
    · exact PostL.mk trivial rfl
  refine ⟨hC9.sz.trans hn.symm, fun t => ?_, hC9.dfr, fun id blk hi => (by cases hi), fun i j b c x y _ hx => (by cases hx), hch.below hbe, hx0⟩
  simp only [St.get]
  cases hl : Hl.lk ([(6, .sl 2 2 [.raw (.bool B2), .ns .u64 X2, .raw (.bool B1), .ns .u64 X1]), (7, .ns .i64 [N - P, N - R]), (8, .raw (.int .i64 0))] : List (Nat × AV)) t with
  | none => exact RI.any _
  | some v =>
    obtain ⟨h1, h2⟩ := g9.lk t v hl
    refine RV.of h1 (h2.keep (Keep.refl _ w9) (fun b _ hb => ?_))
    rcases hb with hb | ⟨_, _, _, hb, _⟩
    · exact hb
    · cases hb
theorem gaps_t1 {N P R : Int} {B1 B2 : Bool} {X1 X2 : List Int} (h1 : Lm X1 ∧ X1.length < 9500) (h2 : Lm X2 ∧ X2.length < 9500) (hN : 1 < N ∧ N < 9223372036854775808) (hP : 0 < P ∧ P < N) (hR : 0 < R ∧ R < N) (hPR : N < P + R)
    (hlt : zv B2 X2 = zv B1 X1) (hv : 0 < zv B2 X2) :
    AWp Try.prog (tab false) 117 (tl 10 (Try.f105.body.getD .skip)) (PostL (tab false) [.tmp 6, .tmp 7, .tmp 8] [69, 70, 64] (.tup [.sl 2 2 [.raw (.bool B2), .ns .u64 X2, .raw (.bool (decide (zv B2 X2 + zv B1 X1 < 0))), .ns .u64 (dg (zv B2 X2 + zv B1 X1).natAbs)], .ns .i64 [N - P + (N - R), P - (N - R)], .raw (.int .i64 0)]))
      ⟨[(2, .raw (.int .i64 N)), (15, .raw (.int .i64 P)), (17, .raw (.int .i64 R)), (16, .ptr 16 0), (18, .ptr 18 0)], [(16, ⟨true, .c [.raw (.bool B2), .ns .u64 X2]⟩), (18, ⟨true, .c [.raw (.bool B1), .ns .u64 X1]⟩)]⟩ := by
  have h1a := h1.1; have h1b := h1.2; have h2a := h2.1; have h2b := h2.2
  have hE := env (SOK.cons zadd_ok (SOK.nil (P := Try.prog)))
  intro κ β a w hn hm hC
  have hmu := hm rfl
  obtain ⟨p16, o16, C16, e16, q16, j16, g16⟩ := hC.vp0 (t := 16) (id := 16) rfl rfl
  obtain ⟨p18, o18, C18, e18, q18, j18, g18⟩ := hC.vp0 (t := 18) (id := 18) rfl rfl
  have xnot : ∀ p, (κ.w0.heap.size ≤ p ∨ κ.mu ≠ none) → κ.X0 p → False := fun p h hx => by
    have := hC.x0 p hx
    rcases h with h | h
    · omega
    · exact h hmu
  have q2 := RI.raw_inv (hC.rel 2)
  have q15 := RI.raw_inv (hC.rel 15)
  have q17 := RI.raw_inv (hC.rel 17)
  have s16 : RI w κ.X0 (.vp [.raw (.bool B2), .ns .u64 X2]) (a.tmps.getD 16 undef) := by
    rw [q16]; exact RI.vp_of (fun h0 h => xnot p16 (j16 h0).1 h) (CellsAt.weak' (fun _ _ h => .inl h) g16)
  have s18 : RI w κ.X0 (.vp [.raw (.bool B1), .ns .u64 X1]) (a.tmps.getD 18 undef) := by
    rw [q18]; exact RI.vp_of (fun h0 h => xnot p18 (j18 h0).1 h) (CellsAt.weak' (fun _ _ h => .inl h) g18)
  have sz : a.tmps.size = 117 := hC.sz.trans hn
  have df := hC.dfr
  have hch := hC.chg
  have hx0 := hC.x0
  have hw0 : κ.w0.heap.size ≤ w.heap.size := hC.chg.size
  clear hC q16 q18 g16 g18
  refine wp_seq (wp_region_list (wpList_value (x := .pointer (some ⟨w.heap.size, 0, none⟩)) (w' := (w.alloc (.cells #[.slice none 0 0] 69))) rfl ?_ (wpList_nil ?_)))
  · have v69 := Try.zeroValue69
    simp [execOp, go_sem, v69]
  refine wp_seq (wp_region_list (wpList_value (x := .pointer (some ⟨w.heap.size + 1, 0, none⟩)) (w' := ((w.alloc (.cells #[.slice none 0 0] 69)).alloc (.cells #[.slice none 0 0] 70))) rfl ?_ (wpList_nil ?_)))
  · have v70 := Try.zeroValue70
    simp [execOp, go_sem, v70]
  have e19 : ((a.put (some 19) (.pointer (some ⟨w.heap.size, 0, none⟩))).put (some 20) (.pointer (some ⟨w.heap.size + 1, 0, none⟩))).tmps.getD 19 undef = .pointer (some ⟨w.heap.size, 0, none⟩) := by
    rw [put_keep (by decide)]; exact put_at (by rw [sz]; decide)
  have e20 : ((a.put (some 19) (.pointer (some ⟨w.heap.size, 0, none⟩))).put (some 20) (.pointer (some ⟨w.heap.size + 1, 0, none⟩))).tmps.getD 20 undef = .pointer (some ⟨w.heap.size + 1, 0, none⟩) := put_at (by rw [put_size, sz]; decide)
  have ek : ∀ t, t ≠ 19 → t ≠ 20 → ((a.put (some 19) (.pointer (some ⟨w.heap.size, 0, none⟩))).put (some 20) (.pointer (some ⟨w.heap.size + 1, 0, none⟩))).tmps.getD t undef = a.tmps.getD t undef := fun t h1 h2 => by
    rw [put_keep (fun e => h2 (Option.some.inj e).symm), put_keep (fun e => h1 (Option.some.inj e).symm)]
  have esz : ((a.put (some 19) (.pointer (some ⟨w.heap.size, 0, none⟩))).put (some 20) (.pointer (some ⟨w.heap.size + 1, 0, none⟩))).tmps.size = 117 := by rw [put_size, put_size, sz]
  have edf : ((a.put (some 19) (.pointer (some ⟨w.heap.size, 0, none⟩))).put (some 20) (.pointer (some ⟨w.heap.size + 1, 0, none⟩))).defers = [] := by rw [put_defers, put_defers, df]
  show Code.wp _ _ _ ((a.put (some 19) (.pointer (some ⟨w.heap.size, 0, none⟩))).put (some 20) (.pointer (some ⟨w.heap.size + 1, 0, none⟩))) _
  generalize ((a.put (some 19) (.pointer (some ⟨w.heap.size, 0, none⟩))).put (some 20) (.pointer (some ⟨w.heap.size + 1, 0, none⟩))) = a2 at *
  refine wp_seq (wp_region_list (wpList_value (x := (Value.func (.func 146) #[] #[.pointer (some ⟨w.heap.size, 0, none⟩), .pointer (some ⟨w.heap.size + 1, 0, none⟩)])) (w' := ((w.alloc (.cells #[.slice none 0 0] 69)).alloc (.cells #[.slice none 0 0] 70))) rfl ?_ (wpList_value (x := (Value.func (.func 146) #[] #[.pointer (some ⟨w.heap.size, 0, none⟩), .pointer (some ⟨w.heap.size + 1, 0, none⟩)])) (w' := ((w.alloc (.cells #[.slice none 0 0] 69)).alloc (.cells #[.slice none 0 0] 70))) rfl ?_ (wpList_nil ?_))))
  · simp [execOp, go_sem, Act.eval, e19, e20]
  · have e92 : (a2.put (some 92) (Value.func (.func 146) #[] #[.pointer (some ⟨w.heap.size, 0, none⟩), .pointer (some ⟨w.heap.size + 1, 0, none⟩)])).tmps.getD 92 undef = (Value.func (.func 146) #[] #[.pointer (some ⟨w.heap.size, 0, none⟩), .pointer (some ⟨w.heap.size + 1, 0, none⟩)]) := put_at (by rw [esz]; decide)
    have e92' : (a2.put (some 92) (Value.func (.func 146) #[] #[.pointer (some ⟨w.heap.size, 0, none⟩), .pointer (some ⟨w.heap.size + 1, 0, none⟩)])).eval (.tmp 92) = (Value.func (.func 146) #[] #[.pointer (some ⟨w.heap.size, 0, none⟩), .pointer (some ⟨w.heap.size + 1, 0, none⟩)]) := e92
    show (execOp (a2.put (some 92) (Value.func (.func 146) #[] #[.pointer (some ⟨w.heap.size, 0, none⟩), .pointer (some ⟨w.heap.size + 1, 0, none⟩)])).eval _).run _ _ = _
    unfold execOp
    simp only [e92']
    simp [go_sem]
  obtain ⟨bl, ebl⟩ : ∃ bl, w.heap.size = bl := ⟨_, rfl⟩
  obtain ⟨bm, ebm⟩ : ∃ bm, w.heap.size + 1 = bm := ⟨_, rfl⟩
  obtain ⟨fv, efv⟩ : ∃ fv, (Value.func (.func 146) #[] #[.pointer (some ⟨w.heap.size, 0, none⟩), .pointer (some ⟨w.heap.size + 1, 0, none⟩)]) = fv := ⟨_, rfl⟩
  show Code.wp _ _ _ ((a2.put (some 92) (Value.func (.func 146) #[] #[.pointer (some ⟨w.heap.size, 0, none⟩), .pointer (some ⟨w.heap.size + 1, 0, none⟩)])).put (some 21) (Value.func (.func 146) #[] #[.pointer (some ⟨w.heap.size, 0, none⟩), .pointer (some ⟨w.heap.size + 1, 0, none⟩)])) _
  rw [efv]
  have f21 : ((a2.put (some 92) fv).put (some 21) fv).tmps.getD 21 undef = fv := put_at (by rw [put_size, esz]; decide)
  have fk : ∀ t, t ≠ 92 → t ≠ 21 → ((a2.put (some 92) fv).put (some 21) fv).tmps.getD t undef = a2.tmps.getD t undef := fun t h1 h2 => by
    rw [put_keep (fun e => h2 (Option.some.inj e).symm), put_keep (fun e => h1 (Option.some.inj e).symm)]
  have fsz : ((a2.put (some 92) fv).put (some 21) fv).tmps.size = 117 := by rw [put_size, put_size, esz]
  have fdf : ((a2.put (some 92) fv).put (some 21) fv).defers = [] := by rw [put_defers, put_defers, edf]
  generalize ((a2.put (some 92) fv).put (some 21) fv) = a3 at *
  have hb : Below w.heap.size w ((w.alloc (.cells #[.slice none 0 0] 69)).alloc (.cells #[.slice none 0 0] 70)) := ((Below.refl _ w).alloc (Nat.le_refl _) _).alloc (by rw [World.size_alloc]; omega) _
  have bxl : Boxed ((w.alloc (.cells #[.slice none 0 0] 69)).alloc (.cells #[.slice none 0 0] 70)) bl 69 (.slice none 0 0) := by rw [← ebl]; exact (Boxed.new w 69 _).alloc _
  have bxm : Boxed ((w.alloc (.cells #[.slice none 0 0] 69)).alloc (.cells #[.slice none 0 0] 70)) bm 70 (.slice none 0 0) := by
    have := Boxed.new (w.alloc (.cells #[.slice none 0 0] 69)) 70 (.slice none 0 0)
    rw [World.size_alloc, ebm] at this
    exact this
  obtain ⟨w2, ew2⟩ : ∃ w2, ((w.alloc (.cells #[.slice none 0 0] 69)).alloc (.cells #[.slice none 0 0] 70)) = w2 := ⟨_, rfl⟩
  rw [ew2] at hb bxl bxm ⊢
  have ri0 : ∀ {c : AV} {v : Value}, RI w κ.X0 c v → RI w2 (fun b => XP bl bm (.slice none 0 0) (.slice none 0 0) b ∨ κ.X0 b) c v := fun r => r.keep (keepOf _ hb) (fun b hbb hx => by
    rcases hx with (rfl | rfl | hx | hx) | hx
    · omega
    · omega
    · cases hx
    · cases hx
    · exact hx)
  rw [ebm, ebl] at efv
  have T0 : GT κ.X0 bl bm bl 0 [] [] (.slice none 0 0) (.slice none 0 0) [] [(2, .raw (.int .i64 N)), (15, .raw (.int .i64 P)), (17, .raw (.int .i64 R)), (16, .vp [.raw (.bool B2), .ns .u64 X2]), (18, .vp [.raw (.bool B1), .ns .u64 X1]), (19, .raw (.pointer (some ⟨bl, 0, none⟩))), (20, .raw (.pointer (some ⟨bm, 0, none⟩))), (21, .raw (.func (.func 146) #[] #[.pointer (some ⟨bl, 0, none⟩), .pointer (some ⟨bm, 0, none⟩)]))] a3 w2 := by
    refine ⟨fsz, fdf, bxl, bxm, World.ownsRow_nil _ _ _ _, World.ownsRow_nil _ _ _ _, fun b hb => Nat.lt_of_lt_of_le (hx0 b hb) (by omega), Nat.le_refl _, ⟨⟨rfl, ?_⟩, ⟨rfl, ?_⟩, ⟨rfl, ?_⟩, ⟨rfl, ?_⟩, ⟨rfl, ?_⟩, ⟨rfl, ?_⟩, ⟨rfl, ?_⟩, ⟨rfl, ?_⟩, trivial⟩, fun p hp => by cases hp⟩
    · show RI _ _ _ (a3.tmps.getD 2 undef)
      rw [fk 2 (by decide) (by decide), ek 2 (by decide) (by decide), q2]; exact RI.raw _
    · show RI _ _ _ (a3.tmps.getD 15 undef)
      rw [fk 15 (by decide) (by decide), ek 15 (by decide) (by decide), q15]; exact RI.raw _
    · show RI _ _ _ (a3.tmps.getD 17 undef)
      rw [fk 17 (by decide) (by decide), ek 17 (by decide) (by decide), q17]; exact RI.raw _
    · show RI _ _ _ (a3.tmps.getD 16 undef)
      rw [fk 16 (by decide) (by decide), ek 16 (by decide) (by decide)]; exact ri0 s16
    · show RI _ _ _ (a3.tmps.getD 18 undef)
      rw [fk 18 (by decide) (by decide), ek 18 (by decide) (by decide)]; exact ri0 s18
    · show RI _ _ _ (a3.tmps.getD 19 undef)
      rw [fk 19 (by decide) (by decide), e19, ebl]; exact RI.raw _
    · show RI _ _ _ (a3.tmps.getD 20 undef)
      rw [fk 20 (by decide) (by decide), e20, ebm]; exact RI.raw _
    · show RI _ _ _ (a3.tmps.getD 21 undef)
      rw [f21, ← efv]; exact RI.raw _
  have hlm : bl ≠ bm := by omega
  have hbm' : bl ≤ bm := by omega
  have hb0 : Below bl w w2 := by rw [← ebl]; exact hb
  clear ek fk e19 e20 f21 efv fsz fdf esz edf q2 q15 q17 s16 s18 ri0 bxl bxm hb ew2 sz df
  obtain ⟨vl0, evl⟩ : ∃ v : Value, v = .slice none 0 0 := ⟨_, rfl⟩
  obtain ⟨vm0, evm⟩ : ∃ v : Value, v = .slice none 0 0 := ⟨_, rfl⟩
  have T0 : GT κ.X0 bl bm bl 0 [] [] vl0 vm0 [] [(2, .raw (.int .i64 N)), (15, .raw (.int .i64 P)), (17, .raw (.int .i64 R)), (16, .vp [.raw (.bool B2), .ns .u64 X2]), (18, .vp [.raw (.bool B1), .ns .u64 X1]), (19, .raw (.pointer (some ⟨bl, 0, none⟩))), (20, .raw (.pointer (some ⟨bm, 0, none⟩))), (21, .raw (.func (.func 146) #[] #[.pointer (some ⟨bl, 0, none⟩), .pointer (some ⟨bm, 0, none⟩)]))] a3 w2 := by rw [evl, evm]; exact T0
  refine wp_seq (wp_region_lit ?_)
  refine wpList_seg (l := [_, _, _, _, _]) (K := fun σ => (σ.get 93 = .raw (.func (.func 146) #[] #[.pointer (some ⟨bl, 0, none⟩), .pointer (some ⟨bm, 0, none⟩)]) ∧ σ.get 94 = .agg [.raw (.bool (B2)), .ns .u64 (X2)] ∧ σ.get 97 = .raw (.int .i64 (N - P))) ∧ Has σ [(2, .raw (.int .i64 N)), (15, .raw (.int .i64 P)), (17, .raw (.int .i64 R)), (16, .vp [.raw (.bool B2), .ns .u64 X2]), (18, .vp [.raw (.bool B1), .ns .u64 X1]), (19, .raw (.pointer (some ⟨bl, 0, none⟩))), (20, .raw (.pointer (some ⟨bm, 0, none⟩))), (21, .raw (.func (.func 146) #[] #[.pointer (some ⟨bl, 0, none⟩), .pointer (some ⟨bm, 0, none⟩)]))]) hE rfl T0.conc (by kernel_rfl) ?_ ?_
  · clear T0
    refine wk hE trivial ?_
    exact ⟨⟨rfl, rfl, rfl⟩, ⟨rfl, rfl⟩, ⟨rfl, rfl⟩, ⟨rfl, rfl⟩, ⟨rfl, rfl⟩, ⟨rfl, rfl⟩, ⟨rfl, rfl⟩, ⟨rfl, rfl⟩, ⟨rfl, rfl⟩, trivial⟩
  intro σ0 β0 b0 u0 ⟨⟨kf, kx, kk⟩, kh⟩ hC0
  obtain ⟨S0, hbe⟩ := T0.seg hC0 kh
  have rf := hC0.rel 93
  rw [kf] at rf
  have rf := RI.raw_inv rf
  have rk := hC0.rel 97
  rw [kk] at rk
  have rk := RI.raw_inv rk
  have rx := hC0.rel 94
  rw [kx] at rx
  have rx : RI _ _ _ _ := rx
  obtain ⟨s0, ex, rx⟩ := RI.num_agg rx
  have rx : RI u0 (fun b => XP bl bm vl0 vm0 b ∨ κ.X0 b) (.ns .u64 (X2)) s0 := rx.keep (Keep.refl _ _) (fun _ _ h => .inl h)
  have fl : ∀ {c : AV} {v : Value}, RI u0 (fun b => XP bl bm vl0 vm0 b ∨ κ.X0 b) c v → RI u0 (fun _ => False) c v := fun r => r.keep (Keep.refl _ _) (fun _ _ h => h.elim)
  have hcall := put_0 (b := (B2)) (s := s0) u0 S0.hl S0.hm hlm (Nat.le_refl _) hbm' (show 0 < N - P by omega) (by omega) h2.1 (fl rx) evl S0.rL S0.rM
  refine wpList_callv (f := 146) (vs := #[.agg #[.bool (B2), s0], .int .i64 (N - P), .pointer (some ⟨bl, 0, none⟩), .pointer (some ⟨bm, 0, none⟩)]) rfl ?_ ?_
  · have e1 := rf; rw [Array.getD_eq_getD_getElem?] at e1
    have e2 := ex; rw [Array.getD_eq_getD_getElem?] at e2
    have e3 := rk; rw [Array.getD_eq_getD_getElem?] at e3
    simp [execOp, go_sem, e1, e2, e3]
  refine hcall.mono ?_
  rintro e w3 ⟨⟨v, rfl⟩, hp⟩
  refine ⟨v, rfl, wpList_nil ?_⟩
  obtain ⟨vl1, vm1, T1⟩ := S0.call hp (d := 98) (v := v) (by intro p hp e; simp only [List.mem_cons, List.not_mem_nil, or_false] at hp; rcases hp with rfl | rfl | rfl | rfl | rfl | rfl | rfl | rfl <;> cases e) rx
  have hb1 : Below bl w w3 := (hb0.trans (hbe.mono (by have := T0.hl.lt; omega))).trans hp.below
  show Code.wp _ _ _ (b0.put (some 98) v) _
  generalize (b0.put (some 98) v) = a4 at *
  clear hp hcall fl rx ex kx rk kk rf kf kh hbe S0 T0 hC0 hb0
  have c1 : cmpZ (zv B2 X2) (zv B1 X1) = 0 := by rw [hlt]; unfold cmpZ; rw [if_neg (Int.lt_irrefl _), if_neg (Int.lt_irrefl _)]
  refine wp_seq (wp_region_lit ?_)
  refine wpList_seg (l := [_, _, _, _, _]) (K := fun σ => (σ.get 99 = .raw (.func (.func 146) #[] #[.pointer (some ⟨bl, 0, none⟩), .pointer (some ⟨bm, 0, none⟩)]) ∧ σ.get 100 = .agg [.raw (.bool (B1)), .ns .u64 (X1)] ∧ σ.get 103 = .raw (.int .i64 (N - R))) ∧ Has σ [(2, .raw (.int .i64 N)), (15, .raw (.int .i64 P)), (17, .raw (.int .i64 R)), (16, .vp [.raw (.bool B2), .ns .u64 X2]), (18, .vp [.raw (.bool B1), .ns .u64 X1]), (19, .raw (.pointer (some ⟨bl, 0, none⟩))), (20, .raw (.pointer (some ⟨bm, 0, none⟩))), (21, .raw (.func (.func 146) #[] #[.pointer (some ⟨bl, 0, none⟩), .pointer (some ⟨bm, 0, none⟩)]))]) hE rfl T1.conc (by kernel_rfl) ?_ ?_
  · clear T1
    refine wk hE trivial ?_
    exact ⟨⟨rfl, rfl, rfl⟩, ⟨rfl, rfl⟩, ⟨rfl, rfl⟩, ⟨rfl, rfl⟩, ⟨rfl, rfl⟩, ⟨rfl, rfl⟩, ⟨rfl, rfl⟩, ⟨rfl, rfl⟩, ⟨rfl, rfl⟩, trivial⟩
  intro σ1 β1 b1 u1 ⟨⟨kf, kx, kk⟩, kh⟩ hC1
  obtain ⟨S1, hbe⟩ := T1.seg hC1 kh
  have rf := hC1.rel 99
  rw [kf] at rf
  have rf := RI.raw_inv rf
  have rk := hC1.rel 103
  rw [kk] at rk
  have rk := RI.raw_inv rk
  have rx := hC1.rel 100
  rw [kx] at rx
  have rx : RI _ _ _ _ := rx
  obtain ⟨s1, ex, rx⟩ := RI.num_agg rx
  have rx : RI u1 (fun b => XP bl bm vl1 vm1 b ∨ κ.X0 b) (.ns .u64 (X1)) s1 := rx.keep (Keep.refl _ _) (fun _ _ h => .inl h)
  have fl : ∀ {c : AV} {v : Value}, RI u1 (fun b => XP bl bm vl1 vm1 b ∨ κ.X0 b) c v → RI u1 (fun _ => False) c v := fun r => r.keep (Keep.refl _ _) (fun _ _ h => h.elim)
  have hcall := put_e (b := (B1)) (s := s1) u1 S1.hl S1.hm hlm (Nat.le_refl _) hbm' (show 0 < N - R by omega) (by omega) h1.1 (fl rx) h2.1 (fl (S1.yr (.ns .u64 X2, s0) (by simp))) (c1) ⟨by omega, by omega⟩ S1.rL S1.rM
  refine wpList_callv (f := 146) (vs := #[.agg #[.bool (B1), s1], .int .i64 (N - R), .pointer (some ⟨bl, 0, none⟩), .pointer (some ⟨bm, 0, none⟩)]) rfl ?_ ?_
  · have e1 := rf; rw [Array.getD_eq_getD_getElem?] at e1
    have e2 := ex; rw [Array.getD_eq_getD_getElem?] at e2
    have e3 := rk; rw [Array.getD_eq_getD_getElem?] at e3
    simp [execOp, go_sem, e1, e2, e3]
  refine hcall.mono ?_
  rintro e w4 ⟨⟨v, rfl⟩, hp⟩
  refine ⟨v, rfl, wpList_nil ?_⟩
  obtain ⟨vl2, vm2, T2⟩ := S1.call' hp (d := 104) (v := v) (by intro p hp e; simp only [List.mem_cons, List.not_mem_nil, or_false] at hp; rcases hp with rfl | rfl | rfl | rfl | rfl | rfl | rfl | rfl <;> cases e) rx
  have hb2 : Below bl w w4 := (hb1.trans (hbe.mono (by have := T1.hl.lt; omega))).trans hp.below
  show Code.wp _ _ _ (b1.put (some 104) v) _
  generalize (b1.put (some 104) v) = a5 at *
  clear hp hcall fl rx ex kx rk kk rf kf kh hbe S1 T1 hC1 hb1
  obtain ⟨S, eS⟩ : ∃ S, zv B2 X2 + zv B1 X1 = S := ⟨_, rfl⟩
  have hS : zv B1 X1 < S := by omega
  have bS : Lm (dg S.natAbs) := by
    have b1 := zv_abs_lt (b := B1) h1.1 (l := 9500) (by omega)
    have b2 := zv_abs_lt (b := B2) h2.1 (l := 9500) (by omega)
    have h3 := powA b2 b1
    have h4 : S.natAbs < B64 ^ (9500 + 1) := by omega
    exact (dgl h4 (by omega)).1
  have c2 : cmpZ (zv B2 X2) (zv (decide (S < 0)) (dg S.natAbs)) = -1 := by rw [zv_zi]; exact cmp_m1 (by omega)
  refine wp_seq (wp_region_lit ?_)
  refine wpList_seg (l := [_, _, _, _, _, _, _, _, _]) (K := fun σ => (σ.get 105 = .raw (.func (.func 146) #[] #[.pointer (some ⟨bl, 0, none⟩), .pointer (some ⟨bm, 0, none⟩)]) ∧ σ.get 108 = .agg [.raw (.bool (decide (S < 0))), .ns .u64 (dg S.natAbs)] ∧ σ.get 113 = .raw (.int .i64 (P - (N - R)))) ∧ Has σ [(2, .raw (.int .i64 N)), (15, .raw (.int .i64 P)), (17, .raw (.int .i64 R)), (16, .vp [.raw (.bool B2), .ns .u64 X2]), (18, .vp [.raw (.bool B1), .ns .u64 X1]), (19, .raw (.pointer (some ⟨bl, 0, none⟩))), (20, .raw (.pointer (some ⟨bm, 0, none⟩))), (21, .raw (.func (.func 146) #[] #[.pointer (some ⟨bl, 0, none⟩), .pointer (some ⟨bm, 0, none⟩)]))]) hE rfl T2.conc (by kernel_rfl) ?_ ?_
  · clear T2
    refine wk hE eS ?_
    exact ⟨⟨rfl, rfl, rfl⟩, ⟨rfl, rfl⟩, ⟨rfl, rfl⟩, ⟨rfl, rfl⟩, ⟨rfl, rfl⟩, ⟨rfl, rfl⟩, ⟨rfl, rfl⟩, ⟨rfl, rfl⟩, ⟨rfl, rfl⟩, trivial⟩
  intro σ2 β2 b2 u2 ⟨⟨kf, kx, kk⟩, kh⟩ hC2
  obtain ⟨S2, hbe⟩ := T2.seg hC2 kh
  have rf := hC2.rel 105
  rw [kf] at rf
  have rf := RI.raw_inv rf
  have rk := hC2.rel 113
  rw [kk] at rk
  have rk := RI.raw_inv rk
  have rx := hC2.rel 108
  rw [kx] at rx
  have rx : RI _ _ _ _ := rx
  obtain ⟨s2, ex, rx⟩ := RI.num_agg rx
  have rx : RI u2 (fun b => XP bl bm vl2 vm2 b ∨ κ.X0 b) (.ns .u64 (dg S.natAbs)) s2 := rx.keep (Keep.refl _ _) (fun _ _ h => .inl h)
  have fl : ∀ {c : AV} {v : Value}, RI u2 (fun b => XP bl bm vl2 vm2 b ∨ κ.X0 b) c v → RI u2 (fun _ => False) c v := fun r => r.keep (Keep.refl _ _) (fun _ _ h => h.elim)
  have hcall := put_1 (b := (decide (S < 0))) (s := s2) u2 S2.hl S2.hm hlm (Nat.le_refl _) hbm' (show 0 < P - (N - R) by omega) (by omega) bS (fl rx) h2.1 (fl (S2.yr (.ns .u64 X2, s0) (by simp))) (c2) S2.rL S2.rM
  refine wpList_callv (f := 146) (vs := #[.agg #[.bool (decide (S < 0)), s2], .int .i64 (P - (N - R)), .pointer (some ⟨bl, 0, none⟩), .pointer (some ⟨bm, 0, none⟩)]) rfl ?_ ?_
  · have e1 := rf; rw [Array.getD_eq_getD_getElem?] at e1
    have e2 := ex; rw [Array.getD_eq_getD_getElem?] at e2
    have e3 := rk; rw [Array.getD_eq_getD_getElem?] at e3
    simp [execOp, go_sem, e1, e2, e3]
  refine hcall.mono ?_
  rintro e w5 ⟨⟨v, rfl⟩, hp⟩
  refine ⟨v, rfl, wpList_nil ?_⟩
  obtain ⟨vl3, vm3, T3⟩ := S2.call hp (d := 114) (v := v) (by intro p hp e; simp only [List.mem_cons, List.not_mem_nil, or_false] at hp; rcases hp with rfl | rfl | rfl | rfl | rfl | rfl | rfl | rfl <;> cases e) rx
  have hb3 : Below bl w w5 := (hb2.trans (hbe.mono (by have := T2.hl.lt; omega))).trans hp.below
  show Code.wp _ _ _ (b2.put (some 114) v) _
  generalize (b2.put (some 114) v) = a6 at *
  clear hp hcall fl rx ex kx rk kk rf kf kh hbe S2 T2 hC2 hb2
  rw [eS]
  have hXb : ∀ b, κ.X0 b → b < bl := fun b hb => Nat.lt_of_lt_of_le (hx0 b hb) (by omega)
  have kx : ∀ {c : AV} {v : Value}, RI w5 (fun b => XP bl bm vl3 vm3 b ∨ κ.X0 b) c v → RI w5 κ.X0 c v := fun r => r.keep (Keep.refl _ _) (fun _ _ h => .inr h)
  have rl := ri_rows (cs := [.raw (.bool B2), .ns .u64 X2, .raw (.bool (decide (S < 0))), .ns .u64 (dg S.natAbs)]) hXb T3.rL (by decide) rfl (fun j c hj => by
    have y0 := kx (T3.yr (.ns .u64 X2, s0) (by simp))
    have y2 := kx (T3.yr (.ns .u64 (dg S.natAbs), s2) (by simp))
    rcases j with _ | _ | _ | _ | j
    · cases hj; exact ⟨_, rfl, RI.raw _⟩
    · cases hj; exact ⟨_, rfl, y0⟩
    · cases hj; exact ⟨_, rfl, RI.raw _⟩
    · cases hj; exact ⟨_, rfl, y2⟩
    · cases hj)
  have rm : RI w5 κ.X0 (.ns .i64 [N - P + (N - R), P - (N - R)]) vm3 := ri_row (T := [N - P + (N - R), P - (N - R)]) hXb T3.rM
  have G3 : Good κ.X0 a6 w5 [(19, .vp [.sl 2 2 [.raw (.bool B2), .ns .u64 X2, .raw (.bool (decide (S < 0))), .ns .u64 (dg S.natAbs)]]), (20, .vp [.ns .i64 [N - P + (N - R), P - (N - R)]])] := by
    refine ⟨⟨rfl, ?_⟩, ⟨rfl, ?_⟩, trivial⟩
    · show RI _ _ _ (a6.tmps.getD 19 undef)
      rw [T3.gd.fn2 (t := 19) rfl]
      exact ri_vp1 T3.hl.cell (fun h => by have := hXb _ h; omega) rl
    · show RI _ _ _ (a6.tmps.getD 20 undef)
      rw [T3.gd.fn2 (t := 20) rfl]
      exact ri_vp1 T3.hm.cell (fun h => by have := hXb _ h; omega) rm
  have hC := G3.conc (n := 117) T3.sz T3.df (fun b hb => by have := hXb b hb; have := T3.hl.lt; omega)
  clear T3 G3 rl rm kx bS c1 c2 hS
  refine wp_of_awp (T := tab false) (Q := fun e σ => (e = .normal ∨ e = .ret) ∧ Has σ [(6, .sl 2 2 [.raw (.bool B2), .ns .u64 X2, .raw (.bool (decide (S < 0))), .ns .u64 (dg S.natAbs)]), (7, .ns .i64 [N - P + (N - R), P - (N - R)]), (8, .raw (.int .i64 0))]) ?_ rfl rfl hC ?_
  · clear hC
    refine wk hE trivial ?_
    exact ⟨.inr rfl, ⟨rfl, rfl⟩, ⟨rfl, rfl⟩, ⟨rfl, rfl⟩, trivial⟩
  rintro e b9 w9 ⟨σ9, β9, ⟨he, hs9⟩, hC9⟩
  have hb9 := hC9.chg.belowW
  have g9 := hs9.good (X := κ.X0) hC9 (fun _ h => h)
  have hbe : Below w.heap.size w w9 := (hb3.mono (by omega)).trans (hb9.mono hb3.size)
  refine ⟨⟨[(6, .sl 2 2 [.raw (.bool B2), .ns .u64 X2, .raw (.bool (decide (S < 0))), .ns .u64 (dg S.natAbs)]), (7, .ns .i64 [N - P + (N - R), P - (N - R)]), (8, .raw (.int .i64 0))], []⟩, fun _ => none, ?_, ?_⟩
  · rcases he with rfl | rfl
    · exact PostL.mk trivial rfl
    · exact PostL.mk trivial rfl
  refine ⟨hC9.sz.trans hn.symm, fun t => ?_, hC9.dfr, fun id blk hi => (by cases hi), fun i j b c x y _ hx => (by cases hx), hch.below hbe, hx0⟩
  simp only [St.get]
  cases hl : Hl.lk ([(6, .sl 2 2 [.raw (.bool B2), .ns .u64 X2, .raw (.bool (decide (S < 0))), .ns .u64 (dg S.natAbs)]), (7, .ns .i64 [N - P + (N - R), P - (N - R)]), (8, .raw (.int .i64 0))] : List (Nat × AV)) t with
  | none => exact RI.any _
  | some v =>
    obtain ⟨h1, h2⟩ := g9.lk t v hl
    refine RV.of h1 (h2.keep (Keep.refl _ w9) (fun b _ hb => ?_))
    rcases hb with hb | ⟨_, _, _, hb, _⟩
    · exact hb
    · cases hb
end Go.Hl

namespace Go.Hl
open Go Go.RowKit Go.Proofs
set_option maxHeartbeats 3200000
set_option maxRecDepth 100000
structure GapsV (A M N G Q v1 v2 k1 k2 : Int) : Prop where
  hM : 1 ≤ M
  hN : 1 < N
  hN2 : N < 9223372036854775808
  eG : (Nat.gcd A.natAbs M.natAbs : Int) = G
  gG : 1 ≤ G
  eQ : M / G = Q
  lQ : N < Q
  eK1 : mK A A M (N - 1) = k1
  eV1 : mV A A M (N - 1) = v1
  eK2 : mK (-A) (-A) M (N - 1) = k2
  eV2 : mV (-A) (-A) M (N - 1) = v2
  r1 : 0 ≤ k1 ∧ k1 < N - 1
  r2 : 0 ≤ k2 ∧ k2 < N - 1
  s1 : 0 ≤ v1 ∧ v1 < M
  s2 : 0 ≤ v2 ∧ v2 < M
  lt : v1 ≤ v2
theorem gaps_b {b0 b1 : Bool} {x0 x1 : List Int} {N A M G Q v1 v2 k1 k2 : Int} (h0 : Lm x0 ∧ x0.length < 9000) (h1 : Lm x1 ∧ x1.length < 9000) (eA : zv b0 x0 = A) (eM : zv b1 x1 = M) (W : GapsV A M N G Q v1 v2 k1 k2) (r : AV)
    (hT : Lm (dg v1.natAbs) ∧ (dg v1.natAbs).length < 9500 → Lm (dg v2.natAbs) ∧ (dg v2.natAbs).length < 9500 → AWp Try.prog (tab false) 117 (tl 10 (Try.f105.body.getD .skip)) (PostL (tab false) [.tmp 6, .tmp 7, .tmp 8] [69, 70, 64] r) ⟨[(2, .raw (.int .i64 N)), (15, .raw (.int .i64 (k1 + 1))), (17, .raw (.int .i64 (k2 + 1))), (16, .ptr 16 0), (18, .ptr 18 0)], [(16, ⟨true, .c [.raw (.bool (decide (v1 < 0))), .ns .u64 (dg v1.natAbs)]⟩), (18, ⟨true, .c [.raw (.bool (decide (v2 < 0))), .ns .u64 (dg v2.natAbs)]⟩)]⟩) :
    ACall Try.prog 105 [.agg [.raw (.bool b0), .ns .u64 x0], .agg [.raw (.bool b1), .ns .u64 x1], .raw (.int .i64 N)] r := by
  have hE := env (SOK.cons sign_ok (SOK.cons zgcd_ok (SOK.cons zdivmod_ok (SOK.cons of_ok (SOK.cons zcmp_ok (SOK.cons least_ok (SOK.cons zneg_ok (SOK.nil (P := Try.prog)))))))))
  obtain ⟨hM, hN, hN2, eG, gG, eQ, lQ, eK1, eV1, eK2, eV2, r1, r2, s1, s2, lt⟩ := W
  obtain ⟨h0, h0l⟩ := h0
  obtain ⟨h1, h1l⟩ := h1
  have bA := zv_abs_lt (b := b0) h0 (l := 9000) (by omega)
  have bM := zv_abs_lt (b := b1) h1 (l := 9000) (by omega)
  rw [eA] at bA
  rw [eM] at bM
  have fitM : ∀ z : Int, 0 ≤ z → z ≤ M → Lm (dg z.natAbs) ∧ (dg z.natAbs).length < 9500 := fun z hz hzM => by
    have : z.natAbs < B64 ^ 9000 := by omega
    obtain ⟨f1, _, f2⟩ := dgl this (by omega)
    exact ⟨f1, by omega⟩
  have hGM : G ≤ M := by
    rw [← eG]
    have : Nat.gcd A.natAbs M.natAbs ≤ M.natAbs := Nat.gcd_le_right _ (by omega)
    omega
  have hQ0 : 0 ≤ Q := by omega
  have hQM : Q ≤ M := by rw [← eQ]; exact Int.ediv_le_self _ (by omega)
  obtain ⟨og1, og2⟩ := fitM G (by omega) hGM
  obtain ⟨oq1, oq2⟩ := fitM Q (by omega) hQM
  obtain ⟨ov1, ov2⟩ := fitM v1 s1.1 (by omega)
  obtain ⟨ow1, ow2⟩ := fitM v2 s2.1 (by omega)
  obtain ⟨R, eR⟩ : ∃ R, rz M G = R := ⟨_, rfl⟩
  obtain ⟨A', eA'⟩ : ∃ A', -A = A' := ⟨_, rfl⟩
  have bA' : A'.natAbs < B64 ^ 9000 := by rw [← eA']; omega
  obtain ⟨oa1, _, oa2⟩ := dgl bA' (by omega)
  have bn : N.natAbs < B64 ^ 1 := by rw [Nat.pow_one]; unfold B64; omega
  obtain ⟨on1, _, on2⟩ := dgl bn (by omega)
  have d1 : ¬ M.sign < 1 := fun h => by have := sign_lt1.1 h; omega
  have d2 : ¬ 0 ≤ cmpZ N Q := fun h => by have := cmp_ge0.1 h; omega
  rw [eA'] at eK2 eV2
  clear fitM bn bA bA' hGM
  refine ACall.body hE Try.func105 Try.ntmps105 Try.results105 ?_
  have d3 : ¬ N < 1 := by omega
  refine wk hE (And.intro eA (And.intro eM (And.intro d1 (And.intro d3 (And.intro eG (And.intro eQ (And.intro eR d2))))))) ?_
  have hn1 : ¬ N = 1 := by omega
  refine AWp.test trivial (fun hc => absurd (of_decide_eq_true hc) hn1) (fun _ => ?_)
  refine AWp.skip ?_
  change AWp _ _ _ (.seq _ _) _ _
  have hM0 : 0 < M := by omega
  refine wkR hE (And.intro eA (And.intro eM (And.intro eK1 eV1))) ?_
  refine AWp.seqJ (ι := Unit) (fun _ => ⟨[(2, .raw (.int .i64 N)), (15, .raw (.int .i64 k1)), (17, .raw (.int .i64 k2)), (16, .ptr 16 0), (18, .ptr 18 0)], [(16, ⟨true, .c [.raw (.bool (decide (v1 < 0))), .ns .u64 (dg v1.natAbs)]⟩), (18, ⟨true, .c [.raw (.bool (decide (v2 < 0))), .ns .u64 (dg v2.natAbs)]⟩)]⟩) ?_ (fun _ => ?_)
  · refine AWp.regionA [(3, 3), (4, 4)] [(18, 11)] hE.hT hE.hS hE.hm ?_ (wk hE (And.intro eA (And.intro eA' (And.intro eM (And.intro eK2 eV2)))) ?_)
    · intro p i h
      simp only [lk] at h
      split at h
      · rename_i e; cases h; subst e; exact ⟨0, rfl⟩
      split at h
      · rename_i e; cases h; subst e; exact ⟨0, rfl⟩
      · cases h
    exact ⟨(), Le.mk trivial⟩
  have hf1 : -9223372036854775808 ≤ k1 + 1 ∧ k1 + 1 < 9223372036854775808 := by omega
  refine wk hE trivial ?_
  refine AWp.test trivial (fun hc => absurd (of_decide_eq_true hc) (show ¬ 0 < cmpZ v1 v2 from fun h => by have := cmp_gt0.1 h; omega)) (fun _ => ?_)
  refine AWp.joinE (fun (_ : Unit) => ⟨[(2, .raw (.int .i64 N)), (15, .raw (.int .i64 (k1 + 1))), (17, .raw (.int .i64 (k2 + 1))), (16, .ptr 16 0), (18, .ptr 18 0)], [(16, ⟨true, .c [.raw (.bool (decide (v1 < 0))), .ns .u64 (dg v1.natAbs)]⟩), (18, ⟨true, .c [.raw (.bool (decide (v2 < 0))), .ns .u64 (dg v2.natAbs)]⟩)]⟩) ?_ (fun _ => ?_)
  · refine AWp.skip ?_
    exact ⟨(), Le.mk trivial⟩
  exact hT ⟨ov1, ov2⟩ ⟨ow1, ow2⟩
def cellsZ : List Int → List AV
  | [] => []
  | z :: t => .raw (.bool (decide (z < 0))) :: .ns .u64 (dg z.natAbs) :: cellsZ t
noncomputable def gRes (a m n : Int) : AV := if badL m n then .tup [.nul, .ns .i64 [], .raw (.int .i64 1)] else .tup [.sl 2 (gL a m n).length (cellsZ ((gL a m n).map (·.1))), .ns .i64 ((gL a m n).map (·.2)), .raw (.int .i64 0)]
@[push_cast] noncomputable def spGaps : Sp := spZZI 0 (fun _ x0 _ x1 n => (Lm x0 ∧ x0.length < 9000) ∧ (Lm x1 ∧ x1.length < 9000) ∧ -9223372036854775808 ≤ n ∧ n < 9223372036854775808) (fun b0 x0 b1 x1 n => gRes (zv b0 x0) (zv b1 x1) n)
theorem gaps_all {b0 b1 : Bool} {x0 x1 : List Int} {N A M G Q : Int} (h0 : Lm x0 ∧ x0.length < 9000) (h1 : Lm x1 ∧ x1.length < 9000) (eA : zv b0 x0 = A) (eM : zv b1 x1 = M) (hM : 1 ≤ M) (hN : 1 ≤ N) (hN2 : N < 9223372036854775808) (eG : (Nat.gcd A.natAbs M.natAbs : Int) = G) (gG : 1 ≤ G ∧ G ≤ M) (eQ : M / G = Q) (lQ : 1 ≤ Q ∧ Q ≤ M) :
    (Q ≤ N → ACall Try.prog 105 [.agg [.raw (.bool b0), .ns .u64 x0], .agg [.raw (.bool b1), .ns .u64 x1], .raw (.int .i64 N)] (.tup [.sl 2 1 [.raw (.bool (decide (G < 0))), .ns .u64 (dg G.natAbs)], .ns .i64 [Q], .raw (.int .i64 0)])) ∧
    (N < Q → N = 1 → ACall Try.prog 105 [.agg [.raw (.bool b0), .ns .u64 x0], .agg [.raw (.bool b1), .ns .u64 x1], .raw (.int .i64 N)] (.tup [.sl 2 1 [.raw (.bool (decide (M < 0))), .ns .u64 (dg M.natAbs)], .ns .i64 [1], .raw (.int .i64 0)])) := by
  have hE := env (SOK.cons sign_ok (SOK.cons zgcd_ok (SOK.cons zdivmod_ok (SOK.cons of_ok (SOK.cons zcmp_ok (SOK.cons small_ok (SOK.cons znorm_ok (SOK.nil (P := Try.prog)))))))))
  obtain ⟨h0, h0l⟩ := h0
  obtain ⟨h1, h1l⟩ := h1
  have bA := zv_abs_lt (b := b0) h0 (l := 9000) (by omega)
  have bM := zv_abs_lt (b := b1) h1 (l := 9000) (by omega)
  rw [eA] at bA
  rw [eM] at bM
  have fitM : ∀ z : Int, 0 ≤ z → z ≤ M → Lm (dg z.natAbs) ∧ (dg z.natAbs).length < 9500 := fun z hz hzM => by
    have : z.natAbs < B64 ^ 9000 := by omega
    obtain ⟨f1, _, f2⟩ := dgl this (by omega)
    exact ⟨f1, by omega⟩
  obtain ⟨og1, og2⟩ := fitM G (by omega) gG.2
  obtain ⟨oq1, oq2⟩ := fitM Q (by omega) lQ.2
  obtain ⟨R, eR⟩ : ∃ R, rz M G = R := ⟨_, rfl⟩
  have bn : N.natAbs < B64 ^ 1 := by rw [Nat.pow_one]; unfold B64; omega
  obtain ⟨on1, _, on2⟩ := dgl bn (by omega)
  have d1 : ¬ M.sign < 1 := fun h => by have := sign_lt1.1 h; omega
  have d3 : ¬ N < 1 := by omega
  clear fitM bn bA
  constructor
  · intro hQ
    have d2 : 0 ≤ cmpZ N Q := cmp_ge0.2 hQ
    have hfit : fits64 Q = true := decide_eq_true (by omega)
    refine ACall.body hE Try.func105 Try.ntmps105 Try.results105 ?_
    refine wk hE (And.intro eA (And.intro eM (And.intro d1 (And.intro d3 (And.intro eG (And.intro eQ (And.intro eR (And.intro d2 hfit)))))))) ?_
    exact PostL.mk trivial rfl
  · intro hQ h1'
    subst h1'
    have d2 : ¬ 0 ≤ cmpZ 1 Q := fun h => by have := cmp_ge0.1 h; omega
    have hone : zv false (dg (Int.natAbs 1)) = 1 := zv_zi 1
    refine ACall.body hE Try.func105 Try.ntmps105 Try.results105 ?_
    refine wk hE (And.intro eA (And.intro eM (And.intro d1 (And.intro d3 (And.intro eG (And.intro eQ (And.intro eR (And.intro hone d2)))))))) ?_
    exact PostL.mk trivial rfl
theorem gaps_ok : SpOK Try.prog 105 spGaps := by
  refine SpOK.ZZI fun b0 x0 b1 x1 N ⟨h0, h1, n1, n2⟩ => ?_
  obtain ⟨A, eA⟩ : ∃ A, zv b0 x0 = A := ⟨_, rfl⟩
  obtain ⟨M, eM⟩ : ∃ M, zv b1 x1 = M := ⟨_, rfl⟩
  rw [eA, eM]
  unfold gRes
  by_cases hb : badL M N
  · rw [if_pos hb]
    have hE := env (SOK.cons sign_ok (SOK.nil (P := Try.prog)))
    have h1a := h1.1
    have h1b := h1.2
    refine ACall.body hE Try.func105 Try.ntmps105 Try.results105 ?_
    by_cases c1 : M < 1
    · refine wk hE (And.intro eM (sign_lt1.2 c1)) ?_
      exact PostL.mk trivial rfl
    have d1 : ¬ M.sign < 1 := fun h => c1 (sign_lt1.1 h)
    have c2 : N < 1 := by unfold badL at hb; omega
    refine wk hE (And.intro eM (And.intro d1 c2)) ?_
    exact PostL.mk trivial rfl
  rw [if_neg hb]
  have hM : 1 ≤ M := by unfold badL at hb; omega
  have hN : 1 ≤ N := by unfold badL at hb; omega
  have hg := gG_pos (a := A) (show 0 < M by omega)
  have ha := gAll_mul (a := A) (show 0 < M by omega)
  have hall := gaps_all h0 h1 eA eM hM hN n2 (G := gG A M) (Q := gAll A M) rfl hg rfl ha.2
  by_cases hQ : gAll A M ≤ N
  · have e : gL A M N = [(gG A M, gAll A M)] := by unfold gL; rw [if_neg hb, if_pos hQ]
    rw [e]
    exact hall.1 hQ
  by_cases hN1 : N = 1
  · have e : gL A M N = [(M, 1)] := by unfold gL; rw [if_neg hb, if_neg hQ, if_pos hN1]
    rw [e]
    exact hall.2 (by omega) hN1
  have e : gL A M N = gMain A M N := by unfold gL; rw [if_neg hb, if_neg hQ, if_neg hN1]
  rw [e]
  obtain ⟨p, q, u, v, T⟩ := tg_of (a := A) (N := N) (show 0 < M by omega) (by omega) (by show N < gAll A M; omega)
  rw [gMain_tg T]
  obtain ⟨l1, l2, l3, l4⟩ := T.least
  have t1 := T.eqlt (by omega)
  obtain ⟨p0, p1, q0, q1, u0, u1, v0, v1, eu, ev, mu, mv, det, cov⟩ := T
  clear eu ev mu mv det
  by_cases hlt : v < u
  · rw [if_pos hlt]
    have hW : GapsW A M N (gG A M) (gAll A M) u v (p - 1) (q - 1) := ⟨hM, by omega, n2, rfl, hg.1, rfl, by omega, l2, l1, l4, l3, by omega, by omega, by omega, by omega, hlt⟩
    refine gaps_a h0 h1 eA eM hW _ (fun o1 o2 => ?_)
    rw [show p - 1 + 1 = p by omega, show q - 1 + 1 = q by omega]
    unfold gTri
    rw [if_neg (by omega)]
    split
    · have h := gaps_t2 (N := N) (P := q) (R := p) (B1 := decide (u < 0)) (B2 := decide (v < 0)) o1 o2 ⟨by omega, n2⟩ ⟨by omega, by omega⟩ ⟨by omega, by omega⟩ (by omega) (by rw [zv_zi, zv_zi]; exact hlt) (by rw [zv_zi]; exact v0)
      exact h
    · have h := gaps_t (N := N) (P := q) (R := p) (B1 := decide (u < 0)) (B2 := decide (v < 0)) o1 o2 ⟨by omega, n2⟩ ⟨by omega, by omega⟩ ⟨by omega, by omega⟩ (by omega) (by rw [zv_zi, zv_zi]; exact hlt) (by rw [zv_zi]; exact v0)
      rw [zv_zi, zv_zi] at h
      exact h
  · rw [if_neg hlt]
    have hW : GapsV A M N (gG A M) (gAll A M) u v (p - 1) (q - 1) := ⟨hM, by omega, n2, rfl, hg.1, rfl, by omega, l2, l1, l4, l3, by omega, by omega, by omega, by omega, by omega⟩
    refine gaps_b h0 h1 eA eM hW _ (fun o1 o2 => ?_)
    rw [show p - 1 + 1 = p by omega, show q - 1 + 1 = q by omega]
    unfold gTri
    split
    · rename_i he
      have h := gaps_t1 (N := N) (P := p) (R := q) (B1 := decide (v < 0)) (B2 := decide (u < 0)) o2 o1 ⟨by omega, n2⟩ ⟨by omega, by omega⟩ ⟨by omega, by omega⟩ (by have := t1 he; omega) (by rw [zv_zi, zv_zi]; exact he) (by rw [zv_zi]; exact u0)
      rw [zv_zi, zv_zi] at h
      exact h
    split
    · rename_i hne he
      have h := gaps_t2 (N := N) (P := p) (R := q) (B1 := decide (v < 0)) (B2 := decide (u < 0)) o2 o1 ⟨by omega, n2⟩ ⟨by omega, by omega⟩ ⟨by omega, by omega⟩ (by omega) (by rw [zv_zi, zv_zi]; omega) (by rw [zv_zi]; exact u0)
      exact h
    · rename_i hne he
      have h := gaps_t (N := N) (P := p) (R := q) (B1 := decide (v < 0)) (B2 := decide (u < 0)) o2 o1 ⟨by omega, n2⟩ ⟨by omega, by omega⟩ ⟨by omega, by omega⟩ (by omega) (by rw [zv_zi, zv_zi]; omega) (by rw [zv_zi]; exact u0)
      rw [zv_zi, zv_zi] at h
      exact h
end Go.Hl

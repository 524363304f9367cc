/- Slots that a drawn region does not write stay as they are. -/
import Derived.WalkKit
import Derived.Lib.Walk
import Derived.Deep.RegionHeld3
import Derived.Test.YtccbmjkhplmgnaaGreatProg
import Derived.Test.YtccbmjkhplmgnaaGreatHlZa
import Derived.Test.YtccbmjkhplmgnaaGreatHlHx0
set_option linter.unusedVariables false
set_option linter.unusedSimpArgs false
namespace Go.Hl
open Go Go.RowKit Go.Proofs
set_option maxHeartbeats 1600000 in
theorem made_raw (b : Bool) (ad : Option Addr) (len cap : Nat) (w : World) :
    Calls Tryz.prog 56 #[.bool b, .slice ad len cap] w fun e w' => e = .returned (.agg #[.bool (b && decide (0 < len)), .slice ad len cap]) ∧ Below w.heap.size w w' := by
  have mixed : Tryz.prog.follows .mixedOrders = true := by kernel_rfl
  have t43 := Tryz.underlying24; have a43 := Tryz.isAgg24; have z43 := Tryz.sizeOf24; have v43 := Tryz.zeroValue24; have u43 := run_underlying Tryz.underlying24
  have t22 := Tryz.underlying22; have a22 := Tryz.isAgg22; have z22 := Tryz.sizeOf22; have v22 := Tryz.zeroValue22; have u22 := run_underlying Tryz.underlying22
  have t3 := Tryz.underlying3; have a3 := Tryz.isAgg3; have z3 := Tryz.sizeOf3; have v3 := Tryz.zeroValue3; have u3 := run_underlying Tryz.underlying3
  have t4 := Tryz.underlying4; have a4 := Tryz.isAgg4; have z4 := Tryz.sizeOf4; have v4 := Tryz.zeroValue4; have u4 := run_underlying Tryz.underlying4
  go_enter Tryz.func56, Tryz.ntmps56
  cases b
  · go_wp2
    simp [bodyPost, results, Tryz.results56, go_sem]
    exact (Below.refl _ _).alloc (Nat.le_refl _) _
  · go_wp2
    simp [bodyPost, results, Tryz.results56, go_sem]
    exact (Below.refl _ _).alloc (Nat.le_refl _) _
theorem two_alloc (w : World) (A B : Obj) : ((w.alloc A).alloc B).heap[w.heap.size]? = some A ∧ ((w.alloc A).alloc B).heap[w.heap.size + 1]? = some B := by
  have e : w.heap.size + 1 = (w.heap.push A).size := by rw [Array.size_push]
  constructor
  · show ((w.heap.push A).push B)[w.heap.size]? = some A
    rw [Array.getElem?_push_lt (by rw [Array.size_push]; omega)]
    simp
  · show ((w.heap.push A).push B)[w.heap.size + 1]? = some B
    rw [e, Array.getElem?_push_size]
theorem froz_at {w : World} {b o : Nat} {C : Array Value} {t : TypeId} (h : w.heap[b]? = some (.cells C t (0, 0))) : w.frozen? ⟨b, o, none⟩ = false := by
  simp [World.frozen?, h]
theorem setCell_at {w : World} {b o : Nat} {C : Array Value} {t : TypeId} {u : Value} (h : w.heap[b]? = some (.cells C t (0, 0))) (ho : o < C.size) : (w.setCell ⟨b, o, none⟩ u).heap[b]? = some (.cells (C.set o u ho) t (0, 0)) := by
  simp [World.setCell, Array.getElem?_modify, h, Array.setIfInBounds, ho]
theorem cell_at {w : World} {b o : Nat} {C : Array Value} {t : TypeId} {v : Value} (h : w.heap[b]? = some (.cells C t (0, 0))) (hv : C[o]? = some v) : w.cell? ⟨b, o, none⟩ = some v := by
  rw [cell_of_block h]; exact hv
def NewNs (n0 : Nat) (m : List Int) (ad : Option Addr) (cap : Nat) (w' : World) : Prop :=
  (∃ bk o C e', ad = some ⟨bk, o, none⟩ ∧ m.length ≤ cap ∧ n0 ≤ bk ∧ w'.heap[bk]? = some (.cells C e' (0, 0)) ∧ o + cap ≤ C.size ∧ ∀ (j : Nat) (y : Int), m[j]? = some y → C[o + j]? = some (.int .u64 y)) ∨ m = []
theorem NewNs.below {n0 : Nat} {m : List Int} {ad : Option Addr} {cap : Nat} {w w' : World} (h : NewNs n0 m ad cap w) (hb : Below w.heap.size w w') : NewNs n0 m ad cap w' := by
  rcases h with ⟨bk, o, C, e', h1, h2, h3, h4, h5, h6⟩ | h
  · exact .inl ⟨bk, o, C, e', h1, h2, h3, (hb.block bk (lt_of_block h4)).trans h4, h5, h6⟩
  · exact .inr h
theorem NewNs.mono {n0 n1 : Nat} {m : List Int} {ad : Option Addr} {cap : Nat} {w : World} (h : NewNs n0 m ad cap w) (hn : n1 ≤ n0) : NewNs n1 m ad cap w := by
  rcases h with ⟨bk, o, C, e', h1, h2, h3, h4, h5, h6⟩ | h
  · exact .inl ⟨bk, o, C, e', h1, h2, Nat.le_trans hn h3, h4, h5, h6⟩
  · exact .inr h
theorem norm41_new (x : List Int) (hx : Lm x) (w : World) (v : Value) (hv : RI w (fun _ => False) (.ns .u64 x) v) :
    Calls Tryz.prog 57 #[v] w fun e w' => ∃ ad cap, e = .returned (.slice ad (dg (nb x)).length cap) ∧ Below w.heap.size w w' ∧ NewNs w.heap.size (dg (nb x)) ad cap w' := by
  obtain ⟨k, xs, hk, h⟩ := (norm_ok [.ns .u64 x] hx).2.1 rfl
  have hk' : k = .u64 ∧ xs = dg (nb x) := by
    have : AV.ns .u64 (dg (nb x)) = .ns k xs := hk
    simp only [AV.ns.injEq] at this
    exact ⟨this.1.symm, this.2.symm⟩
  obtain ⟨rfl, rfl⟩ := hk'
  refine (h w (fun _ => False) #[v] (fun _ h => h.elim) rfl (fun j c hj => ?_)).2.mono fun e w' ⟨u, he, hb, hu⟩ => ?_
  · cases j with
    | zero => cases hj; exact ⟨v, rfl, hv⟩
    | succ j => cases hj
  · rcases hu with ⟨bk, o, cap, C, e', rfl, h1, h2, h3, h4, h5⟩ | ⟨h1, ad, rfl⟩
    · exact ⟨_, cap, he, hb, .inl ⟨bk, o, C, e', rfl, h1, h3, h4, h2, h5⟩⟩
    · exact ⟨ad, 0, by rw [h1]; exact he, hb, .inr h1⟩
set_option maxRecDepth 100000 in
set_option maxHeartbeats 1600000 in
theorem znorm_new (b : Bool) (x : List Int) (hx : Lm x) (w : World) (v : Value) (hv : RI w (fun _ => False) (.ns .u64 x) v) :
    Calls Tryz.prog 47 #[.agg #[.bool b, v]] w fun e w' => ∃ ad cap, e = .returned (.agg #[.bool (b && decide (0 < (dg (nb x)).length)), .slice ad (dg (nb x)).length cap]) ∧ Below w.heap.size w w' ∧ NewNs w.heap.size (dg (nb x)) ad cap w' := by
  have mixed : Tryz.prog.follows .mixedOrders = true := by kernel_rfl
  have t43 := Tryz.underlying24; have a43 := Tryz.isAgg24; have z43 := Tryz.sizeOf24; have v43 := Tryz.zeroValue24; have u43 := run_underlying Tryz.underlying24
  have t22 := Tryz.underlying22; have a22 := Tryz.isAgg22; have z22 := Tryz.sizeOf22; have v22 := Tryz.zeroValue22; have u22 := run_underlying Tryz.underlying22
  have t3 := Tryz.underlying3; have a3 := Tryz.isAgg3; have z3 := Tryz.sizeOf3; have v3 := Tryz.zeroValue3; have u3 := run_underlying Tryz.underlying3
  have t4 := Tryz.underlying4; have a4 := Tryz.isAgg4; have z4 := Tryz.sizeOf4; have v4 := Tryz.zeroValue4; have u4 := run_underlying Tryz.underlying4
  have hm := norm41_new x hx
  obtain ⟨m, em⟩ : ∃ m, dg (nb x) = m := ⟨_, rfl⟩
  rw [em] at hm ⊢
  go_enter Tryz.func47, Tryz.ntmps47
  go_wp2
  have hB : Below w.heap.size w ((w.alloc (Obj.cells #[Value.bool b, v] 24)).alloc (Obj.cells #[Value.bool false, Value.slice none 0 0] 24)) := ((Below.refl _ _).alloc (Nat.le_refl _) _).alloc (by simp only [World.alloc, Array.size_push]; omega) _
  obtain ⟨h0, c2⟩ := two_alloc w (Obj.cells #[Value.bool b, v] 24) (Obj.cells #[Value.bool false, Value.slice none 0 0] 24)
  obtain ⟨W, hW⟩ : ∃ W, ((w.alloc (Obj.cells #[Value.bool b, v] 24)).alloc (Obj.cells #[Value.bool false, Value.slice none 0 0] 24)) = W := ⟨_, rfl⟩
  rw [hW] at h0 c2 hB ⊢
  have c0 : W.cell? ⟨w.heap.size, 0, none⟩ = some (.bool b) := cell_at h0 rfl
  have c1 : W.cell? ⟨w.heap.size, 1, none⟩ = some v := cell_at h0 rfl
  have hlt := lt_of_block c2
  clear hW
  have keepS : ∀ w' w'', Below (w.heap.size + 1) W w' → Below (w.heap.size + 1) w' w'' → w''.cell? ⟨w.heap.size, 0, none⟩ = some (.bool b) ∧ w''.cell? ⟨w.heap.size, 1, none⟩ = some v ∧ Below (w.heap.size + 1) W w'' := by
    intro w' w'' h1 h2
    have h3 := h1.trans h2
    exact ⟨(h3.cell (by show w.heap.size < _; omega)).trans c0, (h3.cell (by show w.heap.size < _; omega)).trans c1, h3⟩
  have hR : ∀ w', Below W.heap.size W w' → RI w' (fun _ => False) (.ns .u64 x) v := fun w' h => by
    have h3 := hB.trans (h.mono hB.size)
    exact RI.keep (X := fun _ => False) ⟨h3.size, fun b hb _ => h3.block b hb⟩ (fun _ _ h => h) hv
  go_region_held3 (fun w' => w'.cell? ⟨w.heap.size, 0, none⟩ = some (.bool b) ∧ w'.cell? ⟨w.heap.size, 1, none⟩ = some v ∧ Below (w.heap.size + 1) W w') (first | exact keepS _ _ (Below.refl _ _) ((Below.refl _ _).drew) | exact hb4 _ _ | exact hb3 | exact hb1)
    (first
      | (go_at_call 57; refine (hm _ v (hR _ (Below.refl _ _).drew)).mono ?_; rintro e w1 ⟨ad, cap, rfl, hb, hn⟩; have hz1 := hb.size; have hlt1 := Nat.lt_of_lt_of_le hlt hb.size; have hb1 := keepS _ _ (Below.refl _ _).drew (hb.mono (Nat.le_of_lt hlt)))
      | (go_at_call 56; refine (made_raw _ _ _ _ _).mono ?_; rintro e w2 ⟨rfl, hb2⟩; have hb3 := keepS _ _ hb1.2.2 (hb2.mono (Nat.le_of_lt hlt1)); have hb4 := fun (u1 u2 : Value) => keepS _ _ hb3.2.2 ((Below.refl _ _).setCell (p := ⟨w.heap.size + 1, 0, none⟩) (Nat.le_refl _) u1 |>.setCell (p := ⟨w.heap.size + 1, 1, none⟩) (Nat.le_refl _) u2); have hd2 := (hb2.block _ hlt1).trans ((hb.block _ hlt).trans c2); have d0 := cell_at (o := 0) hd2 rfl; have d1 := cell_at (o := 1) hd2 rfl; have f0 := froz_at (o := 0) hd2; have f1 := froz_at (o := 1) hd2))
  have hd3 := setCell_at (o := 0) (u := Value.bool (b && decide (0 < m.length))) hd2 (by decide)
  have hd4 := setCell_at (o := 1) (u := Value.slice ad m.length cap) hd3 (by simp)
  have hB5 := (hb4 (Value.bool (b && decide (0 < m.length))) (Value.slice ad m.length cap)).2.2
  have hN : NewNs W.heap.size m ad cap ((w2.setCell { block := w.heap.size + 1, off := 0 } (Value.bool (b && decide (0 < m.length)))).setCell { block := w.heap.size + 1, off := 1 } (Value.slice ad m.length cap)) := by
    rcases hn.below hb2 with ⟨bk, o, C, e', h1, h2, h3, h4, h5, h6⟩ | h
    · have h3' : W.heap.size ≤ bk := h3
      exact .inl ⟨bk, o, C, e', h1, h2, h3, by rw [Below.heap_setCell _ _ _ _ (by show bk ≠ w.heap.size + 1; omega), Below.heap_setCell _ _ _ _ (by show bk ≠ w.heap.size + 1; omega)]; exact h4, h5, h6⟩
    · exact .inr h
  generalize ((w2.setCell { block := w.heap.size + 1, off := 0 } (Value.bool (b && decide (0 < m.length)))).setCell { block := w.heap.size + 1, off := 1 } (Value.slice ad m.length cap)) = W2 at *
  have d5 := cell_at (o := 0) hd4 rfl
  have d6 := cell_at (o := 1) hd4 rfl
  have hend : Below w.heap.size w W2 := hB.trans (hB5.mono (by omega))
  have hN2 := hN.mono hB.size
  go_wp2
  simp [bodyPost, results, Tryz.results47, go_sem, d5, d6]
  exact ⟨ad, cap, ⟨rfl, rfl⟩, hend, hN2⟩
end Go.Hl

namespace Go.Hl
open Go Go.RowKit Go.Proofs
section
variable {P : Program} {ops : Array Oper} {Q : Exit → Act → World → Prop} {md : Region.Mode}
theorem put_keep {a : Act} {d : Option Nat} {x : Value} {t : Nat} (h : d ≠ some t) : (a.put d x).tmps.getD t undef = a.tmps.getD t undef := by
  cases d with
  | none => rfl
  | some d => exact putN (fun e => h (by rw [e])) a x
def KeptQ (ts : List Nat) (a0 : Act) (Q : Exit → Act → World → Prop) : Exit → Act → World → Prop
  | .normal, a, w => Q .normal a w ∧ ∀ t ∈ ts, a.tmps.getD t undef = a0.tmps.getD t undef
  | e, a, w => Q e a w
theorem Oper.wp_keep {o : Oper} {a : Act} {w : World} {ts : List Nat} {a0 : Act} (ht : ∀ t ∈ ts, o.dst ≠ some t) (h0 : ∀ t ∈ ts, a.tmps.getD t undef = a0.tmps.getD t undef) {K : Act → World → Prop}
    (hh : o.wp P a w K Q) : o.wp P a w (fun a' w' => K a' w' ∧ ∀ t ∈ ts, a'.tmps.getD t undef = a0.tmps.getD t undef) (KeptQ ts a0 Q) := by
  have k1 : ∀ x, ∀ t ∈ ts, (a.put o.dst x).tmps.getD t undef = a0.tmps.getD t undef := fun x t h => (put_keep (ht t h)).trans (h0 t h)
  unfold Oper.wp at *
  generalize (execOp a.eval o).run P w = r at *
  cases r with
  | ok n w' =>
    cases n <;> simp only [Oper.upon] at hh ⊢
    case value => exact ⟨hh, k1 _⟩
    case skip => exact ⟨hh, k1 _⟩
    case defer d => exact ⟨hh, fun t h => (put_keep (a := { a with defers := d :: a.defers }) (ht t h)).trans (h0 t h)⟩
    case enter f vs =>
      refine Calls.mono hh (fun e w'' he => ?_)
      cases e with
      | returned v => exact ⟨he, k1 _⟩
      | panicked c => exact he
      | outgrown => obtain ⟨a, w, h⟩ := he; exact ⟨a, w, h⟩
    case row => exact Rows.mono hh (fun _ _ he => ⟨he, k1 _⟩)
  | halt x w' => cases x <;> simp only [Oper.upon] at hh ⊢ <;> exact hh
theorem wpOp_keep {i : Nat} {a : Act} {w : World} {ts : List Nat} {a0 : Act} (ht : ∀ (j : Nat) (o : Oper), ops[j]? = some o → ∀ t ∈ ts, o.dst ≠ some t) (h0 : ∀ t ∈ ts, a.tmps.getD t undef = a0.tmps.getD t undef) {K : Act → World → Prop}
    (hh : wpOp P ops Q i K a w) : wpOp P ops (KeptQ ts a0 Q) i (fun a' w' => K a' w' ∧ ∀ t ∈ ts, a'.tmps.getD t undef = a0.tmps.getD t undef) a w := by
  unfold wpOp at *
  split
  · rename_i h; rw [h] at hh; exact ⟨hh, h0⟩
  · rename_i o ho
    simp only [ho] at hh
    split
    · rename_i hw
      simp only [hw, if_true] at hh
      refine hh.imp (Oper.wp_keep (ht i o ho) h0) (fun ⟨h1, a, w, h2⟩ => ⟨h1, a, w, h2⟩)
    · rename_i hw
      simp only [hw] at hh
      exact ⟨hh, fun t h => (put_keep (ht i o ho t h)).trans (h0 t h)⟩
theorem wpAny_keep {ts : List Nat} {a0 : Act} (ht : ∀ (j : Nat) (o : Oper), ops[j]? = some o → ∀ t ∈ ts, o.dst ≠ some t) : ∀ (fuel : Nat) (l : Array Bool) (a : Act) (w : World), (∀ t ∈ ts, a.tmps.getD t undef = a0.tmps.getD t undef) →
    wpAny P md ops Q fuel l a w → wpAny P md ops (KeptQ ts a0 Q) fuel l a w
  | 0, _, _, _, h0, h => ⟨h.1, h.2, h0⟩
  | fuel + 1, _, _, _, h0, h => ⟨fun hr => ⟨h.1 hr, h0⟩, fun i hi => wpOp_mono (fun a' w' h' => wpAny_keep ht fuel _ a' w' h'.2 h'.1) (wpOp_keep ht h0 (h.2 i hi))⟩
end
section
variable {P : Program} {T : Tab} {S : FuncId → Option Sp} {κ : Ctx} {β : Nat → Option (Nat × Nat)} {a : Act} {w : World} {n : Nat} {Q : Exit → St → Prop} {σ : St}
theorem regionD_keep (ts : List Nat) (hE : Env P T S) {id : Nat} {l : List Oper} {σ0 : St} (hn : κ.nt = n) (hC : Conc κ β σ.get σ.blk a w) (hd : dstsB l.toArray n = true) (hok : okN l.toArray = true) (hts : (ts.all fun t => l.all fun o => o.dst != some t) = true) (hcl : cleanD l σ = σ0)
    (h : opsD T S l.toArray l (Q .normal) σ0) : (Code.region id l.toArray true).wp P (KeptQ ts a fun e a' w' => ∃ σ' β', Q e σ' ∧ Conc κ β' σ'.get σ'.blk a' w') a w := by
  subst hcl
  refine wp_region_any hE.hm ?_
  have hdd : ∀ (i : Nat) (o : Oper), l.toArray[i]? = some o → ∀ t, o.dst = some t → t < κ.nt := by
    intro i o ho t ht
    have := Array.all_eq_true_iff_forall_mem.1 hd o (Array.mem_of_getElem? ho)
    rw [ht] at this
    rw [hn]
    simpa using this
  have hC' : Conc κ β (cleanD l σ).get (cleanD l σ).blk a { w with drawn := w.drawn + 1 } := (conc_clean l σ hC).below (drew_below w)
  have hinv : Inv l.toArray (Array.replicate l.toArray.size false) ((cleanD l σ).get, (cleanD l σ).blk) := by
    intro i o ho _ hA d hd u
    exact refs_clean l σ o (by simpa using Array.mem_of_getElem? ho) hA d hd u
  have hlex := anyN_lex (T := T) (S := S) (ops := l.toArray) hok (K := Q .normal) l 0 (Array.replicate l.toArray.size false) (cleanD l σ) (by simp) (by simp) (by omega)
    (fun j _ hj => by
      have hj' : j < l.length := by simpa using hj
      simp [Array.getD, hj']) hinv h
  have := wpAny_of_anyN (P := P) (κ := κ) hE.hT hE.hS hok hdd (Q := fun e a' w' => ∃ σ' β', Q e σ' ∧ Conc κ β' σ'.get σ'.blk a' w') (fun s β' a' w' ⟨σ', h1, h2⟩ h3 => ⟨σ', β', h1, by rw [h2] at h3; exact h3⟩)
    l.length _ _ β a { w with drawn := w.drawn + 1 } hC' hinv hlex
  refine wpAny_keep (a0 := a) (fun j o ho t htt hdt => ?_) _ _ _ _ (fun _ _ => rfl) (by simpa using this)
  have hm := List.all_eq_true.1 hts t htt
  have := List.all_eq_true.1 hm o (by simpa using Array.mem_of_getElem? ho)
  simp [hdt] at this
theorem Conc.vp0 (h : Conc κ β σ.get σ.blk a w) {t id : Nat} {wr : Bool} {cs : List AV} (hF : σ.get t = .ptr id 0) (hG : σ.blk id = some ⟨wr, .c cs⟩) :
    ∃ b o C e, a.tmps.getD t undef = .pointer (some ⟨b, o, none⟩) ∧ (0 < cs.length → (κ.w0.heap.size ≤ b ∨ κ.mu ≠ none) ∧ w.heap[b]? = some (.cells C e (0, 0)) ∧ o + cs.length ≤ C.size) ∧ CellsAt w (XG κ β σ.blk) b o cs 0 := by
  have hr := h.rel t
  rw [hF] at hr
  obtain ⟨b, base, h1, h2⟩ := hr _ hG
  rcases h.hp id _ hG with h3 | ⟨b2, base2, C, e, h3, h4, h5, h6, h7⟩
  · rw [h1] at h3; cases h3.1
  · have h3' := h3
    rw [h1] at h3'
    simp only [Option.some.injEq, Prod.mk.injEq] at h3'
    obtain ⟨rfl, rfl⟩ := h3'
    refine ⟨b, base, C, e, h2, fun _ => ⟨?_, h4, h5⟩, ?_⟩
    · rcases h7 with h7 | ⟨lo, hi, h7, _⟩
      · exact .inl h7.1
      · exact .inr (by rw [h7]; simp)
    · have := (h.hp id _ hG).cells (off := 0) h1
      simpa using this
theorem CellsAt.keep {w w' : World} {X X' : Nat → Prop} {b o off : Nat} {cs : List AV} (hk : Keep X w w') (hX : ∀ b, b < w.heap.size → X' b → X b) (hb : ¬ X b) (h : CellsAt w X b o cs off) : CellsAt w' X' b o cs off := by
  intro j c hj
  obtain ⟨v, h1, h2⟩ := h j c hj
  exact ⟨v, hk.cell hb h1, h2.keep hk hX⟩
theorem RI.vp_of {w : World} {X : Nat → Prop} {b o : Nat} {cs : List AV} (hb : 0 < cs.length → ¬ X b) (h : CellsAt w X b o cs 0) : RI w X (.vp cs) (.pointer (some ⟨b, o, none⟩)) := by
  refine RI.vp cs b o (fun j => (w.cell? ⟨b, o + j, none⟩).getD undef) hb (fun j c hj => ?_) (fun j c hj => ?_)
  · obtain ⟨v, h1, _⟩ := h j c (by simpa using hj)
    rw [h1]; rfl
  · obtain ⟨v, h1, h2⟩ := h j c (by simpa using hj)
    rw [h1]; exact h2
theorem Conc.anew {l : List (Nat × AV)} {X : Nat → Prop} (hs : a.tmps.size = n) (hd : a.defers = []) (hX : ∀ b, X b → b < w.heap.size) (h : ∀ t v, lk l t = some v → v.im = true ∧ RI w X v (a.tmps.getD t undef)) :
    Conc ⟨n, w, X, none⟩ (fun _ => none) (St.get ⟨l, []⟩) (St.blk ⟨l, []⟩) a w := by
  refine ⟨hs, fun t => ?_, hd, fun id blk hi => (by cases hi), fun i j b c x y _ hx => (by cases hx), ⟨rfl, rfl, rfl, Nat.le_refl _, fun _ _ _ => rfl, fun _ _ _ hm => (by cases hm)⟩, hX⟩
  simp only [St.get]
  cases hl : lk l t with
  | none => exact RI.any _
  | some v =>
    obtain ⟨h1, h2⟩ := h t v hl
    refine RV.of h1 (h2.keep (Keep.refl _ w) (fun b _ hb => ?_))
    rcases hb with hb | ⟨_, _, _, hb, _⟩
    · exact hb
    · cases hb
theorem wpList_seg (hE : Env P T S) (hm : κ.mu = none) {ops : Array Oper} {l tail : List Oper} {K : St → Prop} {Q : Exit → Act → World → Prop} (hC : Conc κ β σ.get σ.blk a w) (hd : dstsB l.toArray κ.nt = true)
    (hA : opsA T S ops l K σ) (hQ : ∀ σ' β' a' w', K σ' → Conc κ β' σ'.get σ'.blk a' w' → wpList P ops Q tail a' w') : wpList P ops Q (l ++ tail) a w := by
  refine opsA_tail hE.hT hE.hS (fun _ => hm) hQ l σ β a w (fun o ho t ht => ?_) hA hC
  have := Array.all_eq_true_iff_forall_mem.1 hd o (by simpa using ho)
  rw [ht] at this
  simpa using this
theorem wpList_call {ops : Array Oper} {o : Oper} {rest : List Oper} {Q : Exit → Act → World → Prop} {f : FuncId} {fn : Func} {c : Code} {args : Array Operand} {ts : Array TypeId} (hop : o.op = .call ⟨.value (.func f), args, ts⟩) (hg : o.guard = none)
    (hf : P.funcs[f]? = some fn) (hb : fn.body = some c) (hname : (fn.name == "runtime.NumGoroutine") = false)
    (h : Calls P f (args.map a.eval) w fun e w' => ∃ v, e = .returned v ∧ wpList P ops Q rest (a.put o.dst v) w') : wpList P ops Q (o :: rest) a w := by
  unfold wpList
  have hw : Region.wanted o (yielded ops a.tmps) = true := by simp [Region.wanted, hg]
  rw [hw, if_pos rfl]
  refine .inl ?_
  unfold Oper.wp
  rw [callFunc_exec o hop rfl, run_callFunc_body hf hb hname]
  refine Calls.mono h fun e w' ⟨v, he, hv⟩ => ?_
  subst he
  exact hv
theorem wpList_value {ops : Array Oper} {o : Oper} {rest : List Oper} {Q : Exit → Act → World → Prop} {x : Value} {w' : World} (hg : o.guard = none) (hr : (execOp a.eval o).run P w = .ok (.value x) w')
    (h : wpList P ops Q rest (a.put o.dst x) w') : wpList P ops Q (o :: rest) a w := by
  unfold wpList
  have hw : Region.wanted o (yielded ops a.tmps) = true := by simp [Region.wanted, hg]
  rw [hw, if_pos rfl]
  refine .inl ?_
  unfold Oper.wp
  rw [hr]
  exact h
theorem wpList_none {ops : Array Oper} {o : Oper} {rest : List Oper} {Q : Exit → Act → World → Prop} {w' : World} (hg : o.guard = none) (hr : (execOp a.eval o).run P w = .ok .skip w')
    (h : wpList P ops Q rest (a.put o.dst undef) w') : wpList P ops Q (o :: rest) a w := by
  unfold wpList
  have hw : Region.wanted o (yielded ops a.tmps) = true := by simp [Region.wanted, hg]
  rw [hw, if_pos rfl]
  refine .inl ?_
  unfold Oper.wp
  rw [hr]
  exact h
def Good (X : Nat → Prop) (a : Act) (w : World) : List (Nat × AV) → Prop
  | [] => True
  | p :: l => (p.2.im = true ∧ RI w X p.2 (a.tmps.getD p.1 undef)) ∧ Good X a w l
def Has (σ : St) : List (Nat × AV) → Prop
  | [] => True
  | p :: l => (p.2.im = true ∧ σ.get p.1 = p.2) ∧ Has σ l
theorem Good.lk {X : Nat → Prop} : ∀ {l : List (Nat × AV)}, Good X a w l → ∀ t v, Hl.lk l t = some v → v.im = true ∧ RI w X v (a.tmps.getD t undef)
  | [], _, _, _, h => by cases h
  | (k, v) :: l, hg, t, u, h => by
    simp only [Hl.lk] at h
    split at h
    · rename_i e; subst e; cases h; exact hg.1
    · exact Good.lk hg.2 t u h
theorem Good.conc {X : Nat → Prop} {l : List (Nat × AV)} (h : Good X a w l) (hs : a.tmps.size = n) (hd : a.defers = []) (hX : ∀ b, X b → b < w.heap.size) :
    Conc ⟨n, w, X, none⟩ (fun _ => none) (St.get ⟨l, []⟩) (St.blk ⟨l, []⟩) a w := Conc.anew hs hd hX h.lk
theorem Has.good {X : Nat → Prop} (hC : Conc κ β σ.get σ.blk a w) (hX : ∀ b, X b → κ.X0 b) : ∀ {l : List (Nat × AV)}, Has σ l → Good X a w l
  | [], _ => trivial
  | (k, v) :: l, h => by
    refine ⟨⟨h.1.1, ?_⟩, Has.good hC hX h.2⟩
    have h1 := hC.rel k
    have h2 : σ.get k = v := h.1.2
    rw [h2] at h1
    exact (h1.ri h.1.1).keep (Keep.refl _ _) (fun b _ hb => .inl (hX b hb))
theorem Good.keep {X X' : Nat → Prop} {a' : Act} {w' : World} (hk : Keep X w w') (hX : ∀ b, b < w.heap.size → X' b → X b) : ∀ {l : List (Nat × AV)}, (∀ p ∈ l, a'.tmps.getD p.1 undef = a.tmps.getD p.1 undef) → Good X a w l → Good X' a' w' l
  | [], _, _ => trivial
  | p :: l, ht, h => ⟨⟨h.1.1, by rw [ht p (.head _)]; exact h.1.2.keep hk hX⟩, Good.keep hk hX (fun q hq => ht q (.tail _ hq)) h.2⟩
theorem keepOf {w w' : World} (X : Nat → Prop) (h : Below w.heap.size w w') : Keep X w w' := ⟨h.size, fun b hb _ => h.block b hb⟩
theorem wp_of_awp {c : Code} {R : Exit → Act → World → Prop} (h : AWp P T n c Q σ) (hn : κ.nt = n) (hm : κ.mu = none) (hC : Conc κ β σ.get σ.blk a w)
    (hQ : ∀ e a' w', (∃ σ' β', Q e σ' ∧ Conc κ β' σ'.get σ'.blk a' w') → R e a' w') : c.wp P R a w := wp_mono (h κ β a w hn (fun _ => hm) hC) hQ
end
end Go.Hl

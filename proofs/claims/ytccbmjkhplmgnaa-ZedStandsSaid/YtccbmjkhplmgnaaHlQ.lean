/- Slots that a drawn region does not write stay as they are. ZedStands -/
import Derived.WalkKit
import Derived.Lib.Walk
import Derived.Deep.RegionHeld3
import Derived.Test.YtccbmjkhplmgnaaProg
import Derived.Test.YtccbmjkhplmgnaaHlZ2
import Derived.Test.YtccbmjkhplmgnaaHlBa
import Derived.Test.YtccbmjkhplmgnaaHlL14
import Derived.Test.YtccbmjkhplmgnaaHlY5
set_option linter.unusedVariables false
set_option linter.unusedSimpArgs false
namespace Go.Hl
open Go Go.RowKit Go.Proofs
set_option maxHeartbeats 1600000 in
theorem made_raw (b : Bool) (ad : Option Addr) (len cap : Nat) (w : World) :
    Calls Try.prog 135 #[.bool b, .slice ad len cap] w fun e w' => e = .returned (.agg #[.bool (b && decide (0 < len)), .slice ad len cap]) ∧ Below w.heap.size w w' := by
  have mixed : Try.prog.follows .mixedOrders = true := by kernel_rfl
  have t43 := Try.underlying43; have a43 := Try.isAgg43; have z43 := Try.sizeOf43; have v43 := Try.zeroValue43; have u43 := run_underlying Try.underlying43
  have t22 := Try.underlying22; have a22 := Try.isAgg22; have z22 := Try.sizeOf22; have v22 := Try.zeroValue22; have u22 := run_underlying Try.underlying22
  have t3 := Try.underlying3; have a3 := Try.isAgg3; have z3 := Try.sizeOf3; have v3 := Try.zeroValue3; have u3 := run_underlying Try.underlying3
  have t4 := Try.underlying4; have a4 := Try.isAgg4; have z4 := Try.sizeOf4; have v4 := Try.zeroValue4; have u4 := run_underlying Try.underlying4
  go_enter Try.func135, Try.ntmps135
  cases b
  · go_wp2
    simp [bodyPost, results, Try.results135, go_sem]
    exact (Below.refl _ _).alloc (Nat.le_refl _) _
  · go_wp2
    simp [bodyPost, results, Try.results135, go_sem]
    exact (Below.refl _ _).alloc (Nat.le_refl _) _

theorem two_alloc (w : World) (A B : Obj) : ((w.alloc A).alloc B).heap[w.heap.size]? = some A ∧ ((w.alloc A).alloc B).heap[w.heap.size + 1]? = some B := by
  have e : w.heap.size + 1 = (w.heap.push A).size := by rw [Array.size_push]
  constructor
  · show ((w.heap.push A).push B)[w.heap.size]? = some A
    rw [Array.getElem?_push_lt (by rw [Array.size_push]; omega)]
    simp
  · show ((w.heap.push A).push B)[w.heap.size + 1]? = some B
    rw [e, Array.getElem?_push_size]
theorem froz_at {w : World} {b o : Nat} {C : Array Value} {t : TypeId} (h : w.heap[b]? = some (.cells C t (0, 0))) : w.frozen? ⟨b, o, none⟩ = false := by
  simp [World.frozen?, h]
theorem setCell_at {w : World} {b o : Nat} {C : Array Value} {t : TypeId} {u : Value} (h : w.heap[b]? = some (.cells C t (0, 0))) (ho : o < C.size) : (w.setCell ⟨b, o, none⟩ u).heap[b]? = some (.cells (C.set o u ho) t (0, 0)) := by
  simp [World.setCell, Array.getElem?_modify, h, Array.setIfInBounds, ho]
theorem cell_at {w : World} {b o : Nat} {C : Array Value} {t : TypeId} {v : Value} (h : w.heap[b]? = some (.cells C t (0, 0))) (hv : C[o]? = some v) : w.cell? ⟨b, o, none⟩ = some v := by
  rw [cell_of_block h]; exact hv
/-- A slice of so many integers in new memory. -/
def NewNs (n0 : Nat) (m : List Int) (ad : Option Addr) (cap : Nat) (w' : World) : Prop :=
  (∃ bk o C e', ad = some ⟨bk, o, none⟩ ∧ m.length ≤ cap ∧ n0 ≤ bk ∧ w'.heap[bk]? = some (.cells C e' (0, 0)) ∧ o + cap ≤ C.size ∧ ∀ (j : Nat) (y : Int), m[j]? = some y → C[o + j]? = some (.int .u64 y)) ∨ m = []
theorem NewNs.below {n0 : Nat} {m : List Int} {ad : Option Addr} {cap : Nat} {w w' : World} (h : NewNs n0 m ad cap w) (hb : Below w.heap.size w w') : NewNs n0 m ad cap w' := by
  rcases h with ⟨bk, o, C, e', h1, h2, h3, h4, h5, h6⟩ | h
  · exact .inl ⟨bk, o, C, e', h1, h2, h3, (hb.block bk (lt_of_block h4)).trans h4, h5, h6⟩
  · exact .inr h
theorem NewNs.mono {n0 n1 : Nat} {m : List Int} {ad : Option Addr} {cap : Nat} {w : World} (h : NewNs n0 m ad cap w) (hn : n1 ≤ n0) : NewNs n1 m ad cap w := by
  rcases h with ⟨bk, o, C, e', h1, h2, h3, h4, h5, h6⟩ | h
  · exact .inl ⟨bk, o, C, e', h1, h2, Nat.le_trans hn h3, h4, h5, h6⟩
  · exact .inr h

theorem norm41_new (x : List Int) (hx : Lm x) (w : World) (v : Value) (hv : RI w (fun _ => False) (.ns .u64 x) v) :
    Calls Try.prog 41 #[v] w fun e w' => ∃ ad cap, e = .returned (.slice ad (dg (nb x)).length cap) ∧ Below w.heap.size w w' ∧ NewNs w.heap.size (dg (nb x)) ad cap w' := by
  obtain ⟨k, xs, hk, h⟩ := (norm_ok [.ns .u64 x] hx).2.1 rfl
  have hk' : k = .u64 ∧ xs = dg (nb x) := by
    have : AV.ns .u64 (dg (nb x)) = .ns k xs := hk
    simp only [AV.ns.injEq] at this
    exact ⟨this.1.symm, this.2.symm⟩
  obtain ⟨rfl, rfl⟩ := hk'
  refine (h w (fun _ => False) #[v] (fun _ h => h.elim) rfl (fun j c hj => ?_)).2.mono fun e w' ⟨u, he, hb, hu⟩ => ?_
  · cases j with
    | zero => cases hj; exact ⟨v, rfl, hv⟩
    | succ j => cases hj
  · rcases hu with ⟨bk, o, cap, C, e', rfl, h1, h2, h3, h4, h5⟩ | ⟨h1, ad, rfl⟩
    · exact ⟨_, cap, he, hb, .inl ⟨bk, o, C, e', rfl, h1, h3, h4, h2, h5⟩⟩
    · exact ⟨ad, 0, by rw [h1]; exact he, hb, .inr h1⟩

set_option maxRecDepth 100000 in
set_option maxHeartbeats 1600000 in
/-- zed.Norm's result: a struct whose slice is new memory. -/
theorem znorm_new (b : Bool) (x : List Int) (hx : Lm x) (w : World) (v : Value) (hv : RI w (fun _ => False) (.ns .u64 x) v) :
    Calls Try.prog 87 #[.agg #[.bool b, v]] w fun e w' => ∃ ad cap, e = .returned (.agg #[.bool (b && decide (0 < (dg (nb x)).length)), .slice ad (dg (nb x)).length cap]) ∧ Below w.heap.size w w' ∧ NewNs w.heap.size (dg (nb x)) ad cap w' := by
  have mixed : Try.prog.follows .mixedOrders = true := by kernel_rfl
  have t43 := Try.underlying43; have a43 := Try.isAgg43; have z43 := Try.sizeOf43; have v43 := Try.zeroValue43; have u43 := run_underlying Try.underlying43
  have t22 := Try.underlying22; have a22 := Try.isAgg22; have z22 := Try.sizeOf22; have v22 := Try.zeroValue22; have u22 := run_underlying Try.underlying22
  have t3 := Try.underlying3; have a3 := Try.isAgg3; have z3 := Try.sizeOf3; have v3 := Try.zeroValue3; have u3 := run_underlying Try.underlying3
  have t4 := Try.underlying4; have a4 := Try.isAgg4; have z4 := Try.sizeOf4; have v4 := Try.zeroValue4; have u4 := run_underlying Try.underlying4
  have hm := norm41_new x hx
  obtain ⟨m, em⟩ : ∃ m, dg (nb x) = m := ⟨_, rfl⟩
  rw [em] at hm ⊢
  go_enter Try.func87, Try.ntmps87
  go_wp2
  have hB : Below w.heap.size w ((w.alloc (Obj.cells #[Value.bool b, v] 43)).alloc (Obj.cells #[Value.bool false, Value.slice none 0 0] 43)) := ((Below.refl _ _).alloc (Nat.le_refl _) _).alloc (by simp only [World.alloc, Array.size_push]; omega) _
  obtain ⟨h0, c2⟩ := two_alloc w (Obj.cells #[Value.bool b, v] 43) (Obj.cells #[Value.bool false, Value.slice none 0 0] 43)
  obtain ⟨W, hW⟩ : ∃ W, ((w.alloc (Obj.cells #[Value.bool b, v] 43)).alloc (Obj.cells #[Value.bool false, Value.slice none 0 0] 43)) = W := ⟨_, rfl⟩
  rw [hW] at h0 c2 hB ⊢
  have c0 : W.cell? ⟨w.heap.size, 0, none⟩ = some (.bool b) := cell_at h0 rfl
  have c1 : W.cell? ⟨w.heap.size, 1, none⟩ = some v := cell_at h0 rfl
  have hlt := lt_of_block c2
  clear hW
  have keepS : ∀ w' w'', Below (w.heap.size + 1) W w' → Below (w.heap.size + 1) w' w'' → w''.cell? ⟨w.heap.size, 0, none⟩ = some (.bool b) ∧ w''.cell? ⟨w.heap.size, 1, none⟩ = some v ∧ Below (w.heap.size + 1) W w'' := by
    intro w' w'' h1 h2
    have h3 := h1.trans h2
    exact ⟨(h3.cell (by show w.heap.size < _; omega)).trans c0, (h3.cell (by show w.heap.size < _; omega)).trans c1, h3⟩
  have hR : ∀ w', Below W.heap.size W w' → RI w' (fun _ => False) (.ns .u64 x) v := fun w' h => by
    have h3 := hB.trans (h.mono hB.size)
    exact RI.keep (X := fun _ => False) ⟨h3.size, fun b hb _ => h3.block b hb⟩ (fun _ _ h => h) hv
  go_region_held3 (fun w' => w'.cell? ⟨w.heap.size, 0, none⟩ = some (.bool b) ∧ w'.cell? ⟨w.heap.size, 1, none⟩ = some v ∧ Below (w.heap.size + 1) W w') (first | exact keepS _ _ (Below.refl _ _) ((Below.refl _ _).drew) | exact hb4 _ _ | exact hb3 | exact hb1)
    (first
      | (go_at_call 41; refine (hm _ v (hR _ (Below.refl _ _).drew)).mono ?_; rintro e w1 ⟨ad, cap, rfl, hb, hn⟩; have hz1 := hb.size; have hlt1 := Nat.lt_of_lt_of_le hlt hb.size; have hb1 := keepS _ _ (Below.refl _ _).drew (hb.mono (Nat.le_of_lt hlt)))
      | (go_at_call 135; refine (made_raw _ _ _ _ _).mono ?_; rintro e w2 ⟨rfl, hb2⟩; have hb3 := keepS _ _ hb1.2.2 (hb2.mono (Nat.le_of_lt hlt1)); have hb4 := fun (u1 u2 : Value) => keepS _ _ hb3.2.2 ((Below.refl _ _).setCell (p := ⟨w.heap.size + 1, 0, none⟩) (Nat.le_refl _) u1 |>.setCell (p := ⟨w.heap.size + 1, 1, none⟩) (Nat.le_refl _) u2); have hd2 := (hb2.block _ hlt1).trans ((hb.block _ hlt).trans c2); have d0 := cell_at (o := 0) hd2 rfl; have d1 := cell_at (o := 1) hd2 rfl; have f0 := froz_at (o := 0) hd2; have f1 := froz_at (o := 1) hd2))
  have hd3 := setCell_at (o := 0) (u := Value.bool (b && decide (0 < m.length))) hd2 (by decide)
  have hd4 := setCell_at (o := 1) (u := Value.slice ad m.length cap) hd3 (by simp)
  have hB5 := (hb4 (Value.bool (b && decide (0 < m.length))) (Value.slice ad m.length cap)).2.2
  have hN : NewNs W.heap.size m ad cap ((w2.setCell { block := w.heap.size + 1, off := 0 } (Value.bool (b && decide (0 < m.length)))).setCell { block := w.heap.size + 1, off := 1 } (Value.slice ad m.length cap)) := by
    rcases hn.below hb2 with ⟨bk, o, C, e', h1, h2, h3, h4, h5, h6⟩ | h
    · have h3' : W.heap.size ≤ bk := h3
      exact .inl ⟨bk, o, C, e', h1, h2, h3, by rw [Below.heap_setCell _ _ _ _ (by show bk ≠ w.heap.size + 1; omega), Below.heap_setCell _ _ _ _ (by show bk ≠ w.heap.size + 1; omega)]; exact h4, h5, h6⟩
    · exact .inr h
  generalize ((w2.setCell { block := w.heap.size + 1, off := 0 } (Value.bool (b && decide (0 < m.length)))).setCell { block := w.heap.size + 1, off := 1 } (Value.slice ad m.length cap)) = W2 at *
  have d5 := cell_at (o := 0) hd4 rfl
  have d6 := cell_at (o := 1) hd4 rfl
  have hend : Below w.heap.size w W2 := hB.trans (hB5.mono (by omega))
  have hN2 := hN.mono hB.size
  go_wp2
  simp [bodyPost, results, Try.results87, go_sem, d5, d6]
  exact ⟨ad, cap, ⟨rfl, rfl⟩, hend, hN2⟩
end Go.Hl

namespace Go.Hl
open Go Go.RowKit Go.Proofs

section
variable {P : Program} {ops : Array Oper} {Q : Exit → Act → World → Prop} {md : Region.Mode}

theorem put_keep {a : Act} {d : Option Nat} {x : Value} {t : Nat} (h : d ≠ some t) : (a.put d x).tmps.getD t undef = a.tmps.getD t undef := by
  cases d with
  | none => rfl
  | some d => exact putN (fun e => h (by rw [e])) a x

/-- At its normal end the slots ts are as they were. -/
def KeptQ (ts : List Nat) (a0 : Act) (Q : Exit → Act → World → Prop) : Exit → Act → World → Prop
  | .normal, a, w => Q .normal a w ∧ ∀ t ∈ ts, a.tmps.getD t undef = a0.tmps.getD t undef
  | e, a, w => Q e a w

theorem Oper.wp_keep {o : Oper} {a : Act} {w : World} {ts : List Nat} {a0 : Act} (ht : ∀ t ∈ ts, o.dst ≠ some t) (h0 : ∀ t ∈ ts, a.tmps.getD t undef = a0.tmps.getD t undef) {K : Act → World → Prop}
    (hh : o.wp P a w K Q) : o.wp P a w (fun a' w' => K a' w' ∧ ∀ t ∈ ts, a'.tmps.getD t undef = a0.tmps.getD t undef) (KeptQ ts a0 Q) := by
  have k1 : ∀ x, ∀ t ∈ ts, (a.put o.dst x).tmps.getD t undef = a0.tmps.getD t undef := fun x t h => (put_keep (ht t h)).trans (h0 t h)
  unfold Oper.wp at *
  generalize (execOp a.eval o).run P w = r at *
  cases r with
  | ok n w' =>
    cases n <;> simp only [Oper.upon] at hh ⊢
    case value => exact ⟨hh, k1 _⟩
    case skip => exact ⟨hh, k1 _⟩
    case defer d => exact ⟨hh, fun t h => (put_keep (a := { a with defers := d :: a.defers }) (ht t h)).trans (h0 t h)⟩
    case enter f vs =>
      refine Calls.mono hh (fun e w'' he => ?_)
      cases e with
      | returned v => exact ⟨he, k1 _⟩
      | panicked c => exact he
      | outgrown => obtain ⟨a, w, h⟩ := he; exact ⟨a, w, h⟩
    case row => exact Rows.mono hh (fun _ _ he => ⟨he, k1 _⟩)
  | halt x w' => cases x <;> simp only [Oper.upon] at hh ⊢ <;> exact hh

theorem wpOp_keep {i : Nat} {a : Act} {w : World} {ts : List Nat} {a0 : Act} (ht : ∀ (j : Nat) (o : Oper), ops[j]? = some o → ∀ t ∈ ts, o.dst ≠ some t) (h0 : ∀ t ∈ ts, a.tmps.getD t undef = a0.tmps.getD t undef) {K : Act → World → Prop}
    (hh : wpOp P ops Q i K a w) : wpOp P ops (KeptQ ts a0 Q) i (fun a' w' => K a' w' ∧ ∀ t ∈ ts, a'.tmps.getD t undef = a0.tmps.getD t undef) a w := by
  unfold wpOp at *
  split
  · rename_i h; rw [h] at hh; exact ⟨hh, h0⟩
  · rename_i o ho
    simp only [ho] at hh
    split
    · rename_i hw
      simp only [hw, if_true] at hh
      refine hh.imp (Oper.wp_keep (ht i o ho) h0) (fun ⟨h1, a, w, h2⟩ => ⟨h1, a, w, h2⟩)
    · rename_i hw
      simp only [hw] at hh
      exact ⟨hh, fun t h => (put_keep (ht i o ho t h)).trans (h0 t h)⟩

theorem wpAny_keep {ts : List Nat} {a0 : Act} (ht : ∀ (j : Nat) (o : Oper), ops[j]? = some o → ∀ t ∈ ts, o.dst ≠ some t) : ∀ (fuel : Nat) (l : Array Bool) (a : Act) (w : World), (∀ t ∈ ts, a.tmps.getD t undef = a0.tmps.getD t undef) →
    wpAny P md ops Q fuel l a w → wpAny P md ops (KeptQ ts a0 Q) fuel l a w
  | 0, _, _, _, h0, h => ⟨h.1, h.2, h0⟩
  | fuel + 1, _, _, _, h0, h => ⟨fun hr => ⟨h.1 hr, h0⟩, fun i hi => wpOp_mono (fun a' w' h' => wpAny_keep ht fuel _ a' w' h'.2 h'.1) (wpOp_keep ht h0 (h.2 i hi))⟩
end

section
variable {P : Program} {T : Tab} {S : FuncId → Option Sp} {κ : Ctx} {β : Nat → Option (Nat × Nat)} {a : Act} {w : World} {n : Nat} {Q : Exit → St → Prop} {σ : St}

theorem regionD_keep (ts : List Nat) (hE : Env P T S) {id : Nat} {l : List Oper} {σ0 : St} (hn : κ.nt = n) (hC : Conc κ β σ.get σ.blk a w) (hd : dstsB l.toArray n = true) (hok : okN l.toArray = true) (hts : (ts.all fun t => l.all fun o => o.dst != some t) = true) (hcl : cleanD l σ = σ0)
    (h : opsD T S l.toArray l (Q .normal) σ0) : (Code.region id l.toArray true).wp P (KeptQ ts a fun e a' w' => ∃ σ' β', Q e σ' ∧ Conc κ β' σ'.get σ'.blk a' w') a w := by
  subst hcl
  refine wp_region_any hE.hm ?_
  have hdd : ∀ (i : Nat) (o : Oper), l.toArray[i]? = some o → ∀ t, o.dst = some t → t < κ.nt := by
    intro i o ho t ht
    have := Array.all_eq_true_iff_forall_mem.1 hd o (Array.mem_of_getElem? ho)
    rw [ht] at this
    rw [hn]
    simpa using this
  have hC' : Conc κ β (cleanD l σ).get (cleanD l σ).blk a { w with drawn := w.drawn + 1 } := (conc_clean l σ hC).below (drew_below w)
  have hinv : Inv l.toArray (Array.replicate l.toArray.size false) ((cleanD l σ).get, (cleanD l σ).blk) := by
    intro i o ho _ hA d hd u
    exact refs_clean l σ o (by simpa using Array.mem_of_getElem? ho) hA d hd u
  have hlex := anyN_lex (T := T) (S := S) (ops := l.toArray) hok (K := Q .normal) l 0 (Array.replicate l.toArray.size false) (cleanD l σ) (by simp) (by simp) (by omega)
    (fun j _ hj => by
      have hj' : j < l.length := by simpa using hj
      simp [Array.getD, hj']) hinv h
  have := wpAny_of_anyN (P := P) (κ := κ) hE.hT hE.hS hok hdd (Q := fun e a' w' => ∃ σ' β', Q e σ' ∧ Conc κ β' σ'.get σ'.blk a' w') (fun s β' a' w' ⟨σ', h1, h2⟩ h3 => ⟨σ', β', h1, by rw [h2] at h3; exact h3⟩)
    l.length _ _ β a { w with drawn := w.drawn + 1 } hC' hinv hlex
  refine wpAny_keep (a0 := a) (fun j o ho t htt hdt => ?_) _ _ _ _ (fun _ _ => rfl) (by simpa using this)
  have hm := List.all_eq_true.1 hts t htt
  have := List.all_eq_true.1 hm o (by simpa using Array.mem_of_getElem? ho)
  simp [hdt] at this

/-- What stands in an own block, seen as memory that stays. -/
theorem Conc.vp0 (h : Conc κ β σ.get σ.blk a w) {t id : Nat} {wr : Bool} {cs : List AV} (hF : σ.get t = .ptr id 0) (hG : σ.blk id = some ⟨wr, .c cs⟩) :
    ∃ b o C e, a.tmps.getD t undef = .pointer (some ⟨b, o, none⟩) ∧ (0 < cs.length → (κ.w0.heap.size ≤ b ∨ κ.mu ≠ none) ∧ w.heap[b]? = some (.cells C e (0, 0)) ∧ o + cs.length ≤ C.size) ∧ CellsAt w (XG κ β σ.blk) b o cs 0 := by
  have hr := h.rel t
  rw [hF] at hr
  obtain ⟨b, base, h1, h2⟩ := hr _ hG
  rcases h.hp id _ hG with h3 | ⟨b2, base2, C, e, h3, h4, h5, h6, h7⟩
  · rw [h1] at h3; cases h3.1
  · have h3' := h3
    rw [h1] at h3'
    simp only [Option.some.injEq, Prod.mk.injEq] at h3'
    obtain ⟨rfl, rfl⟩ := h3'
    refine ⟨b, base, C, e, h2, fun _ => ⟨?_, h4, h5⟩, ?_⟩
    · rcases h7 with h7 | ⟨lo, hi, h7, _⟩
      · exact .inl h7.1
      · exact .inr (by rw [h7]; simp)
    · have := (h.hp id _ hG).cells (off := 0) h1
      simpa using this
theorem CellsAt.keep {w w' : World} {X X' : Nat → Prop} {b o off : Nat} {cs : List AV} (hk : Keep X w w') (hX : ∀ b, b < w.heap.size → X' b → X b) (hb : ¬ X b) (h : CellsAt w X b o cs off) : CellsAt w' X' b o cs off := by
  intro j c hj
  obtain ⟨v, h1, h2⟩ := h j c hj
  exact ⟨v, hk.cell hb h1, h2.keep hk hX⟩
theorem RI.vp_of {w : World} {X : Nat → Prop} {b o : Nat} {cs : List AV} (hb : 0 < cs.length → ¬ X b) (h : CellsAt w X b o cs 0) : RI w X (.vp cs) (.pointer (some ⟨b, o, none⟩)) := by
  refine RI.vp cs b o (fun j => (w.cell? ⟨b, o + j, none⟩).getD undef) hb (fun j c hj => ?_) (fun j c hj => ?_)
  · obtain ⟨v, h1, _⟩ := h j c (by simpa using hj)
    rw [h1]; rfl
  · obtain ⟨v, h1, h2⟩ := h j c (by simpa using hj)
    rw [h1]; exact h2
/-- The state told anew, of slots alone, from this world on. -/
theorem Conc.anew {l : List (Nat × AV)} {X : Nat → Prop} (hs : a.tmps.size = n) (hd : a.defers = []) (hX : ∀ b, X b → b < w.heap.size) (h : ∀ t v, lk l t = some v → v.im = true ∧ RI w X v (a.tmps.getD t undef)) :
    Conc ⟨n, w, X, none⟩ (fun _ => none) (St.get ⟨l, []⟩) (St.blk ⟨l, []⟩) a w := by
  refine ⟨hs, fun t => ?_, hd, fun id blk hi => (by cases hi), fun i j b c x y _ hx => (by cases hx), ⟨rfl, rfl, rfl, Nat.le_refl _, fun _ _ _ => rfl, fun _ _ _ hm => (by cases hm)⟩, hX⟩
  simp only [St.get]
  cases hl : lk l t with
  | none => exact RI.any _
  | some v =>
    obtain ⟨h1, h2⟩ := h t v hl
    refine RV.of h1 (h2.keep (Keep.refl _ w) (fun b _ hb => ?_))
    rcases hb with hb | ⟨_, _, _, hb, _⟩
    · exact hb
    · cases hb
theorem wpList_seg (hE : Env P T S) (hm : κ.mu = none) {ops : Array Oper} {l tail : List Oper} {K : St → Prop} {Q : Exit → Act → World → Prop} (hC : Conc κ β σ.get σ.blk a w) (hd : dstsB l.toArray κ.nt = true)
    (hA : opsA T S ops l K σ) (hQ : ∀ σ' β' a' w', K σ' → Conc κ β' σ'.get σ'.blk a' w' → wpList P ops Q tail a' w') : wpList P ops Q (l ++ tail) a w := by
  refine opsA_tail hE.hT hE.hS (fun _ => hm) hQ l σ β a w (fun o ho t ht => ?_) hA hC
  have := Array.all_eq_true_iff_forall_mem.1 hd o (by simpa using ho)
  rw [ht] at this
  simpa using this
theorem wpList_call {ops : Array Oper} {o : Oper} {rest : List Oper} {Q : Exit → Act → World → Prop} {f : FuncId} {fn : Func} {c : Code} {args : Array Operand} {ts : Array TypeId} (hop : o.op = .call ⟨.value (.func f), args, ts⟩) (hg : o.guard = none)
    (hf : P.funcs[f]? = some fn) (hb : fn.body = some c) (hname : (fn.name == "runtime.NumGoroutine") = false)
    (h : Calls P f (args.map a.eval) w fun e w' => ∃ v, e = .returned v ∧ wpList P ops Q rest (a.put o.dst v) w') : wpList P ops Q (o :: rest) a w := by
  unfold wpList
  have hw : Region.wanted o (yielded ops a.tmps) = true := by simp [Region.wanted, hg]
  rw [hw, if_pos rfl]
  refine .inl ?_
  unfold Oper.wp
  rw [callFunc_exec o hop rfl, run_callFunc_body hf hb hname]
  refine Calls.mono h fun e w' ⟨v, he, hv⟩ => ?_
  subst he
  exact hv
theorem wpList_value {ops : Array Oper} {o : Oper} {rest : List Oper} {Q : Exit → Act → World → Prop} {x : Value} {w' : World} (hg : o.guard = none) (hr : (execOp a.eval o).run P w = .ok (.value x) w')
    (h : wpList P ops Q rest (a.put o.dst x) w') : wpList P ops Q (o :: rest) a w := by
  unfold wpList
  have hw : Region.wanted o (yielded ops a.tmps) = true := by simp [Region.wanted, hg]
  rw [hw, if_pos rfl]
  refine .inl ?_
  unfold Oper.wp
  rw [hr]
  exact h
theorem wpList_none {ops : Array Oper} {o : Oper} {rest : List Oper} {Q : Exit → Act → World → Prop} {w' : World} (hg : o.guard = none) (hr : (execOp a.eval o).run P w = .ok .skip w')
    (h : wpList P ops Q rest (a.put o.dst undef) w') : wpList P ops Q (o :: rest) a w := by
  unfold wpList
  have hw : Region.wanted o (yielded ops a.tmps) = true := by simp [Region.wanted, hg]
  rw [hw, if_pos rfl]
  refine .inl ?_
  unfold Oper.wp
  rw [hr]
  exact h

/-- What the slots hold. -/
def Good (X : Nat → Prop) (a : Act) (w : World) : List (Nat × AV) → Prop
  | [] => True
  | p :: l => (p.2.im = true ∧ RI w X p.2 (a.tmps.getD p.1 undef)) ∧ Good X a w l
def Has (σ : St) : List (Nat × AV) → Prop
  | [] => True
  | p :: l => (p.2.im = true ∧ σ.get p.1 = p.2) ∧ Has σ l
theorem Good.lk {X : Nat → Prop} : ∀ {l : List (Nat × AV)}, Good X a w l → ∀ t v, Hl.lk l t = some v → v.im = true ∧ RI w X v (a.tmps.getD t undef)
  | [], _, _, _, h => by cases h
  | (k, v) :: l, hg, t, u, h => by
    simp only [Hl.lk] at h
    split at h
    · rename_i e; subst e; cases h; exact hg.1
    · exact Good.lk hg.2 t u h
theorem Good.conc {X : Nat → Prop} {l : List (Nat × AV)} (h : Good X a w l) (hs : a.tmps.size = n) (hd : a.defers = []) (hX : ∀ b, X b → b < w.heap.size) :
    Conc ⟨n, w, X, none⟩ (fun _ => none) (St.get ⟨l, []⟩) (St.blk ⟨l, []⟩) a w := Conc.anew hs hd hX h.lk
theorem Has.good {X : Nat → Prop} (hC : Conc κ β σ.get σ.blk a w) (hX : ∀ b, X b → κ.X0 b) : ∀ {l : List (Nat × AV)}, Has σ l → Good X a w l
  | [], _ => trivial
  | (k, v) :: l, h => by
    refine ⟨⟨h.1.1, ?_⟩, Has.good hC hX h.2⟩
    have h1 := hC.rel k
    have h2 : σ.get k = v := h.1.2
    rw [h2] at h1
    exact (h1.ri h.1.1).keep (Keep.refl _ _) (fun b _ hb => .inl (hX b hb))
theorem Good.keep {X X' : Nat → Prop} {a' : Act} {w' : World} (hk : Keep X w w') (hX : ∀ b, b < w.heap.size → X' b → X b) : ∀ {l : List (Nat × AV)}, (∀ p ∈ l, a'.tmps.getD p.1 undef = a.tmps.getD p.1 undef) → Good X a w l → Good X' a' w' l
  | [], _, _ => trivial
  | p :: l, ht, h => ⟨⟨h.1.1, by rw [ht p (.head _)]; exact h.1.2.keep hk hX⟩, Good.keep hk hX (fun q hq => ht q (.tail _ hq)) h.2⟩
theorem keepOf {w w' : World} (X : Nat → Prop) (h : Below w.heap.size w w') : Keep X w w' := ⟨h.size, fun b hb _ => h.block b hb⟩
theorem wp_of_awp {c : Code} {R : Exit → Act → World → Prop} (h : AWp P T n c Q σ) (hn : κ.nt = n) (hm : κ.mu = none) (hC : Conc κ β σ.get σ.blk a w)
    (hQ : ∀ e a' w', (∃ σ' β', Q e σ' ∧ Conc κ β' σ'.get σ'.blk a' w') → R e a' w') : c.wp P R a w := wp_mono (h κ β a w hn (fun _ => hm) hC) hQ
end
end Go.Hl

namespace Go.Hl
open Go Go.RowKit Go.Proofs
set_option maxHeartbeats 8000000

theorem CellsAt.weak {w : World} {X X' : Nat → Prop} {b o off : Nat} {cs : List AV} (hX : ∀ b, b < w.heap.size → X' b → X b) (h : CellsAt w X b o cs off) : CellsAt w X' b o cs off := by
  intro j c hj
  obtain ⟨v, h1, h2⟩ := h j c hj
  exact ⟨v, h1, h2.keep (Keep.refl _ _) hX⟩
theorem RI.agg2 {w : World} {X : Nat → Prop} {c d : AV} {x : Value} (h : RI w X (.agg [c, d]) x) : ∃ u v, x = .agg #[u, v] ∧ RI w X c u ∧ RI w X d v := by
  cases h with
  | agg _ vs f hl h hr =>
    have h0 := h 0 c rfl
    have h1 := h 1 d rfl
    refine ⟨f 0, f 1, ?_, hr 0 c rfl, hr 1 d rfl⟩
    congr 1
    apply Array.ext_getElem?
    intro i
    rcases i with _ | _ | i
    · exact h0
    · exact h1
    · have : vs.size = 2 := hl
      rw [Array.getElem?_eq_none (by omega), Array.getElem?_eq_none (by show 2 ≤ _; omega)]
theorem RI.agg2_of {w : World} {X : Nat → Prop} {c d : AV} {u v : Value} (h1 : RI w X c u) (h2 : RI w X d v) : RI w X (.agg [c, d]) (.agg #[u, v]) := by
  refine RI.agg _ _ (fun j => if j = 0 then u else v) rfl (fun j c' hj => ?_) (fun j c' hj => ?_)
  · rcases j with _ | _ | j
    · rfl
    · rfl
    · cases hj
  · rcases j with _ | _ | j
    · cases hj; exact h1
    · cases hj; exact h2
    · cases hj

theorem NewNs.ri {n0 : Nat} {m : List Int} {ad : Option Addr} {cap : Nat} {w : World} (h : NewNs n0 m ad cap w) : RI w (fun _ => False) (.ns .u64 m) (.slice ad m.length cap) := by
  rcases h with ⟨bk, o, C, e', h1, h2, h3, h4, h5, h6⟩ | rfl
  · exact RI.ns .u64 m ad bk o cap h2 (fun _ => ⟨h1, fun h => h⟩) (fun i x hx => by rw [cell_of_block h4]; exact h6 i x hx)
  · exact RI.ns .u64 [] ad 0 0 cap (by simp) (by simp) (by simp)

theorem store_u64 {w : World} {bk off : Nat} {C : Array Value} {e : TypeId} (x : Int) (h : w.heap[bk]? = some (.cells C e (0, 0))) (ho : off < C.size) :
    (Instr.storeAt 31 (.pointer (some ⟨bk, off, none⟩)) (.int .u64 x)).run Try.prog w = .ok () (w.setCell ⟨bk, off, none⟩ (.int .u64 x)) := by
  have h1 : w.cell? ⟨bk, off, none⟩ = some C[off] := by rw [cell_of_block h]; simp [ho]
  have h2 := froz_at (o := off) h
  have h3 := Try.sizeOf31
  simp [Instr.storeAt, Instr.sureAddr, storeVar, storeCells, h3, go_sem, h1, h2]
theorem keep_setCell {w : World} {X : Nat → Prop} {bk off : Nat} (hX : X bk) (u : Value) : Keep X w (w.setCell ⟨bk, off, none⟩ u) :=
  ⟨by simp [World.setCell], fun k _ hk => Below.heap_setCell _ _ _ _ (fun e => hk (by show X k; rw [e]; exact hX))⟩

/-- What holds ahead of each round: k limbs are written. -/
def StI (X : Nat → Prop) (w0 : World) (L : Nat) (ad : Option Addr) (ls : Nat → List (Nat × AV)) (a : Act) (w : World) : Prop :=
  ∃ k, k ≤ L ∧ a.tmps.size = 103 ∧ a.defers = [] ∧ Good X a w (ls k) ∧ Below w0.heap.size w0 w ∧ (∀ k, X k → k < w.heap.size) ∧
    (0 < L → ∃ bk o, ad = some ⟨bk, o, none⟩ ∧ X bk ∧ ∃ C e', w.heap[bk]? = some (.cells C e' (0, 0)) ∧ o + L ≤ C.size)
def slotN (a : Act) (t : Nat) : Nat := match a.tmps.getD t undef with | .int _ k => k.toNat | _ => 0

theorem zedStands_ok {b c : Bool} {xs ys : List Int} (hx : Lim B64 xs) (hy : Lim B64 ys) :
    ACall Try.prog 18 [.agg [.raw (.bool b), .ns .u64 xs], .agg [.raw (.bool c), .ns .u64 ys]] (.raw (.bool true)) := by
  have hE := env (SOK.cons shown2_ok (SOK.cons zcut_ok (SOK.cons equal_ok (SOK.cons rznorm_ok (SOK.cons small_ok (SOK.cons rzsmall_ok (SOK.cons same_ok (SOK.cons sign_ok (SOK.cons rzsign_ok (SOK.cons zcmp_ok (SOK.cons rzcmp_ok (SOK.cons zsame_ok (SOK.cons rzsame_ok (SOK.cons zbitlen_ok (SOK.cons rzbitlen_ok (SOK.nil (P := Try.prog)))))))))))))))))
  obtain ⟨hA, hAl⟩ := lm_take hx (n := 40) (by decide)
  obtain ⟨hB, hBl⟩ := lm_take hy (n := 40) (by decide)
  obtain ⟨A, eA⟩ : ∃ A, xs.take 40 = A := ⟨_, rfl⟩
  obtain ⟨B, eB⟩ : ∃ B, ys.take 40 = B := ⟨_, rfl⟩
  rw [eA] at hA hAl
  rw [eB] at hB hBl
  obtain ⟨Z, eZ⟩ : ∃ Z, zv b A = Z := ⟨_, rfl⟩
  have hsg : (b && decide (0 < (dg (nb A)).length)) = decide (Z < 0) := by rw [← eZ]; exact (zs_neg b (nb A)).symm
  have hmz : dg (nb A) = dg Z.natAbs := by rw [← eZ]; unfold zv; rw [zs_abs]
  obtain ⟨L, eL⟩ : ∃ L, (dg Z.natAbs).length = L := ⟨_, rfl⟩
  have hL : L < 10000000 := by
    have := dg_len_lt hA (n := 10000000) (by omega)
    rw [hmz, eL] at this; exact this
  have eA2 : A.take 40 = A := List.take_of_length_le hAl
  refine ACall.body hE Try.func18 Try.ntmps18 Try.results18 ?_
  refine wkR hE (And.intro eA eB) ?_
  refine wkR hE (And.intro eA eB) ?_
  refine wkR hE (And.intro eA eB) ?_
  refine wkR hE (And.intro eA eB) ?_
  intro κ β a w hn hm hC
  have hmu := hm rfl
  obtain ⟨p2, o2, C2, e2, q2, _, g2⟩ := hC.vp0 (t := 2) (id := 2) rfl rfl
  obtain ⟨p3, o3, C3, e3, q3, _, g3⟩ := hC.vp0 (t := 3) (id := 3) rfl rfl
  have r5 := RI.raw_inv (hC.rel 5)
  have s2 : RI w (fun _ => False) (.vp [.raw (.bool b), .ns .u64 A]) (a.tmps.getD 2 undef) := by
    rw [q2]; exact RI.vp_of (fun _ h => h) (g2.weak (fun _ _ h => h.elim))
  have s3 : RI w (fun _ => False) (.vp [.raw (.bool c), .ns .u64 B]) (a.tmps.getD 3 undef) := by
    rw [q3]; exact RI.vp_of (fun _ h => h) (g3.weak (fun _ _ h => h.elim))
  have hC1 := Good.conc (n := 103) (X := fun _ => False) (a := a) (w := w) (l := [(2, .vp [.raw (.bool b), .ns .u64 A]), (3, .vp [.raw (.bool c), .ns .u64 B]), (5, .raw (.bool true))])
    ⟨⟨rfl, s2⟩, ⟨rfl, s3⟩, ⟨rfl, by show RI _ _ _ (a.tmps.getD 5 undef); rw [r5]; exact RI.raw _⟩, trivial⟩ (hC.sz.trans hn) hC.dfr (fun _ h => h.elim)
  refine wp_seq ?_
  refine wp_region_lit ?_
  refine wpList_seg (l := [_]) (K := fun σ => σ.get 20 = .agg [.raw (.bool b), .ns .u64 A] ∧ Has σ [(2, .vp [.raw (.bool b), .ns .u64 A]), (3, .vp [.raw (.bool c), .ns .u64 B]), (5, .raw (.bool true))]) hE rfl hC1 (by kernel_rfl) ?_ ?_
  · refine wk hE trivial ?_
    exact ⟨rfl, ⟨rfl, rfl⟩, ⟨rfl, rfl⟩, ⟨rfl, rfl⟩, trivial⟩
  intro σ1 β1 a1 w1 ⟨k20, k2⟩ hC2
  have hg1 := k2.good (X := fun _ => False) hC2 (fun _ h => h)
  have t20 := hC2.rel 20
  rw [k20] at t20
  obtain ⟨u0, v0, x20, y0, y1⟩ := RI.agg2 t20
  have y0 := RI.raw_inv y0
  subst y0
  have y1 := y1.keep (X' := fun _ => False) (Keep.refl _ _) (fun _ _ h => h.elim)
  refine wpList_call rfl rfl Try.func87 rfl (by decide) ?_
  simp only [List.map_toArray, List.map_cons, List.map_nil, Act.eval, x20]
  refine (znorm_new b A hA w1 v0 y1).mono ?_
  rintro e w2 ⟨ad, cap, rfl, hb2, hN⟩
  refine ⟨_, rfl, ?_⟩
  rw [hmz] at hN ⊢
  have hsg' := hsg
  rw [hmz] at hsg'
  rw [hsg', eL]
  obtain ⟨X2, eX2⟩ : ∃ X2 : Nat → Prop, X2 = fun k => w1.heap.size ≤ k ∧ k < w2.heap.size := ⟨_, rfl⟩
  have hX2 : ∀ k, X2 k → w1.heap.size ≤ k ∧ k < w2.heap.size := fun k h => by rw [eX2] at h; exact h
  have hsz1 : a1.tmps.size = 103 := hC2.sz
  have g21 : RI w2 X2 (.agg [.raw (.bool (decide (Z < 0))), .raw (.slice ad L cap)]) ((a1.put (some 21) (.agg #[.bool (decide (Z < 0)), .slice ad L cap])).tmps.getD 21 undef) := by
    have : (a1.put (some 21) (.agg #[.bool (decide (Z < 0)), .slice ad L cap])).tmps.getD 21 undef = .agg #[.bool (decide (Z < 0)), .slice ad L cap] := by
      simp [Act.put, Array.getD, hsz1]
    rw [this]
    exact RI.agg2_of (RI.raw _) (RI.raw _)
  have hg2 : Good X2 (a1.put (some 21) (.agg #[.bool (decide (Z < 0)), .slice ad L cap])) w2 [(21, .agg [.raw (.bool (decide (Z < 0))), .raw (.slice ad L cap)]), (2, .vp [.raw (.bool b), .ns .u64 A]), (3, .vp [.raw (.bool c), .ns .u64 B]), (5, .raw (.bool true))] := by
    refine ⟨⟨rfl, g21⟩, hg1.keep (keepOf _ hb2) (fun b hb h => absurd (hX2 b h).1 (by omega)) (fun p hp => put_keep ?_)⟩
    rcases hp with _ | ⟨_, _ | ⟨_, _ | ⟨_, hp⟩⟩⟩ <;> first | (cases hp; done) | simp
  have hC3 := hg2.conc (n := 103) (by simpa [Act.put] using hsz1) hC2.dfr (fun k hk => (hX2 k hk).2)
  show wpList _ _ _ _ (a1.put (some 21) (.agg #[.bool (decide (Z < 0)), .slice ad L cap])) w2
  generalize (a1.put (some 21) (.agg #[.bool (decide (Z < 0)), .slice ad L cap])) = a2 at *
  have hb1 := hC2.chg.belowW
  have hb02 : Below w.heap.size w w2 := hb1.trans (hb2.mono hb1.size)
  have hbk : 0 < L → ∃ bk o, ad = some ⟨bk, o, none⟩ ∧ X2 bk ∧ ∃ C e', w2.heap[bk]? = some (.cells C e' (0, 0)) ∧ o + L ≤ C.size := by
    intro h0
    rcases hN with ⟨bk, o, C, e', h1, h2, h3, h4, h5, h6⟩ | h
    · exact ⟨bk, o, h1, by rw [eX2]; exact ⟨h3, lt_of_block h4⟩, C, e', h4, by omega⟩
    · rw [h] at eL; simp at eL; omega
  clear hC1 hC2 k20 k2 x20 s2 s3 y1 g21 hg1 hg2 q2 g2 q3 g3
  refine wpList_seg (l := [_, _]) (tail := []) (K := fun σ => (σ.get 6 = .ptr 6 0 ∧ σ.blk 6 = some ⟨true, .c [.raw (.bool (decide (Z < 0))), .raw (.slice ad L cap)]⟩) ∧ Has σ [(2, .vp [.raw (.bool b), .ns .u64 A]), (3, .vp [.raw (.bool c), .ns .u64 B]), (5, .raw (.bool true))]) hE rfl hC3 (by kernel_rfl) ?_ ?_
  · refine wk hE trivial ?_
    exact ⟨⟨rfl, rfl⟩, ⟨rfl, rfl⟩, ⟨rfl, rfl⟩, ⟨rfl, rfl⟩, trivial⟩
  intro σ4 β4 a4 w4 ⟨⟨k6, kb6⟩, kk⟩ hC4
  refine wpList_nil ?_
  obtain ⟨p6, o6, C6, e6, q6, j6, g6⟩ := hC4.vp0 k6 kb6
  obtain ⟨j61, j62, j63⟩ := j6 (by simp)
  have j61 : w2.heap.size ≤ p6 := by
    rcases j61 with h | h
    · exact h
    · exact absurd rfl h
  have hb4 := hC4.chg.belowW
  have hN4 := hN.below hb4
  have hg4 := kk.good (X := X2) hC4 (fun _ h => h)
  have s6 : RI w4 X2 (.vp [.raw (.bool (decide (Z < 0))), .raw (.slice ad L cap)]) (a4.tmps.getD 6 undef) := by
    rw [q6]
    exact RI.vp_of (fun _ h => absurd (hX2 _ h).2 (by omega)) (g6.weak (fun _ _ h => .inl h))
  have hg4' : Good X2 a4 w4 [(6, .vp [.raw (.bool (decide (Z < 0))), .raw (.slice ad L cap)]), (2, .vp [.raw (.bool b), .ns .u64 A]), (3, .vp [.raw (.bool c), .ns .u64 B]), (5, .raw (.bool true))] := ⟨⟨rfl, s6⟩, hg4⟩
  have s6' : RI w4 (fun _ => False) (.vp [.raw (.bool (decide (Z < 0))), .ns .u64 (dg Z.natAbs)]) (a4.tmps.getD 6 undef) := by
    rw [q6]
    refine RI.vp_of (fun _ h => h) (fun j c' hj => ?_)
    rcases j with _ | _ | j
    · cases hj
      obtain ⟨v, h1, h2⟩ := g6 0 _ rfl
      rw [RI.raw_inv h2] at h1
      exact ⟨_, h1, RI.raw _⟩
    · cases hj
      obtain ⟨v, h1, h2⟩ := g6 1 _ rfl
      rw [RI.raw_inv h2] at h1
      refine ⟨_, h1, ?_⟩
      rw [← eL]
      exact hN4.ri
    · cases hj
  have hCA := Good.conc (n := 103) (X := fun _ => False) (a := a4) (w := w4) (l := [(6, .vp [.raw (.bool (decide (Z < 0))), .ns .u64 (dg Z.natAbs)]), (2, .vp [.raw (.bool b), .ns .u64 A]), (3, .vp [.raw (.bool c), .ns .u64 B]), (5, .raw (.bool true))])
    ⟨⟨rfl, s6'⟩, hg4.keep (Keep.refl _ _) (fun _ _ h => h.elim) (fun _ _ => rfl)⟩ hC4.sz hC4.dfr (fun _ h => h.elim)
  have hsz4 : a4.tmps.size = 103 := hC4.sz
  have hdf4 := hC4.dfr
  have hb04 : Below w.heap.size w w4 := hb02.trans (hb4.mono hb02.size)
  have hbk4 : 0 < L → ∃ bk o, ad = some ⟨bk, o, none⟩ ∧ X2 bk ∧ ∃ C e', w4.heap[bk]? = some (.cells C e' (0, 0)) ∧ o + L ≤ C.size := by
    intro h0
    obtain ⟨bk, o, h1, h2, C, e', h3, h4⟩ := hbk h0
    exact ⟨bk, o, h1, h2, C, e', (hb4.block _ (lt_of_block h3)).trans h3, h4⟩
  clear hC3 hC4 k6 kb6 kk q6 j6 j62 j63 g6 hg4 s6 s6' hN hN4 hbk
  have dself : decide (dg Z.natAbs = dg Z.natAbs) = true := decide_eq_true rfl
  refine wp_seq (wp_mono (regionD_keep (Q := fun e σ => e = .normal ∧ Has σ [(7, .raw (.bool true))]) [2, 3, 5, 6] hE rfl hCA (by kernel_rfl) (by kernel_rfl) rfl rfl ?_) ?_)
  · refine wk hE (And.intro eZ dself) ?_
    exact ⟨rfl, ⟨rfl, rfl⟩, trivial⟩
  intro e a5 w5 hK
  have he : e = .normal := by
    cases e with
    | normal => rfl
    | _ => obtain ⟨_, _, h, _⟩ := hK; exact h.1
  subst he
  obtain ⟨⟨σ5, β5, ⟨_, hs5⟩, hC5⟩, hkeep⟩ := hK
  have hb5 := hC5.chg.belowW
  have h7 := hC5.rel 7
  rw [show σ5.get 7 = _ from hs5.1.2] at h7
  have h7 := RI.raw_inv h7
  have hg5 : Good X2 a5 w5 [(7, .raw (.bool true)), (6, .vp [.raw (.bool (decide (Z < 0))), .raw (.slice ad L cap)]), (2, .vp [.raw (.bool b), .ns .u64 A]), (3, .vp [.raw (.bool c), .ns .u64 B]), (5, .raw (.bool true))] := by
    refine ⟨⟨rfl, by show RI _ _ _ (a5.tmps.getD 7 undef); rw [h7]; exact RI.raw _⟩, hg4'.keep (keepOf _ hb5) (fun _ _ h => h) (fun p hp => hkeep _ ?_)⟩
    rcases hp with _ | ⟨_, _ | ⟨_, _ | ⟨_, _ | ⟨_, hp⟩⟩⟩⟩ <;> first | (cases hp; done) | simp
  have hsz5 : a5.tmps.size = 103 := hC5.sz
  have hb05 : Below w.heap.size w w5 := hb04.trans (hb5.mono hb04.size)
  have hCB := hg5.conc (n := 103) hsz5 hC5.dfr (fun k hk => Nat.lt_of_lt_of_le (hX2 k hk).2 (Nat.le_trans hb4.size hb5.size))
  have hbk5 : 0 < L → ∃ bk o, ad = some ⟨bk, o, none⟩ ∧ X2 bk ∧ ∃ C e', w5.heap[bk]? = some (.cells C e' (0, 0)) ∧ o + L ≤ C.size := by
    intro h0
    obtain ⟨bk, o, h1, h2, C, e', h3, h4⟩ := hbk4 h0
    exact ⟨bk, o, h1, h2, C, e', (hb5.block _ (lt_of_block h3)).trans h3, h4⟩
  have hz5 : w2.heap.size ≤ w5.heap.size := Nat.le_trans hb4.size hb5.size
  clear hCA hC5 hkeep hs5 hg4' hg5 hbk4
  refine wp_seq (wp_of_awp (T := tab false) (Q := fun e σ => e = .normal ∧ (σ.get 8 = .ptr 8 0 ∧ σ.blk 8 = some ⟨true, .c [.raw (.bool b), .ns .u64 A]⟩) ∧ Has σ [(7, .raw (.bool true)), (6, .vp [.raw (.bool (decide (Z < 0))), .raw (.slice ad L cap)]), (2, .vp [.raw (.bool b), .ns .u64 A]), (3, .vp [.raw (.bool c), .ns .u64 B]), (5, .raw (.bool true))]) ?_ rfl rfl hCB ?_)
  · refine wk hE eA2 ?_
    exact ⟨rfl, ⟨rfl, rfl⟩, ⟨rfl, rfl⟩, ⟨rfl, rfl⟩, ⟨rfl, rfl⟩, ⟨rfl, rfl⟩, ⟨rfl, rfl⟩, trivial⟩
  rintro e a6 w6 ⟨σ6, β6, ⟨rfl, ⟨k8, kb8⟩, hs6⟩, hC6⟩
  obtain ⟨p8, o8, C8, e8, q8, j8, g8⟩ := hC6.vp0 k8 kb8
  obtain ⟨j81, _, _⟩ := j8 (by simp)
  have j81 : w5.heap.size ≤ p8 := by
    rcases j81 with h | h
    · exact h
    · exact absurd rfl h
  have hb6 := hC6.chg.belowW
  have hb06 : Below w.heap.size w w6 := hb05.trans (hb6.mono hb05.size)
  have hsz6 : a6.tmps.size = 103 := hC6.sz
  have hg6 : Good X2 a6 w6 [(8, .vp [.raw (.bool b), .ns .u64 A]), (7, .raw (.bool true)), (6, .vp [.raw (.bool (decide (Z < 0))), .raw (.slice ad L cap)]), (2, .vp [.raw (.bool b), .ns .u64 A]), (3, .vp [.raw (.bool c), .ns .u64 B]), (5, .raw (.bool true))] := by
    refine ⟨⟨rfl, ?_⟩, hs6.good hC6 (fun _ h => h)⟩
    show RI _ _ _ (a6.tmps.getD 8 undef)
    rw [q8]
    exact RI.vp_of (fun _ h => absurd (hX2 _ h).2 (by omega)) (g8.weak (fun _ _ h => .inl h))
  have hCC := hg6.conc (n := 103) hsz6 hC6.dfr (fun k hk => Nat.lt_of_lt_of_le (hX2 k hk).2 (Nat.le_trans hz5 hb6.size))
  have hbk6 : 0 < L → ∃ bk o, ad = some ⟨bk, o, none⟩ ∧ X2 bk ∧ ∃ C e', w6.heap[bk]? = some (.cells C e' (0, 0)) ∧ o + L ≤ C.size := by
    intro h0
    obtain ⟨bk, o, h1, h2, C, e', h3, h4⟩ := hbk5 h0
    exact ⟨bk, o, h1, h2, C, e', (hb6.block _ (lt_of_block h3)).trans h3, h4⟩
  have hz6 : w2.heap.size ≤ w6.heap.size := Nat.le_trans hz5 hb6.size
  clear hCB hC6 hs6 hg6 hbk5 k8 kb8 q8 j8 g8
  refine wp_seq (wp_seq (wp_of_awp (T := tab false) (Q := fun e σ => e = .normal ∧ Has σ [(9, .raw (.int .i64 0)), (8, .vp [.raw (.bool b), .ns .u64 A]), (7, .raw (.bool true)), (6, .vp [.raw (.bool (decide (Z < 0))), .raw (.slice ad L cap)]), (2, .vp [.raw (.bool b), .ns .u64 A]), (3, .vp [.raw (.bool c), .ns .u64 B]), (5, .raw (.bool true))]) ?_ rfl rfl hCC ?_))
  · refine wk hE trivial ?_
    exact ⟨rfl, ⟨rfl, rfl⟩, ⟨rfl, rfl⟩, ⟨rfl, rfl⟩, ⟨rfl, rfl⟩, ⟨rfl, rfl⟩, ⟨rfl, rfl⟩, ⟨rfl, rfl⟩, trivial⟩
  rintro e a7 w7 ⟨σ7, β7, ⟨rfl, hs7⟩, hC7⟩
  have hb7 := hC7.chg.belowW
  have hg7 := hs7.good (X := X2) hC7 (fun _ h => h)
  have hI7 : StI X2 w L ad (fun k => [(9, .raw (.int .i64 (k : Nat))), (8, .vp [.raw (.bool b), .ns .u64 A]), (7, .raw (.bool true)), (6, .vp [.raw (.bool (decide (Z < 0))), .raw (.slice ad L cap)]), (2, .vp [.raw (.bool b), .ns .u64 A]), (3, .vp [.raw (.bool c), .ns .u64 B]), (5, .raw (.bool true))]) a7 w7 := by
    refine ⟨0, Nat.zero_le _, hC7.sz, hC7.dfr, hg7, hb06.trans (hb7.mono hb06.size), fun k hk => Nat.lt_of_lt_of_le (hX2 k hk).2 (Nat.le_trans hz6 hb7.size), fun h0 => ?_⟩
    obtain ⟨bk, o, h1, h2, C, e', h3, h4⟩ := hbk6 h0
    exact ⟨bk, o, h1, h2, C, e', (hb7.block _ (lt_of_block h3)).trans h3, h4⟩
  have hX0 : ∀ k, X2 k → w.heap.size ≤ k := fun k hk => Nat.le_trans hb1.size (hX2 k hk).1
  have hch := hC.chg
  have hx0 := hC.x0
  clear hCC hC7 hs7 hg7 hbk6 hC hX2 eX2
  refine wp_block (wp_loop (StI X2 w L ad (fun k => [(9, .raw (.int .i64 (k : Nat))), (8, .vp [.raw (.bool b), .ns .u64 A]), (7, .raw (.bool true)), (6, .vp [.raw (.bool (decide (Z < 0))), .raw (.slice ad L cap)]), (2, .vp [.raw (.bool b), .ns .u64 A]), (3, .vp [.raw (.bool c), .ns .u64 B]), (5, .raw (.bool true))])) (fun a _ => L - slotN a 9) hI7 ?_)
  intro aa ww hI
  obtain ⟨k, hkL, hsz, hdf, hg, hb0, hxw, hbk⟩ := hI
  have h9 : aa.tmps.getD 9 undef = .int .i64 (k : Nat) := RI.raw_inv hg.1.2
  have hs9 : slotN aa 9 = k := by unfold slotN; rw [h9]; simp
  have hCr := hg.conc (n := 103) hsz hdf hxw
  refine wp_seq (wp_seq ?_)
  refine wp_region_lit ?_
  refine wpList_seg (l := [_, _, _]) (K := fun σ => σ.get 30 = .raw (.slice ad L cap) ∧ Has σ ((28, .raw (.int .i64 (k : Nat))) :: (9, .raw (.int .i64 (k : Nat))) :: [(8, .vp [.raw (.bool b), .ns .u64 A]), (7, .raw (.bool true)), (6, .vp [.raw (.bool (decide (Z < 0))), .raw (.slice ad L cap)]), (2, .vp [.raw (.bool b), .ns .u64 A]), (3, .vp [.raw (.bool c), .ns .u64 B]), (5, .raw (.bool true))])) hE rfl hCr (by kernel_rfl) ?_ ?_
  · refine wk hE trivial ?_
    exact ⟨rfl, ⟨rfl, rfl⟩, ⟨rfl, rfl⟩, ⟨rfl, rfl⟩, ⟨rfl, rfl⟩, ⟨rfl, rfl⟩, ⟨rfl, rfl⟩, ⟨rfl, rfl⟩, ⟨rfl, rfl⟩, trivial⟩
  intro σ8 β8 a8 w8 ⟨k30, hs8⟩ hC8
  have h30 := hC8.rel 30
  rw [k30] at h30
  have h30 := RI.raw_inv h30
  have hg8 := hs8.good (X := X2) hC8 (fun _ h => h)
  have hb8 := hC8.chg.belowW
  have hsz8 : a8.tmps.size = 103 := hC8.sz
  refine wpList_value (x := .int .i64 (L : Nat)) (w' := w8) rfl (by simp [execOp, resolve, invoke, builtin, Builtin.len_, run_underlying Try.underlying22, Act.eval, h30, goInt]) ?_
  have hg9 : Good X2 (a8.put (some 31) (.int .i64 (L : Nat))) w8 ((31, .raw (.int .i64 (L : Nat))) :: (28, .raw (.int .i64 (k : Nat))) :: (9, .raw (.int .i64 (k : Nat))) :: [(8, .vp [.raw (.bool b), .ns .u64 A]), (7, .raw (.bool true)), (6, .vp [.raw (.bool (decide (Z < 0))), .raw (.slice ad L cap)]), (2, .vp [.raw (.bool b), .ns .u64 A]), (3, .vp [.raw (.bool c), .ns .u64 B]), (5, .raw (.bool true))]) := by
    refine ⟨⟨rfl, ?_⟩, hg8.keep (Keep.refl _ _) (fun _ _ h => h) (fun p hp => put_keep ?_)⟩
    · have : (a8.put (some 31) (.int .i64 (L : Nat))).tmps.getD 31 undef = .int .i64 (L : Nat) := by simp [Act.put, Array.getD, hsz8]
      rw [this]; exact RI.raw _
    · rcases hp with _ | ⟨_, _ | ⟨_, _ | ⟨_, _ | ⟨_, _ | ⟨_, _ | ⟨_, _ | ⟨_, _ | ⟨_, hp⟩⟩⟩⟩⟩⟩⟩⟩ <;> first | (cases hp; done) | simp
  have hC9 := hg9.conc (n := 103) (by simpa [Act.put] using hsz8) hC8.dfr (fun k hk => Nat.lt_of_lt_of_le (hxw k hk) hb8.size)
  show wpList _ _ _ _ (a8.put (some 31) (.int .i64 (L : Nat))) w8
  generalize (a8.put (some 31) (.int .i64 (L : Nat))) = a9 at *
  have hb08 : Below w.heap.size w w8 := hb0.trans (hb8.mono hb0.size)
  have hxw8 : ∀ k, X2 k → k < w8.heap.size := fun k hk => Nat.lt_of_lt_of_le (hxw k hk) hb8.size
  have hbk8 : 0 < L → ∃ bk o, ad = some ⟨bk, o, none⟩ ∧ X2 bk ∧ ∃ C e', w8.heap[bk]? = some (.cells C e' (0, 0)) ∧ o + L ≤ C.size := by
    intro h0
    obtain ⟨bk, o, h1, h2, C, e', h3, h4⟩ := hbk h0
    exact ⟨bk, o, h1, h2, C, e', (hb8.block _ (lt_of_block h3)).trans h3, h4⟩
  clear hCr hC8 hs8 hg8 hg9 hg k30 h30 hbk hb0 hxw h9
  by_cases hkl : k < L
  · refine wpList_seg (l := [_]) (tail := []) (K := fun σ => Has σ ((32, .raw (.bool true)) :: (9, .raw (.int .i64 (k : Nat))) :: [(8, .vp [.raw (.bool b), .ns .u64 A]), (7, .raw (.bool true)), (6, .vp [.raw (.bool (decide (Z < 0))), .raw (.slice ad L cap)]), (2, .vp [.raw (.bool b), .ns .u64 A]), (3, .vp [.raw (.bool c), .ns .u64 B]), (5, .raw (.bool true))])) hE rfl hC9 (by kernel_rfl) ?_ ?_
    · refine wk hE (show (k : Int) < (L : Nat) by omega) ?_
      exact ⟨⟨rfl, rfl⟩, ⟨rfl, rfl⟩, ⟨rfl, rfl⟩, ⟨rfl, rfl⟩, ⟨rfl, rfl⟩, ⟨rfl, rfl⟩, ⟨rfl, rfl⟩, ⟨rfl, rfl⟩, trivial⟩
    intro σ10 β10 a10 w10 hs10 hC10
    refine wpList_nil ?_
    have h32 : a10.tmps.getD 32 undef = .bool true := by
      have h := hC10.rel 32
      rw [show σ10.get 32 = _ from hs10.1.2] at h
      exact RI.raw_inv h
    have hg10 := hs10.2.good (X := X2) hC10 (fun _ h => h)
    have hb10 := hC10.chg.belowW
    have hxw10 : ∀ k, X2 k → k < w10.heap.size := fun k hk => Nat.lt_of_lt_of_le (hxw8 k hk) hb10.size
    have hC11 := hg10.conc (n := 103) hC10.sz hC10.dfr hxw10
    have hb010 : Below w.heap.size w w10 := hb08.trans (hb10.mono hb08.size)
    obtain ⟨bk, o, had, hXbk, C, e', hblk, hoL⟩ := hbk8 (by omega)
    have hblk10 : w10.heap[bk]? = some (.cells C e' (0, 0)) := (hb10.block _ (lt_of_block hblk)).trans hblk
    refine wp_cond (c := .tmp 32) (t := true) h32 ?_
    refine wp_skip ?_
    show Code.wp _ _ _ _ _
    clear hC9 hC10 hs10 hg10
    refine wp_seq (wp_block ?_)
    refine wp_region_lit ?_
    refine wpList_seg (l := [_, _, _]) (K := fun σ => (σ.get 36 = .raw (.slice ad L cap) ∧ σ.get 37 = .raw (.int .i64 (k : Nat))) ∧ Has σ ((9, .raw (.int .i64 (k : Nat))) :: [(8, .vp [.raw (.bool b), .ns .u64 A]), (7, .raw (.bool true)), (6, .vp [.raw (.bool (decide (Z < 0))), .raw (.slice ad L cap)]), (2, .vp [.raw (.bool b), .ns .u64 A]), (3, .vp [.raw (.bool c), .ns .u64 B]), (5, .raw (.bool true))])) hE rfl hC11 (by kernel_rfl) ?_ ?_
    · refine wk hE trivial ?_
      exact ⟨⟨rfl, rfl⟩, ⟨rfl, rfl⟩, ⟨rfl, rfl⟩, ⟨rfl, rfl⟩, ⟨rfl, rfl⟩, ⟨rfl, rfl⟩, ⟨rfl, rfl⟩, ⟨rfl, rfl⟩, trivial⟩
    intro σ12 β12 a12 w12 ⟨⟨k36, k37⟩, hs12⟩ hC12
    have h36 := hC12.rel 36
    rw [k36] at h36
    have h36 := RI.raw_inv h36
    have h37 := hC12.rel 37
    rw [k37] at h37
    have h37 := RI.raw_inv h37
    have hg12 := hs12.good (X := X2) hC12 (fun _ h => h)
    have hb12 := hC12.chg.belowW
    have hsz12 : a12.tmps.size = 103 := hC12.sz
    have hblk12 : w12.heap[bk]? = some (.cells C e' (0, 0)) := (hb12.block _ (lt_of_block hblk10)).trans hblk10
    have hT22 : (tab false).sl 22 = some (31, 1, 8) := by rfl
    refine wpList_value (x := .pointer (some ⟨bk, o + k, none⟩)) (w' := w12) rfl ?_ ?_
    · have := run_indexAt (P := Try.prog) (w := w12) hE.hT hT22 (ad := ⟨bk, o, none⟩) (len := L) (cap := cap) (k := .i64) (i := (k : Nat)) (by omega) (by simpa using hkl)
      simp [execOp, Act.eval, h36, h37, had, this, Addr.add]
    refine wpList_none (w' := w12.setCell ⟨bk, o + k, none⟩ (.int .u64 7)) rfl ?_ ?_
    · have h38 : (a12.put (some 38) (.pointer (some ⟨bk, o + k, none⟩))).tmps.getD 38 undef = .pointer (some ⟨bk, o + k, none⟩) := by simp [Act.put, Array.getD, hsz12]
      have := store_u64 7 hblk12 (off := o + k) (by omega)
      simp [execOp, Act.eval, h38, this]
    refine wpList_nil ?_
    have hk13 := keep_setCell (w := w12) (off := o + k) hXbk (.int .u64 7)
    have hg13 : Good X2 ((a12.put (some 38) (.pointer (some ⟨bk, o + k, none⟩))).put none undef) (w12.setCell ⟨bk, o + k, none⟩ (.int .u64 7)) ((9, .raw (.int .i64 (k : Nat))) :: [(8, .vp [.raw (.bool b), .ns .u64 A]), (7, .raw (.bool true)), (6, .vp [.raw (.bool (decide (Z < 0))), .raw (.slice ad L cap)]), (2, .vp [.raw (.bool b), .ns .u64 A]), (3, .vp [.raw (.bool c), .ns .u64 B]), (5, .raw (.bool true))]) := by
      refine hg12.keep hk13 (fun _ _ h => h) (fun p hp => (show (a12.put (some 38) (.pointer (some ⟨bk, o + k, none⟩))).tmps.getD p.1 undef = _ from put_keep ?_))
      rcases hp with _ | ⟨_, _ | ⟨_, _ | ⟨_, _ | ⟨_, _ | ⟨_, _ | ⟨_, _ | ⟨_, hp⟩⟩⟩⟩⟩⟩⟩ <;> first | (cases hp; done) | simp
    have hblk13 := setCell_at (u := .int .u64 7) hblk12 (o := o + k) (by omega)
    have hsz13 : ((a12.put (some 38) (.pointer (some ⟨bk, o + k, none⟩))).put none undef).tmps.size = 103 := by simpa [Act.put] using hsz12
    have hb12' : Below w.heap.size w w12 := hb010.trans (hb12.mono hb010.size)
    have hb013 : Below w.heap.size w (w12.setCell ⟨bk, o + k, none⟩ (.int .u64 7)) := hb12'.setCell (p := ⟨bk, o + k, none⟩) (hX0 _ hXbk) _
    have hxw13 : ∀ j, X2 j → j < (w12.setCell ⟨bk, o + k, none⟩ (.int .u64 7)).heap.size := fun j hj => Nat.lt_of_lt_of_le (hxw10 j hj) (Nat.le_trans hb12.size hk13.1)
    have hC13 := hg13.conc (n := 103) hsz13 hC12.dfr hxw13
    show Code.wp _ _ _ ((a12.put (some 38) (.pointer (some ⟨bk, o + k, none⟩))).put none undef) (w12.setCell ⟨bk, o + k, none⟩ (.int .u64 7))
    generalize ((a12.put (some 38) (.pointer (some ⟨bk, o + k, none⟩))).put none undef) = a13 at *
    generalize (w12.setCell ⟨bk, o + k, none⟩ (.int .u64 7)) = w13 at *
    clear hC12 hg12 hs12 hC11 hblk12 hblk10 hblk hk13 h36 h37 k36 k37
    refine wp_of_awp (T := tab false) (Q := fun e σ => e = .normal ∧ Has σ ((9, .raw (.int .i64 ((k + 1 : Nat) : Int))) :: [(8, .vp [.raw (.bool b), .ns .u64 A]), (7, .raw (.bool true)), (6, .vp [.raw (.bool (decide (Z < 0))), .raw (.slice ad L cap)]), (2, .vp [.raw (.bool b), .ns .u64 A]), (3, .vp [.raw (.bool c), .ns .u64 B]), (5, .raw (.bool true))])) ?_ rfl rfl hC13 ?_
    · refine wk hE trivial ?_
      exact ⟨rfl, ⟨rfl, rfl⟩, ⟨rfl, rfl⟩, ⟨rfl, rfl⟩, ⟨rfl, rfl⟩, ⟨rfl, rfl⟩, ⟨rfl, rfl⟩, ⟨rfl, rfl⟩, trivial⟩
    rintro e a14 w14 ⟨σ14, β14, ⟨rfl, hs14⟩, hC14⟩
    have hb14 := hC14.chg.belowW
    have hg14 := hs14.good (X := X2) hC14 (fun _ h => h)
    have h9' : a14.tmps.getD 9 undef = .int .i64 ((k + 1 : Nat) : Int) := RI.raw_inv hg14.1.2
    refine ⟨⟨k + 1, hkl, hC14.sz, hC14.dfr, hg14, hb013.trans (hb14.mono hb013.size), fun k hk => Nat.lt_of_lt_of_le (hxw13 k hk) hb14.size, fun _ => ?_⟩, ?_⟩
    · exact ⟨bk, o, had, hXbk, _, e', (hb14.block _ (lt_of_block hblk13)).trans hblk13, by simpa using hoL⟩
    · have : slotN a14 9 = k + 1 := by unfold slotN; rw [h9']; simp
      show L - slotN a14 9 < L - slotN aa 9
      rw [this, hs9]; omega
  · refine wpList_seg (l := [_]) (tail := []) (K := fun σ => Has σ ((32, .raw (.bool false)) :: [(8, .vp [.raw (.bool b), .ns .u64 A]), (7, .raw (.bool true)), (6, .vp [.raw (.bool (decide (Z < 0))), .raw (.slice ad L cap)]), (2, .vp [.raw (.bool b), .ns .u64 A]), (3, .vp [.raw (.bool c), .ns .u64 B]), (5, .raw (.bool true))])) hE rfl hC9 (by kernel_rfl) ?_ ?_
    · refine wk hE (show ¬ (k : Int) < (L : Nat) by omega) ?_
      exact ⟨⟨rfl, rfl⟩, ⟨rfl, rfl⟩, ⟨rfl, rfl⟩, ⟨rfl, rfl⟩, ⟨rfl, rfl⟩, ⟨rfl, rfl⟩, ⟨rfl, rfl⟩, trivial⟩
    intro σ10 β10 a10 w10 hs10 hC10
    refine wpList_nil ?_
    have h32 : a10.tmps.getD 32 undef = .bool false := by
      have h := hC10.rel 32
      rw [show σ10.get 32 = _ from hs10.1.2] at h
      exact RI.raw_inv h
    have hg10 := hs10.2.good (X := X2) hC10 (fun _ h => h)
    have hb10 := hC10.chg.belowW
    have hxw10 : ∀ k, X2 k → k < w10.heap.size := fun k hk => Nat.lt_of_lt_of_le (hxw8 k hk) hb10.size
    have hC11 := hg10.conc (n := 103) hC10.sz hC10.dfr hxw10
    have hb010 : Below w.heap.size w w10 := hb08.trans (hb10.mono hb08.size)
    refine wp_cond (c := .tmp 32) (t := false) h32 ?_
    refine wp_exit ?_
    show Code.wp _ _ _ _ _
    clear hC9 hC10 hs10 hg10
    refine wp_of_awp (T := tab false) (Q := fun e σ => e = .ret ∧ Has σ [(4, .raw (.bool true))]) ?_ rfl rfl hC11 ?_
    · clear hC11 hbk8 hxw8 hxw10 hb010 hb08 hb8 hb10 h32 hkl hkL hs9 hsz8 hX0 hch hx0 hn hm hmu hsz hdf hz5 hz6
      have dA : decide (A = A) = true := decide_eq_true rfl
      obtain ⟨S, eS⟩ : ∃ S, (if fits64 Z = true then Z else 0) = S := ⟨_, rfl⟩
      obtain ⟨F, eF⟩ : ∃ F, fits64 Z = F := ⟨_, rfl⟩
      obtain ⟨G, eG⟩ : ∃ G, Z.sign = G := ⟨_, rfl⟩
      obtain ⟨W, eW⟩ : ∃ W, zv c B = W := ⟨_, rfl⟩
      obtain ⟨M, eM⟩ : ∃ M, cmpZ Z W = M := ⟨_, rfl⟩
      obtain ⟨D, eD⟩ : ∃ D, decide (Z = W) = D := ⟨_, rfl⟩
      obtain ⟨N, eN⟩ : ∃ N, blen Z.natAbs = N := ⟨_, rfl⟩
      rw [eF] at eS
      cases F <;> cases D <;> (refine wk hE (And.intro eZ (And.intro eW (And.intro eF (And.intro eG (And.intro eM (And.intro eD (And.intro eN dA))))))) ?_; exact ⟨rfl, ⟨rfl, rfl⟩, trivial⟩)
    rintro e a14 w14 ⟨σ14, β14, ⟨rfl, hs14⟩, hC14⟩
    have hb14 := hC14.chg.belowW
    have h4 := hC14.rel 4
    rw [show σ14.get 4 = _ from hs14.1.2] at h4
    have h4 := RI.raw_inv h4
    have hbe : Below w.heap.size w w14 := hb010.trans (hb14.mono hb010.size)
    refine ⟨⟨[(4, .raw (.bool true))], []⟩, fun _ => none, PostL.mk trivial rfl, ?_⟩
    refine ⟨hC14.sz.trans hn.symm, fun t => ?_, hC14.dfr, fun id blk hi => (by cases hi), fun i j b c x y _ hx => (by cases hx), hch.below hbe, hx0⟩
    simp only [St.get, lk]
    split
    · rename_i e; subst e; rw [h4]; exact RI.raw _
    · exact RI.any _
end Go.Hl

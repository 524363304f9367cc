/- a drawn region, met by an invariant over the listed operations lefevre: Gaps' closure: the drawn region that appends twice and stores twice lefevre: Gaps' closure: the drawn region, its invariant lefevre: Gaps' closure: the drawn region, met lefevre: Gaps' closure: the drawn region, whole lefevre: Hits lefevre: Hits, the contract lefevre: Gaps: the closure that appends lefevre: Gaps: what a call of the closure keeps -/
import Derived.RegionTactic
import Derived.RangeFuncBox
import Derived.Tactics2
import Derived.WalkSpells
import Derived.Laws.Pointers
import Derived.Deep.AppendLies
import Derived.KernelRfl
import Derived.Test.YtccbmjkhplmgnaaGreatProg
import Derived.StillTactics
import Derived.OwnWalk
import Derived.Deep.RegionHeld3
import Derived.Test.YtccbmjkhplmgnaaGreatHlGa
import Derived.Test.YtccbmjkhplmgnaaGreatHlQa
import Derived.Test.YtccbmjkhplmgnaaGreatHlDo
set_option linter.unusedVariables false
set_option linter.unusedSimpArgs false
namespace Go.Hl
open Go
def updD (D : Nat → Bool) (i : Nat) : Nat → Bool := fun j => if j = i then true else D j
theorem count_set_true {L : List Bool} {i : Nat} (h : L[i]? = some false) : (L.set i true).count false + 1 = L.count false := by
  induction L generalizing i with
  | nil => cases h
  | cons x l ih =>
    cases i with
    | zero =>
      have : x = false := by simpa using h
      subst this
      simp
    | succ i =>
      have h' : l[i]? = some false := by simpa using h
      have := ih h'
      rw [List.set_cons_succ, List.count_cons, List.count_cons]
      omega
theorem all_of_count {L : List Bool} (h : L.count false = 0) {i : Nat} (hi : i < L.length) : L[i]? = some true := by
  have hn : false ∉ L := List.count_eq_zero.1 h
  rw [List.getElem?_eq_getElem hi]
  cases hx : L[i] with
  | true => rfl
  | false => exact absurd (hx ▸ List.getElem_mem hi) hn
theorem getD_toList (L : Array Bool) (i : Nat) (d : Bool) : L.getD i d = L.toList[i]?.getD d := by
  simp [Array.getD_eq_getD_getElem?]
theorem wpAny_inv {P : Program} {ops : Array Oper} {Q : Exit → Act → World → Prop} (Inv : (Nat → Bool) → Act → World → Prop)
    (acy : ∀ (i : Nat) (o : Oper), ops[i]? = some o → ∀ e : Edge, e ∈ o.after → e.on < i)
    (step : ∀ (D : Nat → Bool) (a : Act) (w : World) (i : Nat) (o : Oper), Inv D a w → ops[i]? = some o → D i = false → (∀ e : Edge, e ∈ o.after → Region.binds .any e = true → D e.on = true) → wpOp P ops Q i (fun a' w' => Inv (updD D i) a' w') a w)
    (fin : ∀ (D : Nat → Bool) (a : Act) (w : World), Inv D a w → (∀ i, i < ops.size → D i = true) → Q .normal a w) :
    ∀ (fuel : Nat) (L : Array Bool) (a : Act) (w : World), L.size = ops.size → L.toList.count false ≤ fuel → Inv (fun i => L.getD i false) a w → wpAny P .any ops Q fuel L a w := by
  have all : ∀ (L : Array Bool), L.size = ops.size → Region.ready .any ops L = [] → ∀ i, i < ops.size → L.getD i false = true := by
    intro L hs hr i
    induction i using Nat.strongRecOn with
    | ind i ih =>
      intro hi
      cases hL : L.getD i false with
      | true => rfl
      | false =>
        exfalso
        have hm : i ∈ Region.ready .any ops L := by
          rw [mem_ready]
          refine ⟨?_, ops[i], Array.getElem?_eq_getElem hi, fun e he _ => ?_⟩
          · rw [getD_toList] at hL ⊢
            have hlt : i < L.toList.length := by rw [Array.length_toList]; omega
            rw [List.getElem?_eq_getElem hlt] at hL ⊢
            exact hL
          · have := acy i _ (Array.getElem?_eq_getElem hi) e he
            exact ih _ this (by omega)
        rw [hr] at hm
        cases hm
  have one : ∀ (L : Array Bool) (i : Nat), i ∈ Region.ready .any ops L → L.size = ops.size → L.toList[i]? = some false := by
    intro L i hi hs
    obtain ⟨h0, o, ho, _⟩ := mem_ready.1 hi
    have hlt : i < ops.size := (Array.getElem?_eq_some_iff.1 ho).1
    have hl2 : i < L.toList.length := by rw [Array.length_toList]; omega
    rw [getD_toList, List.getElem?_eq_getElem hl2] at h0
    rw [List.getElem?_eq_getElem hl2]
    exact congrArg some h0
  intro fuel
  induction fuel with
  | zero =>
    intro L a w hs hc hI
    have ha : ∀ i, i < ops.size → L.getD i false = true := fun i hi => by
      rw [getD_toList, all_of_count (by omega) (by rw [Array.length_toList]; omega)]; rfl
    refine ⟨?_, fin _ _ _ hI ha⟩
    cases hr : Region.ready .any ops L with
    | nil => rfl
    | cons i l =>
      exfalso
      have h0 := one L i (by rw [hr]; exact List.mem_cons_self) hs
      rw [all_of_count (by omega) (List.getElem?_eq_some_iff.1 h0).1] at h0
      cases h0
  | succ fuel ih =>
    intro L a w hs hc hI
    refine ⟨fun hr => fin _ _ _ hI (all L hs hr), fun i hi => ?_⟩
    have h0 := one L i hi hs
    obtain ⟨h1, o, ho, hb⟩ := mem_ready.1 hi
    refine wpOp_mono (fun a' w' h => ?_) (step _ a w i o hI ho (by rw [getD_toList, h0]; rfl) hb)
    refine ih _ _ _ (by rw [Array.size_setIfInBounds]; exact hs) ?_ ?_
    · have e : (L.setIfInBounds i true).toList = L.toList.set i true := Array.toList_setIfInBounds ..
      rw [e]
      have := count_set_true h0
      omega
    · have : (fun j => (L.setIfInBounds i true).getD j false) = updD (fun i => L.getD i false) i := by
        funext j
        have e : (L.setIfInBounds i true).toList = L.toList.set i true := Array.toList_setIfInBounds ..
        have hlt : i < L.toList.length := (List.getElem?_eq_some_iff.1 h0).1
        rw [getD_toList, e]
        unfold updD
        by_cases hj : j = i
        · rw [if_pos hj, hj, List.getElem?_set_self hlt]; rfl
        · rw [if_neg hj, List.getElem?_set, if_neg (Ne.symm hj), ← getD_toList]
      rw [this]
      exact h
end Go.Hl

namespace Go.Hl
open Go Go.RowKit Go.Proofs
set_option maxHeartbeats 1600000
structure OpIs (ops : Array Oper) (i : Nat) (dst : Option Nat) (op : Op) (ty : TypeId) (af : List Nat) : Prop where
  ex : ∃ o, ops[i]? = some o ∧ o.dst = dst ∧ o.op = op ∧ o.type = ty ∧ o.guard = none ∧ (∀ j, j ∈ af → ∃ e : Edge, e ∈ o.after ∧ e.on = j ∧ Region.binds .any e = true)
theorem wpOp_wp {P : Program} {ops : Array Oper} {Q : Exit → Act → World → Prop} {i : Nat} {o : Oper} {K : Act → World → Prop} {a : Act} {w : World} (ho : ops[i]? = some o) (hg : o.guard = none) (h : o.wp P a w K Q) : wpOp P ops Q i K a w := by
  have hw : Region.wanted o (yielded ops a.tmps) = true := by simp [Region.wanted, hg]
  unfold wpOp
  simp only [ho, hw, if_true]
  exact .inl h
theorem wpOp_val {P : Program} {ops : Array Oper} {Q : Exit → Act → World → Prop} {i : Nat} {o : Oper} {K : Act → World → Prop} {a : Act} {w w' : World} {v : Value} (ho : ops[i]? = some o) (hg : o.guard = none)
    (hr : (execOp a.eval o).run P w = .ok (.value v) w') (h : K (a.put o.dst v) w') : wpOp P ops Q i K a w := by
  refine wpOp_wp ho hg ?_
  unfold Oper.wp
  rw [hr]
  exact h
theorem wpOp_skip {P : Program} {ops : Array Oper} {Q : Exit → Act → World → Prop} {i : Nat} {o : Oper} {K : Act → World → Prop} {a : Act} {w w' : World} (ho : ops[i]? = some o) (hg : o.guard = none)
    (hr : (execOp a.eval o).run P w = .ok .skip w') (h : K (a.put o.dst undef) w') : wpOp P ops Q i K a w := by
  refine wpOp_wp ho hg ?_
  unfold Oper.wp
  rw [hr]
  exact h
theorem put_at {a : Act} {d : Nat} {x : Value} (h : d < a.tmps.size) : (a.put (some d) x).tmps.getD d undef = x := by
  simp [Act.put, Array.getD, h]
theorem put_size {a : Act} {d : Option Nat} {x : Value} : (a.put d x).tmps.size = a.tmps.size := by
  cases d <;> simp [Act.put]
theorem put_defers {a : Act} {d : Option Nat} {x : Value} : (a.put d x).defers = a.defers := by
  cases d <;> rfl
theorem put_keep' {a : Act} {d : Option Nat} {x : Value} {t : Nat} (h : d ≠ some t) : (a.put d x).tmps.getD t undef = a.tmps.getD t undef := by
  cases d with
  | none => rfl
  | some d =>
    have : d ≠ t := fun e => h (by rw [e])
    simp only [Act.put]
    rw [Array.getD_eq_getD_getElem?, Array.getD_eq_getD_getElem?, Array.getElem?_setIfInBounds, if_neg this]
theorem load_box {t : TypeId} {o : Oper} {a : Act} {w : World} {b j : Nat} {v : Value} (hop : o.op = .load t (.tmp j)) (ha : a.tmps.getD j undef = .pointer (some ⟨b, 0, none⟩)) (hg : (isAgg t).run Tryz.prog w = .ok false w) (hv : w.cell? ⟨b, 0, none⟩ = some v) (h1 : v.oneCell' = true) :
    (execOp a.eval o).run Tryz.prog w = .ok (.value v) w := by
  have e0 : a.eval (.tmp j) = .pointer (some ⟨b, 0, none⟩) := ha
  unfold execOp
  simp only [hop, e0]
  simp [go_sem, hg, hv]
theorem load_two {o : Oper} {a : Act} {w : World} {b j : Nat} {u v : Value} (hop : o.op = .load 24 (.tmp j)) (ha : a.tmps.getD j undef = .pointer (some ⟨b, 0, none⟩)) (hu : w.cell? ⟨b, 0, none⟩ = some u) (hv : w.cell? ⟨b, 1, none⟩ = some v) :
    (execOp a.eval o).run Tryz.prog w = .ok (.value (.agg #[u, v])) w := by
  have e0 : a.eval (.tmp j) = .pointer (some ⟨b, 0, none⟩) := ha
  have a43 := Tryz.isAgg24; have z43 := Tryz.sizeOf24
  unfold execOp
  simp only [hop, e0]
  simp [go_sem, a43, z43, hu, hv]
theorem build_two {o : Oper} {a : Act} {w : World} {j : Nat} {b : Bool} {s : Value} (hop : o.op = .buildSlice 46 1 #[(0, .tmp j)]) (ha : a.tmps.getD j undef = .agg #[.bool b, s]) :
    (execOp a.eval o).run Tryz.prog w = .ok (.value (.slice (some ⟨w.heap.size, 0, none⟩) 1 1)) (w.alloc (.cells #[.bool b, s] 24)) := by
  have e0 : a.eval (.tmp j) = .agg #[.bool b, s] := ha
  have t43 := Tryz.underlying24; have a43 := Tryz.isAgg24; have z43 := Tryz.sizeOf24; have v43 := Tryz.zeroValue24; have u43 := run_underlying Tryz.underlying24
  have t69 := Tryz.underlying46; have a69 := Tryz.isAgg46; have z69 := Tryz.sizeOf46; have v69 := Tryz.zeroValue46; have u69 := run_underlying Tryz.underlying46
  unfold execOp
  simp only [hop, e0]
  have e1 : a.tmps[j]?.getD undef = .agg #[.bool b, s] := by rw [← Array.getD_eq_getD_getElem?]; exact ha
  simp [go_sem, t69, u69, a43, z43, v43, e1]
theorem build_one {o : Oper} {a : Act} {w : World} {j : Nat} {k : Int} (hop : o.op = .buildSlice 39 1 #[(0, .tmp j)]) (ha : a.tmps.getD j undef = .int .i64 k) :
    (execOp a.eval o).run Tryz.prog w = .ok (.value (.slice (some ⟨w.heap.size, 0, none⟩) 1 1)) (w.alloc (.cells #[.int .i64 k] 2)) := by
  have e0 : a.eval (.tmp j) = .int .i64 k := ha
  have t2 := Tryz.underlying2; have a2' := Tryz.isAgg2; have z2 := Tryz.sizeOf2; have v2 := Tryz.zeroValue2; have u2 := run_underlying Tryz.underlying2
  have t70 := Tryz.underlying39; have a70 := Tryz.isAgg39; have z70 := Tryz.sizeOf39; have v70 := Tryz.zeroValue39; have u70 := run_underlying Tryz.underlying39
  unfold execOp
  simp only [hop, e0]
  have e1 : a.tmps[j]?.getD undef = .int .i64 k := by rw [← Array.getD_eq_getD_getElem?]; exact ha
  simp [go_sem, t70, u70, a2', z2, v2, e1]
theorem store_box {t : TypeId} {o : Oper} {a : Act} {w : World} {b j d : Nat} {u v : Value} (hop : o.op = .store t (.tmp j) (.tmp d)) (ha : a.tmps.getD j undef = .pointer (some ⟨b, 0, none⟩)) (hd : a.tmps.getD d undef = u) (hu : ∃ ad n c, u = .slice ad n c) (hz : ∀ w, (sizeOf t).run Tryz.prog w = .ok 1 w) (hv : Boxed w b t v) :
    (execOp a.eval o).run Tryz.prog w = .ok .skip (w.setCell ⟨b, 0, none⟩ u) := by
  have e0 : a.eval (.tmp j) = .pointer (some ⟨b, 0, none⟩) := ha
  have e1 : a.eval (.tmp d) = u := hd
  obtain ⟨ad, n, c, rfl⟩ := hu
  have hc := hv.cell
  have hf := hv.frozen
  unfold execOp
  simp only [hop, e0, e1]
  simp [go_sem, hc, hf, hz]
end Go.Hl

namespace Go.Hl
open Go Go.RowKit Go.Proofs
set_option maxHeartbeats 1600000
structure Fx where
  bl : Nat
  bm : Nat
  bb : Nat
  base : Nat
  n : Nat
  L : List Value
  K : List Value
  vl : Value
  vm : Value
  b : Bool
  s : Value
  k : Int
  W : World
structure Fx.Ok (F : Fx) : Prop where
  hl : Boxed F.W F.bl 46 F.vl
  hm : Boxed F.W F.bm 39 F.vm
  ne : F.bl ≠ F.bm
  hbl : F.base ≤ F.bl
  hbm : F.base ≤ F.bm
  hb : F.W.heap[F.bb]? = some (.cells #[.bool F.b, F.s] 24)
  rL : F.W.ownsRow F.base 24 2 F.vl F.n F.L
  rM : F.W.ownsRow F.base 2 1 F.vm F.n F.K
  nL : F.vl.ownBlock = none ∨ F.vl.ownBlock ≠ F.vm.ownBlock
  nM : F.vm.ownBlock = none ∨ F.vm.ownBlock ≠ F.vl.ownBlock
  bL : some F.bb ≠ F.vl.ownBlock
  bM : some F.bb ≠ F.vm.ownBlock
  cs : ∃ ad m c, F.s = .slice ad m c
  n2 : F.n < 1000
def Fx.C (F : Fx) : Nat → Value → World → Prop
  | 0, v, _ => v = F.vl
  | 1, v, _ => v = .agg #[.bool F.b, F.s]
  | 2, v, w => ∃ g, v = .slice (some ⟨g, 0, none⟩) 1 1 ∧ w.heap[g]? = some (.cells #[.bool F.b, F.s] 24) ∧ F.W.heap.size ≤ g
  | 3, v, w => ∃ g cap, v = .slice (some ⟨g, 0, none⟩) (F.n + 1) cap ∧ w.ownsRow F.base 24 2 v (F.n + 1) (F.L ++ [.bool F.b, F.s]) ∧ (F.vl.ownBlock = some g ∨ F.W.heap.size ≤ g)
  | 4, v, _ => v = F.vm
  | 5, v, _ => v = .int .i64 F.k
  | 6, v, w => ∃ g, v = .slice (some ⟨g, 0, none⟩) 1 1 ∧ w.heap[g]? = some (.cells #[.int .i64 F.k] 2) ∧ F.W.heap.size ≤ g
  | 7, v, w => ∃ g cap, v = .slice (some ⟨g, 0, none⟩) (F.n + 1) cap ∧ w.ownsRow F.base 2 1 v (F.n + 1) (F.K ++ [.int .i64 F.k]) ∧ (F.vm.ownBlock = some g ∨ F.W.heap.size ≤ g)
  | _, _, _ => True
structure R4 (F : Fx) (D : Nat → Bool) (a : Act) (w : World) : Prop where
  sz : a.tmps.size = 43
  df : a.defers = []
  q1 : a.tmps.getD 1 undef = .int .i64 F.k
  q2 : a.tmps.getD 2 undef = .pointer (some ⟨F.bl, 0, none⟩)
  q3 : a.tmps.getD 3 undef = .pointer (some ⟨F.bm, 0, none⟩)
  q4 : a.tmps.getD 4 undef = .pointer (some ⟨F.bb, 0, none⟩)
  gr : F.W.heap.size ≤ w.heap.size
  keep : ∀ x, x < F.W.heap.size → some x ≠ F.vl.ownBlock → some x ≠ F.vm.ownBlock → w.heap[x]? = F.W.heap[x]?
  bw : Below F.base F.W w
  rL : D 3 = false → w.ownsRow F.base 24 2 F.vl F.n F.L
  rM : D 7 = false → w.ownsRow F.base 2 1 F.vm F.n F.K
  c : ∀ j, j ≤ 7 → D j = true → (j = 2 → D 3 = false) → (j = 6 → D 7 = false) → F.C j (a.tmps.getD (35 + j) undef) w
theorem Fx.C_keep {F : Fx} (hF : F.Ok) {w w1 : World} {row : Option Nat} (hg : w.grownBy w1 row) {j : Nat} {v : Value} (h : F.C j v w)
    (hr : row = none ∨ (j ≠ 2 ∧ j ≠ 3 ∧ row = F.vl.ownBlock) ∨ (j ≠ 6 ∧ j ≠ 7 ∧ row = F.vm.ownBlock)) : F.C j v w1 := by
  have hL := hF.rL.lt
  have hM := hF.rM.lt
  have hn : ∀ g, F.W.heap.size ≤ g → some g ≠ row ∨ ((j ≠ 2 ∧ j ≠ 3 ∧ row = F.vl.ownBlock) ∨ (j ≠ 6 ∧ j ≠ 7 ∧ row = F.vm.ownBlock)) := fun g hg => by
    rcases hr with rfl | h | h
    · exact .inl (by simp)
    · exact .inr (.inl h)
    · exact .inr (.inr h)
  have fr : ∀ g, F.W.heap.size ≤ g → some g ≠ row := by
    intro g hgg e
    rcases hr with rfl | ⟨_, _, h⟩ | ⟨_, _, h⟩
    · cases e
    · have := hL g (by rw [← h, e]); omega
    · have := hM g (by rw [← h, e]); omega
  have lt : ∀ {g : Nat} {o : Obj}, w.heap[g]? = some o → g < w.heap.size := fun h => (Array.getElem?_eq_some_iff.1 h).1
  match j, h with
  | 0, h => exact h
  | 1, h => exact h
  | 2, ⟨g, h1, h2, h3⟩ => exact ⟨g, h1, (hg.block g (lt h2) (fr g h3)).trans h2, h3⟩
  | 3, ⟨g, cap, h1, h2, h3⟩ =>
    subst h1
    refine ⟨g, cap, rfl, h2.kept hg (.inr ?_), h3⟩
    show some g ≠ row
    rcases h3 with h3 | h3
    · rcases hr with rfl | ⟨_, h, _⟩ | ⟨_, _, h⟩
      · simp
      · exact absurd rfl h
      · rw [h, ← h3]
        rcases hF.nL with h | h
        · rw [h] at h3; cases h3
        · exact h
    · exact fr g h3
  | 4, h => exact h
  | 5, h => exact h
  | 6, ⟨g, h1, h2, h3⟩ => exact ⟨g, h1, (hg.block g (lt h2) (fr g h3)).trans h2, h3⟩
  | 7, ⟨g, cap, h1, h2, h3⟩ =>
    subst h1
    refine ⟨g, cap, rfl, h2.kept hg (.inr ?_), h3⟩
    show some g ≠ row
    rcases h3 with h3 | h3
    · rcases hr with rfl | ⟨_, _, h⟩ | ⟨_, h, _⟩
      · simp
      · rw [h, ← h3]
        rcases hF.nM with h | h
        · rw [h] at h3; cases h3
        · exact h
      · exact absurd rfl h
    · exact fr g h3
  | j + 8, h => trivial
theorem R4.step {F : Fx} (hF : F.Ok) {D : Nat → Bool} {a : Act} {w w1 : World} (H : R4 F D a w) {i : Nat} (hi : i ≤ 7) {v : Value} {row : Option Nat} (hg : w.grownBy w1 row)
    (hr : row = none ∨ (i = 3 ∧ row = F.vl.ownBlock) ∨ (i = 7 ∧ row = F.vm.ownBlock)) (N : F.C i v w1) : R4 F (updD D i) (a.put (some (35 + i)) v) w1 := by
  have hL := hF.rL.lt
  have hM := hF.rM.lt
  have hbs : F.base ≤ F.W.heap.size := by have := hF.hl.lt; have := hF.hbl; omega
  have nr : ∀ x, some x ≠ F.vl.ownBlock → some x ≠ F.vm.ownBlock → some x ≠ row := fun x h1 h2 => by
    rcases hr with rfl | ⟨_, rfl⟩ | ⟨_, rfl⟩
    · simp
    · exact h1
    · exact h2
  have pk : ∀ t : Nat, t < 35 → (a.put (some (35 + i)) v).tmps.getD t undef = a.tmps.getD t undef := fun t ht => put_keep' (by intro e; have : (35 + i : Nat) = t := Option.some.inj e; omega)
  refine ⟨put_size.trans H.sz, put_defers.trans H.df, (pk 1 (by decide)).trans H.q1, (pk 2 (by decide)).trans H.q2, (pk 3 (by decide)).trans H.q3, (pk 4 (by decide)).trans H.q4, Nat.le_trans H.gr hg.size,
    fun x hx h1 h2 => (hg.block x (by have := H.gr; omega) (nr x h1 h2)).trans (H.keep x hx h1 h2), ?_, fun h3 => ?_, fun h7 => ?_, fun j hj hd h3 h7 => ?_⟩
  · refine H.bw.grown hg (Nat.le_trans hbs H.gr) (fun x hx => ?_)
    rcases hr with rfl | ⟨_, rfl⟩ | ⟨_, rfl⟩
    · cases hx
    · exact (hL x hx).1
    · exact (hM x hx).1
  · have h3' : i ≠ 3 := fun e => by subst e; simp [updD] at h3
    have h3'' : D 3 = false := by simpa [updD, Ne.symm h3'] using h3
    refine (H.rL h3'').kept hg ?_
    rcases hr with rfl | ⟨h, _⟩ | ⟨_, rfl⟩
    · cases F.vl.ownBlock with
      | none => exact .inl rfl
      | some g => exact .inr (by simp)
    · exact absurd h h3'
    · exact hF.nL
  · have h7' : i ≠ 7 := fun e => by subst e; simp [updD] at h7
    have h7'' : D 7 = false := by simpa [updD, Ne.symm h7'] using h7
    refine (H.rM h7'').kept hg ?_
    rcases hr with rfl | ⟨_, rfl⟩ | ⟨h, _⟩
    · cases F.vm.ownBlock with
      | none => exact .inl rfl
      | some g => exact .inr (by simp)
    · exact hF.nM
    · exact absurd h h7'
  · by_cases hji : j = i
    · subst hji
      rw [put_at (by rw [H.sz]; omega)]
      exact N
    · have hd' : D j = true := by simpa [updD, hji] using hd
      have mono : ∀ x, updD D i x = false → D x = false ∧ x ≠ i := fun x hx => by
        unfold updD at hx
        split at hx
        · cases hx
        · exact ⟨hx, by assumption⟩
      have := H.c j hj hd' (fun e => (mono _ (h3 e)).1) (fun e => (mono _ (h7 e)).1)
      rw [put_keep' (by simp; omega)]
      refine F.C_keep hF hg this ?_
      rcases hr with h | ⟨h, h'⟩ | ⟨h, h'⟩
      · exact .inl h
      · exact .inr (.inl ⟨fun e => (mono _ (h3 e)).2 h.symm, by omega, h'⟩)
      · exact .inr (.inr ⟨fun e => (mono _ (h7 e)).2 h.symm, by omega, h'⟩)
end Go.Hl

namespace Go.Hl
open Go Go.RowKit Go.Proofs
set_option maxHeartbeats 1600000
structure RO (ops : Array Oper) : Prop where
  n : ops.size = 10
  acy : ∀ (i : Nat) (o : Oper), ops[i]? = some o → ∀ e : Edge, e ∈ o.after → e.on < i
  h0 : OpIs ops 0 (some 35) (.load 46 (.tmp 2)) 46 []
  h1 : OpIs ops 1 (some 36) (.load 24 (.tmp 4)) 24 []
  h2 : OpIs ops 2 (some 37) (.buildSlice 46 1 #[(0, .tmp 36)]) 46 [1]
  h3 : OpIs ops 3 (some 38) (.call { callee := .builtin .append, args := #[.tmp 35, .tmp 37], argTypes := #[46, 46] }) 46 [0, 2]
  h4 : OpIs ops 4 (some 39) (.load 39 (.tmp 3)) 39 []
  h5 : OpIs ops 5 (some 40) (.move (.tmp 1)) 2 []
  h6 : OpIs ops 6 (some 41) (.buildSlice 39 1 #[(0, .tmp 40)]) 39 [5]
  h7 : OpIs ops 7 (some 42) (.call { callee := .builtin .append, args := #[.tmp 39, .tmp 41], argTypes := #[39, 39] }) 39 [4, 6, 3]
  h8 : OpIs ops 8 none (.store 46 (.tmp 2) (.tmp 38)) 0 [3, 7, 0, 1, 2]
  h9 : OpIs ops 9 none (.store 39 (.tmp 3) (.tmp 42)) 0 [7, 8, 0, 1, 2, 3, 4, 5, 6]
structure R5 (F : Fx) (a : Act) (w : World) : Prop where
  df : a.defers = []
  q3 : a.tmps.getD 3 undef = .pointer (some ⟨F.bm, 0, none⟩)
  gr : F.W.heap.size ≤ w.heap.size
  p : ∃ gl cl gm cm, a.tmps.getD 42 undef = .slice (some ⟨gm, 0, none⟩) (F.n + 1) cm ∧ Boxed w F.bl 46 (.slice (some ⟨gl, 0, none⟩) (F.n + 1) cl) ∧ Boxed w F.bm 39 F.vm ∧ w.ownsRow F.base 24 2 (.slice (some ⟨gl, 0, none⟩) (F.n + 1) cl) (F.n + 1) (F.L ++ [.bool F.b, F.s]) ∧ w.ownsRow F.base 2 1 (.slice (some ⟨gm, 0, none⟩) (F.n + 1) cm) (F.n + 1) (F.K ++ [.int .i64 F.k]) ∧ (F.vl.ownBlock = some gl ∨ F.W.heap.size ≤ gl) ∧ (F.vm.ownBlock = some gm ∨ F.W.heap.size ≤ gm)
  keep : ∀ x, x < F.W.heap.size → x ≠ F.bl → some x ≠ F.vl.ownBlock → some x ≠ F.vm.ownBlock → w.heap[x]? = F.W.heap[x]?
  bw : Below F.base F.W w
structure R6 (F : Fx) (w : World) : Prop where
  p : ∃ gl cl gm cm, Boxed w F.bl 46 (.slice (some ⟨gl, 0, none⟩) (F.n + 1) cl) ∧ Boxed w F.bm 39 (.slice (some ⟨gm, 0, none⟩) (F.n + 1) cm) ∧ w.ownsRow F.base 24 2 (.slice (some ⟨gl, 0, none⟩) (F.n + 1) cl) (F.n + 1) (F.L ++ [.bool F.b, F.s]) ∧ w.ownsRow F.base 2 1 (.slice (some ⟨gm, 0, none⟩) (F.n + 1) cm) (F.n + 1) (F.K ++ [.int .i64 F.k]) ∧ (F.vl.ownBlock = some gl ∨ F.W.heap.size ≤ gl) ∧ (F.vm.ownBlock = some gm ∨ F.W.heap.size ≤ gm)
  keep : ∀ x, x < F.W.heap.size → x ≠ F.bl → x ≠ F.bm → some x ≠ F.vl.ownBlock → some x ≠ F.vm.ownBlock → w.heap[x]? = F.W.heap[x]?
  bw : Below F.base F.W w
def Cl (D : Nat → Bool) : Prop := (D 7 = true → D 4 = true ∧ D 6 = true) ∧ (D 6 = true → D 5 = true)
def RI4 (F : Fx) (D : Nat → Bool) (a : Act) (w : World) : Prop :=
  (D 8 = false ∧ D 9 = false ∧ Cl D ∧ R4 F D a w) ∨ ((∀ j, j ≤ 8 → D j = true) ∧ D 9 = false ∧ R5 F a w) ∨ ((∀ j, j ≤ 9 → D j = true) ∧ a.defers = [] ∧ R6 F w)
theorem info43' : (Tryz.prog.info? 24).map (fun i => (i.zero, i.size, i.bytes)) = some (some (.agg #[.bool false, .slice none 0 0]), 2, 32) := by kernel_rfl
theorem info2' : (Tryz.prog.info? 2).map (fun i => (i.zero, i.size, i.bytes)) = some (some (.int .i64 0), 1, 8) := by kernel_rfl
theorem info_parts' {P : Program} {t : Nat} {z : Option Value} {s b : Nat} (h : (P.info? t).map (fun i => (i.zero, i.size, i.bytes)) = some (z, s, b)) : ∃ i, P.info? t = some i ∧ i.zero = z ∧ i.size = s ∧ i.bytes = b := by
  cases hi : P.info? t with
  | none => rw [hi] at h; cases h
  | some i => rw [hi] at h; cases h; exact ⟨i, rfl, rfl, rfl, rfl⟩
theorem row_one {w : World} {base : Nat} {e : TypeId} {s n : Nat} {v : Value} {xs : List Value} (h : w.ownsRow base e s v n xs) : v.oneCell' = true := by
  rcases h.2 with ⟨rfl, _⟩ | ⟨g, cap, cur, rfl, _⟩ <;> rfl
theorem cell_at' {w : World} {b o : Nat} {cs : Array Value} {t : TypeId} {fr : Nat × Nat} {v : Value} (h : w.heap[b]? = some (.cells cs t fr)) (hv : cs[o]? = some v) : w.cell? ⟨b, o, none⟩ = some v := by
  rw [cell_of_row w b o cs t fr h]; exact hv
theorem R4.boxL {F : Fx} (hF : F.Ok) {D : Nat → Bool} {a : Act} {w : World} (H : R4 F D a w) : Boxed w F.bl 46 F.vl :=
  (H.keep _ hF.hl.lt (hF.hl.not_row (by decide) hF.rL) (hF.hl.not_row (by decide) hF.rM)).trans hF.hl
theorem R4.boxM {F : Fx} (hF : F.Ok) {D : Nat → Bool} {a : Act} {w : World} (H : R4 F D a w) : Boxed w F.bm 39 F.vm :=
  (H.keep _ hF.hm.lt (hF.hm.not_row (by decide) hF.rL) (hF.hm.not_row (by decide) hF.rM)).trans hF.hm
theorem R4.boxX {F : Fx} (hF : F.Ok) {D : Nat → Bool} {a : Act} {w : World} (H : R4 F D a w) : w.heap[F.bb]? = some (.cells #[.bool F.b, F.s] 24) :=
  (H.keep _ (Array.getElem?_eq_some_iff.1 hF.hb).1 hF.bL hF.bM).trans hF.hb
set_option linter.unusedVariables false in
theorem RI4.start {F : Fx} (hF : F.Ok) {a : Act} (sz : a.tmps.size = 43) (df : a.defers = []) (q1 : a.tmps.getD 1 undef = .int .i64 F.k) (q2 : a.tmps.getD 2 undef = .pointer (some ⟨F.bl, 0, none⟩)) (q3 : a.tmps.getD 3 undef = .pointer (some ⟨F.bm, 0, none⟩))
    (q4 : a.tmps.getD 4 undef = .pointer (some ⟨F.bb, 0, none⟩)) {D : Nat → Bool} (hD : ∀ j, D j = false) {w : World} (hw : w.heap = F.W.heap) (hb : Below F.base F.W w) : RI4 F D a w := by
  have hg : F.W.grownBy w none := ⟨hb.os, hb.tape, hb.output, hb.size, fun k _ _ => by rw [hw]⟩
  refine .inl ⟨hD 8, hD 9, ⟨fun h => (by rw [hD] at h; cases h), fun h => (by rw [hD] at h; cases h)⟩, sz, df, q1, q2, q3, q4, hb.size, fun x _ _ _ => by rw [hw], hb, fun _ => hF.rL.kept hg ?_, fun _ => hF.rM.kept hg ?_, fun j _ h => ?_⟩
  · cases F.vl.ownBlock with
    | none => exact .inl rfl
    | some g => exact .inr (by simp)
  · cases F.vm.ownBlock with
    | none => exact .inl rfl
    | some g => exact .inr (by simp)
  · rw [hD] at h; cases h
theorem RI4.next {F : Fx} {D : Nat → Bool} {a : Act} {w : World} {i : Nat} (hi : i ≤ 7) (h8 : D 8 = false) (h9 : D 9 = false) (hcl : Cl D) (h7 : i = 7 → D 4 = true ∧ D 6 = true) (h6 : i = 6 → D 5 = true) (h : R4 F (updD D i) a w) : RI4 F (updD D i) a w := by
  have n8 : ¬ (8 = i) := by omega
  have n9 : ¬ (9 = i) := by omega
  refine .inl ⟨by simp [updD, n8, h8], by simp [updD, n9, h9], ⟨fun h => ?_, fun h => ?_⟩, h⟩
  · have mono : ∀ x, D x = true → updD D i x = true := fun x hx => by unfold updD; split <;> simp [hx]
    by_cases h' : i = 7
    · exact ⟨mono _ (h7 h').1, mono _ (h7 h').2⟩
    · have h'' : D 7 = true := by simpa [updD, Ne.symm h'] using h
      exact ⟨mono _ (hcl.1 h'').1, mono _ (hcl.1 h'').2⟩
  · have mono : ∀ x, D x = true → updD D i x = true := fun x hx => by unfold updD; split <;> simp [hx]
    by_cases h' : i = 6
    · exact mono _ (h6 h')
    · have h'' : D 6 = true := by simpa [updD, Ne.symm h'] using h
      exact mono _ (hcl.2 h'')
theorem R4.op0 {F : Fx} (hF : F.Ok) {ops : Array Oper} {Q : Exit → Act → World → Prop} (ho : OpIs ops 0 (some 35) (.load 46 (.tmp 2)) 46 []) {D : Nat → Bool} {a : Act} {w : World} (H : R4 F D a w) (h8 : D 8 = false) (h9 : D 9 = false) (hcl : Cl D) (hi : D 0 = false)
    {o : Oper} (hoo : ops[0]? = some o) (hb : ∀ e : Edge, e ∈ o.after → Region.binds .any e = true → D e.on = true) : wpOp Tryz.prog ops Q 0 (fun a' w' => RI4 F (updD D 0) a' w') a w := by
  obtain ⟨o', h1, hd, hop, hty, hgd, haf⟩ := ho.ex
  rw [hoo] at h1
  cases h1
  refine wpOp_val hoo hgd (load_box hop H.q2 (Tryz.isAgg46 w) (H.boxL hF).cell (row_one hF.rL)) ?_
  rw [hd]
  exact RI4.next (by decide) h8 h9 hcl (fun h => absurd h (by decide)) (fun h => absurd h (by decide)) (H.step hF (i := 0) (by decide) (row := none) ⟨rfl, rfl, rfl, Nat.le_refl _, fun _ _ _ => rfl⟩ (.inl rfl) rfl)
theorem R4.op1 {F : Fx} (hF : F.Ok) {ops : Array Oper} {Q : Exit → Act → World → Prop} (ho : OpIs ops 1 (some 36) (.load 24 (.tmp 4)) 24 []) {D : Nat → Bool} {a : Act} {w : World} (H : R4 F D a w) (h8 : D 8 = false) (h9 : D 9 = false) (hcl : Cl D) (hi : D 1 = false)
    {o : Oper} (hoo : ops[1]? = some o) (hb : ∀ e : Edge, e ∈ o.after → Region.binds .any e = true → D e.on = true) : wpOp Tryz.prog ops Q 1 (fun a' w' => RI4 F (updD D 1) a' w') a w := by
  obtain ⟨o', h1, hd, hop, hty, hgd, haf⟩ := ho.ex
  rw [hoo] at h1
  cases h1
  refine wpOp_val hoo hgd (load_two hop H.q4 (cell_at' (H.boxX hF) rfl) (cell_at' (H.boxX hF) rfl)) ?_
  rw [hd]
  exact RI4.next (by decide) h8 h9 hcl (fun h => absurd h (by decide)) (fun h => absurd h (by decide)) (H.step hF (i := 1) (by decide) (row := none) ⟨rfl, rfl, rfl, Nat.le_refl _, fun _ _ _ => rfl⟩ (.inl rfl) rfl)
theorem R4.op2 {F : Fx} (hF : F.Ok) {ops : Array Oper} {Q : Exit → Act → World → Prop} (ho : OpIs ops 2 (some 37) (.buildSlice 46 1 #[(0, .tmp 36)]) 46 [1]) {D : Nat → Bool} {a : Act} {w : World} (H : R4 F D a w) (h8 : D 8 = false) (h9 : D 9 = false) (hcl : Cl D) (hi : D 2 = false)
    {o : Oper} (hoo : ops[2]? = some o) (hb : ∀ e : Edge, e ∈ o.after → Region.binds .any e = true → D e.on = true) : wpOp Tryz.prog ops Q 2 (fun a' w' => RI4 F (updD D 2) a' w') a w := by
  obtain ⟨o', h1, hd, hop, hty, hgd, haf⟩ := ho.ex
  rw [hoo] at h1
  cases h1
  have d1 : D 1 = true := by
    obtain ⟨e, he, hj, hbi⟩ := haf 1 (by decide)
    rw [← hj]; exact hb e he hbi
  have c1 := H.c 1 (by decide) d1 (fun h => absurd h (by decide)) (fun h => absurd h (by decide))
  refine wpOp_val hoo hgd (build_two hop c1) ?_
  rw [hd]
  exact RI4.next (by decide) h8 h9 hcl (fun h => absurd h (by decide)) (fun h => absurd h (by decide)) (H.step hF (i := 2) (by decide) (row := none) (World.grownBy_alloc w _ none) (.inl rfl) ⟨_, rfl, World.alloc_heap_new w _, H.gr⟩)
theorem R4.op3 {F : Fx} (hF : F.Ok) {ops : Array Oper} {Q : Exit → Act → World → Prop} (ho : OpIs ops 3 (some 38) (.call { callee := .builtin .append, args := #[.tmp 35, .tmp 37], argTypes := #[46, 46] }) 46 [0, 2]) {D : Nat → Bool} {a : Act} {w : World} (H : R4 F D a w) (h8 : D 8 = false) (h9 : D 9 = false) (hcl : Cl D) (hi : D 3 = false)
    {o : Oper} (hoo : ops[3]? = some o) (hb : ∀ e : Edge, e ∈ o.after → Region.binds .any e = true → D e.on = true) : wpOp Tryz.prog ops Q 3 (fun a' w' => RI4 F (updD D 3) a' w') a w := by
  obtain ⟨o', h1, hd, hop, hty, hgd, haf⟩ := ho.ex
  rw [hoo] at h1
  cases h1
  have d0 : D 0 = true := by
    obtain ⟨e, he, hj, hbi⟩ := haf 0 (by decide)
    rw [← hj]; exact hb e he hbi
  have d2 : D 2 = true := by
    obtain ⟨e, he, hj, hbi⟩ := haf 2 (by decide)
    rw [← hj]; exact hb e he hbi
  have c0 := H.c 0 (by decide) d0 (fun h => absurd h (by decide)) (fun h => absurd h (by decide))
  obtain ⟨g, e37, hg, hgg⟩ := H.c 2 (by decide) d2 (fun _ => hi) (fun h => absurd h (by decide))
  obtain ⟨i43, hii, iz0, iz1, iz2⟩ := info_parts' info43'
  obtain ⟨ad, m, c, es⟩ := hF.cs
  have hbs : F.base ≤ w.heap.size := by have := hF.hl.lt; have := hF.hbl; have := H.gr; omega
  have hn2 := hF.n2
  refine wpOp_wp hoo hgd (wp_append_lies w (.tmp 35) (.tmp 37) 46 hop F.base 24 i43 _ 2 32 Tryz.underlying46 hii iz0 iz1 iz2 rfl (by decide) F.vl F.n F.L c0 (H.rL hi) ⟨g, 0, none⟩ 1 1 [.bool F.b, F.s] e37 rfl (World.news_of_block hg) (fun u hu => ?_) (by decide) (by unfold maxLen; omega) (by omega) hbs w.heap.size rfl (fun g' cap' w' h1 h2 h3 h4 => ?_))
  · rcases List.mem_cons.1 hu with rfl | hu
    · rfl
    · rcases List.mem_cons.1 hu with rfl | hu
      · rw [es]; rfl
      · cases hu
  rw [hd]
  refine RI4.next (by decide) h8 h9 hcl (fun h => absurd h (by decide)) (fun h => absurd h (by decide)) (H.step hF (i := 3) (by decide) h2 (.inr (.inl ⟨rfl, rfl⟩)) ⟨g', cap', rfl, h1, h3.imp id fun h => ?_⟩)
  rw [h]; exact H.gr
theorem R4.op4 {F : Fx} (hF : F.Ok) {ops : Array Oper} {Q : Exit → Act → World → Prop} (ho : OpIs ops 4 (some 39) (.load 39 (.tmp 3)) 39 []) {D : Nat → Bool} {a : Act} {w : World} (H : R4 F D a w) (h8 : D 8 = false) (h9 : D 9 = false) (hcl : Cl D) (hi : D 4 = false)
    {o : Oper} (hoo : ops[4]? = some o) (hb : ∀ e : Edge, e ∈ o.after → Region.binds .any e = true → D e.on = true) : wpOp Tryz.prog ops Q 4 (fun a' w' => RI4 F (updD D 4) a' w') a w := by
  obtain ⟨o', h1, hd, hop, hty, hgd, haf⟩ := ho.ex
  rw [hoo] at h1
  cases h1
  refine wpOp_val hoo hgd (load_box hop H.q3 (Tryz.isAgg39 w) (H.boxM hF).cell (row_one hF.rM)) ?_
  rw [hd]
  exact RI4.next (by decide) h8 h9 hcl (fun h => absurd h (by decide)) (fun h => absurd h (by decide)) (H.step hF (i := 4) (by decide) (row := none) ⟨rfl, rfl, rfl, Nat.le_refl _, fun _ _ _ => rfl⟩ (.inl rfl) rfl)
theorem R4.op5 {F : Fx} (hF : F.Ok) {ops : Array Oper} {Q : Exit → Act → World → Prop} (ho : OpIs ops 5 (some 40) (.move (.tmp 1)) 2 []) {D : Nat → Bool} {a : Act} {w : World} (H : R4 F D a w) (h8 : D 8 = false) (h9 : D 9 = false) (hcl : Cl D) (hi : D 5 = false)
    {o : Oper} (hoo : ops[5]? = some o) (hb : ∀ e : Edge, e ∈ o.after → Region.binds .any e = true → D e.on = true) : wpOp Tryz.prog ops Q 5 (fun a' w' => RI4 F (updD D 5) a' w') a w := by
  obtain ⟨o', h1, hd, hop, hty, hgd, haf⟩ := ho.ex
  rw [hoo] at h1
  cases h1
  have hr : (execOp a.eval o).run Tryz.prog w = .ok (.value (.int .i64 F.k)) w := by
    have e0 : a.eval (.tmp 1) = .int .i64 F.k := H.q1
    unfold execOp
    simp only [hop, e0]
    simp [go_sem]
  refine wpOp_val hoo hgd hr ?_
  rw [hd]
  exact RI4.next (by decide) h8 h9 hcl (fun h => absurd h (by decide)) (fun h => absurd h (by decide)) (H.step hF (i := 5) (by decide) (row := none) ⟨rfl, rfl, rfl, Nat.le_refl _, fun _ _ _ => rfl⟩ (.inl rfl) rfl)
theorem R4.op6 {F : Fx} (hF : F.Ok) {ops : Array Oper} {Q : Exit → Act → World → Prop} (ho : OpIs ops 6 (some 41) (.buildSlice 39 1 #[(0, .tmp 40)]) 39 [5]) {D : Nat → Bool} {a : Act} {w : World} (H : R4 F D a w) (h8 : D 8 = false) (h9 : D 9 = false) (hcl : Cl D) (hi : D 6 = false)
    {o : Oper} (hoo : ops[6]? = some o) (hb : ∀ e : Edge, e ∈ o.after → Region.binds .any e = true → D e.on = true) : wpOp Tryz.prog ops Q 6 (fun a' w' => RI4 F (updD D 6) a' w') a w := by
  obtain ⟨o', h1, hd, hop, hty, hgd, haf⟩ := ho.ex
  rw [hoo] at h1
  cases h1
  have d5 : D 5 = true := by
    obtain ⟨e, he, hj, hbi⟩ := haf 5 (by decide)
    rw [← hj]; exact hb e he hbi
  have c1 := H.c 5 (by decide) d5 (fun h => absurd h (by decide)) (fun h => absurd h (by decide))
  refine wpOp_val hoo hgd (build_one hop c1) ?_
  rw [hd]
  exact RI4.next (by decide) h8 h9 hcl (fun h => absurd h (by decide)) (fun _ => d5) (H.step hF (i := 6) (by decide) (row := none) (World.grownBy_alloc w _ none) (.inl rfl) ⟨_, rfl, World.alloc_heap_new w _, H.gr⟩)
theorem R4.op7 {F : Fx} (hF : F.Ok) {ops : Array Oper} {Q : Exit → Act → World → Prop} (ho : OpIs ops 7 (some 42) (.call { callee := .builtin .append, args := #[.tmp 39, .tmp 41], argTypes := #[39, 39] }) 39 [4, 6, 3]) {D : Nat → Bool} {a : Act} {w : World} (H : R4 F D a w) (h8 : D 8 = false) (h9 : D 9 = false) (hcl : Cl D) (hi : D 7 = false)
    {o : Oper} (hoo : ops[7]? = some o) (hb : ∀ e : Edge, e ∈ o.after → Region.binds .any e = true → D e.on = true) : wpOp Tryz.prog ops Q 7 (fun a' w' => RI4 F (updD D 7) a' w') a w := by
  obtain ⟨o', h1, hd, hop, hty, hgd, haf⟩ := ho.ex
  rw [hoo] at h1
  cases h1
  have d4 : D 4 = true := by
    obtain ⟨e, he, hj, hbi⟩ := haf 4 (by decide)
    rw [← hj]; exact hb e he hbi
  have d6 : D 6 = true := by
    obtain ⟨e, he, hj, hbi⟩ := haf 6 (by decide)
    rw [← hj]; exact hb e he hbi
  have d3 : D 3 = true := by
    obtain ⟨e, he, hj, hbi⟩ := haf 3 (by decide)
    rw [← hj]; exact hb e he hbi
  have c0 := H.c 4 (by decide) d4 (fun h => absurd h (by decide)) (fun h => absurd h (by decide))
  obtain ⟨g, e37, hg, hgg⟩ := H.c 6 (by decide) d6 (fun h => absurd h (by decide)) (fun _ => hi)
  obtain ⟨i2, hii, iz0, iz1, iz2⟩ := info_parts' info2'
  have hbs : F.base ≤ w.heap.size := by have := hF.hl.lt; have := hF.hbl; have := H.gr; omega
  have hn2 := hF.n2
  refine wpOp_wp hoo hgd (wp_append_lies w (.tmp 39) (.tmp 41) 39 hop F.base 2 i2 _ 1 8 Tryz.underlying39 hii iz0 iz1 iz2 rfl (by decide) F.vm F.n F.K c0 (H.rM hi) ⟨g, 0, none⟩ 1 1 [.int .i64 F.k] e37 rfl (World.news_of_block hg) (fun u hu => ?_) (by decide) (by unfold maxLen; omega) (by omega) hbs w.heap.size rfl (fun g' cap' w' h1 h2 h3 h4 => ?_))
  · rcases List.mem_cons.1 hu with rfl | hu
    · rfl
    · cases hu
  rw [hd]
  refine RI4.next (by decide) h8 h9 hcl (fun _ => ⟨d4, d6⟩) (fun h => absurd h (by decide)) (H.step hF (i := 7) (by decide) h2 (.inr (.inr ⟨rfl, rfl⟩)) ⟨g', cap', rfl, h1, h3.imp id fun h => ?_⟩)
  rw [h]; exact H.gr
theorem R4.op8 {F : Fx} (hF : F.Ok) {ops : Array Oper} {Q : Exit → Act → World → Prop} (ho : OpIs ops 8 none (.store 46 (.tmp 2) (.tmp 38)) 0 [3, 7, 0, 1, 2]) {D : Nat → Bool} {a : Act} {w : World} (H : R4 F D a w) (h8 : D 8 = false) (h9 : D 9 = false) (hcl : Cl D) (hi : D 8 = false)
    {o : Oper} (hoo : ops[8]? = some o) (hb : ∀ e : Edge, e ∈ o.after → Region.binds .any e = true → D e.on = true) : wpOp Tryz.prog ops Q 8 (fun a' w' => RI4 F (updD D 8) a' w') a w := by
  obtain ⟨o', h1, hd, hop, hty, hgd, haf⟩ := ho.ex
  rw [hoo] at h1
  cases h1
  have d3 : D 3 = true := by
    obtain ⟨e, he, hj, hbi⟩ := haf 3 (by decide)
    rw [← hj]; exact hb e he hbi
  have d7 : D 7 = true := by
    obtain ⟨e, he, hj, hbi⟩ := haf 7 (by decide)
    rw [← hj]; exact hb e he hbi
  have d0 : D 0 = true := by
    obtain ⟨e, he, hj, hbi⟩ := haf 0 (by decide)
    rw [← hj]; exact hb e he hbi
  have d1 : D 1 = true := by
    obtain ⟨e, he, hj, hbi⟩ := haf 1 (by decide)
    rw [← hj]; exact hb e he hbi
  have d2 : D 2 = true := by
    obtain ⟨e, he, hj, hbi⟩ := haf 2 (by decide)
    rw [← hj]; exact hb e he hbi
  obtain ⟨gl, cl, e38, rl, fl⟩ := H.c 3 (by decide) d3 (fun h => absurd h (by decide)) (fun h => absurd h (by decide))
  obtain ⟨gm, cm, e42, rm, fm⟩ := H.c 7 (by decide) d7 (fun h => absurd h (by decide)) (fun h => absurd h (by decide))
  rw [e38] at rl
  rw [e42] at rm
  have bl := H.boxL hF
  have bm := H.boxM hF
  refine wpOp_skip hoo hgd (store_box hop H.q2 e38 ⟨_, _, _, rfl⟩ Tryz.sizeOf46 bl) ?_
  rw [hd]
  have hg := grownBy_setCell' w F.bl (.slice (some ⟨gl, 0, none⟩) (F.n + 1) cl)
  have nL := bl.not_row (by decide) rl
  have nM := bl.not_row (by decide) rm
  refine .inr (.inl ⟨fun j hj => ?_, by simp [updD, h9], H.df, H.q3, Nat.le_trans H.gr hg.size, ⟨gl, cl, gm, cm, e42, bl.set _, bm.kept hg (fun e => hF.ne (Option.some.inj e).symm), rl.kept hg (.inr (Ne.symm nL)), rm.kept hg (.inr (Ne.symm nM)), fl, fm⟩, fun x hx h1 h2 h3 => ?_, H.bw.grown hg (by have := hF.hl.lt; have := hF.hbl; have := H.gr; omega) (fun k hk => by cases hk; exact hF.hbl)⟩)
  · by_cases hj8 : j = 8
    · simp [updD, hj8]
    · have : D j = true := by
        rcases (show j = 0 ∨ j = 1 ∨ j = 2 ∨ j = 3 ∨ j = 4 ∨ j = 5 ∨ j = 6 ∨ j = 7 by omega) with rfl | rfl | rfl | rfl | rfl | rfl | rfl | rfl
        · exact d0
        · exact d1
        · exact d2
        · exact d3
        · exact (hcl.1 d7).1
        · exact hcl.2 (hcl.1 d7).2
        · exact (hcl.1 d7).2
        · exact d7
      simp [updD, hj8, this]
  · exact (hg.block x (by have := H.gr; omega) (fun e => h1 (Option.some.inj e))).trans (H.keep x hx h2 h3)
theorem R5.op9 {F : Fx} (hF : F.Ok) {ops : Array Oper} {Q : Exit → Act → World → Prop} (ho : OpIs ops 9 none (.store 39 (.tmp 3) (.tmp 42)) 0 [7, 8, 0, 1, 2, 3, 4, 5, 6]) {D : Nat → Bool} {a : Act} {w : World} (H : R5 F a w) (hD : ∀ j, j ≤ 8 → D j = true)
    {o : Oper} (hoo : ops[9]? = some o) : wpOp Tryz.prog ops Q 9 (fun a' w' => RI4 F (updD D 9) a' w') a w := by
  obtain ⟨o', h1, hd, hop, hty, hgd, haf⟩ := ho.ex
  rw [hoo] at h1
  cases h1
  obtain ⟨gl, cl, gm, cm, e42, bl, bm, rl, rm, fl, fm⟩ := H.p
  refine wpOp_skip hoo hgd (store_box hop H.q3 e42 ⟨_, _, _, rfl⟩ Tryz.sizeOf39 bm) ?_
  rw [hd]
  have hg := grownBy_setCell' w F.bm (.slice (some ⟨gm, 0, none⟩) (F.n + 1) cm)
  have nL := bm.not_row (by decide) rl
  have nM := bm.not_row (by decide) rm
  refine .inr (.inr ⟨fun j hj => ?_, H.df, ⟨gl, cl, gm, cm, bl.kept hg (fun e => hF.ne (Option.some.inj e)), bm.set _, rl.kept hg (.inr (Ne.symm nL)), rm.kept hg (.inr (Ne.symm nM)), fl, fm⟩, fun x hx h1 h1' h2 h3 => ?_, H.bw.grown hg (by have := hF.hl.lt; have := hF.hbl; have := H.gr; omega) (fun k hk => by cases hk; exact hF.hbm)⟩)
  · by_cases hj9 : j = 9
    · simp [updD, hj9]
    · simp [updD, hj9, hD j (by omega)]
  · exact (hg.block x (by have := H.gr; omega) (fun e => h1' (Option.some.inj e))).trans (H.keep x hx h1 h2 h3)
end Go.Hl

namespace Go.Hl
open Go Go.RowKit Go.Proofs
theorem R5.no {F : Fx} {D : Nat → Bool} {j n : Nat} (h : ∀ j, j ≤ n → D j = true) (hj : j ≤ n) (h' : D j = false) : False := by
  rw [h j hj] at h'; cases h'
theorem mixed' : Tryz.prog.follows .mixedOrders = true := by kernel_rfl
theorem wp_r4 {F : Fx} (hF : F.Ok) {ops : Array Oper} (hO : RO ops) {Q : Exit → Act → World → Prop} {id : Nat} {a : Act}
    (sz : a.tmps.size = 43) (df : a.defers = []) (q1 : a.tmps.getD 1 undef = .int .i64 F.k) (q2 : a.tmps.getD 2 undef = .pointer (some ⟨F.bl, 0, none⟩)) (q3 : a.tmps.getD 3 undef = .pointer (some ⟨F.bm, 0, none⟩)) (q4 : a.tmps.getD 4 undef = .pointer (some ⟨F.bb, 0, none⟩))
    (hQ : ∀ a' w', a'.defers = [] → R6 F w' → Q .normal a' w') : (Code.region id ops true).wp Tryz.prog Q a F.W := by
  refine wp_region_any mixed' ?_
  have hb : Below F.base F.W { F.W with drawn := F.W.drawn + 1 } := ⟨rfl, rfl, rfl, Nat.le_refl _, fun _ _ => rfl⟩
  refine wpAny_inv (P := Tryz.prog) (RI4 F) hO.acy (fun D a w i o H ho hi hb => ?_) (fun D a w H hall => ?_) ops.size _ a _ (by simp) ?_ (RI4.start hF sz df q1 q2 q3 q4 ?_ rfl hb)
  · have hlt : i < 10 := by have := (Array.getElem?_eq_some_iff.1 ho).1; rw [hO.n] at this; exact this
    rcases H with ⟨h8, h9, hcl, H⟩ | ⟨h8, h9, H⟩ | ⟨h9, _⟩
    · rcases (show i = 0 ∨ i = 1 ∨ i = 2 ∨ i = 3 ∨ i = 4 ∨ i = 5 ∨ i = 6 ∨ i = 7 ∨ i = 8 ∨ i = 9 by omega) with rfl | rfl | rfl | rfl | rfl | rfl | rfl | rfl | rfl | rfl
      · exact H.op0 hF hO.h0 h8 h9 hcl hi ho hb
      · exact H.op1 hF hO.h1 h8 h9 hcl hi ho hb
      · exact H.op2 hF hO.h2 h8 h9 hcl hi ho hb
      · exact H.op3 hF hO.h3 h8 h9 hcl hi ho hb
      · exact H.op4 hF hO.h4 h8 h9 hcl hi ho hb
      · exact H.op5 hF hO.h5 h8 h9 hcl hi ho hb
      · exact H.op6 hF hO.h6 h8 h9 hcl hi ho hb
      · exact H.op7 hF hO.h7 h8 h9 hcl hi ho hb
      · exact H.op8 hF hO.h8 h8 h9 hcl hi ho hb
      · exfalso
        obtain ⟨o', h1, _, _, _, _, haf⟩ := hO.h9.ex
        rw [ho] at h1
        cases h1
        obtain ⟨e, he, hj, hbi⟩ := haf 8 (by decide)
        have := hb e he hbi
        rw [hj, h8] at this
        cases this
    · rcases (show i ≤ 8 ∨ i = 9 by omega) with h | rfl
      · exact (R5.no (F := F) h8 h hi).elim
      · exact H.op9 hF hO.h9 h8 ho
    · exact (R5.no (F := F) h9 (by omega) hi).elim
  · rw [hO.n] at hall
    rcases H with ⟨h8, _⟩ | ⟨_, h9, _⟩ | ⟨_, hd, H⟩
    · rw [hall 8 (by decide)] at h8; cases h8
    · rw [hall 9 (by decide)] at h9; cases h9
    · exact hQ _ _ hd H
  · rw [Array.toList_replicate, List.count_replicate]
    simp
  · intro j
    rw [getD_toList, Array.toList_replicate]
    by_cases hj : j < ops.size
    · simp [hj]
    · simp [hj]
end Go.Hl

namespace Go.Hl
open Go Go.RowKit Go.Proofs Go.Shelf
theorem owns_mono {w : World} {B B' : Nat} {e : TypeId} {s m : Nat} {v : Value} {l : List Value} (hB : B' ≤ B) (h : w.ownsRow B e s v m l) : w.ownsRow B' e s v m l := by
  obtain ⟨h1, h2⟩ := h
  refine ⟨h1, ?_⟩
  rcases h2 with h2 | ⟨g, cap, cur, h3, h4, h5⟩
  · exact .inl h2
  · exact .inr ⟨g, cap, cur, h3, Nat.le_trans hB h4, h5⟩
attribute [local go_sem] Oper.semAt_some
set_option maxRecDepth 100000
set_option maxHeartbeats 2000000
theorem ri_num {w : World} {X : Nat → Prop} {b : Bool} {c : AV} {v : Value} (h : RI w X c v) : RI w X (.agg [.raw (.bool b), c]) (.agg #[.bool b, v]) := by
  refine RI.agg _ _ (fun j => if j = 0 then .bool b else v) rfl (fun j c' hj => ?_) (fun j c' hj => ?_)
  · rcases j with _ | _ | j
    · rfl
    · rfl
    · cases hj
  · rcases j with _ | _ | j
    · cases hj; exact RI.raw _
    · cases hj; exact h
    · cases hj
theorem sign_c {b : Bool} {x : List Int} (hx : Lm x) (w : World) {s : Value} (hs : RI w (fun _ => False) (.ns .u64 x) s) : Calls Tryz.prog 26 #[.agg #[.bool b, s]] w fun e w' => e = .returned (.int .i64 (zv b x).sign) ∧ Below w.heap.size w w' := by
  refine calls_of_acall Tryz.func26 rfl (by decide) ((sign_ok [.agg [.raw (.bool b), .ns .u64 x]] hx).1 rfl) rfl (fun j c hj => ?_)
  cases j with
  | zero => cases hj; exact ⟨_, rfl, ri_num hs⟩
  | succ j => cases hj
theorem cmp_c {b c : Bool} {x y : List Int} (hx : Lm x) (hy : Lm y) (w : World) {s t : Value} (hs : RI w (fun _ => False) (.ns .u64 x) s) (ht : RI w (fun _ => False) (.ns .u64 y) t) : Calls Tryz.prog 31 #[.agg #[.bool b, s], .agg #[.bool c, t]] w fun e w' => e = .returned (.int .i64 (cmpZ (zv b x) (zv c y))) ∧ Below w.heap.size w w' := by
  refine calls_of_acall Tryz.func31 rfl (by decide) ((zcmp_ok [.agg [.raw (.bool b), .ns .u64 x], .agg [.raw (.bool c), .ns .u64 y]] ⟨hx, hy⟩).1 rfl) rfl (fun j c hj => ?_)
  rcases j with _ | _ | j
  · cases hj; exact ⟨_, rfl, ri_num hs⟩
  · cases hj; exact ⟨_, rfl, ri_num ht⟩
  · cases hj
theorem alloc_at : ∀ (l : List Obj) (w : World) (i : Nat) (o : Obj), l[i]? = some o → (l.foldl World.alloc w).heap[w.heap.size + i]? = some o
  | [], _, _, _, h => by cases h
  | o' :: l, w, 0, o, h => by
    cases h
    have : ∀ (l : List Obj) (w' : World) (k : Nat), k < w'.heap.size → (l.foldl World.alloc w').heap[k]? = w'.heap[k]? := by
      intro l
      induction l with
      | nil => intro _ _ _; rfl
      | cons o l ih =>
        intro w' k hk
        show ((l.foldl World.alloc (w'.alloc o)).heap)[k]? = _
        rw [ih _ k (by simp; omega)]
        exact Below.heap_alloc _ _ _ hk
    show (l.foldl World.alloc (w.alloc o')).heap[w.heap.size + 0]? = _
    rw [this l _ _ (by simp)]
    exact World.alloc_heap_new w _
  | o' :: l, w, i + 1, o, h => by
    have := alloc_at l (w.alloc o') i o h
    rw [World.size_alloc] at this
    show (l.foldl World.alloc (w.alloc o')).heap[w.heap.size + (i + 1)]? = _
    rw [show w.heap.size + (i + 1) = w.heap.size + 1 + i by omega]
    exact this
theorem alloc_size : ∀ (l : List Obj) (w : World), (l.foldl World.alloc w).heap.size = w.heap.size + l.length
  | [], _ => rfl
  | o :: l, w => by
    show (l.foldl World.alloc (w.alloc o)).heap.size = _
    rw [alloc_size l, World.size_alloc, List.length_cons]; omega
theorem alloc_below : ∀ (l : List Obj) (w : World), Below w.heap.size w (l.foldl World.alloc w)
  | [], w => Below.refl _ _
  | o :: l, w => ((Below.refl _ w).alloc (Nat.le_refl _) o).trans ((alloc_below l (w.alloc o)).mono (by simp))
theorem info2 : (Tryz.prog.info? 2).map (fun i => (i.zero, i.size, i.bytes)) = some (some (.int .i64 0), 1, 8) := by kernel_rfl
def HitsR (w : World) (T : List Int) (mo : Bool) (er : Int) (e : Ending) (W' : World) : Prop :=
  ∃ v, e = .returned (.tuple #[v, .bool mo, .int .i64 er]) ∧ W'.ownsRow w.heap.size 2 1 v T.length (T.map (Value.int .i64)) ∧ Below w.heap.size w W'
theorem hits_results {tm : Array Value} {W : World} {p5 p6 p7 : Nat} {v : Value} {mo : Bool} {er : Int} (t12 : tm[12]?.getD undef = .pointer (some ⟨p5, 0, none⟩)) (t13 : tm[13]?.getD undef = .pointer (some ⟨p6, 0, none⟩)) (t14 : tm[14]?.getD undef = .pointer (some ⟨p7, 0, none⟩))
    (c5 : W.cell? ⟨p5, 0, none⟩ = some v) (c6 : W.cell? ⟨p6, 0, none⟩ = some (.bool mo)) (c7 : W.cell? ⟨p7, 0, none⟩ = some (.int .i64 er)) : (results Tryz.f17 tm).run Tryz.prog W = .ok (.tuple #[v, .bool mo, .int .i64 er]) W := by
  have a4 := Tryz.isAgg4; have z4 := Tryz.sizeOf4
  have a70 := Tryz.isAgg39; have z70 := Tryz.sizeOf39
  have a64 := Tryz.isAgg30; have z64 := Tryz.sizeOf30
  simp [results, Tryz.results17, go_sem, t12, t13, t14, c5, c6, c7, a4, z4, a70, z70, a64, z64]
theorem hitsv_c {b0 b1 b2 b3 : Bool} {x0 x1 x2 x3 : List Int} {n : Int} (X : Nat → Prop) (w : World) (hX : ∀ b, X b → b < w.heap.size) {s0 s1 s2 s3 : Value} (r0 : RI w X (.ns .u64 x0) s0) (r1 : RI w X (.ns .u64 x1) s1) (r2 : RI w X (.ns .u64 x2) s2) (r3 : RI w X (.ns .u64 x3) s3) :
    Calls Tryz.prog 43 #[.agg #[.bool b0, s0], .agg #[.bool b1, s1], .agg #[.bool b2, s2], .agg #[.bool b3, s3], .int .i64 n] w fun e w' =>
      ∃ u0 u1 u2 u3 u4, e = .returned (.func (.func 66) #[] #[u0, u1, u2, u3, u4]) ∧ RI w' X (.vp [.raw (.bool b3), .ns .u64 x3]) u0 ∧ RI w' X (.vp [.raw (.int .i64 n)]) u1 ∧ RI w' X (.vp [.raw (.bool b0), .ns .u64 x0]) u2 ∧ RI w' X (.vp [.raw (.bool b1), .ns .u64 x1]) u3 ∧ RI w' X (.vp [.raw (.bool b2), .ns .u64 x2]) u4 ∧ Below w.heap.size w w' := by
  have harg : ∀ (j : Nat) (c : AV), [AV.agg [.raw (.bool b0), .ns .u64 x0], .agg [.raw (.bool b1), .ns .u64 x1], .agg [.raw (.bool b2), .ns .u64 x2], .agg [.raw (.bool b3), .ns .u64 x3], .raw (.int .i64 n)][j]? = some c → ∃ v : Value, #[Value.agg #[.bool b0, s0], .agg #[.bool b1, s1], .agg #[.bool b2, s2], .agg #[.bool b3, s3], .int .i64 n][j]? = some v ∧ RI w X c v := fun j c hj => by
    rcases j with _ | _ | _ | _ | _ | j
    · cases hj; exact ⟨_, rfl, ri_num r0⟩
    · cases hj; exact ⟨_, rfl, ri_num r1⟩
    · cases hj; exact ⟨_, rfl, ri_num r2⟩
    · cases hj; exact ⟨_, rfl, ri_num r3⟩
    · cases hj; exact ⟨_, rfl, RI.raw _⟩
    · cases hj
  rcases hits_acall b0 b1 b2 b3 x0 x1 x2 x3 n w X #[.agg #[.bool b0, s0], .agg #[.bool b1, s1], .agg #[.bool b2, s2], .agg #[.bool b3, s3], .int .i64 n] hX rfl harg with ⟨v, h1, _⟩ | ⟨_, h2⟩
  · rw [run_callFunc_body Tryz.func43 rfl (by decide)] at h1
    cases h1
  · refine h2.mono fun e w' ⟨v, he, hr, hb⟩ => ?_
    cases hr with
    | fn _ _ vs f hl h hr =>
      have hs : vs.size = 5 := hl
      refine ⟨f 0, f 1, f 2, f 3, f 4, ?_, hr 0 _ rfl, hr 1 _ rfl, hr 2 _ rfl, hr 3 _ rfl, hr 4 _ rfl, hb⟩
      rw [he]
      congr 3
      apply Array.ext_getElem?
      intro i
      rcases i with _ | _ | _ | _ | _ | i
      · exact h 0 _ rfl
      · exact h 1 _ rfl
      · exact h 2 _ rfl
      · exact h 3 _ rfl
      · exact h 4 _ rfl
      · rw [Array.getElem?_eq_none (by omega), Array.getElem?_eq_none (by simp)]
theorem hro1 : Fence.wide.round = none := rfl
theorem rf_own {α : Type} {F : Fence} {n : Nat} {P : Program} {g : Operand} {ps : Array Tmp} {assign body : Code} {Q : Exit → Act → World → Prop} {a : Act} {w : World}
    (hro : F.round = none) (h1 : 1 ≤ n) {gf : Nat} {lb : Array Value} (hg : a.eval g = .func (.func gf) #[] lb) (hFg : F.fn gf) (eg : ∀ args w, (callFunc gf args).run P w = .ok (.enter gf args) w)
    {encs : α → Array Value} {Kp : World → World → Prop} {S Sp : List α → Prop} {N : Nat} {w0 : World} (hseq : SeqStopsK F (n - 1) P gf lb encs Kp S Sp N w0)
    (hKt : ∀ {A B C : World}, Kp A B → Kp B C → Kp A C) (hKb : ∀ (W : World) (l : Nat) (o o' : Obj), w.heap.size ≤ l → W.heap[l]? = some o → o.isCells = false → o.isWalk = false → Kp W (W.putObj l o')) (hb0 : Below w0.heap.size w0 w) (hps : ∀ x, (encs x).size = ps.size)
    (I : List α → World → Prop) (Ix : Code → List α → World → Prop) (hI : OwnFrom w.heap.size I) (hIx : ∀ c, OwnFrom w.heap.size (Ix c)) (h0 : I [] w) (p q : Nat) (en : α → Value)
    (hassign : ∀ (l : Nat) (x : α) (W : World) (K : Act → World → Prop), K { tmps := (a.tmps.setIfInBounds p (en x)).setIfInBounds q (en x), defers := [] } W →
      assign.wpIn (F.inRound l) (n - 1 - 1) P (Exit.then K (fun _ _ _ => False)) { tmps := (ps.zip (encs x)).foldl (fun t (p, v) => t.setIfInBounds p v) a.tmps, defers := [] } W)
    (hbody : ∀ (l : Nat) (pre : List α) (x : α) (W : World), I pre W → pre.length < N → body.wpIn (F.inRound l) (n - 1 - 1) P (ownPostG w.heap.size Kp I Ix (pre ++ [x]) W) { tmps := (a.tmps.setIfInBounds p (en x)).setIfInBounds q (en x), defers := [] } W)
    (hdone : ∀ (D : Nat) (xs : List α) (W : World), w.heap.size ≤ D → S xs → I xs W → W.heap[D]? = some (.deferred (some [])) → Q .normal { a with defers := { target := .collected D, args := #[] } :: a.defers } W)
    (hstop : ∀ (D : Nat) (c : Code) (pre : List α) (W : World), w.heap.size ≤ D → Sp pre → Ix c pre W → W.heap[D]? = some (.deferred (some [])) → c.wpIn F n P Q { a with defers := { target := .collected D, args := #[] } :: a.defers } W) :
    (Code.rangeFunc g ps assign body).wpIn F n P Q a w :=
  wpIn_rangeFunc_ownG hro h1 hg hFg eg hseq hKt hKb hb0 hps I Ix hI hIx h0 _ hassign hbody hdone hstop
theorem wpListIn_append_at {F : Fence} {n : Nat} {P : Program} (w : World) {ops : Array Oper} {rest : List Oper} {o : Oper} {a : Act} {Q : Exit → Act → World → Prop}
    (hg : o.guard = none) (s x : Operand) (t : TypeId) (hop : o.op = Op.call { callee := Callee.builtin Builtin.append, args := #[s, x], argTypes := #[t, t] })
    (base : Nat) (e : TypeId) (i : TypeInfo) (z : Value) (size bytes : Nat) (h1 : P.underlying t = some (.slice e)) (h2 : P.info? e = some i) (h3 : i.zero = some z) (h4 : i.size = size) (h5 : i.bytes = bytes) (h6 : z.cells.size = size) (h7 : 0 < size)
    (v : Value) (k : Nat) (xs : List Value) (hs : a.eval s = v) (hown : w.ownsRow base e size v k xs) (ad : Addr) (m c : Nat) (news : List Value) (hx : a.eval x = .slice (some ad) m c) (hn : news.length = m * size)
    (hc : ∀ j u, news[j]? = some u → w.cell? (ad.add j) = some u) (h1c : ∀ u ∈ news, u.oneCell' = true) (b1 : k + m ≤ maxLen) (b2 : (k + m) * bytes ≤ 140737488355328) (b3 : base ≤ w.heap.size)
    (hK : ∀ v' w', w'.ownsRow base e size v' (k + m) (xs ++ news) → w.grownBy w' v.ownBlock → (v'.ownBlock = v.ownBlock ∨ v'.ownBlock = some w.heap.size) → wpListIn F n P ops Q rest (a.put o.dst v') w') :
    wpListIn F n P ops Q (o :: rest) a w := by
  refine wpListIn_plain hg fun K hK' => ?_
  obtain ⟨v', w', hrun, r1, r2, _, r4⟩ := run_append_own_at (P := P) w base t o.type e i z size bytes h1 h2 h3 h4 h5 h6 h7 v k xs hown ad m c news hn hc h1c b1 b2 b3
  refine ⟨?_, ?_⟩
  · simp [Oper.about, hop, resolve, Target.leads, Sem.run_pure]
  · rw [Oper.semAt_plain F _ _ (by rw [hop]; intro c hc'; cases hc')]
    simp [execOp, hop, resolve, invoke, builtin, hs, hx, hrun, Result.andThen]
    exact hK' _ _ (hK v' w' r1 r2 r4)
theorem wpListIn_len {F : Fence} {n : Nat} {P : Program} (w : World) {ops : Array Oper} {rest : List Oper} {o : Oper} {a : Act} {Q : Exit → Act → World → Prop}
    (hg : o.guard = none) (s : Operand) (t : TypeId) (hop : o.op = Op.call { callee := Callee.builtin Builtin.len, args := #[s], argTypes := #[t] })
    (e : TypeId) (hu : P.underlying t = some (.slice e)) (v : Value) (ad : Option Addr) (k cap : Nat) (hs : a.eval s = v) (hv : v = .slice ad k cap) (hK : wpListIn F n P ops Q rest (a.put o.dst (.int .i64 k)) w) :
    wpListIn F n P ops Q (o :: rest) a w := by
  subst hv
  refine wpListIn_plain hg fun K hK' => ?_
  refine ⟨?_, ?_⟩
  · simp [Oper.about, hop, resolve, Target.leads, Sem.run_pure]
  · rw [Oper.semAt_plain F _ _ (by rw [hop]; intro c hc'; cases hc')]
    have hrun : (Builtin.len_ #[t] o.type #[.slice ad k cap]).run P w = .ok (.int .i64 k) w := by simp [Builtin.len_, run_underlying hu, go_sem]
    simp [execOp, hop, resolve, invoke, builtin, hs, hrun, Result.andThen]
    exact hK' _ _ hK
theorem kpB_append {W w1 : World} {Bx g' n' cap' len cap m : Nat} {ad : Option Addr} {tmp : Obj} {ys : List Value} (hv : Boxed W Bx 39 (.slice ad len cap)) (hv2 : Boxed (w1.setCell ⟨Bx, 0, none⟩ (.slice (some ⟨g', 0, none⟩) n' cap')) Bx 39 (.slice (some ⟨g', 0, none⟩) n' cap'))
    (hgrow : (W.alloc tmp).grownBy w1 (Value.slice ad len cap).ownBlock) (hown' : w1.ownsRow Bx 2 1 (.slice (some ⟨g', 0, none⟩) n' cap') m ys)
    (hfr : (Value.slice (some ⟨g', 0, none⟩) n' cap').ownBlock = (Value.slice ad len cap).ownBlock ∨ (Value.slice (some ⟨g', 0, none⟩) n' cap').ownBlock = some (W.alloc tmp).heap.size) :
    KpB Bx W (w1.setCell ⟨Bx, 0, none⟩ (.slice (some ⟨g', 0, none⟩) n' cap')) := by
  obtain ⟨W2, eW2⟩ : ∃ W2, w1.setCell ⟨Bx, 0, none⟩ (.slice (some ⟨g', 0, none⟩) n' cap') = W2 := ⟨_, rfl⟩
  have hs := hgrow.size
  rw [World.size_alloc] at hs
  have hsz : W2.heap.size = w1.heap.size := by rw [← eW2]; simp [World.setCell]
  have hoth : ∀ b, b ≠ Bx → W2.heap[b]? = w1.heap[b]? := fun b hb => by rw [← eW2]; exact Below.heap_setCell _ _ _ _ hb
  rw [eW2] at hv2 ⊢
  have hg : g' < W2.heap.size := by
    rcases hown'.2 with ⟨e, _⟩ | ⟨g, c, cur, e, _, hgb, _⟩
    · cases e
    · cases e; rw [hsz]; exact (Array.getElem?_eq_some_iff.1 hgb).1
  have hxb : ∀ b, XB Bx W2 b → b = Bx ∨ b = g' := fun b h => by
    rcases h with h | ⟨ad', l', c', h, hb⟩
    · exact .inl h
    · rw [hv2.cell] at h; cases h; exact .inr hb
  refine ⟨by omega, fun b o x hb hx => ?_, fun b h => ?_, fun hok => ⟨hv2.lt, fun b h => ?_⟩⟩
  · have hlt : b < W.heap.size := World.block_lt_of_cell? W ⟨b, o, none⟩ hx
    have hne : b ≠ Bx := fun e => hb (.inl e)
    have hne2 : some b ≠ (Value.slice ad len cap).ownBlock := fun e => by
      cases ad with
      | none => cases e
      | some ad => cases e; exact hb (.inr ⟨ad, len, cap, hv.cell, rfl⟩)
    rw [← hx]
    refine World.cell?_of_block (w := W) ?_
    show W2.heap[b]? = W.heap[b]?
    rw [hoth b hne, hgrow.block b (by simp; omega) hne2]
    exact Below.heap_alloc _ _ _ hlt
  · rcases hxb b h with h | rfl
    · exact .inl (.inl h)
    rcases hfr with h | h
    · cases ad with
      | none => cases h
      | some ad =>
        have : b = ad.block := by simpa [Value.ownBlock] using h
        exact .inl (.inr ⟨ad, len, cap, hv.cell, this⟩)
    · have : b = W.heap.size + 1 := by simpa [Value.ownBlock] using h
      exact .inr (by omega)
  · rcases hxb b h with rfl | rfl
    · exact hv2.lt
    · exact hg
theorem hits_end {R : Ending → World → Prop} {W : World} {D p5 p6 p7 : Nat} {tm : Array Value} {v : Value} {mo : Bool} {er : Int} (hK : W.heap[D]? = some (.deferred (some []))) (t12 : tm[12]?.getD undef = .pointer (some ⟨p5, 0, none⟩)) (t13 : tm[13]?.getD undef = .pointer (some ⟨p6, 0, none⟩)) (t14 : tm[14]?.getD undef = .pointer (some ⟨p7, 0, none⟩))
    (h5 : Boxed W p5 39 v) (h6 : Boxed W p6 4 (.bool mo)) (h7 : Boxed W p7 30 (.int .i64 er)) (d5 : p5 ≠ D) (d6 : p6 ≠ D) (d7 : p7 ≠ D) (hR : R (.returned (.tuple #[v, .bool mo, .int .i64 er])) (W.putObj D (.deferred none))) :
    bodyPostM Fence.wide 11 Tryz.prog Tryz.f17 R .ret { tmps := tm, defers := [{ target := .collected D, args := #[] }] } W := by
  refine ⟨by simp, .inl ⟨_, _, rfl, run_takeDeferred hK, _, hits_results t12 t13 t14 ?_ ?_ ?_, hR⟩⟩
  · rw [cell_put_other d5]; exact h5.cell
  · rw [cell_put_other d6]; exact h6.cell
  · rw [cell_put_other d7]; exact h7.cell
theorem hits_calls {b0 b1 b2 b3 : Bool} {x0 x1 x2 x3 : List Int} {n most : Int} (w : World) {s0 s1 s2 s3 : Value}
    (r0 : RI w (fun _ => False) (.ns .u64 x0) s0) (r1 : RI w (fun _ => False) (.ns .u64 x1) s1) (r2 : RI w (fun _ => False) (.ns .u64 x2) s2) (r3 : RI w (fun _ => False) (.ns .u64 x3) s3)
    (h0 : Lm x0 ∧ x0.length < 9000) (h1 : Lm x1 ∧ x1.length < 9000) (h2 : Lm x2 ∧ x2.length < 9000) (h3 : Lm x3 ∧ x3.length < 9000) (hn1 : -9223372036854775808 ≤ n) (hn2 : n < 9223372036854775808) (hmo : most < 100000) {T : List Int} {mo : Bool} {er : Int}
    (hbad : zv b2 x2 < 1 ∨ zv b3 x3 < 0 ∨ zv b2 x2 < zv b3 x3 ∨ n < 0 ∨ most < 0 → T = [] ∧ mo = false ∧ er = 1)
    (hgood : ¬ (zv b2 x2 < 1 ∨ zv b3 x3 < 0 ∨ zv b2 x2 < zv b3 x3 ∨ n < 0 ∨ most < 0) → T = (hl (zv b0 x0) (zv b1 x1) (zv b2 x2) (zv b3 x3) n.toNat 0).take most.toNat ∧ mo = decide (most.toNat < (hl (zv b0 x0) (zv b1 x1) (zv b2 x2) (zv b3 x3) n.toNat 0).length) ∧ er = 0) :
    CallsIn Fence.wide 11 Tryz.prog 17 #[.agg #[.bool b0, s0], .agg #[.bool b1, s1], .agg #[.bool b2, s2], .agg #[.bool b3, s3], .int .i64 n, .int .i64 most] w (HitsR w T mo er) := by
  have mixed : Tryz.prog.follows .mixedOrders = true := by kernel_rfl
  have t43 := Tryz.underlying24; have a43 := Tryz.isAgg24; have z43 := Tryz.sizeOf24; have v43 := Tryz.zeroValue24; have u43 := run_underlying Tryz.underlying24
  have t2 := Tryz.underlying2; have a2 := Tryz.isAgg2; have z2 := Tryz.sizeOf2; have v2 := Tryz.zeroValue2; have u2 := run_underlying Tryz.underlying2
  have t3 := Tryz.underlying3; have a3 := Tryz.isAgg3; have z3 := Tryz.sizeOf3; have v3 := Tryz.zeroValue3; have u3 := run_underlying Tryz.underlying3
  have t4 := Tryz.underlying4; have a4 := Tryz.isAgg4; have z4 := Tryz.sizeOf4; have v4 := Tryz.zeroValue4; have u4 := run_underlying Tryz.underlying4
  have t70 := Tryz.underlying39; have a70 := Tryz.isAgg39; have z70 := Tryz.sizeOf39; have v70 := Tryz.zeroValue39; have u70 := run_underlying Tryz.underlying39
  have t64 := Tryz.underlying30; have a64 := Tryz.isAgg30; have z64 := Tryz.sizeOf30; have v64 := Tryz.zeroValue30; have u64 := run_underlying Tryz.underlying30
  obtain ⟨i0, hi, iz0, iz1, iz2⟩ := info_parts info2
  have k2 := fun w' hr => sign_c (b := b2) h2.1 w' (s := s2) hr
  have k3 := fun w' hr => sign_c (b := b3) h3.1 w' (s := s3) hr
  have k23 := fun w' hr hq => cmp_c (b := b3) (c := b2) h3.1 h2.1 w' (s := s3) (t := s2) hr hq
  have its := fun (Bx : Nat) (w0 : World) (u0 u1 u2 u3 u4 : Value) (hok : XOk Bx w0) (hm : 0 < zv b2 x2) (hw : zv b3 x3 ≤ zv b2 x2) => it_stops (b0 := b0) (b1 := b1) (n := n) (w0 := w0) (v0 := u0) (v1 := u1) (v2 := u2) (v3 := u3) (v4 := u4) hok h0 h1 h2 h3 hn1 hn2 hm hw
  obtain ⟨M, eM⟩ : ∃ M, zv b2 x2 = M := ⟨_, rfl⟩
  obtain ⟨V, eV⟩ : ∃ V, zv b3 x3 = V := ⟨_, rfl⟩
  rw [eM, eV] at hbad k23 its hgood
  obtain ⟨HL, eHL⟩ : ∃ HL, hl (zv b0 x0) (zv b1 x1) M V n.toNat 0 = HL := ⟨_, rfl⟩
  rw [eHL] at its hgood
  rw [eM] at k2
  rw [eV] at k3
  clear h0 h1 h2 h3 eHL eM eV
  obtain ⟨R, eR⟩ : ∃ R, HitsR w T mo er = R := ⟨_, rfl⟩
  rw [eR]
  refine callsIn_of_wp_marks Tryz.func17 rfl trivial ?_ rfl
  simp only [Tryz.ntmps17, List.size_toArray, List.length_cons, List.length_nil, Nat.reduceAdd, Nat.reduceSub, Array.replicate_succ, Array.replicate_zero, List.push_toArray, List.append_toArray, List.nil_append, List.cons_append]
  gi_wp2
  obtain ⟨l8, el8⟩ : ∃ l8 : List Obj, [Obj.cells #[Value.bool b0, s0] 24, Obj.cells #[Value.bool b1, s1] 24, Obj.cells #[Value.bool b2, s2] 24, Obj.cells #[Value.bool b3, s3] 24, Obj.cells #[Value.int .i64 most] 3, Obj.cells #[Value.slice none 0 0] 39, Obj.cells #[Value.bool false] 4, Obj.cells #[Value.int .i64 0] 30] = l8 := ⟨_, rfl⟩
  generalize hW8 : World.alloc (World.alloc _ _) _ = W8
  have eW8 : l8.foldl World.alloc w = W8 := by rw [← el8, ← hW8]; rfl
  have hs8 : W8.heap.size = w.heap.size + 8 := by rw [← eW8, alloc_size, ← el8]; rfl
  have hB8 : Below w.heap.size w W8 := by rw [← eW8]; exact alloc_below _ _
  have at8 : ∀ i o, l8[i]? = some o → W8.heap[w.heap.size + i]? = some o := fun i o h => by rw [← eW8]; exact alloc_at _ _ _ _ h
  clear hW8 eW8
  have q0 := at8 0 _ (by rw [← el8]; rfl)
  have q1 := at8 1 _ (by rw [← el8]; rfl)
  have q2 := at8 2 _ (by rw [← el8]; rfl)
  have q3 := at8 3 _ (by rw [← el8]; rfl)
  have q4 := at8 4 _ (by rw [← el8]; rfl)
  have q5 := at8 5 _ (by rw [← el8]; rfl)
  have q6 := at8 6 _ (by rw [← el8]; rfl)
  have q7 := at8 7 _ (by rw [← el8]; rfl)
  clear at8 el8
  have fx : ∀ w', Below (w.heap.size + 8) W8 w' → w'.cell? ⟨w.heap.size, 0, none⟩ = some (.bool b0) ∧ w'.cell? ⟨w.heap.size, 1, none⟩ = some (s0) ∧ w'.cell? ⟨w.heap.size + 1, 0, none⟩ = some (.bool b1) ∧ w'.cell? ⟨w.heap.size + 1, 1, none⟩ = some (s1) ∧ w'.cell? ⟨w.heap.size + 1 + 1, 0, none⟩ = some (.bool b2) ∧ w'.cell? ⟨w.heap.size + 1 + 1, 1, none⟩ = some (s2) ∧ w'.cell? ⟨w.heap.size + 1 + 1 + 1, 0, none⟩ = some (.bool b3) ∧ w'.cell? ⟨w.heap.size + 1 + 1 + 1, 1, none⟩ = some (s3) ∧ w'.cell? ⟨w.heap.size + 1 + 1 + 1 + 1, 0, none⟩ = some (.int .i64 most) ∧ Boxed w' (w.heap.size + 1 + 1 + 1 + 1 + 1) 39 (.slice none 0 0) ∧ Boxed w' (w.heap.size + 1 + 1 + 1 + 1 + 1 + 1) 4 (.bool false) ∧ Boxed w' (w.heap.size + 1 + 1 + 1 + 1 + 1 + 1 + 1) 30 (.int .i64 0) := fun w' hb =>
    ⟨cell_at ((hb.block _ (by omega)).trans q0) rfl, cell_at ((hb.block _ (by omega)).trans q0) rfl, cell_at ((hb.block _ (by omega)).trans q1) rfl, cell_at ((hb.block _ (by omega)).trans q1) rfl, cell_at ((hb.block _ (by omega)).trans q2) rfl, cell_at ((hb.block _ (by omega)).trans q2) rfl, cell_at ((hb.block _ (by omega)).trans q3) rfl, cell_at ((hb.block _ (by omega)).trans q3) rfl, cell_at ((hb.block _ (by omega)).trans q4) rfl, (hb.block _ (by omega)).trans q5, (hb.block _ (by omega)).trans q6, (hb.block _ (by omega)).trans q7⟩
  clear q0 q1 q2 q3 q4 q5 q6 q7
  have rx : ∀ w', Below (w.heap.size + 8) W8 w' → RI w' (fun _ => False) (.ns .u64 x2) s2 ∧ RI w' (fun _ => False) (.ns .u64 x3) s3 := fun w' hb => by
    have h := hB8.trans (hb.mono (by omega))
    exact ⟨r2.keep (keepOf _ h) (fun _ _ h => h), r3.keep (keepOf _ h) (fun _ _ h => h)⟩
  have leaf : ∀ (w' : World) (tm : Array Value), Below (w.heap.size + 8) W8 w' → (M < 1 ∨ V < 0 ∨ M < V ∨ n < 0 ∨ most < 0) → tm[12]?.getD undef = .pointer (some ⟨w.heap.size + 1 + 1 + 1 + 1 + 1, 0, none⟩) → tm[13]?.getD undef = .pointer (some ⟨w.heap.size + 1 + 1 + 1 + 1 + 1 + 1, 0, none⟩) → tm[14]?.getD undef = .pointer (some ⟨w.heap.size + 1 + 1 + 1 + 1 + 1 + 1 + 1, 0, none⟩) →
      bodyPostM Fence.wide 11 Tryz.prog Tryz.f17 R .ret { tmps := tm, defers := [] } (((w'.setCell ⟨w.heap.size + 1 + 1 + 1 + 1 + 1, 0, none⟩ (.slice none 0 0)).setCell ⟨w.heap.size + 1 + 1 + 1 + 1 + 1 + 1, 0, none⟩ (.bool false)).setCell ⟨w.heap.size + 1 + 1 + 1 + 1 + 1 + 1 + 1, 0, none⟩ (.int .i64 1)) := by
    intro w' tm hb hbd e12 e13 e14
    obtain ⟨rfl, rfl, rfl⟩ := hbad hbd
    obtain ⟨_, _, _, _, _, _, _, _, _, q5, q6, q7⟩ := fx w' hb
    have o5 := ((q5.set (.slice none 0 0)).other (show w.heap.size + 1 + 1 + 1 + 1 + 1 ≠ w.heap.size + 1 + 1 + 1 + 1 + 1 + 1 by omega) (.bool false)).other (show w.heap.size + 1 + 1 + 1 + 1 + 1 ≠ w.heap.size + 1 + 1 + 1 + 1 + 1 + 1 + 1 by omega) (.int .i64 1)
    have o6 := ((q6.other (show w.heap.size + 1 + 1 + 1 + 1 + 1 + 1 ≠ w.heap.size + 1 + 1 + 1 + 1 + 1 by omega) (.slice none 0 0)).set (.bool false)).other (show w.heap.size + 1 + 1 + 1 + 1 + 1 + 1 ≠ w.heap.size + 1 + 1 + 1 + 1 + 1 + 1 + 1 by omega) (.int .i64 1)
    have o7 := ((q7.other (show w.heap.size + 1 + 1 + 1 + 1 + 1 + 1 + 1 ≠ w.heap.size + 1 + 1 + 1 + 1 + 1 by omega) (.slice none 0 0)).other (show w.heap.size + 1 + 1 + 1 + 1 + 1 + 1 + 1 ≠ w.heap.size + 1 + 1 + 1 + 1 + 1 + 1 by omega) (.bool false)).set (.int .i64 1)
    refine ⟨_, hits_results e12 e13 e14 o5.cell o6.cell o7.cell, ?_⟩
    rw [← eR]
    refine ⟨_, rfl, World.ownsRow_nil _ _ _ _, ?_⟩
    exact ((((hB8.trans (hb.mono (by omega))).setCell (p := ⟨w.heap.size + 1 + 1 + 1 + 1 + 1, 0, none⟩) (by dsimp only; omega) _).setCell (p := ⟨w.heap.size + 1 + 1 + 1 + 1 + 1 + 1, 0, none⟩) (by dsimp only; omega) _).setCell (p := ⟨w.heap.size + 1 + 1 + 1 + 1 + 1 + 1 + 1, 0, none⟩) (by dsimp only; omega) _)
  refine ⟨trivial, ?_⟩
  refine (callsIn_wide.2 (k2 _ (rx _ (Below.refl _ _)).1)).mono ?_
  rintro e w1 ⟨rfl, hb1'⟩
  have hb1 : Below (w.heap.size + 8) W8 w1 := hb1'.mono (by omega)
  have hz1 := hb1'.size
  obtain ⟨c00, c01, c10, c11, c20, c21, c30, c31, c4, q5, q6, q7⟩ := fx _ hb1
  have f5 := q5.frozen; have f6 := q6.frozen; have f7 := q7.frozen
  have d5 := q5.cell; have d6 := q6.cell; have d7 := q7.cell
  clear q5 q6 q7
  gi_wp2
  rotate_left
  · have hM1 : M.sign < 1 := by assumption
    refine ⟨trivial, ?_⟩
    gi_wp2
    refine ⟨trivial, ?_⟩
    gi_wp2
    exact leaf _ _ hb1 (.inl (sign_lt1.1 hM1)) rfl rfl rfl
  refine ⟨trivial, ?_⟩
  refine (callsIn_wide.2 (k3 _ (rx _ hb1).2)).mono ?_
  rintro e w2 ⟨rfl, hb2'⟩
  have hb2 := hb1.trans (hb2'.mono (by omega))
  have hz2 := hb2'.size
  clear c00 c01 c10 c11 c20 c21 c30 c31 c4 f5 f6 f7 d5 d6 d7
  obtain ⟨c00, c01, c10, c11, c20, c21, c30, c31, c4, q5, q6, q7⟩ := fx _ hb2
  have f5 := q5.frozen; have f6 := q6.frozen; have f7 := q7.frozen
  have d5 := q5.cell; have d6 := q6.cell; have d7 := q7.cell
  clear q5 q6 q7
  gi_wp2
  rotate_left
  · refine ⟨trivial, ?_⟩
    gi_wp2
    exact leaf _ _ hb2 (by have i1 := @sign_lt1 M; have i2 := @cmp_gt0 V M; omega) rfl rfl rfl
  refine ⟨trivial, ?_⟩
  refine (callsIn_wide.2 (k23 _ (rx _ hb2).2 (rx _ hb2).1)).mono ?_
  rintro e w3 ⟨rfl, hb3'⟩
  have hb3 := hb2.trans (hb3'.mono (by omega))
  have hz3 := hb3'.size
  clear c00 c01 c10 c11 c20 c21 c30 c31 c4 f5 f6 f7 d5 d6 d7
  obtain ⟨c00, c01, c10, c11, c20, c21, c30, c31, c4, q5, q6, q7⟩ := fx _ hb3
  have f5 := q5.frozen; have f6 := q6.frozen; have f7 := q7.frozen
  have d5 := q5.cell; have d6 := q6.cell; have d7 := q7.cell
  clear q5 q6 q7
  have hb4 : Below (w.heap.size + 8) W8 (w3.alloc (Obj.cells #[Value.slice none 0 0] 39)) := hb3.trans ((Below.refl _ w3).alloc (by omega) _)
  obtain ⟨a00, a01, a10, a11, a20, a21, a30, a31, a4', _, _, _⟩ := fx _ hb4
  gi_wp2
  rotate_left
  rotate_left
  · exact leaf _ _ hb3 (by have i1 := @sign_lt1 M; have i2 := @cmp_gt0 V M; omega) rfl rfl rfl
  · exact leaf _ _ hb3 (by have i1 := @sign_lt1 M; have i2 := @cmp_gt0 V M; omega) rfl rfl rfl
  clear leaf k2 k3 k23 c00 c01 c10 c11 c20 c21 c30 c31 c4 f5 f6 f7 d5 d6 d7
  have hgd : ¬ (M < 1 ∨ V < 0 ∨ M < V ∨ n < 0 ∨ most < 0) := by have i1 := @sign_lt1 M; have i2 := @cmp_gt0 V M; omega
  obtain ⟨eT, eMo, eEr⟩ := hgood hgd
  clear hgood hbad
  obtain ⟨Bx, eBx⟩ : ∃ Bx, w3.heap.size = Bx := ⟨_, rfl⟩
  have bx4 : Boxed (w3.alloc (Obj.cells #[Value.slice none 0 0] 39)) Bx 39 (.slice none 0 0) := by rw [← eBx]; exact Boxed.new _ _ _
  have hs4 : (w3.alloc (Obj.cells #[Value.slice none 0 0] 39)).heap.size = Bx + 1 := by rw [World.size_alloc, eBx]
  rw [eBx]
  generalize (w3.alloc (Obj.cells #[Value.slice none 0 0] 39)) = w4 at *
  have xb4 : ∀ b, XB Bx w4 b → b = Bx := fun b h => by
    rcases h with h | ⟨ad, len, cap, h, _⟩
    · exact h
    · rw [bx4.cell] at h; cases h
  have ok4 : XOk Bx w4 := ⟨by omega, fun b h => by rw [xb4 b h]; omega⟩
  have rr : ∀ {c : AV} {v : Value}, RI w (fun _ => False) c v → RI w4 (XB Bx w4) c v := fun r => r.keep (keepOf _ (hB8.trans (hb4.mono (by omega)))) (fun b hb h => by have := xb4 b h; omega)
  refine ⟨trivial, ?_⟩
  refine (callsIn_wide.2 (hitsv_c (XB Bx w4) w4 ok4.2 (rr r0) (rr r1) (rr r2) (rr r3))).mono ?_
  rintro e w5 ⟨u0, u1, u2, u3, u4, rfl, p0, p1, p2, p3, p4, hb5'⟩
  have xb5 := xb_below hb5' ok4.1
  rw [← xb5] at p0 p1 p2 p3 p4
  have ok5 := ok4.below hb5'
  have bx5 : Boxed w5 Bx 39 (.slice none 0 0) := (hb5'.block _ (by omega)).trans bx4
  have hz5 := hb5'.size
  have hb5 := hb4.trans (hb5'.mono (by omega))
  have hB5 := hB8.trans (hb5.mono (by omega))
  have hit := its Bx w5 u0 u1 u2 u3 u4 ok5 (by omega) (by omega) p0 p1 p2 p3 p4
  clear its rr xb4 ok4 xb5 p0 p1 p2 p3 p4 r0 r1 r2 r3 hb1' hb2' hb3' hb5' a00 a01 a10 a11 a20 a21 a30 a31 a4' rx hb1 hb2 hb3 hb4 bx4
  gi_wp2
  have hBx : w.heap.size + 8 ≤ Bx := by omega
  have hBz : Bx < w5.heap.size := by omega
  refine rf_own (α := Int) hro1 (by decide) (gf := 66) (lb := #[u0, u1, u2, u3, u4]) rfl trivial (enters_of Tryz.func66 (by kernel_rfl) rfl) hit kpB_t (kpB_b hBz) (Below.refl _ _) (fun _ => rfl)
    (fun pre W => (∃ v, Boxed W Bx 39 v ∧ W.ownsRow Bx 2 1 v pre.length (pre.map (Value.int .i64)) ∧ pre.length ≤ most.toNat) ∧ Below Bx w5 W)
    (fun c pre W => c = .ret ∧ (∃ v, Boxed W (w.heap.size + 1 + 1 + 1 + 1 + 1) 39 v ∧ W.ownsRow Bx 2 1 v most.toNat ((pre.take most.toNat).map (Value.int .i64)) ∧ most.toNat < pre.length) ∧ (Boxed W (w.heap.size + 1 + 1 + 1 + 1 + 1 + 1) 4 (.bool true) ∧ Boxed W (w.heap.size + 1 + 1 + 1 + 1 + 1 + 1 + 1) 30 (.int .i64 0)) ∧ Below w.heap.size w W)
    (OwnFrom.and (Own.from (holdsRow_own (β := List Int) Bx Bx 39 2 1 (fun pre => pre.length) (fun pre => pre.map (Value.int .i64)) (fun pre _ => pre.length ≤ most.toNat)) _) (ownFrom_below (by omega) (by omega)))
    (fun c => OwnFrom.and (fun _ _ _ _ h _ _ => h) (OwnFrom.and (Own.from (holdsRow_own (β := List Int) Bx (w.heap.size + 1 + 1 + 1 + 1 + 1) 39 2 1 (fun _ => most.toNat) (fun pre => (pre.take most.toNat).map (Value.int .i64)) (fun pre _ => most.toNat < pre.length)) _) (OwnFrom.and (OwnFrom.and (Own.from (boxed_own (β := List Int) (w.heap.size + 1 + 1 + 1 + 1 + 1 + 1) 4 (fun _ => .bool true)) _) (Own.from (boxed_own (β := List Int) (w.heap.size + 1 + 1 + 1 + 1 + 1 + 1 + 1) 30 (fun _ => .int .i64 0)) _)) (ownFrom_below (Nat.le_refl _) (by omega)))))
    ⟨⟨_, bx5, World.ownsRow_nil _ _ _ _, Nat.zero_le _⟩, Below.refl _ _⟩ 45 16 (Value.int .i64) ?assign ?body ?done ?stop
  case assign =>
    intro l x W K hK
    gi_wp2
    exact hK
  case body =>
    rintro l pre x W ⟨⟨v, hv, hrow, hpl⟩, hB⟩ hlt
    have hbW : Below (w.heap.size + 8) W8 W := hb5.trans (hB.mono (by omega))
    obtain ⟨_, _, _, _, _, _, _, _, c4, q5, q6, q7⟩ := fx _ hbW
    have hsW := hB.size
    have hform : ∃ ad cap, v = .slice ad pre.length cap := by
      rcases hrow.2 with ⟨e1, e2⟩ | ⟨g, cap, _, e1, _⟩
      · exact ⟨none, 0, by rw [e1, e2]⟩
      · exact ⟨_, cap, e1⟩
    obtain ⟨ad, cap, hvf⟩ := hform
    subst hvf
    have hc := hv.cell
    have hfz := hv.frozen
    simp only [List.setIfInBounds_toArray, List.set_cons_succ, List.set_cons_zero]
    by_cases hq : (pre.length : Int) = most
    · have f5 := q5.frozen; have f6 := q6.frozen; have f7 := q7.frozen
      have d5 := q5.cell; have d6 := q6.cell; have d7 := q7.cell
      have o5 := ((q5.set (.slice ad pre.length cap)).other (show w.heap.size + 1 + 1 + 1 + 1 + 1 ≠ w.heap.size + 1 + 1 + 1 + 1 + 1 + 1 by omega) (.bool true)).other (show w.heap.size + 1 + 1 + 1 + 1 + 1 ≠ w.heap.size + 1 + 1 + 1 + 1 + 1 + 1 + 1 by omega) (.int .i64 0)
      have o6 := ((q6.other (show w.heap.size + 1 + 1 + 1 + 1 + 1 + 1 ≠ w.heap.size + 1 + 1 + 1 + 1 + 1 by omega) (.slice ad pre.length cap)).set (.bool true)).other (show w.heap.size + 1 + 1 + 1 + 1 + 1 + 1 ≠ w.heap.size + 1 + 1 + 1 + 1 + 1 + 1 + 1 by omega) (.int .i64 0)
      have o7 := ((q7.other (show w.heap.size + 1 + 1 + 1 + 1 + 1 + 1 + 1 ≠ w.heap.size + 1 + 1 + 1 + 1 + 1 by omega) (.slice ad pre.length cap)).other (show w.heap.size + 1 + 1 + 1 + 1 + 1 + 1 + 1 ≠ w.heap.size + 1 + 1 + 1 + 1 + 1 + 1 by omega) (.bool true)).set (.int .i64 0)
      have g1 : ∀ k u (W' : World), k < Bx → W'.ownsRow Bx 2 1 (.slice ad pre.length cap) pre.length (pre.map (Value.int .i64)) → (W'.setCell ⟨k, 0, none⟩ u).ownsRow Bx 2 1 (.slice ad pre.length cap) pre.length (pre.map (Value.int .i64)) := fun k u W' hk h => by
        refine h.kept (grownBy_setCell' W' k u) ?_
        rcases h.2 with ⟨e1, _⟩ | ⟨g, cap', cur, e1, hg, _⟩
        · left; rw [e1]; rfl
        · right; rw [e1]; simp [Value.ownBlock]; omega
      have g2 := g1 (w.heap.size + 1 + 1 + 1 + 1 + 1 + 1 + 1) (.int .i64 0) _ (by omega) (g1 (w.heap.size + 1 + 1 + 1 + 1 + 1 + 1) (.bool true) _ (by omega) (g1 (w.heap.size + 1 + 1 + 1 + 1 + 1) (.slice ad pre.length cap) W (by omega) hrow))
      have g3 := ((((Below.refl w.heap.size W).setCell (p := ⟨w.heap.size + 1 + 1 + 1 + 1 + 1, 0, none⟩) (by dsimp only; omega) (.slice ad pre.length cap)).setCell (p := ⟨w.heap.size + 1 + 1 + 1 + 1 + 1 + 1, 0, none⟩) (by dsimp only; omega) (.bool true)).setCell (p := ⟨w.heap.size + 1 + 1 + 1 + 1 + 1 + 1 + 1, 0, none⟩) (by dsimp only; omega) (.int .i64 0))
      gi_wp2
      refine ⟨(((KeepsOthers.setCell _ _ _).trans (KeepsOthers.setCell _ _ _)).trans (KeepsOthers.setCell _ _ _)).from _, rfl, ⟨_, o5, ?_, ?_⟩, ⟨o6, o7⟩, (hB8.trans (hbW.mono (by omega))).trans g3⟩
      · have e : most.toNat = pre.length := by omega
        rw [e, List.take_left]
        exact g2
      · rw [List.length_append, List.length_singleton]; omega
    · have hml : pre.length + 1 ≤ maxLen := by simp only [maxLen]; omega
      have hmb : (pre.length + 1) * 8 ≤ 140737488355328 := by omega
      gi_wp2_with (gi_at_builtin; refine wpListIn_append_at _ rfl _ _ 39 rfl Bx 2 i0 (.int .i64 0) 1 8 Tryz.underlying39 hi iz0 iz1 iz2 rfl (by decide) _ _ _ rfl (hrow.alloc _) ⟨W.heap.size, 0, none⟩ 1 1 [.int .i64 x] rfl rfl (cell_one_new _ _ _) (by simp [Value.oneCell']) (by omega) (by omega) (by simp; omega) ?_; intro v' w1 hown' hgrow hfr; obtain ⟨g', cap', rfl⟩ := ownsRow_succ hown'; obtain ⟨hv1, hv2, hr2, hk2, hb2⟩ := hv.appended (by decide) hrow (by omega) (Nat.le_refl _) hown' hgrow; have hc1 := hv1.cell; have hf1 := hv1.frozen)
      refine ⟨hk2.from _, kpB_append hv hv2 hgrow hown' hfr, ⟨_, hv2, by simpa using hr2, ?_⟩, hB.trans hb2⟩
      rw [List.length_append, List.length_singleton]; omega
  case done =>
    rintro D ys W hD rfl ⟨⟨v, hv, hrow, hpl⟩, hB⟩ hK
    have hbW : Below (w.heap.size + 8) W8 W := hb5.trans (hB.mono (by omega))
    obtain ⟨_, _, _, _, _, _, _, _, c4, q5, q6, q7⟩ := fx _ hbW
    have hform : ∃ ad cap, v = .slice ad ys.length cap := by
      rcases hrow.2 with ⟨e1, e2⟩ | ⟨g, cap, _, e1, _⟩
      · exact ⟨none, 0, by rw [e1, e2]⟩
      · exact ⟨_, cap, e1⟩
    obtain ⟨ad, cap, rfl⟩ := hform
    have hc := hv.cell
    have f5 := q5.frozen; have f6 := q6.frozen; have f7 := q7.frozen
    have d5 := q5.cell; have d6 := q6.cell; have d7 := q7.cell
    have o5 := ((q5.set (.slice ad ys.length cap)).other (show w.heap.size + 1 + 1 + 1 + 1 + 1 ≠ w.heap.size + 1 + 1 + 1 + 1 + 1 + 1 by omega) (.bool false)).other (show w.heap.size + 1 + 1 + 1 + 1 + 1 ≠ w.heap.size + 1 + 1 + 1 + 1 + 1 + 1 + 1 by omega) (.int .i64 0)
    have o6 := ((q6.other (show w.heap.size + 1 + 1 + 1 + 1 + 1 + 1 ≠ w.heap.size + 1 + 1 + 1 + 1 + 1 by omega) (.slice ad ys.length cap)).set (.bool false)).other (show w.heap.size + 1 + 1 + 1 + 1 + 1 + 1 ≠ w.heap.size + 1 + 1 + 1 + 1 + 1 + 1 + 1 by omega) (.int .i64 0)
    have o7 := ((q7.other (show w.heap.size + 1 + 1 + 1 + 1 + 1 + 1 + 1 ≠ w.heap.size + 1 + 1 + 1 + 1 + 1 by omega) (.slice ad ys.length cap)).other (show w.heap.size + 1 + 1 + 1 + 1 + 1 + 1 + 1 ≠ w.heap.size + 1 + 1 + 1 + 1 + 1 + 1 by omega) (.bool false)).set (.int .i64 0)
    have g1 : ∀ k u (W' : World), k < Bx → W'.ownsRow Bx 2 1 (.slice ad ys.length cap) ys.length (ys.map (Value.int .i64)) → (W'.setCell ⟨k, 0, none⟩ u).ownsRow Bx 2 1 (.slice ad ys.length cap) ys.length (ys.map (Value.int .i64)) := fun k u W' hk h => by
      refine h.kept (grownBy_setCell' W' k u) ?_
      rcases h.2 with ⟨e1, _⟩ | ⟨g, cap', cur, e1, hg, _⟩
      · left; rw [e1]; rfl
      · right; rw [e1]; simp [Value.ownBlock]; omega
    have g2 := g1 (w.heap.size + 1 + 1 + 1 + 1 + 1 + 1 + 1) (.int .i64 0) _ (by omega) (g1 (w.heap.size + 1 + 1 + 1 + 1 + 1 + 1) (.bool false) _ (by omega) (g1 (w.heap.size + 1 + 1 + 1 + 1 + 1) (.slice ad ys.length cap) W (by omega) hrow))
    have g3 := ((((Below.refl w.heap.size W).setCell (p := ⟨w.heap.size + 1 + 1 + 1 + 1 + 1, 0, none⟩) (by dsimp only; omega) (.slice ad ys.length cap)).setCell (p := ⟨w.heap.size + 1 + 1 + 1 + 1 + 1 + 1, 0, none⟩) (by dsimp only; omega) (.bool false)).setCell (p := ⟨w.heap.size + 1 + 1 + 1 + 1 + 1 + 1 + 1, 0, none⟩) (by dsimp only; omega) (.int .i64 0))
    have hK2 := (((KeepsOthers.setCell W ⟨w.heap.size + 1 + 1 + 1 + 1 + 1, 0, none⟩ (.slice ad ys.length cap)).trans (KeepsOthers.setCell _ ⟨w.heap.size + 1 + 1 + 1 + 1 + 1 + 1, 0, none⟩ (.bool false))).trans (KeepsOthers.setCell _ ⟨w.heap.size + 1 + 1 + 1 + 1 + 1 + 1 + 1, 0, none⟩ (.int .i64 0))).same D _ hK rfl
    gi_wp2
    refine hits_end hK2 rfl rfl rfl o5 o6 o7 (by omega) (by omega) (by omega) ?_
    rw [← eR]
    have eTy : T = ys := by rw [eT]; exact List.take_of_length_le hpl
    refine ⟨.slice ad ys.length cap, ?_, ?_, ?_⟩
    · rw [eMo, eEr, decide_eq_false (by omega)]
    · rw [eTy]; exact owns_mono (by omega) (ownsRow_putObj g2 _ hK2 rfl)
    · exact ((hB8.trans (hbW.mono (by omega))).trans g3).trans (belowK_b (w := w) (Nat.le_refl _) _ D _ _ (by omega) hK2 rfl rfl)
  case stop =>
    rintro D c pre W hD hpre ⟨rfl, ⟨v, hv, hrow, hpl⟩, ⟨hv6, hv7⟩, hB⟩ hK
    gi_wp2
    refine hits_end hK rfl rfl rfl hv hv6 hv7 (by omega) (by omega) (by omega) ?_
    rw [← eR]
    have hle := hpre.length_le
    have eTy : T = pre.take most.toNat := by
      obtain ⟨tl, rfl⟩ := hpre
      rw [eT, List.take_append_of_le_length (by omega)]
    have eTl : T.length = most.toNat := by rw [eTy, List.length_take]; omega
    refine ⟨v, ?_, ?_, ?_⟩
    · rw [eMo, eEr, decide_eq_true (by omega)]
    · rw [eTl, eTy]; exact owns_mono (by omega) (ownsRow_putObj hrow _ hK rfl)
    · exact hB.trans (belowK_b (w := w) (Nat.le_refl _) _ D _ _ (by omega) hK rfl rfl)
end Go.Hl

namespace Go.Hl
open Go Go.RowKit Go.Proofs
set_option maxRecDepth 100000
def badH (m w n most : Int) : Prop := m < 1 ∨ w < 0 ∨ m < w ∨ n < 0 ∨ most < 0
instance (m w n most : Int) : Decidable (badH m w n most) := by unfold badH; infer_instance
noncomputable def hT (a b m w n most : Int) : List Int := if badH m w n most then [] else (hl a b m w n.toNat 0).take most.toNat
noncomputable def hM (a b m w n most : Int) : Bool := if badH m w n most then false else decide (most.toNat < (hl a b m w n.toNat 0).length)
def hE (m w n most : Int) : Int := if badH m w n most then 1 else 0
theorem ri_row {w : World} {X : Nat → Prop} {base : Nat} {e : TypeId} {v : Value} {k : IntKind} {T : List Int} (hX : ∀ b, X b → b < base) (h : w.ownsRow base e 1 v T.length (T.map (Value.int k))) : RI w X (.ns k T) v := by
  rcases h.2 with ⟨rfl, h0⟩ | ⟨g, cap, cur, rfl, hb, hg, hlc, _, hsz, ht⟩
  · have : T = [] := List.length_eq_zero_iff.1 h0
    subst this
    exact RI.ns k [] none 0 0 0 (by simp) (by simp) (by simp)
  · refine RI.ns k T (some ⟨g, 0, none⟩) g 0 cap hlc (fun _ => ⟨rfl, fun hx => ?_⟩) (fun i x hx => ?_)
    · have := hX g hx; omega
    · refine cell_at hg ?_
      have hi := (List.getElem?_eq_some_iff.1 hx).1
      have h1 : (cur.toList.take (T.length * 1))[i]? = some (Value.int k x) := by rw [ht, List.getElem?_map, hx]; rfl
      rw [List.getElem?_take_of_lt (by omega)] at h1
      simpa using h1
theorem ri_tup3 {w : World} {X : Nat → Prop} {a b c : AV} {u v y : Value} (h1 : RI w X a u) (h2 : RI w X b v) (h3 : RI w X c y) : RI w X (.tup [a, b, c]) (.tuple #[u, v, y]) := by
  refine RI.tup _ _ (fun j => if j = 0 then u else if j = 1 then v else y) rfl (fun j c' hj => ?_) (fun j c' hj => ?_)
  · rcases j with _ | _ | _ | j
    · rfl
    · rfl
    · rfl
    · cases hj
  · rcases j with _ | _ | _ | j
    · cases hj; exact h1
    · cases hj; exact h2
    · cases hj; exact h3
    · cases hj
theorem RI.num_agg {w : World} {X : Nat → Prop} {b : Bool} {x : List Int} {v : Value} (h : RI w X (.agg [.raw (.bool b), .ns .u64 x]) v) : ∃ s, v = .agg #[.bool b, s] ∧ RI w X (.ns .u64 x) s := by
  cases h with
  | agg _ vs f hl h hr =>
    have h0 := h 0 _ rfl
    have h1 := h 1 _ rfl
    have e := RI.raw_inv (hr 0 _ rfl)
    refine ⟨f 1, ?_, hr 1 _ rfl⟩
    congr 1
    apply Array.ext_getElem?
    intro i
    rcases i with _ | _ | i
    · rw [h0, e]; rfl
    · exact h1
    · have : vs.size = 2 := hl
      rw [Array.getElem?_eq_none (by omega), Array.getElem?_eq_none (by show 2 ≤ _; omega)]
@[push_cast] noncomputable def spHits : Sp := spZZZZII 0 (fun _ x0 _ x1 _ x2 _ x3 n most => (Lm x0 ∧ x0.length < 9000) ∧ (Lm x1 ∧ x1.length < 9000) ∧ (Lm x2 ∧ x2.length < 9000) ∧ (Lm x3 ∧ x3.length < 9000) ∧ -9223372036854775808 ≤ n ∧ n < 9223372036854775808 ∧ most < 100000)
  (fun b0 x0 b1 x1 b2 x2 b3 x3 n most => .tup [.ns .i64 (hT (zv b0 x0) (zv b1 x1) (zv b2 x2) (zv b3 x3) n most), .raw (.bool (hM (zv b0 x0) (zv b1 x1) (zv b2 x2) (zv b3 x3) n most)), .raw (.int .i64 (hE (zv b2 x2) (zv b3 x3) n most))])
theorem hits_ok : SpOK Tryz.prog 17 spHits := by
  refine SpOK.ZZZZII fun b0 x0 b1 x1 b2 x2 b3 x3 n most ⟨h0, h1, h2, h3, hn1, hn2, hmo⟩ => ?_
  intro w X vs hX hl ha
  obtain ⟨u0, e0, r0⟩ := ha 0 _ rfl
  obtain ⟨u1, e1, r1⟩ := ha 1 _ rfl
  obtain ⟨u2, e2, r2⟩ := ha 2 _ rfl
  obtain ⟨u3, e3, r3⟩ := ha 3 _ rfl
  obtain ⟨u4, e4, r4⟩ := ha 4 _ rfl
  obtain ⟨u5, e5, r5⟩ := ha 5 _ rfl
  obtain ⟨s0, rfl, q0⟩ := RI.num_agg r0
  obtain ⟨s1, rfl, q1⟩ := RI.num_agg r1
  obtain ⟨s2, rfl, q2⟩ := RI.num_agg r2
  obtain ⟨s3, rfl, q3⟩ := RI.num_agg r3
  cases RI.raw_inv r4
  cases RI.raw_inv r5
  have hvs : vs = #[.agg #[.bool b0, s0], .agg #[.bool b1, s1], .agg #[.bool b2, s2], .agg #[.bool b3, s3], .int .i64 n, .int .i64 most] := by
    apply Array.ext_getElem?
    intro i
    rcases i with _ | _ | _ | _ | _ | _ | i
    · exact e0
    · exact e1
    · exact e2
    · exact e3
    · exact e4
    · exact e5
    · have : vs.size = 6 := hl
      rw [Array.getElem?_eq_none (by omega), Array.getElem?_eq_none (by simp)]
  subst hvs
  have wk : ∀ {c : AV} {v : Value}, RI w X c v → RI w (fun _ => False) c v := fun r => r.keep (Keep.refl _ _) (fun _ _ h => h.elim)
  refine .inr ⟨run_callFunc_body Tryz.func17 rfl (by decide) _ _, ?_⟩
  refine (callsIn_wide.1 (hits_calls (T := hT (zv b0 x0) (zv b1 x1) (zv b2 x2) (zv b3 x3) n most) (mo := hM (zv b0 x0) (zv b1 x1) (zv b2 x2) (zv b3 x3) n most) (er := hE (zv b2 x2) (zv b3 x3) n most) w (wk q0) (wk q1) (wk q2) (wk q3) h0 h1 h2 h3 hn1 hn2 hmo ?_ ?_)).mono ?_
  · intro hb
    have hb : badH (zv b2 x2) (zv b3 x3) n most := hb
    unfold hT hM hE
    rw [if_pos hb, if_pos hb, if_pos hb]
    exact ⟨rfl, rfl, rfl⟩
  · intro hb
    have hb : ¬ badH (zv b2 x2) (zv b3 x3) n most := hb
    unfold hT hM hE
    rw [if_neg hb, if_neg hb, if_neg hb]
    exact ⟨rfl, rfl, rfl⟩
  · rintro e w' ⟨v, rfl, hr, hb⟩
    exact ⟨_, rfl, ri_tup3 (ri_row hX hr) (RI.raw _) (RI.raw _), hb⟩
end Go.Hl

namespace Go.Hl
open Go Go.RowKit Go.Proofs
set_option maxRecDepth 100000
set_option maxHeartbeats 3200000
theorem acy_of {ops : Array Oper} (h : ((List.range ops.size).all fun i => ((ops[i]?).map fun o => o.after.all fun e => decide (e.on < i)).getD true) = true) : ∀ (i : Nat) (o : Oper), ops[i]? = some o → ∀ e : Edge, e ∈ o.after → e.on < i := by
  intro i o ho e he
  have hi : i < ops.size := (Array.getElem?_eq_some_iff.1 ho).1
  have := List.all_eq_true.1 h i (List.mem_range.2 hi)
  rw [ho] at this
  simp only [Option.map_some, Option.getD_some, Array.all_eq_true_iff_forall_mem] at this
  exact of_decide_eq_true (this e he)
theorem opis {ops : Array Oper} {i : Nat} {dst : Option Nat} {op : Op} {ty : TypeId} {af : List Nat} {o : Oper} (h : ops[i]? = some o) (h1 : o.dst = dst) (h2 : o.op = op) (h3 : o.type = ty) (h4 : o.guard = none) (h5 : (af.all fun j => o.after.any fun e => decide (e.on = j) && Region.binds .any e) = true) : OpIs ops i dst op ty af := by
  refine ⟨o, h, h1, h2, h3, h4, fun j hj => ?_⟩
  have := List.all_eq_true.1 h5 j hj
  obtain ⟨k, hk, hh⟩ := Array.any_eq_true.1 this
  rw [Bool.and_eq_true] at hh
  exact ⟨_, Array.getElem_mem hk, of_decide_eq_true hh.1, hh.2⟩
def XP (bl bm : Nat) (vl vm : Value) (b : Nat) : Prop := b = bl ∨ b = bm ∨ some b = vl.ownBlock ∨ some b = vm.ownBlock
structure PutR (bl bm base n m : Nat) (L K : List Value) (vl vm : Value) (W W' : World) : Prop where
  p : ∃ vl' vm', Boxed W' bl 46 vl' ∧ Boxed W' bm 39 vm' ∧ W'.ownsRow base 24 2 vl' n L ∧ W'.ownsRow base 2 1 vm' m K ∧ (∀ b, XP bl bm vl' vm' b → XP bl bm vl vm b ∨ W.heap.size ≤ b)
  keep : ∀ b, b < W.heap.size → ¬ XP bl bm vl vm b → W'.heap[b]? = W.heap[b]?
  below : Below base W W'
theorem rows_ne {w : World} {base base' : Nat} {e e' : TypeId} {s s' n n' : Nat} {v v' : Value} {xs xs' : List Value} (he : e ≠ e') (h : w.ownsRow base e s v n xs) (h' : w.ownsRow base' e' s' v' n' xs') : v'.ownBlock = none ∨ v.ownBlock ≠ v'.ownBlock := by
  rcases h'.2 with ⟨rfl, _⟩ | ⟨g', cap', cur', rfl, _, hg', _⟩
  · exact .inl rfl
  refine .inr fun hh => ?_
  rcases h.2 with ⟨rfl, _⟩ | ⟨g, cap, cur, rfl, _, hg, _⟩
  · cases hh
  · have : g = g' := by simpa [Value.ownBlock] using hh
    subst this
    rw [hg] at hg'
    cases hg'
    exact he rfl
theorem ri_vp1 {w : World} {X : Nat → Prop} {b o : Nat} {c : AV} {v : Value} (h : w.cell? ⟨b, o, none⟩ = some v) (hx : ¬ X b) (r : RI w X c v) : RI w X (.vp [c]) (.pointer (some ⟨b, o, none⟩)) := by
  refine RI.vp _ b o (fun _ => v) (fun _ => hx) (fun j c' hj => ?_) (fun j c' hj => ?_)
  · rcases j with _ | j
    · exact h
    · cases hj
  · rcases j with _ | j
    · cases hj; exact r
    · cases hj
theorem ri_vp2 {w : World} {X : Nat → Prop} {b o : Nat} {c d : AV} {u v : Value} (h : w.cell? ⟨b, o, none⟩ = some u) (h' : w.cell? ⟨b, o + 1, none⟩ = some v) (hx : ¬ X b) (r : RI w X c u) (r' : RI w X d v) : RI w X (.vp [c, d]) (.pointer (some ⟨b, o, none⟩)) := by
  refine RI.vp _ b o (fun j => if j = 0 then u else v) (fun _ => hx) (fun j c' hj => ?_) (fun j c' hj => ?_)
  · rcases j with _ | _ | j
    · exact h
    · exact h'
    · cases hj
  · rcases j with _ | _ | j
    · cases hj; exact r
    · cases hj; exact r'
    · cases hj
theorem ri_rows {w : World} {X : Nat → Prop} {base : Nat} {e : TypeId} {n s : Nat} {v : Value} {xs : List Value} {cs : List AV} (hX : ∀ b, X b → b < base) (h : w.ownsRow base e s v n xs) (hn : 0 < n) (hl : cs.length = n * s) (hr : ∀ (j : Nat) (c : AV), cs[j]? = some c → ∃ u, xs[j]? = some u ∧ RI w X c u) : RI w X (.sl s n cs) v := by
  rcases h.2 with ⟨_, h0⟩ | ⟨g, cap, cur, rfl, hb, hg, hlc, _, hsz, ht⟩
  · omega
  · refine RI.sl s n cs (some ⟨g, 0, none⟩) g 0 cap (fun j => xs.getD j undef) hlc hl (fun _ => ⟨rfl, fun hx => ?_⟩) (fun j c hj => ?_) (fun j c hj => ?_)
    · have := hX g hx; omega
    · obtain ⟨u, hu, _⟩ := hr j c hj
      refine cell_at hg ?_
      rw [List.getD_eq_getElem?_getD, hu]
      rw [← ht] at hu
      have hi := (List.getElem?_eq_some_iff.1 hj).1
      rw [List.getElem?_take_of_lt (by omega)] at hu
      simpa using hu
    · obtain ⟨u, hu, r⟩ := hr j c hj
      rw [List.getD_eq_getElem?_getD, hu]
      exact r
set_option linter.unusedVariables false in
theorem put_0 {bl bm base : Nat} {b : Bool} {x : List Int} {s vl vm : Value} {k : Int} (W : World) (hl : Boxed W bl 46 vl) (hm : Boxed W bm 39 vm) (hlm : bl ≠ bm) (hbl : base ≤ bl) (hbm : base ≤ bm) (hk : 0 < k) (hk2 : k < 9223372036854775808)
    (hx : Lm x) (r : RI W (fun _ => False) (.ns .u64 x) s)
    (hvl : vl = .slice none 0 0)
    (rowL : W.ownsRow base 24 2 vl 0 []) (rowM : W.ownsRow base 2 1 vm 0 []) :
    Calls Tryz.prog 48 #[.agg #[.bool b, s], .int .i64 k, .pointer (some ⟨bl, 0, none⟩), .pointer (some ⟨bm, 0, none⟩)] W fun e W' => (∃ v, e = .returned v) ∧ PutR bl bm base (0 + 1) (0 + 1) ([] ++ [.bool b, s]) ([] ++ [.int .i64 k]) vl vm W W' := by
  have hE := env (SOK.cons zcmp_ok (SOK.nil (P := Tryz.prog)))
  refine calls_of_wp Tryz.func48 rfl ?_
  rw [Tryz.ntmps48]
  obtain ⟨a0, ea0⟩ : ∃ a0 : Act, { tmps := #[.agg #[.bool b, s], .int .i64 k, .pointer (some ⟨bl, 0, none⟩), .pointer (some ⟨bm, 0, none⟩)] ++ Array.replicate (43 - #[Value.agg #[.bool b, s], .int .i64 k, .pointer (some ⟨bl, 0, none⟩), .pointer (some ⟨bm, 0, none⟩)].size) undef, defers := [] } = a0 := ⟨_, rfl⟩
  rw [ea0]
  have sg : ∀ j v, #[Value.agg #[.bool b, s], .int .i64 k, .pointer (some ⟨bl, 0, none⟩), .pointer (some ⟨bm, 0, none⟩)][j]? = some v → a0.tmps.getD j undef = v := fun j v hv => by
    rw [← ea0]
    exact start_get hv
  have g0 := sg 0 (.agg #[.bool b, s]) rfl
  have g1 := sg 1 (.int .i64 k) rfl
  have g2 := sg 2 (.pointer (some ⟨bl, 0, none⟩)) rfl
  have g3 := sg 3 (.pointer (some ⟨bm, 0, none⟩)) rfl
  have hs0 : a0.tmps.size = 43 := by rw [← ea0]; simp
  have hd0 : a0.defers = [] := by rw [← ea0]
  clear sg ea0
  refine wp_seq (wp_region_list ?_)
  have hbox : (execOp a0.eval { dst := some 4, op := Op.box 24 (Operand.tmp 0), type := 0, pos := "lefevre.go:205", after := #[], guard := none }).run Tryz.prog W = .ok (.value (.pointer (some ⟨W.heap.size, 0, none⟩))) (W.alloc (.cells #[.bool b, s] 24)) := by
    have e0 : a0.eval (.tmp 0) = .agg #[.bool b, s] := g0
    have a43 := Tryz.isAgg24; have z43 := Tryz.sizeOf24
    unfold execOp
    simp only [e0]
    simp [go_sem, a43, z43]
  refine wpList_value rfl hbox (wpList_nil ?_)
  clear hbox
  obtain ⟨W1, eW1⟩ : ∃ W1, W.alloc (.cells #[.bool b, s] 24) = W1 := ⟨_, rfl⟩
  obtain ⟨a1, ea1⟩ : ∃ a1, a0.put (some 4) (.pointer (some ⟨W.heap.size, 0, none⟩)) = a1 := ⟨_, rfl⟩
  show Code.wp _ _ _ (a0.put (some 4) (.pointer (some ⟨W.heap.size, 0, none⟩))) _
  rw [eW1, ea1]
  have hbW : Below W.heap.size W W1 := by rw [← eW1]; exact (Below.refl _ W).alloc (Nat.le_refl _) _
  have hsW : W1.heap.size = W.heap.size + 1 := by rw [← eW1, World.size_alloc]
  have hb4 : W1.heap[W.heap.size]? = some (.cells #[.bool b, s] 24) := by rw [← eW1]; exact World.alloc_heap_new W _
  have hll := hl.lt
  have hml := hm.lt
  have hl1 : Boxed W1 bl 46 vl := (hbW.block _ hll).trans hl
  have hm1 : Boxed W1 bm 39 vm := (hbW.block _ hml).trans hm
  have rowL1 : W1.ownsRow base 24 2 vl 0 [] := by rw [← eW1]; exact rowL.alloc _
  have rowM1 : W1.ownsRow base 2 1 vm 0 [] := by rw [← eW1]; exact rowM.alloc _
  have q1 : a1.tmps.getD 1 undef = .int .i64 k := by rw [← ea1, put_keep (by decide)]; exact g1
  have q2 : a1.tmps.getD 2 undef = .pointer (some ⟨bl, 0, none⟩) := by rw [← ea1, put_keep (by decide)]; exact g2
  have q3 : a1.tmps.getD 3 undef = .pointer (some ⟨bm, 0, none⟩) := by rw [← ea1, put_keep (by decide)]; exact g3
  have q4 : a1.tmps.getD 4 undef = .pointer (some ⟨W.heap.size, 0, none⟩) := by rw [← ea1]; simp [Act.put, Array.getD, hs0]
  have hs1 : a1.tmps.size = 43 := by rw [← ea1]; simp [Act.put, hs0]
  have hd1 : a1.defers = [] := by rw [← ea1]; exact hd0
  clear ea1 g0 g1 g2 g3 hs0 hd0 eW1
  have rk : ∀ {c : AV} {v : Value}, RI W (fun _ => False) c v → RI W1 (fun _ => False) c v := fun r => r.keep (keepOf _ hbW) (fun _ _ h => h)
  have gd : Good (fun _ => False) a1 W1 [(1, .raw (.int .i64 k)), (2, .vp [.nul]), (4, .vp [.raw (.bool b), .ns .u64 x])] := by
    refine ⟨⟨rfl, ?_⟩, ⟨rfl, ?_⟩, ⟨rfl, ?_⟩, trivial⟩
    · rw [q1]; exact RI.raw _
    · rw [q2]
      refine ri_vp1 hl1.cell (fun h => h) ?_
      rw [hvl]; exact RI.nul _
    · rw [q4]
      exact ri_vp2 (cell_at hb4 rfl) (cell_at hb4 rfl) (fun h => h) (RI.raw _) (rk r)
  have hC := gd.conc (n := 43) hs1 hd1 (fun _ h => h.elim)
  refine wp_seq (wp_mono (regionD_keep (Q := fun e σ => e = .normal ∧ σ.get 23 = .raw (.bool false)) [1, 2, 3, 4] hE rfl hC (by kernel_rfl) (by kernel_rfl) rfl rfl ?_) ?_)
  · clear rowL rowM rowL1 rowM1 hl hm hl1 hm1 rk gd hC
    refine wk hE hk ?_
    exact ⟨rfl, rfl⟩
  intro e a2 W2 hK
  have he : e = .normal := by
    cases e with
    | normal => rfl
    | _ => obtain ⟨_, _, h, _⟩ := hK; exact h.1
  subst he
  obtain ⟨⟨σ2, β2, ⟨_, h23⟩, hC2⟩, hkeep⟩ := hK
  have f23 := hC2.rel 23
  rw [h23] at f23
  have f23 := RI.raw_inv f23
  have hbW2 := hC2.chg.belowW
  have hs2 : a2.tmps.size = 43 := hC2.sz
  have hd2 := hC2.dfr
  have p1 : a2.tmps.getD 1 undef = .int .i64 k := (hkeep 1 (by simp)).trans q1
  have p2 : a2.tmps.getD 2 undef = .pointer (some ⟨bl, 0, none⟩) := (hkeep 2 (by simp)).trans q2
  have p3 : a2.tmps.getD 3 undef = .pointer (some ⟨bm, 0, none⟩) := (hkeep 3 (by simp)).trans q3
  have p4 : a2.tmps.getD 4 undef = .pointer (some ⟨W.heap.size, 0, none⟩) := (hkeep 4 (by simp)).trans q4
  have hl2 : Boxed W2 bl 46 vl := (hbW2.block _ hl1.lt).trans hl1
  have hm2 : Boxed W2 bm 39 vm := (hbW2.block _ hm1.lt).trans hm1
  have hb42 : W2.heap[W.heap.size]? = some (.cells #[.bool b, s] 24) := (hbW2.block _ (by show W.heap.size < W1.heap.size; omega)).trans hb4
  have rowL2 : W2.ownsRow base 24 2 vl 0 [] := rowL1.kept (row := none) (below_grown hbW2) (by cases vl.ownBlock with | none => exact .inl rfl | some g => exact .inr (by simp))
  have rowM2 : W2.ownsRow base 2 1 vm 0 [] := rowM1.kept (row := none) (below_grown hbW2) (by cases vm.ownBlock with | none => exact .inl rfl | some g => exact .inr (by simp))
  clear hkeep hC2 h23 hC gd q1 q2 q3 q4 hs1 hd1
  refine wp_cond_false f23 ?_
  refine wp_seq (wp_region_list ?_)
  refine wpList_value (x := .int .i64 k) (w' := W2) rfl ?_ ?_
  · rw [← p1]; rfl
  refine wpList_value (x := .bool true) (w' := W2) rfl ?_ ?_
  · have e33 : (a2.put (some 33) (.int .i64 k)).eval (.tmp 33) = .int .i64 k := by
      show (a2.put (some 33) (.int .i64 k)).tmps.getD 33 undef = _
      simp [Act.put, Array.getD, hs2]
    unfold execOp
    simp only [e33]
    simp [go_sem, hk]
  refine wpList_nil (wp_cond_true ?_ ?_)
  · show ((a2.put (some 33) (.int .i64 k)).put (some 34) (.bool true)).tmps.getD 34 undef = _
    simp [Act.put, Array.getD, hs2]
  obtain ⟨a4, ea4⟩ : ∃ a4, (a2.put (some 33) (.int .i64 k)).put (some 34) (.bool true) = a4 := ⟨_, rfl⟩
  show Code.wp _ _ _ ((a2.put (some 33) (.int .i64 k)).put (some 34) (.bool true)) _
  rw [ea4]
  have z1 : a4.tmps.getD 1 undef = .int .i64 k := by rw [← ea4, put_keep (by decide), put_keep (by decide)]; exact p1
  have z2 : a4.tmps.getD 2 undef = .pointer (some ⟨bl, 0, none⟩) := by rw [← ea4, put_keep (by decide), put_keep (by decide)]; exact p2
  have z3 : a4.tmps.getD 3 undef = .pointer (some ⟨bm, 0, none⟩) := by rw [← ea4, put_keep (by decide), put_keep (by decide)]; exact p3
  have z4 : a4.tmps.getD 4 undef = .pointer (some ⟨W.heap.size, 0, none⟩) := by rw [← ea4, put_keep (by decide), put_keep (by decide)]; exact p4
  have hs4 : a4.tmps.size = 43 := by rw [← ea4]; simp [Act.put, hs2]
  have hd4 : a4.defers = [] := by rw [← ea4]; exact hd2
  clear ea4 p1 p2 p3 p4 f23
  have neL : vl.ownBlock = none ∨ vl.ownBlock ≠ vm.ownBlock := by
    rcases rows_ne (by decide) rowM2 rowL2 with h | h
    · exact .inl h
    · exact .inr (Ne.symm h)
  have neM : vm.ownBlock = none ∨ vm.ownBlock ≠ vl.ownBlock := by
    rcases rows_ne (by decide) rowL2 rowM2 with h | h
    · exact .inl h
    · exact .inr (Ne.symm h)
  have cs : ∃ ad m c, s = .slice ad m c := by
    cases r with
    | ns _ _ a b o cap _ _ _ => exact ⟨_, _, _, rfl⟩
  have hF : Fx.Ok { bl := bl, bm := bm, bb := W.heap.size, base := base, n := 0, L := [], K := [], vl := vl, vm := vm, b := b, s := s, k := k, W := W2 } :=
    ⟨hl2, hm2, hlm, hbl, hbm, hb42, rowL2, rowM2, neL, neM, fun e => Nat.lt_irrefl _ (rowL.lt W.heap.size e.symm).2, fun e => Nat.lt_irrefl _ (rowM.lt W.heap.size e.symm).2, cs, by show 0 < 1000; decide⟩
  refine wp_r4 hF (ops := _) ⟨rfl, acy_of (by kernel_rfl), opis rfl rfl rfl rfl rfl (by kernel_rfl), opis rfl rfl rfl rfl rfl (by kernel_rfl), opis rfl rfl rfl rfl rfl (by kernel_rfl), opis rfl rfl rfl rfl rfl (by kernel_rfl), opis rfl rfl rfl rfl rfl (by kernel_rfl), opis rfl rfl rfl rfl rfl (by kernel_rfl), opis rfl rfl rfl rfl rfl (by kernel_rfl), opis rfl rfl rfl rfl rfl (by kernel_rfl), opis rfl rfl rfl rfl rfl (by kernel_rfl), opis rfl rfl rfl rfl rfl (by kernel_rfl)⟩ hs4 hd4 z1 z2 z3 z4 (fun a' w' hd' H => ?_)
  obtain ⟨gl, cl, gm, cm, h1, h2, h3, h4, h5, h6⟩ := H.p
  refine ⟨hd', .tuple #[], by simp [results, Tryz.results48, go_sem], ⟨_, rfl⟩, ⟨⟨_, _, h1, h2, h3, h4, fun x hx => ?_⟩, fun x hx hX => ?_, ?_⟩⟩
  · have hz2 := hbW2.size
    rcases hx with rfl | rfl | hx | hx
    · exact .inl (.inl rfl)
    · exact .inl (.inr (.inl rfl))
    · cases hx
      rcases h5 with h | h
      · exact .inl (.inr (.inr (.inl h.symm)))
      · exact .inr (by show W.heap.size ≤ gl; have : W2.heap.size ≤ gl := h; omega)
    · cases hx
      rcases h6 with h | h
      · exact .inl (.inr (.inr (.inr h.symm)))
      · exact .inr (by show W.heap.size ≤ gm; have : W2.heap.size ≤ gm := h; omega)
  · have hz2 := hbW2.size
    refine (H.keep x (by show x < W2.heap.size; omega) (fun e => hX (.inl e)) (fun e => hX (.inr (.inl e))) (fun e => hX (.inr (.inr (.inl e)))) (fun e => hX (.inr (.inr (.inr e))))).trans ?_
    exact (hbW2.block x (by omega)).trans (hbW.block x hx)
  · have := hl.lt
    exact ((hbW.mono (by omega)).trans (hbW2.mono (by omega))).trans H.bw
set_option linter.unusedVariables false in
theorem put_1 {bl bm base : Nat} {b : Bool} {x : List Int} {s vl vm : Value} {k : Int} (W : World) (hl : Boxed W bl 46 vl) (hm : Boxed W bm 39 vm) (hlm : bl ≠ bm) (hbl : base ≤ bl) (hbm : base ≤ bm) (hk : 0 < k) (hk2 : k < 9223372036854775808)
    (hx : Lm x) (r : RI W (fun _ => False) (.ns .u64 x) s)
    {b1 : Bool} {x1 : List Int} {s1 : Value} {k1 : Int} (hx1 : Lm x1) (r1 : RI W (fun _ => False) (.ns .u64 x1) s1) (hc : cmpZ (zv b1 x1) (zv b x) = -1)
    (rowL : W.ownsRow base 24 2 vl 1 [.bool b1, s1]) (rowM : W.ownsRow base 2 1 vm 1 [.int .i64 k1]) :
    Calls Tryz.prog 48 #[.agg #[.bool b, s], .int .i64 k, .pointer (some ⟨bl, 0, none⟩), .pointer (some ⟨bm, 0, none⟩)] W fun e W' => (∃ v, e = .returned v) ∧ PutR bl bm base (1 + 1) (1 + 1) ([.bool b1, s1] ++ [.bool b, s]) ([.int .i64 k1] ++ [.int .i64 k]) vl vm W W' := by
  have hE := env (SOK.cons zcmp_ok (SOK.nil (P := Tryz.prog)))
  refine calls_of_wp Tryz.func48 rfl ?_
  rw [Tryz.ntmps48]
  obtain ⟨a0, ea0⟩ : ∃ a0 : Act, { tmps := #[.agg #[.bool b, s], .int .i64 k, .pointer (some ⟨bl, 0, none⟩), .pointer (some ⟨bm, 0, none⟩)] ++ Array.replicate (43 - #[Value.agg #[.bool b, s], .int .i64 k, .pointer (some ⟨bl, 0, none⟩), .pointer (some ⟨bm, 0, none⟩)].size) undef, defers := [] } = a0 := ⟨_, rfl⟩
  rw [ea0]
  have sg : ∀ j v, #[Value.agg #[.bool b, s], .int .i64 k, .pointer (some ⟨bl, 0, none⟩), .pointer (some ⟨bm, 0, none⟩)][j]? = some v → a0.tmps.getD j undef = v := fun j v hv => by
    rw [← ea0]
    exact start_get hv
  have g0 := sg 0 (.agg #[.bool b, s]) rfl
  have g1 := sg 1 (.int .i64 k) rfl
  have g2 := sg 2 (.pointer (some ⟨bl, 0, none⟩)) rfl
  have g3 := sg 3 (.pointer (some ⟨bm, 0, none⟩)) rfl
  have hs0 : a0.tmps.size = 43 := by rw [← ea0]; simp
  have hd0 : a0.defers = [] := by rw [← ea0]
  clear sg ea0
  refine wp_seq (wp_region_list ?_)
  have hbox : (execOp a0.eval { dst := some 4, op := Op.box 24 (Operand.tmp 0), type := 0, pos := "lefevre.go:205", after := #[], guard := none }).run Tryz.prog W = .ok (.value (.pointer (some ⟨W.heap.size, 0, none⟩))) (W.alloc (.cells #[.bool b, s] 24)) := by
    have e0 : a0.eval (.tmp 0) = .agg #[.bool b, s] := g0
    have a43 := Tryz.isAgg24; have z43 := Tryz.sizeOf24
    unfold execOp
    simp only [e0]
    simp [go_sem, a43, z43]
  refine wpList_value rfl hbox (wpList_nil ?_)
  clear hbox
  obtain ⟨W1, eW1⟩ : ∃ W1, W.alloc (.cells #[.bool b, s] 24) = W1 := ⟨_, rfl⟩
  obtain ⟨a1, ea1⟩ : ∃ a1, a0.put (some 4) (.pointer (some ⟨W.heap.size, 0, none⟩)) = a1 := ⟨_, rfl⟩
  show Code.wp _ _ _ (a0.put (some 4) (.pointer (some ⟨W.heap.size, 0, none⟩))) _
  rw [eW1, ea1]
  have hbW : Below W.heap.size W W1 := by rw [← eW1]; exact (Below.refl _ W).alloc (Nat.le_refl _) _
  have hsW : W1.heap.size = W.heap.size + 1 := by rw [← eW1, World.size_alloc]
  have hb4 : W1.heap[W.heap.size]? = some (.cells #[.bool b, s] 24) := by rw [← eW1]; exact World.alloc_heap_new W _
  have hll := hl.lt
  have hml := hm.lt
  have hl1 : Boxed W1 bl 46 vl := (hbW.block _ hll).trans hl
  have hm1 : Boxed W1 bm 39 vm := (hbW.block _ hml).trans hm
  have rowL1 : W1.ownsRow base 24 2 vl 1 [.bool b1, s1] := by rw [← eW1]; exact rowL.alloc _
  have rowM1 : W1.ownsRow base 2 1 vm 1 [.int .i64 k1] := by rw [← eW1]; exact rowM.alloc _
  have q1 : a1.tmps.getD 1 undef = .int .i64 k := by rw [← ea1, put_keep (by decide)]; exact g1
  have q2 : a1.tmps.getD 2 undef = .pointer (some ⟨bl, 0, none⟩) := by rw [← ea1, put_keep (by decide)]; exact g2
  have q3 : a1.tmps.getD 3 undef = .pointer (some ⟨bm, 0, none⟩) := by rw [← ea1, put_keep (by decide)]; exact g3
  have q4 : a1.tmps.getD 4 undef = .pointer (some ⟨W.heap.size, 0, none⟩) := by rw [← ea1]; simp [Act.put, Array.getD, hs0]
  have hs1 : a1.tmps.size = 43 := by rw [← ea1]; simp [Act.put, hs0]
  have hd1 : a1.defers = [] := by rw [← ea1]; exact hd0
  clear ea1 g0 g1 g2 g3 hs0 hd0 eW1
  have rk : ∀ {c : AV} {v : Value}, RI W (fun _ => False) c v → RI W1 (fun _ => False) c v := fun r => r.keep (keepOf _ hbW) (fun _ _ h => h)
  have gd : Good (fun _ => False) a1 W1 [(1, .raw (.int .i64 k)), (2, .vp [.sl 2 1 [.raw (.bool b1), .ns .u64 x1]]), (4, .vp [.raw (.bool b), .ns .u64 x])] := by
    refine ⟨⟨rfl, ?_⟩, ⟨rfl, ?_⟩, ⟨rfl, ?_⟩, trivial⟩
    · rw [q1]; exact RI.raw _
    · rw [q2]
      refine ri_vp1 hl1.cell (fun h => h) ?_
      refine ri_rows (fun _ h => h.elim) rowL1 (by decide) (by simp) (fun j c hj => ?_)
      rcases j with _ | _ | j
      · cases hj; exact ⟨_, rfl, RI.raw _⟩
      · cases hj; exact ⟨_, rfl, rk r1⟩
      · cases hj
    · rw [q4]
      exact ri_vp2 (cell_at hb4 rfl) (cell_at hb4 rfl) (fun h => h) (RI.raw _) (rk r)
  have hC := gd.conc (n := 43) hs1 hd1 (fun _ h => h.elim)
  refine wp_seq (wp_mono (regionD_keep (Q := fun e σ => e = .normal ∧ σ.get 23 = .raw (.bool false)) [1, 2, 3, 4] hE rfl hC (by kernel_rfl) (by kernel_rfl) rfl rfl ?_) ?_)
  · clear rowL rowM rowL1 rowM1 hl hm hl1 hm1 rk gd hC
    refine wk hE (And.intro hk hc) ?_
    exact ⟨rfl, rfl⟩
  intro e a2 W2 hK
  have he : e = .normal := by
    cases e with
    | normal => rfl
    | _ => obtain ⟨_, _, h, _⟩ := hK; exact h.1
  subst he
  obtain ⟨⟨σ2, β2, ⟨_, h23⟩, hC2⟩, hkeep⟩ := hK
  have f23 := hC2.rel 23
  rw [h23] at f23
  have f23 := RI.raw_inv f23
  have hbW2 := hC2.chg.belowW
  have hs2 : a2.tmps.size = 43 := hC2.sz
  have hd2 := hC2.dfr
  have p1 : a2.tmps.getD 1 undef = .int .i64 k := (hkeep 1 (by simp)).trans q1
  have p2 : a2.tmps.getD 2 undef = .pointer (some ⟨bl, 0, none⟩) := (hkeep 2 (by simp)).trans q2
  have p3 : a2.tmps.getD 3 undef = .pointer (some ⟨bm, 0, none⟩) := (hkeep 3 (by simp)).trans q3
  have p4 : a2.tmps.getD 4 undef = .pointer (some ⟨W.heap.size, 0, none⟩) := (hkeep 4 (by simp)).trans q4
  have hl2 : Boxed W2 bl 46 vl := (hbW2.block _ hl1.lt).trans hl1
  have hm2 : Boxed W2 bm 39 vm := (hbW2.block _ hm1.lt).trans hm1
  have hb42 : W2.heap[W.heap.size]? = some (.cells #[.bool b, s] 24) := (hbW2.block _ (by show W.heap.size < W1.heap.size; omega)).trans hb4
  have rowL2 : W2.ownsRow base 24 2 vl 1 [.bool b1, s1] := rowL1.kept (row := none) (below_grown hbW2) (by cases vl.ownBlock with | none => exact .inl rfl | some g => exact .inr (by simp))
  have rowM2 : W2.ownsRow base 2 1 vm 1 [.int .i64 k1] := rowM1.kept (row := none) (below_grown hbW2) (by cases vm.ownBlock with | none => exact .inl rfl | some g => exact .inr (by simp))
  clear hkeep hC2 h23 hC gd q1 q2 q3 q4 hs1 hd1
  refine wp_cond_false f23 ?_
  refine wp_seq (wp_region_list ?_)
  refine wpList_value (x := .int .i64 k) (w' := W2) rfl ?_ ?_
  · rw [← p1]; rfl
  refine wpList_value (x := .bool true) (w' := W2) rfl ?_ ?_
  · have e33 : (a2.put (some 33) (.int .i64 k)).eval (.tmp 33) = .int .i64 k := by
      show (a2.put (some 33) (.int .i64 k)).tmps.getD 33 undef = _
      simp [Act.put, Array.getD, hs2]
    unfold execOp
    simp only [e33]
    simp [go_sem, hk]
  refine wpList_nil (wp_cond_true ?_ ?_)
  · show ((a2.put (some 33) (.int .i64 k)).put (some 34) (.bool true)).tmps.getD 34 undef = _
    simp [Act.put, Array.getD, hs2]
  obtain ⟨a4, ea4⟩ : ∃ a4, (a2.put (some 33) (.int .i64 k)).put (some 34) (.bool true) = a4 := ⟨_, rfl⟩
  show Code.wp _ _ _ ((a2.put (some 33) (.int .i64 k)).put (some 34) (.bool true)) _
  rw [ea4]
  have z1 : a4.tmps.getD 1 undef = .int .i64 k := by rw [← ea4, put_keep (by decide), put_keep (by decide)]; exact p1
  have z2 : a4.tmps.getD 2 undef = .pointer (some ⟨bl, 0, none⟩) := by rw [← ea4, put_keep (by decide), put_keep (by decide)]; exact p2
  have z3 : a4.tmps.getD 3 undef = .pointer (some ⟨bm, 0, none⟩) := by rw [← ea4, put_keep (by decide), put_keep (by decide)]; exact p3
  have z4 : a4.tmps.getD 4 undef = .pointer (some ⟨W.heap.size, 0, none⟩) := by rw [← ea4, put_keep (by decide), put_keep (by decide)]; exact p4
  have hs4 : a4.tmps.size = 43 := by rw [← ea4]; simp [Act.put, hs2]
  have hd4 : a4.defers = [] := by rw [← ea4]; exact hd2
  clear ea4 p1 p2 p3 p4 f23
  have neL : vl.ownBlock = none ∨ vl.ownBlock ≠ vm.ownBlock := by
    rcases rows_ne (by decide) rowM2 rowL2 with h | h
    · exact .inl h
    · exact .inr (Ne.symm h)
  have neM : vm.ownBlock = none ∨ vm.ownBlock ≠ vl.ownBlock := by
    rcases rows_ne (by decide) rowL2 rowM2 with h | h
    · exact .inl h
    · exact .inr (Ne.symm h)
  have cs : ∃ ad m c, s = .slice ad m c := by
    cases r with
    | ns _ _ a b o cap _ _ _ => exact ⟨_, _, _, rfl⟩
  have hF : Fx.Ok { bl := bl, bm := bm, bb := W.heap.size, base := base, n := 1, L := [.bool b1, s1], K := [.int .i64 k1], vl := vl, vm := vm, b := b, s := s, k := k, W := W2 } :=
    ⟨hl2, hm2, hlm, hbl, hbm, hb42, rowL2, rowM2, neL, neM, fun e => Nat.lt_irrefl _ (rowL.lt W.heap.size e.symm).2, fun e => Nat.lt_irrefl _ (rowM.lt W.heap.size e.symm).2, cs, by show 1 < 1000; decide⟩
  refine wp_r4 hF (ops := _) ⟨rfl, acy_of (by kernel_rfl), opis rfl rfl rfl rfl rfl (by kernel_rfl), opis rfl rfl rfl rfl rfl (by kernel_rfl), opis rfl rfl rfl rfl rfl (by kernel_rfl), opis rfl rfl rfl rfl rfl (by kernel_rfl), opis rfl rfl rfl rfl rfl (by kernel_rfl), opis rfl rfl rfl rfl rfl (by kernel_rfl), opis rfl rfl rfl rfl rfl (by kernel_rfl), opis rfl rfl rfl rfl rfl (by kernel_rfl), opis rfl rfl rfl rfl rfl (by kernel_rfl), opis rfl rfl rfl rfl rfl (by kernel_rfl)⟩ hs4 hd4 z1 z2 z3 z4 (fun a' w' hd' H => ?_)
  obtain ⟨gl, cl, gm, cm, h1, h2, h3, h4, h5, h6⟩ := H.p
  refine ⟨hd', .tuple #[], by simp [results, Tryz.results48, go_sem], ⟨_, rfl⟩, ⟨⟨_, _, h1, h2, h3, h4, fun x hx => ?_⟩, fun x hx hX => ?_, ?_⟩⟩
  · have hz2 := hbW2.size
    rcases hx with rfl | rfl | hx | hx
    · exact .inl (.inl rfl)
    · exact .inl (.inr (.inl rfl))
    · cases hx
      rcases h5 with h | h
      · exact .inl (.inr (.inr (.inl h.symm)))
      · exact .inr (by show W.heap.size ≤ gl; have : W2.heap.size ≤ gl := h; omega)
    · cases hx
      rcases h6 with h | h
      · exact .inl (.inr (.inr (.inr h.symm)))
      · exact .inr (by show W.heap.size ≤ gm; have : W2.heap.size ≤ gm := h; omega)
  · have hz2 := hbW2.size
    refine (H.keep x (by show x < W2.heap.size; omega) (fun e => hX (.inl e)) (fun e => hX (.inr (.inl e))) (fun e => hX (.inr (.inr (.inl e)))) (fun e => hX (.inr (.inr (.inr e))))).trans ?_
    exact (hbW2.block x (by omega)).trans (hbW.block x hx)
  · have := hl.lt
    exact ((hbW.mono (by omega)).trans (hbW2.mono (by omega))).trans H.bw
set_option linter.unusedVariables false in
theorem put_2 {bl bm base : Nat} {b : Bool} {x : List Int} {s vl vm : Value} {k : Int} (W : World) (hl : Boxed W bl 46 vl) (hm : Boxed W bm 39 vm) (hlm : bl ≠ bm) (hbl : base ≤ bl) (hbm : base ≤ bm) (hk : 0 < k) (hk2 : k < 9223372036854775808)
    (hx : Lm x) (r : RI W (fun _ => False) (.ns .u64 x) s)
    {b1 b2 : Bool} {x1 x2 : List Int} {s1 s2 : Value} {k1 k2 : Int} (hx1 : Lm x1) (r1 : RI W (fun _ => False) (.ns .u64 x1) s1) (hx2 : Lm x2) (r2 : RI W (fun _ => False) (.ns .u64 x2) s2) (hc : cmpZ (zv b2 x2) (zv b x) = -1)
    (rowL : W.ownsRow base 24 2 vl 2 [.bool b1, s1, .bool b2, s2]) (rowM : W.ownsRow base 2 1 vm 2 [.int .i64 k1, .int .i64 k2]) :
    Calls Tryz.prog 48 #[.agg #[.bool b, s], .int .i64 k, .pointer (some ⟨bl, 0, none⟩), .pointer (some ⟨bm, 0, none⟩)] W fun e W' => (∃ v, e = .returned v) ∧ PutR bl bm base (2 + 1) (2 + 1) ([.bool b1, s1, .bool b2, s2] ++ [.bool b, s]) ([.int .i64 k1, .int .i64 k2] ++ [.int .i64 k]) vl vm W W' := by
  have hE := env (SOK.cons zcmp_ok (SOK.nil (P := Tryz.prog)))
  refine calls_of_wp Tryz.func48 rfl ?_
  rw [Tryz.ntmps48]
  obtain ⟨a0, ea0⟩ : ∃ a0 : Act, { tmps := #[.agg #[.bool b, s], .int .i64 k, .pointer (some ⟨bl, 0, none⟩), .pointer (some ⟨bm, 0, none⟩)] ++ Array.replicate (43 - #[Value.agg #[.bool b, s], .int .i64 k, .pointer (some ⟨bl, 0, none⟩), .pointer (some ⟨bm, 0, none⟩)].size) undef, defers := [] } = a0 := ⟨_, rfl⟩
  rw [ea0]
  have sg : ∀ j v, #[Value.agg #[.bool b, s], .int .i64 k, .pointer (some ⟨bl, 0, none⟩), .pointer (some ⟨bm, 0, none⟩)][j]? = some v → a0.tmps.getD j undef = v := fun j v hv => by
    rw [← ea0]
    exact start_get hv
  have g0 := sg 0 (.agg #[.bool b, s]) rfl
  have g1 := sg 1 (.int .i64 k) rfl
  have g2 := sg 2 (.pointer (some ⟨bl, 0, none⟩)) rfl
  have g3 := sg 3 (.pointer (some ⟨bm, 0, none⟩)) rfl
  have hs0 : a0.tmps.size = 43 := by rw [← ea0]; simp
  have hd0 : a0.defers = [] := by rw [← ea0]
  clear sg ea0
  refine wp_seq (wp_region_list ?_)
  have hbox : (execOp a0.eval { dst := some 4, op := Op.box 24 (Operand.tmp 0), type := 0, pos := "lefevre.go:205", after := #[], guard := none }).run Tryz.prog W = .ok (.value (.pointer (some ⟨W.heap.size, 0, none⟩))) (W.alloc (.cells #[.bool b, s] 24)) := by
    have e0 : a0.eval (.tmp 0) = .agg #[.bool b, s] := g0
    have a43 := Tryz.isAgg24; have z43 := Tryz.sizeOf24
    unfold execOp
    simp only [e0]
    simp [go_sem, a43, z43]
  refine wpList_value rfl hbox (wpList_nil ?_)
  clear hbox
  obtain ⟨W1, eW1⟩ : ∃ W1, W.alloc (.cells #[.bool b, s] 24) = W1 := ⟨_, rfl⟩
  obtain ⟨a1, ea1⟩ : ∃ a1, a0.put (some 4) (.pointer (some ⟨W.heap.size, 0, none⟩)) = a1 := ⟨_, rfl⟩
  show Code.wp _ _ _ (a0.put (some 4) (.pointer (some ⟨W.heap.size, 0, none⟩))) _
  rw [eW1, ea1]
  have hbW : Below W.heap.size W W1 := by rw [← eW1]; exact (Below.refl _ W).alloc (Nat.le_refl _) _
  have hsW : W1.heap.size = W.heap.size + 1 := by rw [← eW1, World.size_alloc]
  have hb4 : W1.heap[W.heap.size]? = some (.cells #[.bool b, s] 24) := by rw [← eW1]; exact World.alloc_heap_new W _
  have hll := hl.lt
  have hml := hm.lt
  have hl1 : Boxed W1 bl 46 vl := (hbW.block _ hll).trans hl
  have hm1 : Boxed W1 bm 39 vm := (hbW.block _ hml).trans hm
  have rowL1 : W1.ownsRow base 24 2 vl 2 [.bool b1, s1, .bool b2, s2] := by rw [← eW1]; exact rowL.alloc _
  have rowM1 : W1.ownsRow base 2 1 vm 2 [.int .i64 k1, .int .i64 k2] := by rw [← eW1]; exact rowM.alloc _
  have q1 : a1.tmps.getD 1 undef = .int .i64 k := by rw [← ea1, put_keep (by decide)]; exact g1
  have q2 : a1.tmps.getD 2 undef = .pointer (some ⟨bl, 0, none⟩) := by rw [← ea1, put_keep (by decide)]; exact g2
  have q3 : a1.tmps.getD 3 undef = .pointer (some ⟨bm, 0, none⟩) := by rw [← ea1, put_keep (by decide)]; exact g3
  have q4 : a1.tmps.getD 4 undef = .pointer (some ⟨W.heap.size, 0, none⟩) := by rw [← ea1]; simp [Act.put, Array.getD, hs0]
  have hs1 : a1.tmps.size = 43 := by rw [← ea1]; simp [Act.put, hs0]
  have hd1 : a1.defers = [] := by rw [← ea1]; exact hd0
  clear ea1 g0 g1 g2 g3 hs0 hd0 eW1
  have rk : ∀ {c : AV} {v : Value}, RI W (fun _ => False) c v → RI W1 (fun _ => False) c v := fun r => r.keep (keepOf _ hbW) (fun _ _ h => h)
  have gd : Good (fun _ => False) a1 W1 [(1, .raw (.int .i64 k)), (2, .vp [.sl 2 2 [.raw (.bool b1), .ns .u64 x1, .raw (.bool b2), .ns .u64 x2]]), (4, .vp [.raw (.bool b), .ns .u64 x])] := by
    refine ⟨⟨rfl, ?_⟩, ⟨rfl, ?_⟩, ⟨rfl, ?_⟩, trivial⟩
    · rw [q1]; exact RI.raw _
    · rw [q2]
      refine ri_vp1 hl1.cell (fun h => h) ?_
      refine ri_rows (fun _ h => h.elim) rowL1 (by decide) (by simp) (fun j c hj => ?_)
      rcases j with _ | _ | _ | _ | j
      · cases hj; exact ⟨_, rfl, RI.raw _⟩
      · cases hj; exact ⟨_, rfl, rk r1⟩
      · cases hj; exact ⟨_, rfl, RI.raw _⟩
      · cases hj; exact ⟨_, rfl, rk r2⟩
      · cases hj
    · rw [q4]
      exact ri_vp2 (cell_at hb4 rfl) (cell_at hb4 rfl) (fun h => h) (RI.raw _) (rk r)
  have hC := gd.conc (n := 43) hs1 hd1 (fun _ h => h.elim)
  refine wp_seq (wp_mono (regionD_keep (Q := fun e σ => e = .normal ∧ σ.get 23 = .raw (.bool false)) [1, 2, 3, 4] hE rfl hC (by kernel_rfl) (by kernel_rfl) rfl rfl ?_) ?_)
  · clear rowL rowM rowL1 rowM1 hl hm hl1 hm1 rk gd hC
    refine wk hE (And.intro hk hc) ?_
    exact ⟨rfl, rfl⟩
  intro e a2 W2 hK
  have he : e = .normal := by
    cases e with
    | normal => rfl
    | _ => obtain ⟨_, _, h, _⟩ := hK; exact h.1
  subst he
  obtain ⟨⟨σ2, β2, ⟨_, h23⟩, hC2⟩, hkeep⟩ := hK
  have f23 := hC2.rel 23
  rw [h23] at f23
  have f23 := RI.raw_inv f23
  have hbW2 := hC2.chg.belowW
  have hs2 : a2.tmps.size = 43 := hC2.sz
  have hd2 := hC2.dfr
  have p1 : a2.tmps.getD 1 undef = .int .i64 k := (hkeep 1 (by simp)).trans q1
  have p2 : a2.tmps.getD 2 undef = .pointer (some ⟨bl, 0, none⟩) := (hkeep 2 (by simp)).trans q2
  have p3 : a2.tmps.getD 3 undef = .pointer (some ⟨bm, 0, none⟩) := (hkeep 3 (by simp)).trans q3
  have p4 : a2.tmps.getD 4 undef = .pointer (some ⟨W.heap.size, 0, none⟩) := (hkeep 4 (by simp)).trans q4
  have hl2 : Boxed W2 bl 46 vl := (hbW2.block _ hl1.lt).trans hl1
  have hm2 : Boxed W2 bm 39 vm := (hbW2.block _ hm1.lt).trans hm1
  have hb42 : W2.heap[W.heap.size]? = some (.cells #[.bool b, s] 24) := (hbW2.block _ (by show W.heap.size < W1.heap.size; omega)).trans hb4
  have rowL2 : W2.ownsRow base 24 2 vl 2 [.bool b1, s1, .bool b2, s2] := rowL1.kept (row := none) (below_grown hbW2) (by cases vl.ownBlock with | none => exact .inl rfl | some g => exact .inr (by simp))
  have rowM2 : W2.ownsRow base 2 1 vm 2 [.int .i64 k1, .int .i64 k2] := rowM1.kept (row := none) (below_grown hbW2) (by cases vm.ownBlock with | none => exact .inl rfl | some g => exact .inr (by simp))
  clear hkeep hC2 h23 hC gd q1 q2 q3 q4 hs1 hd1
  refine wp_cond_false f23 ?_
  refine wp_seq (wp_region_list ?_)
  refine wpList_value (x := .int .i64 k) (w' := W2) rfl ?_ ?_
  · rw [← p1]; rfl
  refine wpList_value (x := .bool true) (w' := W2) rfl ?_ ?_
  · have e33 : (a2.put (some 33) (.int .i64 k)).eval (.tmp 33) = .int .i64 k := by
      show (a2.put (some 33) (.int .i64 k)).tmps.getD 33 undef = _
      simp [Act.put, Array.getD, hs2]
    unfold execOp
    simp only [e33]
    simp [go_sem, hk]
  refine wpList_nil (wp_cond_true ?_ ?_)
  · show ((a2.put (some 33) (.int .i64 k)).put (some 34) (.bool true)).tmps.getD 34 undef = _
    simp [Act.put, Array.getD, hs2]
  obtain ⟨a4, ea4⟩ : ∃ a4, (a2.put (some 33) (.int .i64 k)).put (some 34) (.bool true) = a4 := ⟨_, rfl⟩
  show Code.wp _ _ _ ((a2.put (some 33) (.int .i64 k)).put (some 34) (.bool true)) _
  rw [ea4]
  have z1 : a4.tmps.getD 1 undef = .int .i64 k := by rw [← ea4, put_keep (by decide), put_keep (by decide)]; exact p1
  have z2 : a4.tmps.getD 2 undef = .pointer (some ⟨bl, 0, none⟩) := by rw [← ea4, put_keep (by decide), put_keep (by decide)]; exact p2
  have z3 : a4.tmps.getD 3 undef = .pointer (some ⟨bm, 0, none⟩) := by rw [← ea4, put_keep (by decide), put_keep (by decide)]; exact p3
  have z4 : a4.tmps.getD 4 undef = .pointer (some ⟨W.heap.size, 0, none⟩) := by rw [← ea4, put_keep (by decide), put_keep (by decide)]; exact p4
  have hs4 : a4.tmps.size = 43 := by rw [← ea4]; simp [Act.put, hs2]
  have hd4 : a4.defers = [] := by rw [← ea4]; exact hd2
  clear ea4 p1 p2 p3 p4 f23
  have neL : vl.ownBlock = none ∨ vl.ownBlock ≠ vm.ownBlock := by
    rcases rows_ne (by decide) rowM2 rowL2 with h | h
    · exact .inl h
    · exact .inr (Ne.symm h)
  have neM : vm.ownBlock = none ∨ vm.ownBlock ≠ vl.ownBlock := by
    rcases rows_ne (by decide) rowL2 rowM2 with h | h
    · exact .inl h
    · exact .inr (Ne.symm h)
  have cs : ∃ ad m c, s = .slice ad m c := by
    cases r with
    | ns _ _ a b o cap _ _ _ => exact ⟨_, _, _, rfl⟩
  have hF : Fx.Ok { bl := bl, bm := bm, bb := W.heap.size, base := base, n := 2, L := [.bool b1, s1, .bool b2, s2], K := [.int .i64 k1, .int .i64 k2], vl := vl, vm := vm, b := b, s := s, k := k, W := W2 } :=
    ⟨hl2, hm2, hlm, hbl, hbm, hb42, rowL2, rowM2, neL, neM, fun e => Nat.lt_irrefl _ (rowL.lt W.heap.size e.symm).2, fun e => Nat.lt_irrefl _ (rowM.lt W.heap.size e.symm).2, cs, by show 2 < 1000; decide⟩
  refine wp_r4 hF (ops := _) ⟨rfl, acy_of (by kernel_rfl), opis rfl rfl rfl rfl rfl (by kernel_rfl), opis rfl rfl rfl rfl rfl (by kernel_rfl), opis rfl rfl rfl rfl rfl (by kernel_rfl), opis rfl rfl rfl rfl rfl (by kernel_rfl), opis rfl rfl rfl rfl rfl (by kernel_rfl), opis rfl rfl rfl rfl rfl (by kernel_rfl), opis rfl rfl rfl rfl rfl (by kernel_rfl), opis rfl rfl rfl rfl rfl (by kernel_rfl), opis rfl rfl rfl rfl rfl (by kernel_rfl), opis rfl rfl rfl rfl rfl (by kernel_rfl)⟩ hs4 hd4 z1 z2 z3 z4 (fun a' w' hd' H => ?_)
  obtain ⟨gl, cl, gm, cm, h1, h2, h3, h4, h5, h6⟩ := H.p
  refine ⟨hd', .tuple #[], by simp [results, Tryz.results48, go_sem], ⟨_, rfl⟩, ⟨⟨_, _, h1, h2, h3, h4, fun x hx => ?_⟩, fun x hx hX => ?_, ?_⟩⟩
  · have hz2 := hbW2.size
    rcases hx with rfl | rfl | hx | hx
    · exact .inl (.inl rfl)
    · exact .inl (.inr (.inl rfl))
    · cases hx
      rcases h5 with h | h
      · exact .inl (.inr (.inr (.inl h.symm)))
      · exact .inr (by show W.heap.size ≤ gl; have : W2.heap.size ≤ gl := h; omega)
    · cases hx
      rcases h6 with h | h
      · exact .inl (.inr (.inr (.inr h.symm)))
      · exact .inr (by show W.heap.size ≤ gm; have : W2.heap.size ≤ gm := h; omega)
  · have hz2 := hbW2.size
    refine (H.keep x (by show x < W2.heap.size; omega) (fun e => hX (.inl e)) (fun e => hX (.inr (.inl e))) (fun e => hX (.inr (.inr (.inl e)))) (fun e => hX (.inr (.inr (.inr e))))).trans ?_
    exact (hbW2.block x (by omega)).trans (hbW.block x hx)
  · have := hl.lt
    exact ((hbW.mono (by omega)).trans (hbW2.mono (by omega))).trans H.bw
end Go.Hl

namespace Go.Hl
open Go Go.RowKit Go.Proofs
def tl : Nat → Code → Code
  | n + 1, .seq _ c => tl n c
  | _, c => c
theorem wpList_callv {P : Program} {ops : Array Oper} {o : Oper} {rest : List Oper} {Q : Exit → Act → World → Prop} {a : Act} {w : World} {f : FuncId} {vs : Array Value} (hg : o.guard = none) (hr : (execOp a.eval o).run P w = .ok (.enter f vs) w)
    (h : Calls P f vs w fun e w' => ∃ v, e = .returned v ∧ wpList P ops Q rest (a.put o.dst v) w') : wpList P ops Q (o :: rest) a w := by
  unfold wpList
  have hw : Region.wanted o (yielded ops a.tmps) = true := by simp [Region.wanted, hg]
  rw [hw, if_pos rfl]
  refine .inl ?_
  unfold Oper.wp
  rw [hr]
  refine Calls.mono h fun e w' ⟨v, he, hv⟩ => ?_
  subst he
  exact hv
structure GT (X0 : Nat → Prop) (bl bm base n : Nat) (L K : List Value) (vl vm : Value) (ys : List (AV × Value)) (l : List (Nat × AV)) (a : Act) (w : World) : Prop where
  sz : a.tmps.size = 117
  df : a.defers = []
  hl : Boxed w bl 46 vl
  hm : Boxed w bm 39 vm
  rL : w.ownsRow base 24 2 vl n L
  rM : w.ownsRow base 2 1 vm n K
  xo : ∀ b, X0 b → b < base
  hb : base ≤ bl
  gd : Good (fun b => XP bl bm vl vm b ∨ X0 b) a w l
  yr : ∀ p ∈ ys, RI w (fun b => XP bl bm vl vm b ∨ X0 b) p.1 p.2
theorem GT.xlt {X0 : Nat → Prop} {bl bm base n : Nat} {L K : List Value} {vl vm : Value} {ys : List (AV × Value)} {l : List (Nat × AV)} {a : Act} {w : World} (h : GT X0 bl bm base n L K vl vm ys l a w) : ∀ b, (XP bl bm vl vm b ∨ X0 b) → b < w.heap.size := by
  rintro b ((rfl | rfl | hx | hx) | hx)
  · exact h.hl.lt
  · exact h.hm.lt
  · exact (h.rL.lt _ hx.symm).2
  · exact (h.rM.lt _ hx.symm).2
  · have := h.xo b hx; have := h.hb; have := h.hl.lt; omega
theorem GT.conc {X0 : Nat → Prop} {bl bm base n : Nat} {L K : List Value} {vl vm : Value} {ys : List (AV × Value)} {l : List (Nat × AV)} {a : Act} {w : World} (h : GT X0 bl bm base n L K vl vm ys l a w) :
    Conc ⟨117, w, fun b => XP bl bm vl vm b ∨ X0 b, none⟩ (fun _ => none) (St.get ⟨l, []⟩) (St.blk ⟨l, []⟩) a w := h.gd.conc h.sz h.df h.xlt
theorem kept_none {w w' : World} {base : Nat} {e : TypeId} {s n : Nat} {v : Value} {xs : List Value} (h : w.ownsRow base e s v n xs) (hb : Below w.heap.size w w') : w'.ownsRow base e s v n xs :=
  h.kept (row := none) (below_grown hb) (by cases v.ownBlock with | none => exact .inl rfl | some g => exact .inr (by simp))
theorem GT.seg {X0 : Nat → Prop} {bl bm base n : Nat} {L K : List Value} {vl vm : Value} {ys : List (AV × Value)} {l l' : List (Nat × AV)} {a a' : Act} {w w' : World} (h : GT X0 bl bm base n L K vl vm ys l a w) {σ : St} {β : Nat → Option (Nat × Nat)}
    (hC : Conc ⟨117, w, fun b => XP bl bm vl vm b ∨ X0 b, none⟩ β σ.get σ.blk a' w') (hs : Has σ l') : GT X0 bl bm base n L K vl vm ys l' a' w' ∧ Below w.heap.size w w' := by
  have hb : Below w.heap.size w w' := hC.chg.belowW
  refine ⟨⟨hC.sz, hC.dfr, (hb.block _ h.hl.lt).trans h.hl, (hb.block _ h.hm.lt).trans h.hm, kept_none h.rL hb, kept_none h.rM hb, h.xo, h.hb, hs.good hC (fun _ h => h), fun p hp => (h.yr p hp).keep (keepOf _ hb) (fun _ _ h => h)⟩, hb⟩
theorem GT.call {X0 : Nat → Prop} {bl bm base n : Nat} {L K L' K' : List Value} {vl vm : Value} {ys : List (AV × Value)} {l : List (Nat × AV)} {a : Act} {w w' : World} (h : GT X0 bl bm base n L K vl vm ys l a w) (hp : PutR bl bm base (n + 1) (n + 1) L' K' vl vm w w') {d : Nat} {v : Value} (hd : ∀ p ∈ l, d ≠ p.1) {c : AV} {s : Value} (hs : RI w (fun b => XP bl bm vl vm b ∨ X0 b) c s) :
    ∃ vl' vm', GT X0 bl bm base (n + 1) L' K' vl' vm' ((c, s) :: ys) l (a.put (some d) v) w' := by
  obtain ⟨vl', vm', h1, h2, h3, h4, h5⟩ := hp.p
  have kp : Keep (fun b => XP bl bm vl vm b ∨ X0 b) w w' := ⟨hp.below.size, fun b hb hx => hp.keep b hb (fun h => hx (.inl h))⟩
  have xk : ∀ b, b < w.heap.size → (XP bl bm vl' vm' b ∨ X0 b) → (XP bl bm vl vm b ∨ X0 b) := fun b hb hx => by
    rcases hx with hx | hx
    · rcases h5 b hx with h | h
      · exact .inl h
      · omega
    · exact .inr hx
  refine ⟨vl', vm', ⟨put_size.trans h.sz, put_defers.trans h.df, h1, h2, h3, h4, h.xo, h.hb, ?_, fun p hpp => ?_⟩⟩
  · exact h.gd.keep kp xk (fun p hp => put_keep (fun e => hd p hp (Option.some.inj e)))
  · rcases List.mem_cons.1 hpp with rfl | hpp
    · exact hs.keep kp xk
    · exact (h.yr p hpp).keep kp xk
theorem Good.fn2 {X : Nat → Prop} {a : Act} {w : World} {l : List (Nat × AV)} (h : Good X a w l) {t : Nat} {v : Value} (hl : Hl.lk l t = some (.raw v)) : a.tmps.getD t undef = v := RI.raw_inv (h.lk t _ hl).2
end Go.Hl

/- lefevre: hits: the function value lefevre: hits: the iterator lefevre: hits: the iterator's contract -/
import Derived.RangeFuncNested
import Derived.RangeFuncBound
import Derived.RangeFuncCalls
import Derived.RangeFuncLeaves
import Derived.RangeFuncBox
import Derived.Shelf.Abstract
import Derived.OwnWalkIn
import Derived.TacticsInMore
import Derived.LoopNIn
import Derived.LoopIn
import Derived.Maps.AppendAt
import Derived.Test.YtccbmjkhplmgnaaGreatHlFc
import Derived.Test.YtccbmjkhplmgnaaGreatHlQa
set_option linter.unusedVariables false
set_option linter.unusedSimpArgs false
namespace Go.Hl
open Go Go.RowKit Go.Proofs
set_option maxHeartbeats 8000000
theorem hits_acall (b0 b1 b2 b3 : Bool) (x0 x1 x2 x3 : List Int) (n : Int) :
    ACall Tryz.prog 43 [.agg [.raw (.bool b0), .ns .u64 x0], .agg [.raw (.bool b1), .ns .u64 x1], .agg [.raw (.bool b2), .ns .u64 x2], .agg [.raw (.bool b3), .ns .u64 x3], .raw (.int .i64 n)]
      (.fn 66 [.vp [.raw (.bool b3), .ns .u64 x3], .vp [.raw (.int .i64 n)], .vp [.raw (.bool b0), .ns .u64 x0], .vp [.raw (.bool b1), .ns .u64 x1], .vp [.raw (.bool b2), .ns .u64 x2]]) := by
  have hE := envL (SOK.nil (P := Tryz.prog))
  refine ACall.body hE Tryz.func43 Tryz.ntmps43 Tryz.results43 ?_
  refine wkR hE trivial ?_
  refine AWp.seqJ (ι := Unit) (fun _ => ⟨[(10, .fn 66 [.vp [.raw (.bool b3), .ns .u64 x3], .vp [.raw (.int .i64 n)], .vp [.raw (.bool b0), .ns .u64 x0], .vp [.raw (.bool b1), .ns .u64 x1], .vp [.raw (.bool b2), .ns .u64 x2]])], []⟩) (AWp.mkfn hE.hT hE.hS (K1 := fun σ => σ = ?sx) 0 ?_ ?_) (fun _ => ?_)
  rotate_left
  · simp only [List.take]
    exact rfl
  · rintro σ1 rfl
    refine ⟨_, _, _, [8, 9, 5, 6, 7], rfl, ?_, rfl, rfl, rfl, rfl, ?_⟩
    · exact ⟨⟨rfl, Nat.zero_lt_succ _⟩, ⟨rfl, Nat.zero_lt_succ _⟩, ⟨rfl, Nat.zero_lt_succ _⟩, ⟨rfl, Nat.zero_lt_succ _⟩, ⟨rfl, Nat.zero_lt_succ _⟩, trivial⟩
    · simp only [List.drop]
      refine wk hE trivial ?_
      exact ⟨(), Le.mk trivial⟩
  · refine wk hE trivial ?_
    exact PostL.mk trivial rfl
end Go.Hl

namespace Go.Hl
open Go Go.RowKit Go.Proofs
set_option maxHeartbeats 16000000
def hl (a b m w : Int) : Nat → Int → List Int
  | 0, _ => []
  | c + 1, f => if Vk a b m f < w then f :: hl a b m w c (f + 1) else hl a b m w c (f + 1)
theorem hl_none {a b m w : Int} : ∀ {c : Nat} {f : Int}, (∀ j : Int, 0 ≤ j → j < c → ¬ Vk a b m (f + j) < w) → hl a b m w c f = []
  | 0, _, _ => rfl
  | c + 1, f, h => by
    have h0 := h 0 (by omega) (by omega)
    rw [Int.add_zero] at h0
    simp only [hl]
    rw [if_neg h0]
    exact hl_none (fun j j0 j1 => by have := h (j + 1) (by omega) (by omega); rwa [show f + (j + 1) = f + 1 + j by omega] at this)
theorem hl_some {a b m w : Int} : ∀ {k c : Nat} {f : Int}, k < c → (∀ j : Int, 0 ≤ j → j < k → ¬ Vk a b m (f + j) < w) → Vk a b m (f + k) < w → hl a b m w c f = (f + k) :: hl a b m w (c - (k + 1)) (f + k + 1)
  | 0, c + 1, f, _, _, h => by
    rw [show f + ((0 : Nat) : Int) = f by omega] at h ⊢
    simp only [hl]
    rw [if_pos h]
    simp
  | k + 1, c + 1, f, hk, hn, h => by
    have h0 := hn 0 (by omega) (by omega)
    rw [Int.add_zero] at h0
    simp only [hl]
    rw [if_neg h0]
    have := hl_some (a := a) (b := b) (m := m) (w := w) (k := k) (c := c) (f := f + 1) (by omega) (fun j j0 j1 => by have := hn (j + 1) (by omega) (by omega); rwa [show f + (j + 1) = f + 1 + j by omega] at this)
      (by rwa [show f + ((k + 1 : Nat) : Int) = f + 1 + (k : Int) by omega] at h)
    rw [this, show f + ((k + 1 : Nat) : Int) = f + 1 + (k : Int) by omega, show c + 1 - (k + 1 + 1) = c - (k + 1) by omega]
theorem Vk_shift (a b m f j : Int) : Vk a (b + a * f) m j = Vk a b m (f + j) := by
  unfold Vk
  congr 1
  grind
theorem hl_isF {a b m w n f k : Int} (hm : 0 < m) (hk : IsF a (b + a * f) m 0 (w - 1) n k) : (k = -1 ∧ hl a b m w n.toNat f = []) ∨ (0 ≤ k ∧ k < n ∧ hl a b m w n.toNat f = (f + k) :: hl a b m w (n - k - 1).toNat (f + k + 1)) := by
  have hi : ∀ j, inV a (b + a * f) m 0 (w - 1) j ↔ Vk a b m (f + j) < w := fun j => by
    unfold inV
    rw [Vk_shift]
    have := mod_rng (a * (f + j) + b) hm
    unfold Vk
    omega
  rcases hk with ⟨rfl, h⟩ | ⟨⟨h0, h1⟩, h2, h3⟩
  · exact .inl ⟨rfl, hl_none (fun j j0 j1 h' => h j j0 (by omega) ((hi j).2 h'))⟩
  · refine .inr ⟨h0, h1, ?_⟩
    have := hl_some (a := a) (b := b) (m := m) (w := w) (k := k.toNat) (c := n.toNat) (f := f) (by omega) (fun j j0 j1 h' => h3 j j0 (by omega) ((hi j).2 h')) (by rw [show ((k.toNat : Nat) : Int) = k by omega]; exact (hi k).1 h2)
    rw [this, show ((k.toNat : Nat) : Int) = k by omega, show n.toNat - (k.toNat + 1) = (n - k - 1).toNat by omega]
def XB (B : Nat) (W : World) (b : Nat) : Prop := b = B ∨ ∃ ad len cap, W.cell? ⟨B, 0, none⟩ = some (.slice (some ad) len cap) ∧ b = ad.block
def KeepC (X : Nat → Prop) (w w' : World) : Prop := ∀ b o v, ¬ X b → w.cell? ⟨b, o, none⟩ = some v → w'.cell? ⟨b, o, none⟩ = some v
def XOk (B : Nat) (W : World) : Prop := B < W.heap.size ∧ ∀ b, XB B W b → b < W.heap.size
def KpB (B : Nat) (W W' : World) : Prop := W.heap.size ≤ W'.heap.size ∧ KeepC (XB B W) W W' ∧ (∀ b, XB B W' b → XB B W b ∨ W.heap.size ≤ b) ∧ (XOk B W → XOk B W')
theorem kpB_t {B : Nat} {u v w : World} (h : KpB B u v) (k : KpB B v w) : KpB B u w := by
  obtain ⟨h1, h2, h3, h4⟩ := h
  obtain ⟨k1, k2, k3, k4⟩ := k
  refine ⟨Nat.le_trans h1 k1, fun b o x hb hx => ?_, fun b hb => ?_, fun h => k4 (h4 h)⟩
  · have hlt : b < u.heap.size := World.block_lt_of_cell? u ⟨b, o, none⟩ hx
    refine k2 b o x (fun h => ?_) (h2 b o x hb hx)
    rcases h3 b h with h | h
    · exact hb h
    · omega
  · rcases k3 b hb with h | h
    · exact h3 b h
    · exact .inr (by omega)
theorem xb_cell {B : Nat} {w w' : World} (h : w'.cell? ⟨B, 0, none⟩ = w.cell? ⟨B, 0, none⟩) : XB B w' = XB B w := by
  funext b; unfold XB; rw [h]
theorem xb_below {B : Nat} {w w' : World} (h : Below w.heap.size w w') (hB : B < w.heap.size) : XB B w' = XB B w :=
  xb_cell (h.cell (p := ⟨B, 0, none⟩) hB)
theorem XOk.below {B : Nat} {w w' : World} (h : XOk B w) (hb : Below w.heap.size w w') : XOk B w' := by
  refine ⟨Nat.lt_of_lt_of_le h.1 hb.size, fun b hx => ?_⟩
  rw [xb_below hb h.1] at hx
  exact Nat.lt_of_lt_of_le (h.2 b hx) hb.size
theorem cell_not {W : World} {l : Nat} {o : Obj} (h : W.heap[l]? = some o) (hc : o.isCells = false) (p : Nat) : W.cell? ⟨l, p, none⟩ = none := by
  unfold World.cell?
  rw [h]
  cases o <;> simp_all [Obj.isCells]
theorem cell_put_other {W : World} {l b p : Nat} {o : Obj} (h : b ≠ l) : (W.putObj l o).cell? ⟨b, p, none⟩ = W.cell? ⟨b, p, none⟩ :=
  World.cell?_of_block (w := W) (World.putObj_heap_other h)
theorem kpB_b {B : Nat} {w : World} (hB : B < w.heap.size) (W : World) (l : Nat) (o o' : Obj) (hl : w.heap.size ≤ l) (h : W.heap[l]? = some o) (hc : o.isCells = false) (_ : o.isWalk = false) : KpB B W (W.putObj l o') := by
  have hsz : (W.putObj l o').heap.size = W.heap.size := by simp [World.putObj]
  have hx : XB B (W.putObj l o') = XB B W := xb_cell (cell_put_other (by omega))
  refine ⟨by omega, fun b p v hb hv => ?_, fun b hb => .inl (by rw [hx] at hb; exact hb), fun hk => ⟨by rw [hsz]; exact hk.1, fun b hb => by rw [hsz]; rw [hx] at hb; exact hk.2 b hb⟩⟩
  by_cases e : b = l
  · subst e; rw [cell_not h hc] at hv; cases hv
  · rw [cell_put_other e]; exact hv
theorem RI.keepC {w w' : World} {X X' : Nat → Prop} (hk : KeepC X w w') (hX : ∀ b, b < w.heap.size → X' b → X b) {c : AV} {v : Value} (h : RI w X c v) : RI w' X' c v := by
  induction h with
  | any v => exact .any v
  | raw v => exact .raw v
  | nul a => exact .nul a
  | ns k xs a b o cap hc ha h =>
    refine .ns k xs a b o cap hc (fun h0 => ?_) (fun i x hx => ?_)
    · obtain ⟨h1, h2⟩ := ha h0
      have hb := World.block_lt_of_cell? w ⟨b, o + 0, none⟩ (h 0 xs[0] (by simp [h0]))
      exact ⟨h1, fun hx => h2 (hX b hb hx)⟩
    · have h0 : 0 < xs.length := by
        rcases Nat.lt_or_ge i xs.length with h' | h'
        · omega
        · simp [List.getElem?_eq_none h'] at hx
      exact hk _ _ _ (ha h0).2 (h i x hx)
  | sl s n cs a b o cap f hc hl ha h hr ih =>
    refine .sl s n cs a b o cap f hc hl (fun h0 => ?_) (fun j c hj => ?_) ih
    · obtain ⟨h1, h2⟩ := ha h0
      have hb := World.block_lt_of_cell? w ⟨b, o + 0, none⟩ (h 0 cs[0] (by simp [h0]))
      exact ⟨h1, fun hx => h2 (hX b hb hx)⟩
    · have h0 : 0 < cs.length := by
        rcases Nat.lt_or_ge j cs.length with h' | h'
        · omega
        · simp [List.getElem?_eq_none h'] at hj
      exact hk _ _ _ (ha h0).2 (h j c hj)
  | vp cs b o f ha h hr ih =>
    refine .vp cs b o f (fun h0 => ?_) (fun j c hj => ?_) ih
    · have h2 := ha h0
      have hb := World.block_lt_of_cell? w ⟨b, o + 0, none⟩ (h 0 cs[0] (by simp [h0]))
      exact fun hx => h2 (hX b hb hx)
    · have h0 : 0 < cs.length := by
        rcases Nat.lt_or_ge j cs.length with h' | h'
        · omega
        · simp [List.getElem?_eq_none h'] at hj
      exact hk _ _ _ (ha h0) (h j c hj)
  | agg cs vs f hl h hr ih => exact .agg cs vs f hl h ih
  | tup cs vs f hl h hr ih => exact .tup cs vs f hl h ih
  | fn g cs vs f hl h hr ih => exact .fn g cs vs f hl h ih
theorem Good.keepC {X X' : Nat → Prop} {a a' : Act} {w w' : World} (hk : KeepC X w w') (hX : ∀ b, b < w.heap.size → X' b → X b) : ∀ {l : List (Nat × AV)}, (∀ p ∈ l, a'.tmps.getD p.1 undef = a.tmps.getD p.1 undef) → Good X a w l → Good X' a' w' l
  | [], _, _ => trivial
  | p :: l, ht, h => ⟨⟨h.1.1, by rw [ht p (.head _)]; exact h.1.2.keepC hk hX⟩, Good.keepC hk hX (fun q hq => ht q (.tail _ hq)) h.2⟩
theorem reopen {B n : Nat} {w0 w : World} {β : Nat → Option (Nat × Nat)} {σ : St} {a : Act} {l : List (Nat × AV)} (hC : Conc ⟨n, w0, XB B w0, none⟩ β σ.get σ.blk a w) (hok : XOk B w0) (hH : Has σ l) :
    XOk B w ∧ Good (XB B w) a w l ∧ Conc ⟨n, w, XB B w, none⟩ (fun _ => none) (St.get ⟨l, []⟩) (St.blk ⟨l, []⟩) a w := by
  have hb := hC.chg.belowW
  have hx := xb_below hb hok.1
  have hok' := hok.below hb
  have g : Good (XB B w) a w l := Has.good hC (fun b h => by rw [hx] at h; exact h) hH
  exact ⟨hok', g, g.conc hC.sz hC.dfr hok'.2⟩
end Go.Hl

namespace Go.Hl
open Go Go.RowKit Go.Proofs
set_option maxHeartbeats 1000000
section
variable {P : Program} {T : Tab} {S : FuncId → Option Sp} {κ : Ctx} {β : Nat → Option (Nat × Nat)} {a : Act} {w : World} {n : Nat} {Q : Exit → St → Prop} {σ : St}
theorem wp_seg {x y : Code} {R : Exit → Act → World → Prop} (h : AWp P T n x Q σ) (hn : κ.nt = n) (hm : κ.mu = none) (hC : Conc κ β σ.get σ.blk a w)
    (hnorm : ∀ σ' β' a' w', Q .normal σ' → Conc κ β' σ'.get σ'.blk a' w' → y.wp P R a' w')
    (hex : ∀ e σ' β' a' w', e ≠ .normal → Q e σ' → Conc κ β' σ'.get σ'.blk a' w' → R e a' w') : (Code.seq x y).wp P R a w := by
  refine wp_seq (wp_mono (h κ β a w hn (fun _ => hm) hC) fun e a' w' ⟨σ', β', h1, h2⟩ => ?_)
  cases e with
  | normal => exact hnorm σ' β' a' w' h1 h2
  | _ => exact hex _ σ' β' a' w' (by simp) h1 h2
theorem wp_piece {x : Code} {R : Exit → Act → World → Prop} (h : AWp P T n x Q σ) (hn : κ.nt = n) (hm : κ.mu = none) (hC : Conc κ β σ.get σ.blk a w)
    (hQ : ∀ e σ' β' a' w', Q e σ' → Conc κ β' σ'.get σ'.blk a' w' → R e a' w') : x.wp P R a w :=
  wp_mono (h κ β a w hn (fun _ => hm) hC) fun e a' w' ⟨σ', β', h1, h2⟩ => hQ e σ' β' a' w' h1 h2
theorem CellsAt.weak' {w : World} {X X' : Nat → Prop} {b o off : Nat} {cs : List AV} (hX : ∀ b, b < w.heap.size → X' b → X b) (h : CellsAt w X b o cs off) : CellsAt w X' b o cs off := by
  intro j c hj
  obtain ⟨v, h1, h2⟩ := h j c hj
  exact ⟨v, h1, h2.keep (Keep.refl _ _) hX⟩
theorem wpListIn_val {F : Fence} {m : Nat} {ops : Array Oper} {o : Oper} {rest : List Oper} {R : Exit → Act → World → Prop} {x : Value} {w' : World} (hF : ∀ f, F.fn f) (hro : F.round = none) (hg : o.guard = none) (hr : (execOp a.eval o).run P w = .ok (.value x) w')
    (h : wpListIn F m P ops R rest (a.put o.dst x) w') : wpListIn F m P ops R (o :: rest) a w := by
  unfold wpListIn
  have hw : Region.wanted o (yielded ops a.tmps) = true := by simp [Region.wanted, hg]
  rw [hw, if_pos rfl]
  refine ⟨fun f _ => hF f, ?_⟩
  rw [hro, Oper.semAt_none, hr]
  exact h
theorem wpListIn_round {F : Fence} {m l f : Nat} {tm : Array Value} {ac bd : Code} {ops : Array Oper} {o : Oper} {rest : List Oper} {R : Exit → Act → World → Prop} (hF : ∀ f, F.fn f) (hm : 1 ≤ m) (hro : F.round = none) (hg : o.guard = none) (hr : (execOp a.eval o).run P w = .ok (.round l f tm ac bd) w)
    (h : RoundIn F (m - 1) P l f tm ac bd w fun e w' => ∃ v, e = .returned v ∧ wpListIn F m P ops R rest (a.put o.dst v) w') : wpListIn F m P ops R (o :: rest) a w := by
  unfold wpListIn
  have hw : Region.wanted o (yielded ops a.tmps) = true := by simp [Region.wanted, hg]
  rw [hw, if_pos rfl]
  refine ⟨fun f _ => hF f, ?_⟩
  rw [hro, Oper.semAt_none, hr]
  refine ⟨fun _ => hm, h.mono fun e w' ⟨v, he, hv⟩ => ?_⟩
  subst he
  exact hv
end
theorem start_get {vs : Array Value} {m j : Nat} {v : Value} (h : vs[j]? = some v) : (vs ++ Array.replicate m undef).getD j undef = v := by
  obtain ⟨hj, e⟩ := Array.getElem?_eq_some_iff.1 h
  rw [Array.getD_eq_getD_getElem?, Array.getElem?_append_left hj, h]
  rfl
def nv2 (b : Bool) (x : List Int) : AV := .vp [.raw (.bool b), .ns .u64 x]
def itS (yv : Value) (b0 b1 b2 b3 : Bool) (x0 x1 x2 x3 : List Int) (n : Int) : List (Nat × AV) :=
  [(0, .raw yv), (1, .vp [.raw (.bool b3), .ns .u64 x3]), (2, .vp [.raw (.int .i64 n)]), (3, .vp [.raw (.bool b0), .ns .u64 x0]), (4, .vp [.raw (.bool b1), .ns .u64 x1]), (5, .vp [.raw (.bool b2), .ns .u64 x2])]
def itT (wv : Int) : List (Nat × AV) := [(7, .vp [.raw (.bool (decide (wv - 1 < 0))), .ns .u64 (dg (wv - 1).natAbs)])]
theorem inBlock_exit {i : Nat} {Q : Exit → Act → World → Prop} {a : Act} {w : World} : Exit.inBlock i Q (.exit i) a w = Q .normal a w := by simp [Exit.inBlock]
theorem bodyPost_end {P : Program} {fn : Func} {R : Ending → World → Prop} {a : Act} {w : World} {v : Value} (hr : (results fn a.tmps).run P w = .ok v w) (hd : a.defers = []) (hR : R (.returned v) w) : bodyPost P fn R .normal a w := ⟨hd, v, hr, hR⟩
theorem below_grown {W W' : World} (h : Below W.heap.size W W') : W.grownBy W' none := ⟨h.os, h.tape, h.output, h.size, fun k hk _ => h.block k hk⟩
set_option maxRecDepth 100000 in
theorem it_stops {Bx : Nat} {b0 b1 b2 b3 : Bool} {x0 x1 x2 x3 : List Int} {n : Int} {w0 : World} {v0 v1 v2 v3 v4 : Value} (hok : XOk Bx w0)
    (h0 : Lm x0 ∧ x0.length < 9000) (h1 : Lm x1 ∧ x1.length < 9000) (h2 : Lm x2 ∧ x2.length < 9000) (h3 : Lm x3 ∧ x3.length < 9000) (hn1 : -9223372036854775808 ≤ n) (hn2 : n < 9223372036854775808)
    (hm : 0 < zv b2 x2) (hw : zv b3 x3 ≤ zv b2 x2)
    (r0 : RI w0 (XB Bx w0) (.vp [.raw (.bool b3), .ns .u64 x3]) v0) (r1 : RI w0 (XB Bx w0) (.vp [.raw (.int .i64 n)]) v1) (r2 : RI w0 (XB Bx w0) (.vp [.raw (.bool b0), .ns .u64 x0]) v2) (r3 : RI w0 (XB Bx w0) (.vp [.raw (.bool b1), .ns .u64 x1]) v3) (r4 : RI w0 (XB Bx w0) (.vp [.raw (.bool b2), .ns .u64 x2]) v4) :
    SeqStopsK Fence.wide 10 Tryz.prog 66 #[v0, v1, v2, v3, v4] (fun x : Int => #[Value.int .i64 x]) (KpB Bx) (fun ys => ys = hl (zv b0 x0) (zv b1 x1) (zv b2 x2) (zv b3 x3) n.toNat 0) (fun pre => pre <+: hl (zv b0 x0) (zv b1 x1) (zv b2 x2) (zv b3 x3) n.toNat 0)
      (hl (zv b0 x0) (zv b1 x1) (zv b2 x2) (zv b3 x3) n.toNat 0).length w0 := by
  intro l J Jx W hW hJ hJx hY hJ0
  obtain ⟨h0, h0l⟩ := h0
  obtain ⟨h1, h1l⟩ := h1
  obtain ⟨h2, h2l⟩ := h2
  obtain ⟨h3, h3l⟩ := h3
  have hE := env (SOK.cons sign_ok (SOK.cons of_ok (SOK.cons zsub_ok (SOK.cons zmul_ok (SOK.cons zadd_ok (SOK.cons first_ok (SOK.nil (P := Tryz.prog))))))))
  obtain ⟨A, eA⟩ : ∃ A, zv b0 x0 = A := ⟨_, rfl⟩
  obtain ⟨B, eB⟩ : ∃ B, zv b1 x1 = B := ⟨_, rfl⟩
  obtain ⟨M, eM⟩ : ∃ M, zv b2 x2 = M := ⟨_, rfl⟩
  obtain ⟨V, eV⟩ : ∃ V, zv b3 x3 = V := ⟨_, rfl⟩
  rw [eM] at hm
  rw [eV, eM] at hw
  rw [eA, eB, eM, eV] at hY ⊢
  obtain ⟨HL, eHL⟩ : ∃ HL, hl A B M V n.toNat 0 = HL := ⟨_, rfl⟩
  rw [eHL] at hY ⊢
  have jab : ∀ pre W1 W2, Below W1.heap.size W1 W2 → J pre W1 → J pre W2 := fun pre W1 W2 hb hj => hJ pre W1 W2 none hj (below_grown hb) (fun _ e => by cases e)
  have hokW := hok.below hW
  have hxW := xb_below hW hok.1
  have rk : ∀ {c : AV} {v : Value}, RI w0 (XB Bx w0) c v → RI W (XB Bx W) c v := fun r => r.keep (keepOf _ hW) (fun b _ h => by rw [hxW] at h; exact h)
  refine callsIn_wide.2 (calls_of_wp Tryz.func66 rfl ?_)
  rw [Tryz.ntmps66]
  obtain ⟨yv, eyv⟩ : ∃ yv, Value.func (.yield l) #[] #[] = yv := ⟨_, rfl⟩
  obtain ⟨a0, ea0⟩ : ∃ a0 : Act, { tmps := #[yv] ++ #[v0, v1, v2, v3, v4] ++ Array.replicate (44 - (#[yv] ++ #[v0, v1, v2, v3, v4]).size) undef, defers := [] } = a0 := ⟨_, rfl⟩
  rw [eyv, ea0]
  have sg : ∀ j v, #[yv, v0, v1, v2, v3, v4][j]? = some v → a0.tmps.getD j undef = v := fun j v hv => by
    rw [← ea0]
    exact start_get hv
  have g0 : Good (XB Bx W) a0 W (itS yv b0 b1 b2 b3 x0 x1 x2 x3 n) := by
    refine ⟨⟨rfl, ?_⟩, ⟨rfl, ?_⟩, ⟨rfl, ?_⟩, ⟨rfl, ?_⟩, ⟨rfl, ?_⟩, ⟨rfl, ?_⟩, trivial⟩
    · rw [sg 0 yv rfl]; exact RI.raw _
    · rw [sg 1 v0 rfl]; exact rk r0
    · rw [sg 2 v1 rfl]; exact rk r1
    · rw [sg 3 v2 rfl]; exact rk r2
    · rw [sg 4 v3 rfl]; exact rk r3
    · rw [sg 5 v4 rfl]; exact rk r4
  have hC0 := g0.conc (n := 44) (by rw [← ea0]; simp) (by rw [← ea0]) hokW.2
  clear ea0 sg
  refine wp_seg (T := tab false) (n := 44) (Q := fun e σ => (e = .ret ∧ V < 1) ∨ (e = .normal ∧ 1 ≤ V ∧ Has σ (itS yv b0 b1 b2 b3 x0 x1 x2 x3 n))) ?_ rfl rfl hC0 ?_ ?_
  · unfold itS
    by_cases c1 : V < 1
    · refine wk hE (And.intro eV (sign_lt1.2 c1)) ?_
      exact .inl ⟨rfl, c1⟩
    · have d1 : ¬ V.sign < 1 := fun h => c1 (sign_lt1.1 h)
      refine wk hE (And.intro eV d1) ?_
      refine .inr ⟨rfl, by omega, ?_⟩
      exact ⟨⟨rfl, rfl⟩, ⟨rfl, rfl⟩, ⟨rfl, rfl⟩, ⟨rfl, rfl⟩, ⟨rfl, rfl⟩, ⟨rfl, rfl⟩, trivial⟩
  · rintro σ' β' a' w' (⟨h, _⟩ | ⟨_, hV, hH⟩) hC1
    · cases h
    have bV := zv_abs_lt (b := b3) h3 (l := 9000) (by omega)
    rw [eV] at bV
    obtain ⟨U, eU⟩ : ∃ U, V - 1 = U := ⟨_, rfl⟩
    have bU : U.natAbs < B64 ^ 9000 := by omega
    obtain ⟨ou1, _, ou2⟩ := dgl bU (by omega)
    have ou2 : (dg U.natAbs).length < 9001 := by omega
    clear bV bU
    obtain ⟨hx1, g1, hC2⟩ := reopen hC1 hokW hH
    have hJ1 : J [] w' := jab _ _ _ hC1.chg.belowW hJ0
    refine wp_seg (T := tab false) (n := 44) (Q := fun e σ => e = .normal ∧ σ.get 7 = .ptr 7 0 ∧ σ.blk 7 = some ⟨true, .c [.raw (.bool (decide (U < 0))), .ns .u64 (dg U.natAbs)]⟩ ∧ Has σ (itS yv b0 b1 b2 b3 x0 x1 x2 x3 n)) ?_ rfl rfl hC2 ?_ ?_
    · unfold itS
      have e1 : zv false (dg (Int.natAbs 1)) = 1 := zv_zi 1
      obtain ⟨c1, c1'⟩ := nat_abs_lt (z := 1) (l := 1) (by decide) (by omega)
      refine AWp.regionA [] [(7, 3)] hE.hT hE.hS hE.hm ?_ (wk hE (And.intro e1 (And.intro eV eU)) ?_)
      · intro p i h
        cases h
      · refine ⟨rfl, rfl, rfl, ?_⟩
        exact ⟨⟨rfl, rfl⟩, ⟨rfl, rfl⟩, ⟨rfl, rfl⟩, ⟨rfl, rfl⟩, ⟨rfl, rfl⟩, ⟨rfl, rfl⟩, trivial⟩
    · rintro σ2 β2 a2 w2 ⟨_, hp7, hb7, hH2⟩ hC3
      obtain ⟨tb, to, tC, te, t1, tt, t2⟩ := hC3.vp0 hp7 hb7
      obtain ⟨hx2, g2, _⟩ := reopen hC3 hx1 hH2
      have hxe := xb_below hC3.chg.belowW hx1.1
      have t3 : RI w2 (XB Bx w2) (.vp [.raw (.bool (decide (U < 0))), .ns .u64 (dg U.natAbs)]) (a2.tmps.getD 7 undef) := by
        rw [t1]
        refine RI.vp_of (fun h => ?_) (t2.weak' (fun b _ h => ?_))
        · rcases (tt h).1 with h1 | h1
          · intro h2
            rw [hxe] at h2
            have := hx1.2 _ h2
            have h1 : w'.heap.size ≤ tb := h1
            omega
          · exact absurd rfl h1
        · rw [hxe] at h; exact .inl h
      have g2 : Good (XB Bx w2) a2 w2 ((7, .vp [.raw (.bool (decide (U < 0))), .ns .u64 (dg U.natAbs)]) :: itS yv b0 b1 b2 b3 x0 x1 x2 x3 n) := ⟨⟨rfl, t3⟩, g2⟩
      have hJ2 : J [] w2 := jab _ _ _ hC3.chg.belowW hJ1
      have hC4 := g2.conc (n := 44) hC3.sz hC3.dfr hx2.2
      clear t1 t2 tt t3 hp7 hb7 hH2 g2 hJ1 hC3 g1 hC2 hH hC1 hC0 g0 rk hxe
      refine wp_seg (T := tab false) (n := 44) (Q := fun e σ => e = .normal ∧ Has σ ((8, .raw (.int .i64 0)) :: (7, .vp [.raw (.bool (decide (U < 0))), .ns .u64 (dg U.natAbs)]) :: itS yv b0 b1 b2 b3 x0 x1 x2 x3 n)) ?_ rfl rfl hC4 ?_ ?_
      · unfold itS
        refine wk hE trivial ?_
        refine ⟨rfl, ?_⟩
        exact ⟨⟨rfl, rfl⟩, ⟨rfl, rfl⟩, ⟨rfl, rfl⟩, ⟨rfl, rfl⟩, ⟨rfl, rfl⟩, ⟨rfl, rfl⟩, ⟨rfl, rfl⟩, ⟨rfl, rfl⟩, trivial⟩
      · rintro σ3 β3 a3 w3 ⟨_, hH3⟩ hC5
        obtain ⟨hx3, g3, _⟩ := reopen hC5 hx2 hH3
        have hJ3 := jab _ _ _ hC5.chg.belowW hJ2
        have hs3 := hC5.sz
        have hd3 := hC5.dfr
        clear hC4 hH3 hC5 hJ2
        refine wp_block (wp_loop_ix (ι := {p : List Int × Int // 0 ≤ p.2 ∧ (p.2 ≤ n ∨ p.2 = 0) ∧ HL = p.1 ++ hl A B M V (n - p.2).toNat p.2})
          (fun p a w => a.tmps.size = 44 ∧ a.defers = [] ∧ XOk Bx w ∧ Good (XB Bx w) a w ((8, .raw (.int .i64 p.1.2)) :: (7, .vp [.raw (.bool (decide (U < 0))), .ns .u64 (dg U.natAbs)]) :: itS yv b0 b1 b2 b3 x0 x1 x2 x3 n) ∧ J p.1.1 w)
          (fun p => (n - p.1.2).toNat) ⟨([], 0), by omega, .inr rfl, by rw [Int.sub_zero, eHL]; rfl⟩ ⟨hs3, hd3, hx3, g3, hJ3⟩ ?_)
        rintro ⟨⟨pre, f⟩, hf0, hf1, hpre⟩ a4 w4 ⟨hs4, hd4, hx4, g4, hJ4⟩
        dsimp only at hf0 hf1 hpre g4 hJ4 ⊢
        have hC6 := g4.conc (n := 44) hs4 hd4 hx4.2
        refine wp_seg (T := tab false) (n := 44) (Q := fun e σ => (e = .exit 0 ∧ n ≤ f) ∨ (e = .normal ∧ f < n ∧ Has σ ((8, .raw (.int .i64 f)) :: (7, .vp [.raw (.bool (decide (U < 0))), .ns .u64 (dg U.natAbs)]) :: itS yv b0 b1 b2 b3 x0 x1 x2 x3 n))) ?_ rfl rfl hC6 ?_ ?_
        · unfold itS
          by_cases hfn : f < n
          · refine wk hE hfn ?_
            refine .inr ⟨rfl, hfn, ?_⟩
            exact ⟨⟨rfl, rfl⟩, ⟨rfl, rfl⟩, ⟨rfl, rfl⟩, ⟨rfl, rfl⟩, ⟨rfl, rfl⟩, ⟨rfl, rfl⟩, ⟨rfl, rfl⟩, ⟨rfl, rfl⟩, trivial⟩
          · refine wk hE hfn ?_
            exact .inl ⟨rfl, by omega⟩
        · rintro σ5 β5 a5 w5 (⟨h, _⟩ | ⟨_, hfn, hH5⟩) hC7
          · cases h
          obtain ⟨hx5, g5, hC8⟩ := reopen hC7 hx4 hH5
          have hJ5 := jab _ _ _ hC7.chg.belowW hJ4
          clear hC6 g4 hJ4 hH5 hC7 g5 hs4 hd4 hs3 hd3 g3 hJ3
          obtain ⟨c, ec⟩ : ∃ c, n - f = c := ⟨_, rfl⟩
          rw [ec] at hpre
          have bA := zv_abs_lt (b := b0) h0 (l := 9000) (by omega)
          have bB := zv_abs_lt (b := b1) h1 (l := 9000) (by omega)
          rw [eA] at bA
          rw [eB] at bB
          have bf : f.natAbs < B64 ^ 1 := by rw [Nat.pow_one]; unfold B64; omega
          obtain ⟨of1, _, of2⟩ := dgl bf (by omega)
          have bp := abs_mul_lt bA bf
          obtain ⟨p, ep⟩ : ∃ p, A * f = p := ⟨_, rfl⟩
          rw [ep] at bp
          obtain ⟨op1, _, op2⟩ := dgl bp (by omega)
          have bB2 := pw_add 1 bB
          have bs := abs_add_lt bB2 bp
          obtain ⟨s, es⟩ : ∃ s, B + p = s := ⟨_, rfl⟩
          rw [es] at bs
          obtain ⟨os1, _, os2⟩ := dgl bs (by omega)
          obtain ⟨k, ek⟩ : ∃ k, fst' A s M 0 U c = k := ⟨_, rfl⟩
          have hk := fst_rng (a := A) (b := s) (n := c) (Int.le_refl 0) (show 0 ≤ U by omega) (show U < M by omega)
          rw [ek, ← es, ← ep, ← eU] at hk
          have hkk := hl_isF hm hk
          have z0 : zv false [] = 0 := by have := zv_zi 0; rwa [show dg (Int.natAbs 0) = [] from dg_zero] at this
          refine wp_seq (wp_block ?_)
          refine wp_seg (T := tab false) (n := 44) (Q := fun e σ => e = .normal ∧ Has σ ((9, .raw (.int .i64 k)) :: (8, .raw (.int .i64 f)) :: (7, .vp [.raw (.bool (decide (U < 0))), .ns .u64 (dg U.natAbs)]) :: itS yv b0 b1 b2 b3 x0 x1 x2 x3 n)) ?_ rfl rfl hC8 ?_ ?_
          · unfold itS
            clear bA bB bf bp bB2 bs hk hkk hpre hW hJ hJx hY hJ5 jab
            have ln : Lm ([] : List Int) := by
              have h := (nat_abs_lt (z := 0) (l := 1) (by decide) (by omega)).1
              rwa [show dg (Int.natAbs 0) = [] from dg_zero] at h
            have u0 : 0 ≤ U := by omega
            have u1 : U < M := by omega
            have nf : -9223372036854775808 ≤ c ∧ c < 9223372036854775808 := by omega
            refine wk hE (And.intro eA (And.intro eB (And.intro eM (And.intro z0 (And.intro ep (And.intro es (And.intro ec ek))))))) ?_
            refine ⟨rfl, ?_⟩
            exact ⟨⟨rfl, rfl⟩, ⟨rfl, rfl⟩, ⟨rfl, rfl⟩, ⟨rfl, rfl⟩, ⟨rfl, rfl⟩, ⟨rfl, rfl⟩, ⟨rfl, rfl⟩, ⟨rfl, rfl⟩, ⟨rfl, rfl⟩, trivial⟩
          · rintro σ6 β6 a6 w6 ⟨_, hH6⟩ hC9
            obtain ⟨hx6, g6, hC10⟩ := reopen hC9 hx5 hH6
            have hJ6 := jab _ _ _ hC9.chg.belowW hJ5
            clear hC9 hH6 g6 hC8 hJ5
            refine wp_seg (T := tab false) (n := 44) (Q := fun e σ => (e = .ret ∧ k < 0) ∨ (e = .normal ∧ 0 ≤ k ∧ Has σ ((9, .raw (.int .i64 k)) :: (8, .raw (.int .i64 f)) :: (7, .vp [.raw (.bool (decide (U < 0))), .ns .u64 (dg U.natAbs)]) :: itS yv b0 b1 b2 b3 x0 x1 x2 x3 n))) ?_ rfl rfl hC10 ?_ ?_
            · unfold itS
              by_cases hk0 : k < 0
              · refine wk hE hk0 ?_
                exact .inl ⟨rfl, hk0⟩
              · refine wk hE hk0 ?_
                refine .inr ⟨rfl, by omega, ?_⟩
                exact ⟨⟨rfl, rfl⟩, ⟨rfl, rfl⟩, ⟨rfl, rfl⟩, ⟨rfl, rfl⟩, ⟨rfl, rfl⟩, ⟨rfl, rfl⟩, ⟨rfl, rfl⟩, ⟨rfl, rfl⟩, ⟨rfl, rfl⟩, trivial⟩
            · rintro σ7 β7 a7 w7 (⟨h, _⟩ | ⟨_, hk0, hH7⟩) hC11
              · cases h
              obtain ⟨hx7, g7, hC12⟩ := reopen hC11 hx6 hH7
              have hJ7 := jab _ _ _ hC11.chg.belowW hJ6
              clear hC11 hH7 g7 hC10 hJ6
              rcases hkk with ⟨h, _⟩ | ⟨_, hkc, hkk⟩
              · omega
              obtain ⟨x, ex⟩ : ∃ x, f + k = x := ⟨_, rfl⟩
              rw [ex] at hkk
              refine wp_seg (T := tab false) (n := 44) (Q := fun e σ => e = .normal ∧ Has σ ((8, .raw (.int .i64 x)) :: (7, .vp [.raw (.bool (decide (U < 0))), .ns .u64 (dg U.natAbs)]) :: itS yv b0 b1 b2 b3 x0 x1 x2 x3 n)) ?_ rfl rfl hC12 ?_ ?_
              · unfold itS
                clear bA bB bf bp bB2 bs hk hkk hpre hW hJ hJx hY hJ7 jab
                refine wk hE ex ?_
                refine ⟨rfl, ?_⟩
                exact ⟨⟨rfl, rfl⟩, ⟨rfl, rfl⟩, ⟨rfl, rfl⟩, ⟨rfl, rfl⟩, ⟨rfl, rfl⟩, ⟨rfl, rfl⟩, ⟨rfl, rfl⟩, ⟨rfl, rfl⟩, trivial⟩
              · rintro σ8 β8 a8 w8 ⟨_, hH8⟩ hC13
                obtain ⟨hx8, g8, _⟩ := reopen hC13 hx7 hH8
                have hJ8 := jab _ _ _ hC13.chg.belowW hJ7
                have hs8 : a8.tmps.size = 44 := hC13.sz
                have hd8 := hC13.dfr
                clear hC13 hH8 hC12 hJ7 bA bB bf bp bB2 bs hk
                have hlen : pre.length < HL.length := by rw [hpre, hkk]; simp
                obtain ⟨fn, tm, ac, bd, hy, hR⟩ := hY pre x w8 hJ8 hlen
                have e8 := RI.raw_inv g8.1.2
                have e0 := RI.raw_inv g8.2.2.1.2
                dsimp only at e0 e8
                refine wp_seq ((wpIn_wide (n := 10)).1 (wpIn_region_lit ?_))
                refine wpListIn_val (x := yv) (w' := w8) (fun _ => trivial) rfl rfl ?_ ?_
                · rw [← e0]; rfl
                obtain ⟨a9, ea9⟩ : ∃ a9, a8.put (some 40) yv = a9 := ⟨_, rfl⟩
                show wpListIn _ _ _ _ _ _ (a8.put (some 40) yv) _
                rw [ea9]
                have f8 : a9.tmps.getD 8 undef = .int .i64 x := by rw [← ea9, put_keep (by decide)]; exact e8
                have f40 : a9.tmps.getD 40 undef = yv := by rw [← ea9]; simp [Act.put, Array.getD, hs8]
                have s9 : a9.tmps.size = 44 := by rw [← ea9]; simp [Act.put, hs8]
                refine wpListIn_val (x := .int .i64 x) (w' := w8) (fun _ => trivial) rfl rfl ?_ ?_
                · rw [← f8]; rfl
                obtain ⟨a10, ea10⟩ : ∃ a10, a9.put (some 41) (.int .i64 x) = a10 := ⟨_, rfl⟩
                show wpListIn _ _ _ _ _ _ (a9.put (some 41) (.int .i64 x)) _
                rw [ea10]
                have h40 : a10.eval (.tmp 40) = .func (.yield l) #[] #[] := by
                  show a10.tmps.getD 40 undef = _
                  rw [← ea10, put_keep (by decide), f40, ← eyv]
                have h41 : a10.eval (.tmp 41) = .int .i64 x := by
                  show a10.tmps.getD 41 undef = _
                  rw [← ea10]; simp [Act.put, Array.getD, s9]
                have s10 : a10.tmps.size = 44 := by rw [← ea10]; simp [Act.put, s9]
                have d10 : a10.defers = [] := by rw [← ea10, ← ea9]; exact hd8
                have t10 : ∀ t, t < 40 → a10.tmps.getD t undef = a8.tmps.getD t undef := fun t ht => by
                  rw [← ea10, put_keep (by intro h; cases h; omega), ← ea9, put_keep (by intro h; cases h; omega)]
                refine wpListIn_round (l := l) (f := fn) (tm := tm) (ac := ac) (bd := bd) (fun _ => trivial) (by decide) rfl rfl ?_ (hR.mono ?_)
                · simp only [execOp, resolve, h40, h41]
                  simp [Deferred.ofValue, invoke, h41, hy]
                have s11 : ∀ v, (a10.put (some 42) v).tmps.size = 44 := fun v => by simp [Act.put, s10]
                have f42 : ∀ v, (a10.put (some 42) v).eval (.tmp 42) = v := fun v => by
                  show (a10.put (some 42) v).tmps.getD 42 undef = _
                  simp [Act.put, Array.getD, s10]
                have f43 : ∀ u v, ((a10.put (some 42) u).put (some 43) v).eval (.tmp 43) = v := fun u v => by
                  show ((a10.put (some 42) u).put (some 43) v).tmps.getD 43 undef = _
                  simp [Act.put, Array.getD, s10]
                have t12 : ∀ u v t, t < 40 → ((a10.put (some 42) u).put (some 43) v).tmps.getD t undef = a8.tmps.getD t undef := fun u v t ht => by
                  rw [put_keep (by intro h; cases h; omega), put_keep (by intro h; cases h; omega), t10 t ht]
                have s12 : ∀ u v, ((a10.put (some 42) u).put (some 43) v).tmps.size = 44 := fun u v => by simp [Act.put, s10]
                have d12 : ∀ u v, ((a10.put (some 42) u).put (some 43) v).defers = [] := fun u v => d10
                clear ea9 ea10 f8 f40 s9 h40 h41 hy hR hY
                rintro e W3 (⟨rfl, hJ3, hkp⟩ | ⟨rfl, hJ3⟩)
                · refine ⟨_, rfl, ?_⟩
                  refine wpListIn_val (x := .bool false) (w' := W3) (fun _ => trivial) rfl rfl ?_ ?_
                  · have := f42 (.bool true)
                    simp only [execOp, this]
                    rfl
                  refine wpListIn_nil (wp_cond_false (f43 _ _) (wp_skip ?_))
                  show Code.wp Tryz.prog (Code.region 4 _ false) _ _ W3
                  obtain ⟨kp1, kp2, kp3, kp4⟩ := hkp
                  have hx9 := kp4 hx8
                  have g9 : Good (XB Bx W3) ((a10.put (some 42) (.bool true)).put (some 43) (.bool false)) W3 ((8, .raw (.int .i64 x)) :: (7, .vp [.raw (.bool (decide (U < 0))), .ns .u64 (dg U.natAbs)]) :: itS yv b0 b1 b2 b3 x0 x1 x2 x3 n) := by
                    refine Good.keepC kp2 (fun b hb h => ?_) (fun p hp => t12 _ _ _ ?_) g8
                    · rcases kp3 b h with h | h
                      · exact h
                      · omega
                    · simp only [itS, List.mem_cons, List.not_mem_nil, or_false] at hp
                      rcases hp with rfl | rfl | rfl | rfl | rfl | rfl | rfl | rfl <;> (dsimp only; omega)
                  have hC14 := g9.conc (n := 44) (s12 _ _) (d12 _ _) hx9.2
                  have hxn : x + 1 ≤ n := by omega
                  refine wp_piece (T := tab false) (n := 44) (Q := fun e σ => e = .normal ∧ Has σ ((8, .raw (.int .i64 (x + 1))) :: (7, .vp [.raw (.bool (decide (U < 0))), .ns .u64 (dg U.natAbs)]) :: itS yv b0 b1 b2 b3 x0 x1 x2 x3 n)) ?_ rfl rfl hC14 ?_
                  · unfold itS
                    have hx0 : 0 ≤ x := by omega
                    clear hkk hpre hW hJ hJx hJ3 jab
                    refine wk hE trivial ?_
                    refine ⟨rfl, ?_⟩
                    exact ⟨⟨rfl, rfl⟩, ⟨rfl, rfl⟩, ⟨rfl, rfl⟩, ⟨rfl, rfl⟩, ⟨rfl, rfl⟩, ⟨rfl, rfl⟩, ⟨rfl, rfl⟩, ⟨rfl, rfl⟩, trivial⟩
                  · rintro e σ13 β13 a13 w13 ⟨rfl, hH13⟩ hC15
                    obtain ⟨hx15, g15, _⟩ := reopen hC15 hx9 hH13
                    refine ⟨⟨(pre ++ [x], x + 1), by omega, by omega, ?_⟩, ⟨hC15.sz, hC15.dfr, hx15, g15, jab _ _ _ hC15.chg.belowW hJ3⟩, by dsimp only; omega⟩
                    dsimp only
                    rw [hpre, hkk, List.append_assoc, show c - k - 1 = n - (x + 1) by omega]
                    rfl
                · refine ⟨_, rfl, ?_⟩
                  refine wpListIn_val (x := .bool true) (w' := W3) (fun _ => trivial) rfl rfl ?_ ?_
                  · have := f42 (.bool false)
                    simp only [execOp, this]
                    rfl
                  refine wpListIn_nil (wp_cond_true (f43 _ _) (wp_ret ?_))
                  simp only [Exit.then, Exit.inBlock]
                  refine bodyPost_ret (results_none rfl _ _ _) (d12 _ _) ?_
                  refine ⟨⟨_, rfl⟩, .inr ⟨pre ++ [x], ?_, hJ3⟩⟩
                  rw [hpre, hkk]
                  exact ⟨_, List.append_assoc _ _ _⟩
              · rintro e σ2 β2 a2 w2 he ⟨h, _⟩ hC3
                exact absurd h he
            · rintro e σ' β' a' w' he (⟨rfl, hk0⟩ | ⟨h, _⟩) hC1
              · simp only [Exit.then, Exit.inBlock]
                refine bodyPost_ret (results_none rfl _ _ _) hC1.dfr ?_
                refine ⟨⟨_, rfl⟩, .inl ⟨HL, rfl, ?_⟩⟩
                have : HL = pre := by
                  rcases hkk with ⟨_, h⟩ | ⟨h, _⟩
                  · rw [hpre, h, List.append_nil]
                  · omega
                rw [this]
                exact jab _ _ _ hC1.chg.belowW hJ6
              · exact absurd h he
          · rintro e σ2 β2 a2 w2 he ⟨h, _⟩ hC3
            exact absurd h he
        · rintro e σ' β' a' w' he (⟨rfl, hV⟩ | ⟨h, _⟩) hC1
          · simp only [Exit.then, Exit.inBlock, if_true]
            refine bodyPost_end (results_none rfl _ _ _) hC1.dfr ?_
            refine ⟨⟨_, rfl⟩, .inl ⟨HL, rfl, ?_⟩⟩
            have : HL = pre := by
              rw [hpre, show (n - f).toNat = 0 by omega]
              simp [hl]
            rw [this]
            exact jab _ _ _ hC1.chg.belowW hJ4
          · exact absurd h he
      · rintro e σ2 β2 a2 w2 he ⟨h, _⟩ hC3
        exact absurd h he
    · rintro e σ2 β2 a2 w2 he ⟨h, _⟩ hC3
      exact absurd h he
  · rintro e σ' β' a' w' he (⟨rfl, hV⟩ | ⟨h, _⟩) hC1
    · refine bodyPost_ret (results_none rfl _ _ _) hC1.dfr ?_
      refine ⟨⟨_, rfl⟩, .inl ⟨HL, rfl, ?_⟩⟩
      have : HL = [] := by
        rw [← eHL]
        refine hl_none (fun j _ _ => ?_)
        have := mod_rng (A * (0 + j) + B) hm
        unfold Vk
        omega
      rw [this]
      exact jab _ _ _ hC1.chg.belowW hJ0
    · exact absurd h he
end Go.Hl

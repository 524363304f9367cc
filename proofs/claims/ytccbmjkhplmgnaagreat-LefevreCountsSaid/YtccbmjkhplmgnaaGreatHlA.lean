/- The abstract values, the abstract state and how they stand to the model's values and worlds. How the relation is handed on: a slot written, memory that grows, a block frozen, a new block, a cell stored. A block of the call's own is written: a cell stored, several, a call that writes into it. What one operation comes to in the abstract state, as far as it writes no block: its condition and its value. The conditions and values of Av4 are those of the model's operations. The same for loads, addresses, slices, aggregates, calls. The same for addresses of elements and fields, slices, strings, aggregates. One theorem for all operations that write no block. -/
import Derived.WalkKit
import Derived.Still
import Derived.WalkLawsBesides
set_option linter.unusedVariables false
set_option linter.unusedSimpArgs false
namespace Go.Hl
open Go Go.RowKit
inductive AV where
  | any
  | raw (v : Value)
  | nul
  | ns (k : IntKind) (xs : List Int)
  | sl (s n : Nat) (cs : List AV)
  | os (id s off len : Nat)
  | ptr (id off : Nat)
  | vp (cs : List AV)
  | agg (cs : List AV)
  | tup (cs : List AV)
  | fn (f : FuncId) (cs : List AV)
inductive RI (w : World) (X : Nat → Prop) : AV → Value → Prop
  | any (v : Value) : RI w X .any v
  | raw (v : Value) : RI w X (.raw v) v
  | nul (a : Option Addr) : RI w X .nul (.slice a 0 0)
  | ns (k : IntKind) (xs : List Int) (a : Option Addr) (b o cap : Nat) (hc : xs.length ≤ cap)
      (ha : 0 < xs.length → a = some ⟨b, o, none⟩ ∧ ¬ X b)
      (h : ∀ i x, xs[i]? = some x → w.cell? ⟨b, o + i, none⟩ = some (.int k x)) : RI w X (.ns k xs) (.slice a xs.length cap)
  | sl (s n : Nat) (cs : List AV) (a : Option Addr) (b o cap : Nat) (f : Nat → Value) (hc : n ≤ cap) (hl : cs.length = n * s)
      (ha : 0 < cs.length → a = some ⟨b, o, none⟩ ∧ ¬ X b)
      (h : ∀ j c, cs[j]? = some c → w.cell? ⟨b, o + j, none⟩ = some (f j))
      (hr : ∀ j c, cs[j]? = some c → RI w X c (f j)) : RI w X (.sl s n cs) (.slice a n cap)
  | vp (cs : List AV) (b o : Nat) (f : Nat → Value) (ha : 0 < cs.length → ¬ X b)
      (h : ∀ j c, cs[j]? = some c → w.cell? ⟨b, o + j, none⟩ = some (f j))
      (hr : ∀ j c, cs[j]? = some c → RI w X c (f j)) : RI w X (.vp cs) (.pointer (some ⟨b, o, none⟩))
  | agg (cs : List AV) (vs : Array Value) (f : Nat → Value) (hl : vs.size = cs.length)
      (h : ∀ j c, cs[j]? = some c → vs[j]? = some (f j)) (hr : ∀ j c, cs[j]? = some c → RI w X c (f j)) : RI w X (.agg cs) (.agg vs)
  | tup (cs : List AV) (vs : Array Value) (f : Nat → Value) (hl : vs.size = cs.length)
      (h : ∀ j c, cs[j]? = some c → vs[j]? = some (f j)) (hr : ∀ j c, cs[j]? = some c → RI w X c (f j)) : RI w X (.tup cs) (.tuple vs)
  | fn (g : FuncId) (cs : List AV) (vs : Array Value) (f : Nat → Value) (hl : vs.size = cs.length)
      (h : ∀ j c, cs[j]? = some c → vs[j]? = some (f j)) (hr : ∀ j c, cs[j]? = some c → RI w X c (f j)) : RI w X (.fn g cs) (.func (.func g) #[] vs)
def Keep (X : Nat → Prop) (w w' : World) : Prop :=
  w.heap.size ≤ w'.heap.size ∧ ∀ b, b < w.heap.size → ¬ X b → w'.heap[b]? = w.heap[b]?
theorem Keep.refl (X : Nat → Prop) (w : World) : Keep X w w := ⟨Nat.le_refl _, fun _ _ _ => rfl⟩
theorem Keep.trans {X : Nat → Prop} {a b c : World} (h : Keep X a b) (k : Keep X b c) : Keep X a c :=
  ⟨Nat.le_trans h.1 k.1, fun i hi hx => (k.2 i (Nat.lt_of_lt_of_le hi h.1) hx).trans (h.2 i hi hx)⟩
theorem Keep.cell {X : Nat → Prop} {w w' : World} (h : Keep X w w') {b o : Nat} {v : Value} (hx : ¬ X b)
    (hv : w.cell? ⟨b, o, none⟩ = some v) : w'.cell? ⟨b, o, none⟩ = some v := by
  have hb : b < w.heap.size := World.block_lt_of_cell? w ⟨b, o, none⟩ hv
  rw [← hv]
  exact World.cell?_of_block (w := w) (h.2 b hb hx)
theorem RI.keep {w w' : World} {X X' : Nat → Prop} (hk : Keep X w w') (hX : ∀ b, b < w.heap.size → X' b → X b) {c : AV} {v : Value} (h : RI w X c v) : RI w' X' c v := by
  induction h with
  | any v => exact .any v
  | raw v => exact .raw v
  | nul a => exact .nul a
  | ns k xs a b o cap hc ha h =>
    refine .ns k xs a b o cap hc (fun h0 => ?_) (fun i x hx => ?_)
    · obtain ⟨h1, h2⟩ := ha h0
      have hb := World.block_lt_of_cell? w ⟨b, o + 0, none⟩ (h 0 xs[0] (by simp [h0]))
      exact ⟨h1, fun hx => h2 (hX b hb hx)⟩
    · have h0 : 0 < xs.length := by
        rcases Nat.lt_or_ge i xs.length with h' | h'
        · omega
        · simp [List.getElem?_eq_none h'] at hx
      exact hk.cell (ha h0).2 (h i x hx)
  | sl s n cs a b o cap f hc hl ha h hr ih =>
    refine .sl s n cs a b o cap f hc hl (fun h0 => ?_) (fun j c hj => ?_) ih
    · obtain ⟨h1, h2⟩ := ha h0
      have hb := World.block_lt_of_cell? w ⟨b, o + 0, none⟩ (h 0 cs[0] (by simp [h0]))
      exact ⟨h1, fun hx => h2 (hX b hb hx)⟩
    · have h0 : 0 < cs.length := by
        rcases Nat.lt_or_ge j cs.length with h' | h'
        · omega
        · simp [List.getElem?_eq_none h'] at hj
      exact hk.cell (ha h0).2 (h j c hj)
  | vp cs b o f ha h hr ih =>
    refine .vp cs b o f (fun h0 => ?_) (fun j c hj => ?_) ih
    · have h2 := ha h0
      have hb := World.block_lt_of_cell? w ⟨b, o + 0, none⟩ (h 0 cs[0] (by simp [h0]))
      exact fun hx => h2 (hX b hb hx)
    · have h0 : 0 < cs.length := by
        rcases Nat.lt_or_ge j cs.length with h' | h'
        · omega
        · simp [List.getElem?_eq_none h'] at hj
      exact hk.cell (ha h0) (h j c hj)
  | agg cs vs f hl h hr ih => exact .agg cs vs f hl h ih
  | tup cs vs f hl h hr ih => exact .tup cs vs f hl h ih
  | fn g cs vs f hl h hr ih => exact .fn g cs vs f hl h ih
inductive Con where
  | n (k : IntKind) (xs : List Int)
  | c (cs : List AV)
def Con.len : Con → Nat | .n _ xs => xs.length | .c cs => cs.length
def Con.val : Con → Nat → Option AV
  | .n k xs, j => (xs[j]?).map fun x => .raw (.int k x)
  | .c cs, j => cs[j]?
structure Blk where
  wr : Bool
  con : Con
structure St where
  fr : List (Nat × AV)
  hp : List (Nat × Blk)
def lk {α : Type} : List (Nat × α) → Nat → Option α
  | [], _ => none
  | (k, v) :: l, t => if k = t then some v else lk l t
def del {α : Type} : List (Nat × α) → Nat → List (Nat × α)
  | [], _ => []
  | (k, v) :: l, t => if k = t then del l t else (k, v) :: del l t
theorem lk_del {α : Type} (l : List (Nat × α)) (t u : Nat) : lk (del l t) u = if t = u then none else lk l u := by
  induction l with
  | nil => simp [del, lk]
  | cons p l ih =>
    obtain ⟨k, v⟩ := p
    simp only [del]
    split
    · rename_i h; subst h; rw [ih]; split <;> rename_i h' <;> simp [lk, h']
    · rename_i h; simp only [lk]; split
      · rename_i h'; subst h'; rw [if_neg (fun e => h e.symm)]
      · exact ih
def St.get (σ : St) (t : Nat) : AV := (lk σ.fr t).getD .any
def St.blk (σ : St) (id : Nat) : Option Blk := lk σ.hp id
def St.put (σ : St) (d : Option Nat) (v : AV) : St :=
  match d with
  | some t => ⟨(t, v) :: del σ.fr t, σ.hp⟩
  | none => σ
def St.setB (σ : St) (id : Nat) (b : Blk) : St := ⟨σ.fr, (id, b) :: del σ.hp id⟩
def upd {α : Type} (f : Nat → α) (t : Nat) (v : α) : Nat → α := fun u => if t = u then v else f u
def updO {α : Type} (f : Nat → α) (d : Option Nat) (v : α) : Nat → α := match d with | some t => upd f t v | none => f
theorem St.get_put (σ : St) (d : Option Nat) (v : AV) : (σ.put d v).get = updO σ.get d v := by
  funext u
  cases d with
  | none => rfl
  | some t =>
    simp only [St.put, St.get, updO, upd, lk]
    split
    · rfl
    · rename_i h; rw [lk_del, if_neg h]
theorem St.blk_put (σ : St) (d : Option Nat) (v : AV) : (σ.put d v).blk = σ.blk := by
  cases d <;> rfl
theorem St.get_setB (σ : St) (id : Nat) (b : Blk) : (σ.setB id b).get = σ.get := rfl
theorem St.blk_setB (σ : St) (id : Nat) (b : Blk) : (σ.setB id b).blk = upd σ.blk id (some b) := by
  funext u
  simp only [St.setB, St.blk, upd, lk]
  split
  · rfl
  · rename_i h; rw [lk_del, if_neg h]
structure Ctx where
  nt : Nat
  w0 : World
  X0 : Nat → Prop
  mu : Option (Nat × Nat × Nat)
def XG (κ : Ctx) (β : Nat → Option (Nat × Nat)) (G : Nat → Option Blk) (b : Nat) : Prop :=
  κ.X0 b ∨ ∃ id c base, G id = some ⟨true, c⟩ ∧ β id = some (b, base)
structure Chg (κ : Ctx) (w : World) : Prop where
  os : w.os = κ.w0.os
  tape : w.tape = κ.w0.tape
  output : w.output = κ.w0.output
  size : κ.w0.heap.size ≤ w.heap.size
  old : ∀ b, b < κ.w0.heap.size → (∀ lo hi, κ.mu ≠ some (b, lo, hi)) → w.heap[b]? = κ.w0.heap[b]?
  muts : ∀ b lo hi, κ.mu = some (b, lo, hi) → ∃ C C' e, κ.w0.heap[b]? = some (.cells C e (0, 0)) ∧ w.heap[b]? = some (.cells C' e (0, 0)) ∧ C'.size = C.size ∧
    ∀ j, ¬ (lo ≤ j ∧ j < hi) → C'[j]? = C[j]?
def RV (κ : Ctx) (β : Nat → Option (Nat × Nat)) (G : Nat → Option Blk) (w : World) : AV → Value → Prop
  | .os id s off len, x => ∃ ad cap, x = .slice ad len cap ∧ len ≤ cap ∧ ∀ blk, G id = some blk → cap = 0 ∨
      ∃ b base C e, β id = some (b, base) ∧ ad = some ⟨b, base + off, none⟩ ∧ w.heap[b]? = some (.cells C e (0, 0)) ∧ base + off + cap * s ≤ C.size
  | .ptr id off, x => ∀ blk, G id = some blk → ∃ b base, β id = some (b, base) ∧ x = .pointer (some ⟨b, base + off, none⟩)
  | v, x => RI w (XG κ β G) v x
def BlkOK (κ : Ctx) (β : Nat → Option (Nat × Nat)) (G : Nat → Option Blk) (w : World) (id : Nat) (blk : Blk) : Prop :=
  (β id = none ∧ blk.con.len = 0) ∨
  ∃ b base C e, β id = some (b, base) ∧ w.heap[b]? = some (.cells C e (0, 0)) ∧ base + blk.con.len ≤ C.size ∧
    (∀ j c, blk.con.val j = some c → ∃ v, C[base + j]? = some v ∧ RI w (XG κ β G) c v) ∧
    ((κ.w0.heap.size ≤ b ∧ id ≠ κ.nt) ∨ ∃ lo hi, κ.mu = some (b, lo, hi) ∧ lo ≤ base ∧ base + blk.con.len ≤ hi ∧ κ.X0 b ∧ (id = κ.nt → base = lo))
structure Conc (κ : Ctx) (β : Nat → Option (Nat × Nat)) (F : Nat → AV) (G : Nat → Option Blk) (a : Act) (w : World) : Prop where
  sz : a.tmps.size = κ.nt
  rel : ∀ t, RV κ β G w (F t) (a.tmps.getD t undef)
  dfr : a.defers = []
  hp : ∀ id blk, G id = some blk → BlkOK κ β G w id blk
  sep : ∀ i j b c x y, i ≠ j → G i = some x → G j = some y → β i = some (b, c) → ∀ d, β j ≠ some (b, d)
  chg : Chg κ w
  x0 : ∀ b, κ.X0 b → b < κ.w0.heap.size
end Go.Hl

namespace Go.Hl
open Go Go.RowKit
def AV.refs (id : Nat) : AV → Bool
  | .os i _ _ _ => i == id
  | .ptr i _ => i == id
  | _ => false
def AV.one : AV → Bool
  | .raw (.agg _) => false
  | .raw (.tuple _) => false
  | .raw _ => true
  | .nul => true
  | .ns _ _ => true
  | .sl _ _ _ => true
  | .vp _ => true
  | .fn _ _ => true
  | _ => false
theorem RI.one {w : World} {X : Nat → Prop} {c : AV} {v : Value} (h : RI w X c v) (h1 : c.one = true) : v.oneCell' = true := by
  cases h <;> simp_all [AV.one, Value.oneCell']
  case raw => cases v <;> simp_all
section
variable {κ : Ctx} {β : Nat → Option (Nat × Nat)} {F : Nat → AV} {G : Nat → Option Blk} {a : Act} {w w' : World}
theorem upd_same {α : Type} (f : Nat → α) (t : Nat) (v : α) : upd f t v t = v := by simp [upd]
theorem upd_other {α : Type} (f : Nat → α) {t u : Nat} (v : α) (h : t ≠ u) : upd f t v u = f u := by simp [upd, h]
theorem Conc.put (h : Conc κ β F G a w) {d : Option Nat} (hd : ∀ t, d = some t → t < κ.nt) {v : AV} {x : Value} (hv : RV κ β G w v x) :
    Conc κ β (updO F d v) G (a.put d x) w := by
  cases d with
  | none => exact h
  | some t =>
    have ht := hd t rfl
    refine ⟨?_, fun u => ?_, h.dfr, h.hp, h.sep, h.chg, h.x0⟩
    · simpa [Act.put] using h.sz
    · simp only [updO, upd, Act.put]
      split
      · rename_i e; subst e
        rw [← h.sz] at ht
        simpa [Array.getD, ht] using hv
      · rename_i e
        have := h.rel u
        simpa [Array.getD_eq_getD_getElem?, Array.getElem?_setIfInBounds_ne e] using this
theorem RV.keep {κ : Ctx} {β : Nat → Option (Nat × Nat)} {G : Nat → Option Blk} {v : AV} {x : Value} (h : RV κ β G w v x) (hb : Below w.heap.size w w') : RV κ β G w' v x := by
  have hk : Keep (XG κ β G) w w' := ⟨hb.size, fun b hb' _ => hb.block b hb'⟩
  cases v with
  | os id s off len =>
    obtain ⟨ad, cap, h1, h2, h3⟩ := h
    refine ⟨ad, cap, h1, h2, fun blk hblk => ?_⟩
    rcases h3 blk hblk with h3 | ⟨b, base, C, e, h4, h5, h6, h7⟩
    · exact .inl h3
    · refine .inr ⟨b, base, C, e, h4, h5, ?_, h7⟩
      rw [hb.block b]
      · exact h6
      · rcases Nat.lt_or_ge b w.heap.size with h' | h'
        · exact h'
        · simp [Array.getElem?_eq_none h'] at h6
  | ptr id off => exact h
  | _ => exact RI.keep hk (fun _ _ hx => hx) h
theorem BlkOK.keep {id : Nat} {blk : Blk} (h : BlkOK κ β G w id blk) (hb : Below w.heap.size w w') : BlkOK κ β G w' id blk := by
  have hk : Keep (XG κ β G) w w' := ⟨hb.size, fun b hb' _ => hb.block b hb'⟩
  rcases h with h | ⟨b, base, C, e, h1, h2, h3, h4, h5⟩
  · exact .inl h
  · refine .inr ⟨b, base, C, e, h1, ?_, h3, fun j c hj => ?_, h5⟩
    · rw [hb.block b]
      · exact h2
      · rcases Nat.lt_or_ge b w.heap.size with h' | h'
        · exact h'
        · simp [Array.getElem?_eq_none h'] at h2
    · obtain ⟨v, hv, hr⟩ := h4 j c hj
      exact ⟨v, hv, hr.keep hk (fun _ _ hx => hx)⟩
theorem Chg.below (h : Chg κ w) (hb : Below w.heap.size w w') : Chg κ w' := by
  refine ⟨hb.os.trans h.os, hb.tape.trans h.tape, hb.output.trans h.output, Nat.le_trans h.size hb.size, fun b hb' hm => ?_, fun b lo hi hm => ?_⟩
  · rw [hb.block b (Nat.lt_of_lt_of_le hb' h.size)]; exact h.old b hb' hm
  · obtain ⟨C, C', e, h1, h2, h3, h4⟩ := h.muts b lo hi hm
    refine ⟨C, C', e, h1, ?_, h3, h4⟩
    rw [hb.block b]
    · exact h2
    · rcases Nat.lt_or_ge b w.heap.size with h' | h'
      · exact h'
      · simp [Array.getElem?_eq_none h'] at h2
theorem Conc.below (h : Conc κ β F G a w) (hb : Below w.heap.size w w') : Conc κ β F G a w' :=
  ⟨h.sz, fun t => (h.rel t).keep hb, h.dfr, fun id blk hi => (h.hp id blk hi).keep hb, h.sep, h.chg.below hb, h.x0⟩
theorem XG.weak {G' : Nat → Option Blk} (hG : ∀ id c, G' id = some ⟨true, c⟩ → ∃ c', G id = some ⟨true, c'⟩) {b : Nat} (h : XG κ β G' b) : XG κ β G b := by
  rcases h with h | ⟨id, c, base, h1, h2⟩
  · exact .inl h
  · obtain ⟨c', h3⟩ := hG id c h1
    exact .inr ⟨id, c', base, h3, h2⟩
def settle (G : Nat → Option Blk) (id : Nat) : Nat → Option Blk := fun i => if i = id then (G i).map fun b => ⟨false, b.con⟩ else G i
theorem settle_some {i id : Nat} {blk : Blk} (h : settle G id i = some blk) : ∃ blk', G i = some blk' ∧ blk'.con = blk.con ∧ (blk.wr = true → blk' = blk) := by
  unfold settle at h
  split at h
  · cases hg : G i with
    | none => simp [hg] at h
    | some b => simp [hg] at h; subst h; exact ⟨b, rfl, rfl, fun h => by simp at h⟩
  · exact ⟨blk, h, rfl, fun _ => rfl⟩
theorem settle_of {i id : Nat} {blk : Blk} (h : G i = some blk) : ∃ blk', settle G id i = some blk' ∧ blk'.con = blk.con := by
  unfold settle
  split
  · simp [h]
  · exact ⟨blk, h, rfl⟩
theorem XG.settle {id : Nat} {b : Nat} (h : XG κ β (settle G id) b) : XG κ β G b :=
  XG.weak (fun i c hi => by
    obtain ⟨b', h1, h2, h3⟩ := settle_some hi
    have := h3 rfl
    subst this
    exact ⟨c, h1⟩) h
theorem RV.settle {id : Nat} {v : AV} {x : Value} (h : RV κ β G w v x) : RV κ β (settle G id) w v x := by
  cases v with
  | os i s off len =>
    obtain ⟨ad, cap, h1, h2, h3⟩ := h
    refine ⟨ad, cap, h1, h2, fun blk hblk => ?_⟩
    obtain ⟨b', h4, h5, _⟩ := settle_some hblk
    exact h3 b' h4
  | ptr i off => 
    intro blk hblk
    obtain ⟨b', h4, h5, _⟩ := settle_some hblk
    exact h b' h4
  | _ => exact RI.keep (Keep.refl _ _) (fun _ _ hx => hx.settle) h
theorem Conc.settle (h : Conc κ β F G a w) (id : Nat) : Conc κ β F (settle G id) a w := by
  refine ⟨h.sz, fun t => (h.rel t).settle, h.dfr, fun i blk hi => ?_, fun i j b c x y hij hx hy hb d => ?_, h.chg, h.x0⟩
  · obtain ⟨b', h4, h5, _⟩ := settle_some hi
    have := h.hp i b' h4
    unfold BlkOK at *
    rw [h5] at this
    rcases this with h6 | ⟨b, base, C, e, h1, h2, h3, h4, h5⟩
    · exact .inl h6
    · exact .inr ⟨b, base, C, e, h1, h2, h3, fun j c hj => by
        obtain ⟨v, hv, hr⟩ := h4 j c hj
        exact ⟨v, hv, hr.keep (Keep.refl _ _) (fun _ _ hx => hx.settle)⟩, h5⟩
  · obtain ⟨x', h4, _, _⟩ := settle_some hx
    obtain ⟨y', h5, _, _⟩ := settle_some hy
    exact h.sep i j b c x' y' hij h4 h5 hb d
theorem BlkOK.lt {id : Nat} {blk : Blk} {b base : Nat} (h : BlkOK κ β G w id blk) (hb : β id = some (b, base)) : b < w.heap.size := by
  rcases h with h | ⟨b', base', C, e, h1, h2, _⟩
  · rw [hb] at h; cases h.1
  · rw [hb] at h1
    simp only [Option.some.injEq, Prod.mk.injEq] at h1
    obtain ⟨rfl, rfl⟩ := h1
    rcases Nat.lt_or_ge b w.heap.size with h' | h'
    · exact h'
    · simp [Array.getElem?_eq_none h'] at h2
theorem Conc.adoptAt (h : Conc κ β F G a w) {id nb o : Nat} (hne : id ≠ κ.nt) (hid : ∀ t, (F t).refs id = false) {w1 : World} (hb : Below w.heap.size w w1) (hnb : w.heap.size ≤ nb) (C : Array Value) (e : TypeId) (con : Con) (hl : o + con.len ≤ C.size)
    (hnew : w1.heap[nb]? = some (.cells C e (0, 0)))
    (hc : ∀ j c, con.val j = some c → ∃ v, C[o + j]? = some v ∧ RI w (XG κ β G) c v) :
    Conc κ (upd β id (some (nb, o))) F (upd G id (some ⟨true, con⟩)) a w1 := by
  have h' := h.below hb
  have hX : ∀ b, b < w.heap.size → XG κ (upd β id (some (nb, o))) (upd G id (some ⟨true, con⟩)) b → XG κ β G b := by
    intro b hb hx
    rcases hx with hx | ⟨i, c, base, h1, h2⟩
    · exact .inl hx
    · by_cases hi : id = i
      · subst hi
        rw [upd_same] at h2
        simp only [Option.some.injEq, Prod.mk.injEq] at h2
        omega
      · rw [upd_other _ _ hi] at h1 h2
        exact .inr ⟨i, c, base, h1, h2⟩
  have hri : ∀ c v, RI w (XG κ β G) c v → RI w1 (XG κ (upd β id (some (nb, o))) (upd G id (some ⟨true, con⟩))) c v :=
    fun c v hr => hr.keep ⟨hb.size, fun b hb' _ => hb.block b hb'⟩ hX
  refine ⟨h.sz, fun t => ?_, h.dfr, fun i blk hi => ?_, fun i j b c x y hij hx hy hbi d hbj => ?_, h'.chg, h.x0⟩
  · have ht := h.rel t
    have ht' := h'.rel t
    have hr := hid t
    generalize F t = v at *
    cases v with
    | os i s off len =>
      have hne : id ≠ i := by intro e; subst e; simp [AV.refs] at hr
      obtain ⟨ad, cap, h1, h2, h3⟩ := ht'
      refine ⟨ad, cap, h1, h2, fun blk hblk => ?_⟩
      rw [upd_other _ _ hne] at hblk
      rcases h3 blk hblk with h3 | ⟨b, base, C', e', h4, h5, h6, h7⟩
      · exact .inl h3
      · exact .inr ⟨b, base, C', e', by rw [upd_other _ _ hne]; exact h4, h5, h6, h7⟩
    | ptr i off =>
      have hne : id ≠ i := by intro e; subst e; simp [AV.refs] at hr
      intro blk hblk
      rw [upd_other _ _ hne] at hblk
      obtain ⟨b, base, h1, h2⟩ := ht blk hblk
      exact ⟨b, base, by rw [upd_other _ _ hne]; exact h1, h2⟩
    | _ => exact hri _ _ ht
  · by_cases hii : id = i
    · subst hii
      rw [upd_same] at hi
      simp only [Option.some.injEq] at hi
      subst hi
      refine .inr ⟨nb, o, C, e, upd_same _ _ _, hnew, hl, fun j c hj => ?_, .inl ⟨Nat.le_trans h.chg.size hnb, hne⟩⟩
      obtain ⟨v, hv, hr⟩ := hc j c hj
      exact ⟨v, hv, hri _ _ hr⟩
    · rw [upd_other _ _ hii] at hi
      rcases h'.hp i blk hi with h6 | ⟨b, base, C', e', h1, h2, h3, h4, h5⟩
      · exact .inl ⟨by rw [upd_other _ _ hii]; exact h6.1, h6.2⟩
      · refine .inr ⟨b, base, C', e', by rw [upd_other _ _ hii]; exact h1, h2, h3, fun j c hj => ?_, h5⟩
        obtain ⟨v, hv, hr⟩ := h4 j c hj
        refine ⟨v, hv, ?_⟩
        rcases h.hp i blk hi with h6 | ⟨b2, base2, C2, e2, g1, g2, g3, g4, g5⟩
        · rw [h1] at h6; cases h6.1
        · rw [h1] at g1
          simp only [Option.some.injEq, Prod.mk.injEq] at g1
          obtain ⟨rfl, rfl⟩ := g1
          obtain ⟨v', hv', hr'⟩ := g4 j c hj
          have hlt : b < w.heap.size := (h.hp i blk hi).lt h1
          rw [hb.block b hlt, g2] at h2
          simp only [Option.some.injEq, Obj.cells.injEq] at h2
          obtain ⟨rfl, rfl, _⟩ := h2
          rw [hv'] at hv
          simp only [Option.some.injEq] at hv
          subst hv
          exact hri _ _ hr'
  · by_cases hii : id = i
    · subst hii
      rw [upd_same] at hbi
      simp only [Option.some.injEq, Prod.mk.injEq] at hbi
      rw [upd_other _ _ hij] at hy hbj
      have := (h.hp j y hy).lt hbj
      omega
    · by_cases hjj : id = j
      · subst hjj
        rw [upd_same] at hbj
        simp only [Option.some.injEq, Prod.mk.injEq] at hbj
        rw [upd_other _ _ hii] at hx hbi
        have := (h.hp i x hx).lt hbi
        omega
      · rw [upd_other _ _ hii] at hx hbi
        rw [upd_other _ _ hjj] at hy hbj
        exact h.sep i j b c x y hij hx hy hbi d hbj
theorem Conc.adopt (h : Conc κ β F G a w) {id nb : Nat} (hne : id ≠ κ.nt) (hid : ∀ t, (F t).refs id = false) {w1 : World} (hb : Below w.heap.size w w1) (hnb : w.heap.size ≤ nb) (C : Array Value) (e : TypeId) (con : Con) (hl : con.len ≤ C.size)
    (hnew : w1.heap[nb]? = some (.cells C e (0, 0)))
    (hc : ∀ j c, con.val j = some c → ∃ v, C[j]? = some v ∧ RI w (XG κ β G) c v) :
    Conc κ (upd β id (some (nb, 0))) F (upd G id (some ⟨true, con⟩)) a w1 :=
  h.adoptAt hne hid hb hnb C e con (by simpa using hl) hnew (fun j c hj => by simpa using hc j c hj)
theorem Conc.fresh (h : Conc κ β F G a w) {id : Nat} (hne : id ≠ κ.nt) (hid : ∀ t, (F t).refs id = false) (C : Array Value) (e : TypeId) (con : Con) (hl : con.len ≤ C.size)
    (hc : ∀ j c, con.val j = some c → ∃ v, C[j]? = some v ∧ RI w (XG κ β G) c v) :
    Conc κ (upd β id (some (w.heap.size, 0))) F (upd G id (some ⟨true, con⟩)) a (w.alloc (.cells C e)) :=
  h.adopt hne hid ((Below.refl _ _).alloc (Nat.le_refl _) _) (Nat.le_refl _) C e con hl (by
    show (w.heap.push _)[w.heap.size]? = _
    simp) hc
end
end Go.Hl

namespace Go.Hl
open Go Go.RowKit
section
variable {κ : Ctx} {β : Nat → Option (Nat × Nat)} {F : Nat → AV} {G : Nat → Option Blk} {a : Act} {w w' : World}
structure Wrote (w w' : World) (b lo hi : Nat) : Prop where
  os : w'.os = w.os
  tape : w'.tape = w.tape
  output : w'.output = w.output
  size : w.heap.size ≤ w'.heap.size
  old : ∀ k, k < w.heap.size → k ≠ b → w'.heap[k]? = w.heap[k]?
  row : ∀ C e, w.heap[b]? = some (.cells C e (0, 0)) → ∃ C', w'.heap[b]? = some (.cells C' e (0, 0)) ∧ C'.size = C.size ∧
    ∀ j, ¬ (lo ≤ j ∧ j < hi) → C'[j]? = C[j]?
theorem Wrote.trans {w1 w2 w3 : World} {b lo hi : Nat} (h : Wrote w1 w2 b lo hi) (k : Wrote w2 w3 b lo hi) : Wrote w1 w3 b lo hi := by
  refine ⟨k.os.trans h.os, k.tape.trans h.tape, k.output.trans h.output, Nat.le_trans h.size k.size, fun i hi hb => ?_, fun C e hC => ?_⟩
  · rw [k.old i (Nat.lt_of_lt_of_le hi h.size) hb]; exact h.old i hi hb
  · obtain ⟨C', h1, h2, h3⟩ := h.row C e hC
    obtain ⟨C'', k1, k2, k3⟩ := k.row C' e h1
    exact ⟨C'', k1, k2.trans h2, fun j hj => (k3 j hj).trans (h3 j hj)⟩
theorem lt_of_block {w : World} {b : Nat} {o : Obj} (h : w.heap[b]? = some o) : b < w.heap.size := by
  rcases Nat.lt_or_ge b w.heap.size with h' | h'
  · exact h'
  · simp [Array.getElem?_eq_none h'] at h
theorem Conc.own (h : Conc κ β F G a w) {id b base lo hi : Nat} {con con' : Con} (hG : G id = some ⟨true, con⟩) (hβ : β id = some (b, base))
    (hw : Wrote w w' b lo hi) (hlo : base ≤ lo) (hhi : hi ≤ base + con'.len)
    (hlen : con.len ≤ con'.len ∧ (con'.len = con.len ∨ (κ.w0.heap.size ≤ b ∧ ∀ C e, w.heap[b]? = some (.cells C e (0, 0)) → base + con'.len ≤ C.size)))
    (hc : ∀ C', (∃ e, w'.heap[b]? = some (.cells C' e (0, 0))) → ∀ j c, con'.val j = some c → ∃ v, C'[base + j]? = some v ∧ RI w (XG κ β G) c v) :
    Conc κ β F (upd G id (some ⟨true, con'⟩)) a w' := by
  have hX : ∀ k, XG κ β (upd G id (some ⟨true, con'⟩)) k → XG κ β G k := fun k hk => XG.weak (fun i c hi => by
    by_cases e : id = i
    · subst e; exact ⟨con, hG⟩
    · rw [upd_other _ _ e] at hi; exact ⟨c, hi⟩) hk
  have hbX : XG κ β G b := .inr ⟨id, con, base, hG, hβ⟩
  have hk : Keep (XG κ β G) w w' := ⟨hw.size, fun k hk hx => hw.old k hk (fun e => hx (e ▸ hbX))⟩
  have hri : ∀ c v, RI w (XG κ β G) c v → RI w' (XG κ β (upd G id (some ⟨true, con'⟩))) c v := fun c v hr => hr.keep hk (fun k _ hx => hX k hx)
  have hblk := h.hp id _ hG
  have hrow : ∃ C e, w.heap[b]? = some (.cells C e (0, 0)) ∧ base + con.len ≤ C.size ∧ ((κ.w0.heap.size ≤ b ∧ id ≠ κ.nt) ∨ ∃ lo hi, κ.mu = some (b, lo, hi) ∧ lo ≤ base ∧ base + con.len ≤ hi ∧ κ.X0 b ∧ (id = κ.nt → base = lo)) := by
    rcases hblk with h6 | ⟨b2, base2, C, e, h1, h2, h3, h4, h5⟩
    · rw [hβ] at h6; cases h6.1
    · rw [hβ] at h1
      simp only [Option.some.injEq, Prod.mk.injEq] at h1
      obtain ⟨rfl, rfl⟩ := h1
      exact ⟨C, e, h2, h3, h5⟩
  obtain ⟨C, e, hC, hCs, hmu⟩ := hrow
  obtain ⟨C', hC', hC's, hC'o⟩ := hw.row C e hC
  have hblt : b < w.heap.size := lt_of_block hC
  refine ⟨h.sz, fun t => ?_, h.dfr, fun i blk hi => ?_, fun i j b c x y hij hx hy hbi d hbj => ?_, ?_, h.x0⟩
  · have ht := h.rel t
    generalize F t = v at *
    cases v with
    | os i s off len =>
      obtain ⟨ad, cap, h1, h2, h3⟩ := ht
      refine ⟨ad, cap, h1, h2, fun blk hblk => ?_⟩
      have hex : ∃ blk', G i = some blk' := by
        by_cases e : id = i
        · subst e; exact ⟨_, hG⟩
        · rw [upd_other _ _ e] at hblk; exact ⟨_, hblk⟩
      obtain ⟨blk', hblk'⟩ := hex
      rcases h3 blk' hblk' with h3 | ⟨b2, base2, C2, e2, h4, h5, h6, h7⟩
      · exact .inl h3
      · by_cases hb2 : b2 = b
        · subst hb2
          rw [hC] at h6
          simp only [Option.some.injEq, Obj.cells.injEq] at h6
          obtain ⟨rfl, rfl, _⟩ := h6
          exact .inr ⟨b2, base2, C', e, h4, h5, hC', by omega⟩
        · exact .inr ⟨b2, base2, C2, e2, h4, h5, by rw [hw.old b2 (lt_of_block h6) hb2]; exact h6, h7⟩
    | ptr i off =>
      intro blk hblk
      by_cases e : id = i
      · subst e; exact ht _ hG
      · rw [upd_other _ _ e] at hblk; exact ht _ hblk
    | _ => exact hri _ _ ht
  · by_cases hii : id = i
    · subst hii
      rw [upd_same] at hi
      simp only [Option.some.injEq] at hi
      subst hi
      have hle : base + con'.len ≤ C.size := by
        rcases hlen.2 with h6 | h6
        · omega
        · exact h6.2 C e hC
      refine .inr ⟨b, base, C', e, hβ, hC', by simpa [hC's] using hle, fun j c hj => ?_, ?_⟩
      · obtain ⟨v, hv, hr⟩ := hc C' ⟨e, hC'⟩ j c hj
        exact ⟨v, hv, hri _ _ hr⟩
      · rcases hmu with h6 | ⟨lo', hi', h6, h7, h8, h9⟩
        · exact .inl h6
        · rcases hlen.2 with h10 | h10
          · exact .inr ⟨lo', hi', h6, h7, by simp only []; omega, h9⟩
          · have := h.x0 b h9.1; omega
    · rw [upd_other _ _ hii] at hi
      rcases h.hp i blk hi with h6 | ⟨b2, base2, C2, e2, h1, h2, h3, h4, h5⟩
      · exact .inl h6
      · have hne : b2 ≠ b := by
          intro e
          subst e
          exact h.sep id i b2 base _ _ hii hG hi hβ base2 h1
        refine .inr ⟨b2, base2, C2, e2, h1, ?_, h3, fun j c hj => ?_, h5⟩
        · rw [hw.old b2 (lt_of_block h2) hne]; exact h2
        · obtain ⟨v, hv, hr⟩ := h4 j c hj
          exact ⟨v, hv, hri _ _ hr⟩
  · have hex : ∀ i x, upd G id (some ⟨true, con'⟩) i = some x → ∃ x', G i = some x' := by
      intro i x hx
      by_cases e : id = i
      · subst e; exact ⟨_, hG⟩
      · rw [upd_other _ _ e] at hx; exact ⟨_, hx⟩
    obtain ⟨x', hx'⟩ := hex i x hx
    obtain ⟨y', hy'⟩ := hex j y hy
    exact h.sep i j b c x' y' hij hx' hy' hbi d hbj
  · have hchg := h.chg
    refine ⟨hw.os.trans hchg.os, hw.tape.trans hchg.tape, hw.output.trans hchg.output, Nat.le_trans hchg.size hw.size, fun k hk' hm => ?_, fun k lo' hi' hm => ?_⟩
    · have hne : k ≠ b := by
        intro e
        subst e
        rcases hmu with h6 | ⟨lo', hi', h6, _⟩
        · omega
        · exact hm lo' hi' h6
      rw [hw.old k (Nat.lt_of_lt_of_le hk' hchg.size) hne]
      exact hchg.old k hk' hm
    · obtain ⟨D, D', f, d1, d2, d3, d4⟩ := hchg.muts k lo' hi' hm
      by_cases hkb : k = b
      · subst hkb
        rw [hC] at d2
        simp only [Option.some.injEq, Obj.cells.injEq] at d2
        obtain ⟨rfl, rfl, _⟩ := d2
        refine ⟨D, C', e, d1, hC', by omega, fun j hj => ?_⟩
        rw [hC'o j, d4 j hj]
        intro hj2
        rcases hmu with h6 | ⟨lo2, hi2, h6, h7, h8, h9⟩
        · have := lt_of_block d1
          omega
        · rw [h6] at hm
          simp only [Option.some.injEq, Prod.mk.injEq] at hm
          obtain ⟨_, rfl, rfl⟩ := hm
          rcases hlen.2 with h10 | h10
          · omega
          · have := lt_of_block d1
            omega
      · exact ⟨D, D', f, d1, by rw [hw.old k (lt_of_block d2) hkb]; exact d2, d3, d4⟩
def Con.put : Con → Nat → AV → Option Con
  | .n k xs, j, .raw (.int k' x) => if k = k' then some (.n k (xs.set j x)) else none
  | .n _ _, _, _ => none
  | .c cs, j, v => if v.one then some (.c (cs.set j v)) else none
theorem Con.put_spec {con con' : Con} {j : Nat} {v : AV} (h : con.put j v = some con') :
    v.one = true ∧ con'.len = con.len ∧ ∀ i, con'.val i = if i = j ∧ j < con.len then some v else con.val i := by
  cases con with
  | n k xs =>
    cases v with
    | raw x =>
      cases x with
      | int k' x =>
        simp only [Con.put] at h
        split at h
        · rename_i e; subst e
          simp only [Option.some.injEq] at h
          subst h
          refine ⟨rfl, by simp [Con.len], fun i => ?_⟩
          simp only [Con.val, Con.len, List.getElem?_set]
          by_cases hij : j = i
          · subst hij
            by_cases hj : j < xs.length <;> simp [hj]
          · have : ¬ i = j := fun e => hij e.symm
            simp [hij, this]
        · cases h
      | _ => simp [Con.put] at h
    | _ => simp [Con.put] at h
  | c cs =>
    simp only [Con.put] at h
    split at h
    · rename_i e
      simp only [Option.some.injEq] at h
      subst h
      refine ⟨e, by simp [Con.len], fun i => ?_⟩
      simp only [Con.val, Con.len, List.getElem?_set]
      by_cases hij : j = i
      · subst hij
        by_cases hj : j < cs.length <;> simp [hj]
      · have : ¬ i = j := fun e => hij e.symm
        simp [hij, this]
    · cases h
theorem setCell_wrote {b o : Nat} {v : Value} : Wrote w (w.setCell ⟨b, o, none⟩ v) b o (o + 1) := by
  refine ⟨rfl, rfl, rfl, by simp [World.setCell], fun k hk hb => Below.heap_setCell _ _ _ _ hb, fun C e hC => ?_⟩
  refine ⟨C.setIfInBounds o v, ?_, by simp, fun j hj => ?_⟩
  · simp [World.setCell, Array.getElem?_modify, hC]
  · rw [Array.getElem?_setIfInBounds_ne (by omega)]
theorem cell_of_block {w : World} {b o : Nat} {C : Array Value} {e : TypeId} {fz : Nat × Nat} (h : w.heap[b]? = some (.cells C e fz)) : w.cell? ⟨b, o, none⟩ = C[o]? := by
  simp [World.cell?, h]
theorem Conc.store (h : Conc κ β F G a w) {id b base j : Nat} {con con' : Con} {c : AV} {v : Value} (hG : G id = some ⟨true, con⟩) (hβ : β id = some (b, base))
    (hj : j < con.len) (hp : con.put j c = some con') (hr : RI w (XG κ β G) c v) :
    (∃ u, w.cell? ⟨b, base + j, none⟩ = some u) ∧ w.frozen? ⟨b, base + j, none⟩ = false ∧ v.oneCell' = true ∧
    Conc κ β F (upd G id (some ⟨true, con'⟩)) a (w.setCell ⟨b, base + j, none⟩ v) := by
  obtain ⟨h1, h2, h3⟩ := Con.put_spec hp
  have hblk := h.hp id _ hG
  rcases hblk with h6 | ⟨b2, base2, C, e, g1, g2, g3, g4, g5⟩
  · rw [hβ] at h6; cases h6.1
  · rw [hβ] at g1
    simp only [Option.some.injEq, Prod.mk.injEq] at g1
    obtain ⟨rfl, rfl⟩ := g1
    simp only at g3
    refine ⟨⟨C[base + j]'(by omega), by rw [cell_of_block g2, Array.getElem?_eq_getElem]⟩, ?_, hr.one h1, ?_⟩
    · simp [World.frozen?, g2]
    · refine h.own hG hβ (setCell_wrote (o := base + j)) (by omega) (by omega) ⟨by omega, .inl h2⟩ ?_
      intro C' ⟨e', hC'⟩ i c' hi
      have hC2 : C' = C.setIfInBounds (base + j) v := by
        have : (w.setCell ⟨b, base + j, none⟩ v).heap[b]? = some (.cells (C.setIfInBounds (base + j) v) e (0, 0)) := by
          simp [World.setCell, Array.getElem?_modify, g2]
        rw [this] at hC'
        simp only [Option.some.injEq, Obj.cells.injEq] at hC'
        exact hC'.1.symm
      subst hC2
      rw [h3] at hi
      split at hi
      · rename_i hij
        obtain ⟨rfl, _⟩ := hij
        simp only [Option.some.injEq] at hi
        subst hi
        refine ⟨v, ?_, hr⟩
        rw [Array.getElem?_setIfInBounds_self_of_lt (by omega)]
      · rename_i hij
        obtain ⟨v', hv', hr'⟩ := g4 i c' hi
        refine ⟨v', ?_, hr'⟩
        rw [Array.getElem?_setIfInBounds_ne]
        · exact hv'
        · intro e
          apply hij
          have : i = j := by omega
          exact ⟨this, hj⟩
end
end Go.Hl

namespace Go.Hl
open Go Go.RowKit
structure Tab where
  sl : TypeId → Option (TypeId × Nat × Nat)
  nk : TypeId → Option IntKind
  vr : TypeId → Option (Option Nat)
  zr : TypeId → Option (List AV)
  fo : TypeId → Nat → Option Nat
  st : TypeId → Option (List (Nat × Nat))
  ik : TypeId → Option IntKind
  str : TypeId → Bool
  bl : TypeId → Bool
  mu : Bool
structure Sp where
  kind : Nat
  pre : List AV → Prop
  res : List AV → AV
def ofConst (v : Value) : AV :=
  match v with
  | .slice none n c => if n = 0 ∧ c = 0 then .nul else .raw v
  | .func (.func f) first caps => if first = #[] ∧ caps = #[] then .fn f [] else .raw v
  | v => .raw v
def ev (F : Nat → AV) : Operand → AV
  | .tmp t => F t
  | .const v => ofConst v
  | .global _ => .any
  | .func f => .fn f []
def AV.cells : AV → Option (List AV)
  | .agg cs => some cs
  | v => if v.one then some [v] else none
def bin (T : Tab) (t : TypeId) (op : BinOp) (x y : AV) : Prop × AV :=
  match x, y with
  | .raw (.int k a), .raw (.int k' b) =>
    match op with
    | .add => (k = k', .raw (.int k (k.wrap (a + b))))
    | .sub => (k = k', .raw (.int k (k.wrap (a - b))))
    | .mul => (k = k', .raw (.int k (k.wrap (a * b))))
    | .quo => (k = k' ∧ b ≠ 0, .raw (.int k (k.wrap (a.tdiv b))))
    | .rem => (k = k' ∧ b ≠ 0, .raw (.int k (a.tmod b)))
    | .and => (k = k', .raw (.int k (bits .and k a b)))
    | .or => (k = k', .raw (.int k (bits .or k a b)))
    | .xor => (k = k', .raw (.int k (bits .xor k a b)))
    | .andNot => (k = k', .raw (.int k (bits .andNot k a b)))
    | .shl => (0 ≤ b, .raw (.int k (k.wrap (a * 2 ^ (min b.toNat k.bits)))))
    | .shr => (0 ≤ b, .raw (.int k (a.fdiv (2 ^ (min b.toNat k.bits)))))
    | .eql => (k = k', .raw (.bool (a == b)))
    | .neq => (k = k', .raw (.bool (a != b)))
    | .lss => (k = k', .raw (.bool (decide (a < b))))
    | .leq => (k = k', .raw (.bool (decide (a ≤ b))))
    | .gtr => (k = k', .raw (.bool (decide (a > b))))
    | .geq => (k = k', .raw (.bool (decide (a ≥ b))))
  | .raw (.string a), .raw (.string b) =>
    match op with
    | .add => (((a.size + b.size : Nat) : Int) ≤ 9223372036854775807, .raw (.string (a ++ b)))
    | .eql => (True, .raw (.bool (a.toList == b.toList)))
    | .neq => (True, .raw (.bool (!(a.toList == b.toList))))
    | _ => (False, .any)
  | .raw (.bool a), .raw (.bool b) =>
    match op with
    | .eql => (T.bl t = true, .raw (.bool (a == b)))
    | .neq => (T.bl t = true, .raw (.bool (!(a == b))))
    | _ => (False, .any)
  | _, _ => (False, .any)
def un (op : UnOp) (x : AV) : Prop × AV :=
  match op, x with
  | .not, .raw (.bool b) => (True, .raw (.bool (!b)))
  | .neg, .raw (.int k n) => (True, .raw (.int k (k.wrap (0 - n))))
  | .xor, .raw (.int k n) => (True, .raw (.int k (bits .xor k (if k.signed then -1 else k.max) n)))
  | _, _ => (False, .any)
def ldC (T : Tab) (t : TypeId) (con : Con) (off : Nat) : Prop × AV :=
  match T.vr t, con with
  | some none, .n k xs => (off < xs.length, .raw (.int k (xs.getD off 0)))
  | some none, .c cs => (off < cs.length, cs.getD off .any)
  | some (some n), .c cs => (off + n ≤ cs.length, .agg ((cs.drop off).take n))
  | _, _ => (False, .any)
def intOfAV : AV → Option Int
  | .raw (.int _ n) => some n
  | _ => none
def idx (T : Tab) (G : Nat → Option Blk) (t : TypeId) (x i : AV) : Prop × AV :=
  match T.sl t with
  | none => (False, .any)
  | some (_, s', _) => match intOfAV i with
    | none => (False, .any)
    | some i => match x with
      | .ns k xs => (s' = 1 ∧ 0 ≤ i ∧ i.toNat < xs.length, .vp [.raw (.int k (xs.getD i.toNat 0))])
      | .sl s n cs => (0 ≤ i ∧ i.toNat < n ∧ s = s' ∧ 0 < s, .vp ((cs.drop (i.toNat * s)).take s))
      | .os id s off len => (0 ≤ i ∧ i.toNat < len ∧ s = s' ∧ (G id).isSome = true, .ptr id (off + i.toNat * s))
      | _ => (False, .any)
def lenAV (T : Tab) (t : TypeId) (x : AV) : Prop × AV :=
  match x with
  | .nul => ((T.sl t).isSome = true, .raw (.int .i64 0))
  | .ns _ xs => ((T.sl t).isSome = true, .raw (.int .i64 (xs.length : Nat)))
  | .sl _ n _ => ((T.sl t).isSome = true, .raw (.int .i64 (n : Nat)))
  | .os _ _ _ len => ((T.sl t).isSome = true, .raw (.int .i64 (len : Nat)))
  | .raw (.string s) => (T.str t = true, .raw (.int .i64 (s.size : Nat)))
  | _ => (False, .any)
def cutAV (T : Tab) (t : TypeId) (x : AV) (lo hi mx : Option (Option Int)) : Prop × AV :=
  let l : Int := (lo.getD (some 0)).getD (-1)
  match x with
  | .ns k xs =>
    let h : Int := (hi.getD (some (xs.length : Nat))).getD (-1)
    match mx with
    | none => (0 ≤ l ∧ l ≤ h ∧ h ≤ (xs.length : Nat) ∧ ∃ e b, T.sl t = some (e, 1, b), .ns k ((xs.take h.toNat).drop l.toNat))
    | some q => (q = some 0 ∧ hi = some (some 0) ∧ l = 0 ∧ ∃ e b, T.sl t = some (e, 1, b), .nul)
  | .sl s n cs =>
    let h : Int := (hi.getD (some (n : Nat))).getD (-1)
    match mx with
    | none => (0 ≤ l ∧ l ≤ h ∧ h ≤ (n : Nat) ∧ ∃ e b, T.sl t = some (e, s, b), .sl s (h - l).toNat ((cs.take (h.toNat * s)).drop (l.toNat * s)))
    | _ => (False, .any)
  | .os id s off len =>
    let h : Int := (hi.getD (some (len : Nat))).getD (-1)
    let m : Int := (mx.getD (some (len : Nat))).getD (-1)
    (0 ≤ l ∧ l ≤ h ∧ h ≤ m ∧ m ≤ (len : Nat) ∧ (mx.isNone || hi.isSome) = true ∧ ∃ e b, T.sl t = some (e, s, b), .os id s (off + l.toNat * s) (h - l).toNat)
  | .raw (.string s) =>
    let h : Int := (hi.getD (some (s.size : Nat))).getD (-1)
    match mx with
    | none => (0 ≤ l ∧ l ≤ h ∧ h ≤ (s.size : Nat) ∧ T.str t = true, .raw (.string (s.extract l.toNat h.toNat)))
    | _ => (False, .any)
  | _ => (False, .any)
def argAV (T : Tab) (t : TypeId) (x : AV) : AV :=
  match x with
  | .nul => match T.nk t with | some k => .ns k [] | none => .nul
  | x => x
def AV.im : AV → Bool
  | .os _ _ _ _ => false
  | .ptr _ _ => false
  | _ => true
def argsOf (T : Tab) (F : Nat → AV) : List Operand → List TypeId → List AV
  | x :: xs, t :: ts => argAV T t (ev F x) :: argsOf T F xs ts
  | x :: xs, [] => ev F x :: argsOf T F xs []
  | [], _ => []
def callAV (S : FuncId → Option Sp) (f : AV) (args : List AV) : Prop × AV :=
  match f with
  | .fn g caps => match S g with
    | some sp => (sp.kind = 0 ∧ args.all AV.im = true ∧ sp.pre (args ++ caps), sp.res (args ++ caps))
    | none => (False, .any)
  | _ => (False, .any)
def fillAV (places : List (Nat × Nat)) (cells : List AV) : List (Nat × AV) → Option (List AV)
  | [] => some cells
  | (i, v) :: rest =>
    match places[i]?, v.cells with
    | some (off, size), some vs =>
      if vs.length = size ∧ off + size ≤ cells.length then fillAV places (cells.take off ++ vs ++ cells.drop (off + size)) rest else none
    | _, _ => none
def qv (T : Tab) (S : FuncId → Option Sp) (F : Nat → AV) (G : Nat → Option Blk) (o : Oper) : Prop × AV :=
  match o.op with
  | .move x => (True, ev F x)
  | .assign x => (True, ev F x)
  | .pick c a b => match ev F c with
    | .raw (.bool t) => (True, if t then ev F a else ev F b)
    | _ => (False, .any)
  | .load t a => match ev F a with
    | .vp cs => ldC T t (.c cs) 0
    | .ptr id off => match G id with
      | some blk => ldC T t blk.con off
      | none => (False, .any)
    | _ => (False, .any)
  | .nilCheck x => match ev F x with
    | .vp cs => (True, .vp cs)
    | .fn f cs => (True, .fn f cs)
    | _ => (False, .any)
  | .binOp op t x y _ => bin T t op (ev F x) (ev F y)
  | .unOp op _ x => un op (ev F x)
  | .convert s d x => match ev F x, T.ik s, T.ik d with
    | .raw (.int _ n), some _, some k => (True, .raw (.int k (k.wrap n)))
    | _, _, _ => (False, .any)
  | .fieldAddr s x f => match T.fo s f with
    | none => (False, .any)
    | some d => match ev F x with
      | .ptr id off => ((G id).isSome = true, .ptr id (off + d))
      | .vp cs => (d < cs.length, .vp (cs.drop d))
      | _ => (False, .any)
  | .indexAddr t x i => idx T G t (ev F x) (ev F i)
  | .index t x i => match ev F x, intOfAV (ev F i) with
    | .raw (.string s), some i => (T.str t = true ∧ 0 ≤ i ∧ i.toNat < s.size, .raw (.int .u8 (s.data.getD i.toNat 0).toNat))
    | _, _ => (False, .any)
  | .slice t x lo hi mx => cutAV T t (ev F x) (lo.map fun v => intOfAV (ev F v)) (hi.map fun v => intOfAV (ev F v)) (mx.map fun v => intOfAV (ev F v))
  | .extract x i => match ev F x with
    | .tup cs => (i < cs.length, cs.getD i .any)
    | _ => (False, .any)
  | .build t ps => match T.zr t, T.st t with
    | some z, some places => match fillAV places z (ps.toList.map fun p => (p.1, ev F p.2)) with
      | some cs => (True, .agg cs)
      | none => (False, .any)
    | _, _ => (False, .any)
  | .call c => match c.callee with
    | .builtin .len => match c.args.toList, c.argTypes.toList with
      | [x], [t] => lenAV T t (ev F x)
      | _, _ => (False, .any)
    | .builtin .min => match c.args.toList with
      | [x, y] => match ev F x, ev F y with
        | .raw (.int k a), .raw (.int _ b) => (True, .raw (.int k (if b < a then b else a)))
        | _, _ => (False, .any)
      | _ => (False, .any)
    | .builtin .max => match c.args.toList with
      | [x, y] => match ev F x, ev F y with
        | .raw (.int k a), .raw (.int _ b) => (True, .raw (.int k (if b > a then b else a)))
        | _, _ => (False, .any)
      | _ => (False, .any)
    | .value f => callAV S (ev F f) (argsOf T F c.args.toList c.argTypes.toList)
    | _ => (False, .any)
  | _ => (False, .any)
def ACall (P : Program) (f : FuncId) (args : List AV) (r : AV) : Prop :=
  ∀ (w : World) (X : Nat → Prop) (vs : Array Value), (∀ b, X b → b < w.heap.size) → vs.size = args.length →
    (∀ (j : Nat) (c : AV), args[j]? = some c → ∃ v : Value, vs[j]? = some v ∧ RI w X c v) →
    (∃ v, (callFunc f vs).run P w = .ok (.value v) w ∧ RI w X r v) ∨
    ((callFunc f vs).run P w = .ok (.enter f vs) w ∧
      Calls P f vs w fun e w' => ∃ v, e = .returned v ∧ RI w' X r v ∧ Below w.heap.size w w')
def FCall (P : Program) (f : FuncId) (args : List AV) (r : AV) : Prop :=
  ∃ k xs, r = .ns k xs ∧ ∀ (w : World) (X : Nat → Prop) (vs : Array Value), (∀ b, X b → b < w.heap.size) → vs.size = args.length →
    (∀ (j : Nat) (c : AV), args[j]? = some c → ∃ v : Value, vs[j]? = some v ∧ RI w X c v) →
    (callFunc f vs).run P w = .ok (.enter f vs) w ∧
      Calls P f vs w fun e w' => ∃ v, e = .returned v ∧ Below w.heap.size w w' ∧
        ((∃ b o cap C e', v = .slice (some ⟨b, o, none⟩) xs.length cap ∧ xs.length ≤ cap ∧ o + cap ≤ C.size ∧ w.heap.size ≤ b ∧ w'.heap[b]? = some (.cells C e' (0, 0)) ∧
          ∀ (j : Nat) (x : Int), xs[j]? = some x → C[o + j]? = some (.int k x)) ∨ (xs = [] ∧ ∃ ad, v = .slice ad 0 0))
def MCall (P : Program) (f : FuncId) (args : List AV) (r : AV) : Prop :=
  ∃ k xs rest r0 ys, args = .ns k xs :: rest ∧ r = .tup [r0, .ns k ys] ∧ ys.length = xs.length ∧
    ∀ (w : World) (X : Nat → Prop) (vs : Array Value) (b o cap : Nat) (C : Array Value) (e' : TypeId), (∀ b, X b → b < w.heap.size) → X b → vs.size = args.length →
    vs[0]? = some (.slice (some ⟨b, o, none⟩) xs.length cap) → xs.length ≤ cap → w.heap[b]? = some (.cells C e' (0, 0)) → o + cap ≤ C.size →
    (∀ (j : Nat) (x : Int), xs[j]? = some x → C[o + j]? = some (.int k x)) →
    (∀ (j : Nat) (c : AV), rest[j]? = some c → ∃ v : Value, vs[j + 1]? = some v ∧ RI w X c v) →
    (callFunc f vs).run P w = .ok (.enter f vs) w ∧
      Calls P f vs w fun e w' => ∃ v, e = .returned v ∧ RI w' X r0 v ∧ Wrote w w' b o (o + xs.length) ∧
        ∀ C', (∃ e'', w'.heap[b]? = some (.cells C' e'' (0, 0))) → ∀ (j : Nat) (y : Int), ys[j]? = some y → C'[o + j]? = some (.int k y)
def SOK (P : Program) (S : FuncId → Option Sp) : Prop := ∀ f sp, S f = some sp → ∀ args, sp.pre args →
  (sp.kind = 0 → ACall P f args (sp.res args)) ∧ (sp.kind = 1 → FCall P f args (sp.res args)) ∧ (sp.kind = 2 → MCall P f args (sp.res args))
def aggD : TypeDesc → Bool
  | .struct _ => true
  | .array _ _ => true
  | _ => false
structure TabOK (P : Program) (T : Tab) : Prop where
  sl : ∀ t e s by_, T.sl t = some (e, s, by_) → P.underlying t = some (.slice e) ∧ ∃ i, P.info? e = some i ∧ i.size = s ∧ i.bytes = by_ ∧ ∃ z, i.zero = some z ∧ z.cells.size = s
  vr1 : ∀ t, T.vr t = some none → (∃ d, P.underlying t = some d ∧ aggD d = false) ∧ ∃ i, P.info? t = some i ∧ i.size = 1
  vrn : ∀ t n, T.vr t = some (some n) → (∃ d, P.underlying t = some d ∧ aggD d = true) ∧ ∃ i, P.info? t = some i ∧ i.size = n
  zr : ∀ t z, T.zr t = some z → ∃ i v, P.info? t = some i ∧ i.zero = some v ∧ v.cells.size = z.length ∧
    ∀ (w : World) (X : Nat → Prop) (j : Nat) (c : AV), z[j]? = some c → ∃ u : Value, v.cells[j]? = some u ∧ RI w X c u
  fo : ∀ t f d, T.fo t f = some d → ∃ fs fd i, P.underlying t = some (.struct fs) ∧ fs[f]? = some fd ∧ fd.offset = d ∧ P.info? fd.type = some i ∧ i.size ≠ 0
  st : ∀ t l, T.st t = some l → ∃ fs, P.underlying t = some (.struct fs) ∧ fs.size = l.length ∧
    ∀ (j o s : Nat), l[j]? = some (o, s) → ∃ fd i, fs[j]? = some fd ∧ fd.offset = o ∧ P.info? fd.type = some i ∧ i.size = s
  ik : ∀ t k, T.ik t = some k → P.underlying t = some (.int k)
  nk : ∀ t k, T.nk t = some k → ∃ e by_ i, T.sl t = some (e, 1, by_) ∧ P.info? e = some i ∧ i.zero = some (.int k 0)
  str : ∀ t, T.str t = true → P.underlying t = some .string
  bl : ∀ t, T.bl t = true → P.underlying t = some .bool
end Go.Hl

namespace Go.Hl
open Go Go.RowKit
section
variable {P : Program} {T : Tab} {S : FuncId → Option Sp} {κ : Ctx} {β : Nat → Option (Nat × Nat)} {F : Nat → AV} {G : Nat → Option Blk} {a : Act} {w : World}
theorem RV.ri {v : AV} {x : Value} (hv : v.im = true) (h : RV κ β G w v x) : RI w (XG κ β G) v x := by
  cases v <;> first | exact h | simp [AV.im] at hv
theorem RV.of {v : AV} {x : Value} (hv : v.im = true) (h : RI w (XG κ β G) v x) : RV κ β G w v x := by
  cases v <;> first | exact h | simp [AV.im] at hv
theorem RI.const (X : Nat → Prop) (v : Value) : RI w X (ofConst v) v := by
  unfold ofConst
  split
  · split
    · rename_i h; obtain ⟨rfl, rfl⟩ := h; exact .nul none
    · exact .raw _
  · split
    · rename_i h; obtain ⟨rfl, rfl⟩ := h; exact .fn _ [] #[] (fun _ => undef) rfl (by simp) (by simp)
    · exact .raw _
  · exact .raw _
theorem ofConst_im (v : Value) : (ofConst v).im = true := by
  unfold ofConst; split <;> (try split) <;> rfl
theorem Conc.ev (h : Conc κ β F G a w) (x : Operand) : RV κ β G w (ev F x) (a.eval x) := by
  cases x with
  | tmp t => exact h.rel t
  | const v => exact .of (ofConst_im v) (RI.const _ v)
  | global g => exact RI.any _
  | func f => exact RI.fn f [] #[] (fun _ => undef) rfl (by simp) (by simp)
def QR (P : Program) (κ : Ctx) (β : Nat → Option (Nat × Nat)) (G : Nat → Option Blk) (w : World) (r : AV) : Result Next → Prop
  | .ok (.value x) w' => w' = w ∧ RV κ β G w r x
  | .ok (.enter f vs) w' => w' = w ∧ Calls P f vs w fun e w' => ∃ v, e = .returned v ∧ RI w' (XG κ β G) r v ∧ Below w.heap.size w w'
  | _ => False
theorem RI.raw_inv {X : Nat → Prop} {v x : Value} (h : RI w X (.raw v) x) : x = v := by cases h; rfl
theorem run_equal_bool {t : TypeId} (h : P.underlying t = some .bool) (p q : Bool) (w : World) : (Op.equal t (.bool p) (.bool q)).run P w = .ok (p == q) w := by
  show (Op.equalIn (9999 + 1) t (.bool p) (.bool q)).run P w = _
  rw [Op.equalIn]
  simp [run_underlying h]
theorem bin_sound (hT : TabOK P T) {t : TypeId} {op : BinOp} {x y : AV} {u v : Value} (hx : RV κ β G w x u) (hy : RV κ β G w y v) (xo yo : Operand)
    (h : (bin T t op x y).1) : ∃ z, ((do eqGuard op t xo yo u v; binOp op t u v) : Sem Value).run P w = .ok z w ∧ RV κ β G w (bin T t op x y).2 z := by
  cases x <;> try (simp [bin] at h; done)
  rename_i u'
  cases y <;> try (cases u' <;> simp [bin] at h; done)
  rename_i v'
  have e1 := RI.raw_inv hx
  have e2 := RI.raw_inv hy
  subst e1; subst e2
  cases u <;> try (simp [bin] at h; done)
  · cases v <;> try (simp [bin] at h; done)
    rename_i p q
    cases op <;> simp only [bin] at h ⊢
    case eql =>
      refine ⟨.bool (p == q), ?_, .raw _⟩
      have e : binOp .eql t (.bool p) (.bool q) = (do pure (.bool (← Op.equal t (.bool p) (.bool q)))) := rfl
      rw [eqGuard_at_bool, e]
      simp [run_equal_bool (hT.bl t h)]
    case neq =>
      refine ⟨.bool (!(p == q)), ?_, .raw _⟩
      have e : binOp .neq t (.bool p) (.bool q) = (do pure (.bool (!(← Op.equal t (.bool p) (.bool q))))) := rfl
      rw [eqGuard_at_bool, e]
      simp [run_equal_bool (hT.bl t h)]
  · cases v <;> try (simp [bin] at h; done)
    rename_i k p k' q
    cases op <;> simp only [bin] at h ⊢
    case shl => exact ⟨_, by simp [go_sem, Op.shift, show ¬ q < 0 by omega], .raw _⟩
    case shr => exact ⟨_, by simp [go_sem, Op.shift, show ¬ q < 0 by omega], .raw _⟩
    case quo => obtain ⟨rfl, h2⟩ := h; exact ⟨_, by simp [go_sem, h2], .raw _⟩
    case rem => obtain ⟨rfl, h2⟩ := h; exact ⟨_, by simp [go_sem, h2], .raw _⟩
    all_goals (subst h; exact ⟨_, by simp [go_sem], .raw _⟩)
  · cases v <;> try (simp [bin] at h; done)
    rename_i p q
    cases op <;> simp only [bin] at h ⊢
    case add => exact ⟨_, by
      have : ¬ (((p.size + q.size : Nat) : Int) > 9223372036854775807) := by omega
      simp only [eqGuard_add, Sem.run_bind, Sem.run_pure, Result.andThen_ok, binOp, Op.stringOp, IntKind.max_i64, this, if_false], .raw _⟩
    case eql => exact ⟨_, by simp [go_sem, binOp, Op.stringOp], .raw _⟩
    case neq => exact ⟨_, by simp [go_sem, binOp, Op.stringOp], .raw _⟩
theorem un_sound {op : UnOp} {x : AV} {u : Value} (hx : RV κ β G w x u) (h : (un op x).1) :
    ∃ z, (Op.unary op u).run P w = .ok z w ∧ RV κ β G w (un op x).2 z := by
  cases x <;> try (cases op <;> simp [un] at h; done)
  rename_i u'
  have e1 := RI.raw_inv hx
  subst e1
  cases op <;> cases u <;> try (simp [un] at h; done)
  · exact ⟨_, rfl, .raw _⟩
  · exact ⟨_, rfl, .raw _⟩
  · exact ⟨_, rfl, .raw _⟩
end
end Go.Hl

namespace Go.Hl
open Go Go.RowKit
section
variable {P : Program} {T : Tab} {S : FuncId → Option Sp} {κ : Ctx} {β : Nat → Option (Nat × Nat)} {F : Nat → AV} {G : Nat → Option Blk} {a : Act} {w : World} {X : Nat → Prop}
theorem run_typeInfo {t : TypeId} {i : TypeInfo} (h : P.info? t = some i) (w : World) : (typeInfo t).run P w = .ok i w := by simp [typeInfo, h]
theorem run_sizeOf {t : TypeId} {i : TypeInfo} (h : P.info? t = some i) (w : World) : (sizeOf t).run P w = .ok i.size w := by simp [sizeOf, run_typeInfo h]
theorem run_isAgg_no {t : TypeId} {d : TypeDesc} (h : P.underlying t = some d) (hd : aggD d = false) (w : World) : (isAgg t).run P w = .ok false w := by
  cases d <;> simp_all [isAgg, run_underlying h, aggD]
theorem run_isAgg_yes {t : TypeId} {d : TypeDesc} (h : P.underlying t = some d) (hd : aggD d = true) (w : World) : (isAgg t).run P w = .ok true w := by
  cases d <;> simp_all [isAgg, run_underlying h, aggD]
def CellsAt (w : World) (X : Nat → Prop) (b o : Nat) (cs : List AV) (off : Nat) : Prop :=
  ∀ j c, cs[off + j]? = some c → ∃ v, w.cell? ⟨b, o + j, none⟩ = some v ∧ RI w X c v
theorem RI.list {cs : List AV} {f : Nat → Value} {n : Nat} (hn : cs.length = n) (h : ∀ j c, cs[j]? = some c → RI w X c (f j)) :
    RI w X (.agg cs) (.agg ((List.range n).map f).toArray) := by
  refine .agg cs _ f (by simp [hn]) (fun j c hj => ?_) h
  have : j < cs.length := by
    rcases Nat.lt_or_ge j cs.length with h' | h'
    · exact h'
    · simp [List.getElem?_eq_none h'] at hj
  simp [List.getElem?_range (show j < n by omega)]
theorem ld_sound (hT : TabOK P T) {t : TypeId} {cs : List AV} {b o off : Nat} (hc : CellsAt w X b o cs off) (h : (ldC T t (.c cs) off).1) :
    ∃ z, (loadVar t ⟨b, o, none⟩).run P w = .ok z w ∧ RI w X (ldC T t (.c cs) off).2 z := by
  unfold ldC at *
  cases hv : T.vr t with
  | none => simp [hv] at h
  | some q =>
    cases q with
    | none =>
      simp only [hv] at h ⊢
      obtain ⟨⟨d, hd, hd'⟩, _⟩ := hT.vr1 t hv
      obtain ⟨v, hv1, hv2⟩ := hc 0 cs[off] (by simp [h])
      refine ⟨v, ?_, ?_⟩
      · simp only [loadVar, Sem.run_bind, run_isAgg_no hd hd', Result.andThen_ok]
        simp only [Nat.add_zero] at hv1
        simp [hv1]
      · simpa [List.getD, List.getElem?_eq_getElem h] using hv2
    | some n =>
      simp only [hv] at h ⊢
      obtain ⟨⟨d, hd, hd'⟩, i, hi, hi2⟩ := hT.vrn t n hv
      have hex : ∀ j, ∃ v, j < n → w.cell? ⟨b, o + j, none⟩ = some v ∧ ∀ c, cs[off + j]? = some c → RI w X c v := by
        intro j
        by_cases hj : j < n
        · obtain ⟨v, h1, h2⟩ := hc j cs[off + j] (by simp [show off + j < cs.length by omega])
          refine ⟨v, fun _ => ⟨h1, fun c hcc => ?_⟩⟩
          rw [List.getElem?_eq_getElem (show off + j < cs.length by omega)] at hcc
          simp only [Option.some.injEq] at hcc
          subst hcc
          exact h2
        · exact ⟨undef, fun h => absurd h hj⟩
      obtain ⟨f, hf⟩ := Classical.axiomOfChoice hex
      refine ⟨.agg ((List.range n).map f).toArray, ?_, RI.list (by simp; omega) (fun j c hj => ?_)⟩
      · simp only [loadVar, Sem.run_bind, run_isAgg_yes hd hd', Result.andThen_ok, if_true]
        rw [run_sizeOf hi]
        simp only [Result.andThen_ok, hi2]
        rw [run_loadCells (P := P) w ⟨b, o, none⟩ n f (fun j hj => by rw [Addr.add_lit]; exact (hf j hj).1)]
        rfl
      · rw [List.getElem?_take] at hj
        split at hj
        · rename_i hjn
          rw [List.getElem?_drop] at hj
          exact (hf j hjn).2 c hj
        · cases hj
theorem RI.vp_inv {cs : List AV} {x : Value} (h : RI w X (.vp cs) x) : ∃ b o, x = .pointer (some ⟨b, o, none⟩) ∧ (0 < cs.length → ¬ X b) ∧ CellsAt w X b o cs 0 := by
  cases h with
  | vp _ b o f ha h hr => exact ⟨b, o, rfl, ha, fun j c hj => ⟨f j, h j c (by simpa using hj), hr j c (by simpa using hj)⟩⟩
theorem BlkOK.cells {id : Nat} {wr : Bool} {cs : List AV} {b base off : Nat} (h : BlkOK κ β G w id ⟨wr, .c cs⟩) (hb : β id = some (b, base)) :
    CellsAt w (XG κ β G) b (base + off) cs off := by
  rcases h with h | ⟨b2, base2, C, e, h1, h2, h3, h4, h5⟩
  · rw [hb] at h; cases h.1
  · rw [hb] at h1
    simp only [Option.some.injEq, Prod.mk.injEq] at h1
    obtain ⟨rfl, rfl⟩ := h1
    intro j c hj
    obtain ⟨v, hv, hr⟩ := h4 (off + j) c hj
    exact ⟨v, by rw [cell_of_block h2, Nat.add_assoc]; exact hv, hr⟩
theorem BlkOK.num {id : Nat} {wr : Bool} {k : IntKind} {xs : List Int} {b base off : Nat} (h : BlkOK κ β G w id ⟨wr, .n k xs⟩) (hb : β id = some (b, base)) (ho : off < xs.length) :
    w.cell? ⟨b, base + off, none⟩ = some (.int k (xs.getD off 0)) := by
  rcases h with h | ⟨b2, base2, C, e, h1, h2, h3, h4, h5⟩
  · rw [hb] at h; cases h.1
  · rw [hb] at h1
    simp only [Option.some.injEq, Prod.mk.injEq] at h1
    obtain ⟨rfl, rfl⟩ := h1
    obtain ⟨v, hv, hr⟩ := h4 off (.raw (.int k xs[off])) (by simp [Con.val, ho])
    rw [cell_of_block h2, hv, RI.raw_inv hr]
    simp [List.getD, ho]
theorem load_sound (hT : TabOK P T) (hC : Conc κ β F G a w) {t : TypeId} {x : Operand} {r : Prop × AV}
    (hr : r = (match ev F x with
      | .vp cs => ldC T t (.c cs) 0
      | .ptr id off => match G id with
        | some blk => ldC T t blk.con off
        | none => (False, .any)
      | _ => (False, .any))) (h : r.1) :
    ∃ z, (Instr.loadAt t (a.eval x)).run P w = .ok z w ∧ RV κ β G w r.2 z := by
  have hx := hC.ev x
  generalize ev F x = v at *
  generalize a.eval x = u at *
  subst hr
  cases v with
  | vp cs =>
    obtain ⟨b, o, rfl, _, hc⟩ := RI.vp_inv hx
    obtain ⟨z, h1, h2⟩ := ld_sound hT hc h
    refine ⟨z, ?_, ?_⟩
    · simp only [Instr.loadAt, Instr.sureAddr, Sem.run_bind, Sem.run_pure, Result.andThen_ok]
      exact h1
    · simp only at h h2 ⊢
      generalize hq : ldC T t (.c cs) 0 = q at *
      obtain ⟨q1, q2⟩ := q
      cases q2 with
      | os => cases h2
      | ptr => cases h2
      | _ => exact h2
  | ptr id off =>
    simp only at h ⊢
    cases hG : G id with
    | none => simp [hG] at h
    | some blk =>
      simp only [hG] at h ⊢
      obtain ⟨b, base, hb, rfl⟩ := hx blk hG
      obtain ⟨wr, con⟩ := blk
      have hok := hC.hp id _ hG
      cases con with
      | c cs =>
        obtain ⟨z, h1, h2⟩ := ld_sound hT (hok.cells hb) h
        refine ⟨z, ?_, ?_⟩
        · simp only [Instr.loadAt, Instr.sureAddr, Sem.run_bind, Sem.run_pure, Result.andThen_ok]
          exact h1
        · simp only at h h2 ⊢
          generalize hq : ldC T t (.c cs) off = q at *
          obtain ⟨q1, q2⟩ := q
          cases q2 with
          | os => cases h2
          | ptr => cases h2
          | _ => exact h2
      | n k xs =>
        unfold ldC at h ⊢
        cases hv : T.vr t with
        | none => simp [hv] at h
        | some q =>
          cases q with
          | some n => simp [hv] at h
          | none =>
            simp only [hv] at h ⊢
            obtain ⟨⟨d, hd, hd'⟩, _⟩ := hT.vr1 t hv
            refine ⟨_, ?_, .raw _⟩
            simp only [Instr.loadAt, Instr.sureAddr, Sem.run_bind, Sem.run_pure, Result.andThen_ok, loadVar, run_isAgg_no hd hd']
            simp [hok.num hb h]
  | _ => exact absurd h (by simp)
end
end Go.Hl

namespace Go.Hl
open Go Go.RowKit
section
variable {P : Program} {T : Tab} {S : FuncId → Option Sp} {κ : Ctx} {β : Nat → Option (Nat × Nat)} {F : Nat → AV} {G : Nat → Option Blk} {a : Act} {w : World} {X : Nat → Prop}
theorem RV.int_inv {v : AV} {x : Value} {n : Int} (h : RV κ β G w v x) (hn : intOfAV v = some n) : ∃ k, x = .int k n := by
  unfold intOfAV at hn
  split at hn
  · rename_i k m
    simp only [Option.some.injEq] at hn
    subst hn
    exact ⟨k, RI.raw_inv h⟩
  · cases hn
theorem conv_sound (hT : TabOK P T) {s d : TypeId} {k ks k' : IntKind} {n : Int} (h1 : T.ik s = some ks) (h2 : T.ik d = some k) (w : World) :
    (convert s d (.int k' n)).run P w = .ok (.int k (k.wrap n)) w := by
  simp [convert, run_underlying (hT.ik s ks h1), run_underlying (hT.ik d k h2), Conv.intToInt]
theorem fieldAddr_sound (hT : TabOK P T) (hC : Conc κ β F G a w) {s : TypeId} {x : Operand} {f : Nat} {r : Prop × AV}
    (hr : r = (match T.fo s f with
      | none => (False, .any)
      | some d => match ev F x with
        | .ptr id off => ((G id).isSome = true, .ptr id (off + d))
        | .vp cs => (d < cs.length, .vp (cs.drop d))
        | _ => (False, .any))) (h : r.1) :
    ∃ z, (Instr.fieldAt s (a.eval x) f).run P w = .ok z w ∧ RV κ β G w r.2 z := by
  have hx := hC.ev x
  generalize ev F x = v at *
  generalize a.eval x = u at *
  cases hfo : T.fo s f with
  | none => simp [hfo] at hr; subst hr; exact absurd h (by simp)
  | some d =>
    obtain ⟨fs, fd, i, h1, h2, h3, h4, h5⟩ := hT.fo s f d hfo
    simp only [hfo] at hr
    have hrun : ∀ ad, (Instr.fieldAt s (.pointer (some ad)) f).run P w = .ok (.pointer (some (ad.add d))) w := by
      intro ad
      simp [Instr.fieldAt, run_underlying h1, h2, Instr.sureAddr, fieldPlace, run_sizeOf h4, h5, h3]
    cases v with
    | ptr id off =>
      subst hr
      obtain ⟨blk, hG⟩ := Option.isSome_iff_exists.1 h
      obtain ⟨b, base, hb, rfl⟩ := hx blk hG
      exact ⟨_, hrun _, fun _ _ => ⟨b, base, hb, by rw [Addr.add_lit, Nat.add_assoc]⟩⟩
    | vp cs =>
      subst hr
      obtain ⟨b, o, rfl, hX, hc⟩ := RI.vp_inv hx
      simp only at h
      refine ⟨_, hrun _, ?_⟩
      rw [Addr.add_lit]
      have hex : ∀ j, ∃ v, ∀ c, (cs.drop d)[j]? = some c → w.cell? ⟨b, o + d + j, none⟩ = some v ∧ RI w (XG κ β G) c v := by
        intro j
        cases hj : (cs.drop d)[j]? with
        | none => exact ⟨undef, fun c hc => by cases hc⟩
        | some c =>
          rw [List.getElem?_drop] at hj
          obtain ⟨v, h1, h2⟩ := hc (d + j) c (by simpa using hj)
          refine ⟨v, fun c' hc' => ?_⟩
          simp only [Option.some.injEq] at hc'
          subst hc'
          exact ⟨by rw [Nat.add_assoc]; exact h1, h2⟩
      obtain ⟨g, hg⟩ := Classical.axiomOfChoice hex
      exact RI.vp _ b (o + d) g (fun _ => hX (by omega)) (fun j c hj => (hg j c hj).1) (fun j c hj => (hg j c hj).2)
    | _ => subst hr; exact absurd h (by simp)
theorem run_indexAt (hT : TabOK P T) {t e : TypeId} {s by_ : Nat} (h1 : T.sl t = some (e, s, by_)) {ad : Addr} {len cap : Nat} {k : IntKind} {i : Int} (h0 : 0 ≤ i) (hi : i.toNat < len) :
    (Instr.indexAt t (.slice (some ad) len cap) (.int k i)).run P w = .ok (.pointer (some (ad.add (i.toNat * s)))) w := by
  obtain ⟨h2, inf, h3, h4, _, _⟩ := hT.sl t e s by_ h1
  have he : P.elem t = e := by simp [Program.elem, h2]
  rw [run_indexAt_slice w t ad len cap k i (by rw [he]; exact h2), if_pos ⟨h0, by omega⟩, he, run_sizeOf h3]
  simp [h4]
theorem getElem?_one {c d : AV} {j : Nat} (h : [d][j]? = some c) : j = 0 ∧ c = d := by
  cases j with
  | zero => simp at h; exact ⟨rfl, h.symm⟩
  | succ j => simp at h
theorem index_sound (hT : TabOK P T) {t : TypeId} {x i : AV} {u q : Value} (hx : RV κ β G w x u) (hi : RV κ β G w i q) (h : (idx T G t x i).1) :
    ∃ z, (Instr.indexAt t u q).run P w = .ok z w ∧ RV κ β G w (idx T G t x i).2 z := by
  unfold idx at *
  split at h
  · exact False.elim h
  rename_i e s' by_ h1
  split at h
  · exact False.elim h
  rename_i n h2
  split at h
  · rename_i k xs
    obtain ⟨k', rfl⟩ := hi.int_inv h2
    simp only at h ⊢
    obtain ⟨rfl, h⟩ := h
    cases hx with
    | ns _ _ ad b o cap hc ha hcell =>
      obtain ⟨rfl, hX⟩ := ha (by omega)
      refine ⟨_, run_indexAt hT h1 h.1 h.2, ?_⟩
      rw [Addr.add_lit, Nat.mul_one]
      refine RI.vp _ b (o + n.toNat) (fun _ => .int k (xs.getD n.toNat 0)) (fun _ => hX) (fun j c hj => ?_) (fun j c hj => ?_)
      · obtain ⟨rfl, rfl⟩ := getElem?_one hj
        rw [Nat.add_zero]
        have := hcell n.toNat xs[n.toNat] (by simp [h.2])
        rw [this]
        simp [List.getD, h.2]
      · obtain ⟨rfl, rfl⟩ := getElem?_one hj
        exact .raw _
  · rename_i s m cs
    obtain ⟨k', rfl⟩ := hi.int_inv h2
    simp only at h ⊢
    obtain ⟨g1, g2, rfl, g5⟩ := h
    cases hx with
    | sl _ _ _ ad b o cap f hc hl ha hcell hr =>
      have hlt : n.toNat * s + s ≤ cs.length := by
        rw [hl, ← Nat.succ_mul]; exact Nat.mul_le_mul_right _ g2
      obtain ⟨rfl, hX⟩ := ha (by omega)
      refine ⟨_, run_indexAt hT h1 g1 g2, ?_⟩
      rw [Addr.add_lit]
      refine RI.vp _ b _ (fun j => f (n.toNat * s + j)) (fun _ => hX) (fun j c hj => ?_) (fun j c hj => ?_)
      · rw [List.getElem?_take] at hj
        split at hj
        · rw [List.getElem?_drop] at hj
          rw [Nat.add_assoc]
          exact hcell _ c hj
        · cases hj
      · rw [List.getElem?_take] at hj
        split at hj
        · rw [List.getElem?_drop] at hj
          exact hr _ c hj
        · cases hj
  · rename_i id s off len
    obtain ⟨k', rfl⟩ := hi.int_inv h2
    simp only at h ⊢
    obtain ⟨g1, g2, rfl, g5⟩ := h
    obtain ⟨ad, cap, rfl, g3, g4⟩ := hx
    obtain ⟨blk, hG⟩ := Option.isSome_iff_exists.1 g5
    rcases g4 blk hG with g4 | ⟨b, base, C, e', g6, rfl, g8, g9⟩
    · omega
    · refine ⟨_, run_indexAt hT h1 g1 g2, fun _ _ => ⟨b, base, g6, ?_⟩⟩
      rw [Addr.add_lit, Nat.add_assoc]
  · exact absurd h (by simp)
theorem run_bounds (is : Bool) (len cap : Nat) (lo hi mx : Option Value) (l h m : Nat) (hl : (lo = none ∧ l = 0) ∨ ∃ k, lo = some (.int k l))
    (hh : (hi = none ∧ h = len ∧ mx = none) ∨ ∃ k, hi = some (.int k h)) (hm : (mx = none ∧ m = cap) ∨ ∃ k, mx = some (.int k m)) (h1 : l ≤ h) (h2 : h ≤ m) (h3 : m ≤ cap) (w : World) :
    (Instr.sliceBounds is len cap lo hi mx).run P w = .ok (l, h, m) w := by
  rcases hl with ⟨rfl, rfl⟩ | ⟨kl, rfl⟩ <;> rcases hm with ⟨rfl, rfl⟩ | ⟨km, rfl⟩ <;> rcases hh with ⟨rfl, rfl, hx⟩ | ⟨kh, rfl⟩ <;>
    (try cases hx) <;> simp [Instr.sliceBounds, run_sliceBound_if, h1, h2, h3]
theorem bd_inv {lo : Option Operand} {z : Option (Option Int)} (hC : Conc κ β F G a w) (hz : z = lo.map fun v => intOfAV (ev F v)) {n : Int} {dflt : Int}
    (hn : (z.getD (some dflt)).getD (-1) = n) (h0 : 0 ≤ n) : (lo.map a.eval = none ∧ n = dflt ∧ z = none) ∨ (z = some (some n) ∧ ∃ k, lo.map a.eval = some (.int k n)) := by
  cases lo with
  | none => subst hz; simp at hn; exact .inl ⟨rfl, hn.symm, rfl⟩
  | some o =>
    simp only [Option.map_some] at hz
    subst hz
    cases hi : intOfAV (ev F o) with
    | none => simp [hi] at hn; omega
    | some m =>
      simp [hi] at hn
      subst hn
      obtain ⟨k, hk⟩ := (hC.ev o).int_inv hi
      exact .inr ⟨by simp, k, by simp [hk]⟩
theorem run_sliceAt (hT : TabOK P T) {t e : TypeId} {s by_ : Nat} (h1 : T.sl t = some (e, s, by_)) {ad : Option Addr} {len cap l h m : Nat} {lo hi mx : Option Value}
    (hb : (Instr.sliceBounds true len cap lo hi mx).run P w = .ok (l, h, m) w) :
    (Instr.sliceAt t (.slice ad len cap) lo hi mx).run P w = .ok (.slice (if m = l then ad else ad.map (·.add (l * s))) (h - l) (m - l)) w := by
  obtain ⟨h2, inf, h3, h4, _, _⟩ := hT.sl t e s by_ h1
  simp only [Instr.sliceAt, Instr.slice, Sem.run_bind, run_underlying h2, Result.andThen_ok, hb, run_sizeOf h3, h4, Sem.run_pure]
theorem drop_take_get {α : Type} (cs : List α) (p q j : Nat) (c : α) (h : ((cs.take p).drop q)[j]? = some c) : q + j < p ∧ cs[q + j]? = some c := by
  rw [List.getElem?_drop, List.getElem?_take] at h
  split at h
  · exact ⟨by assumption, h⟩
  · cases h
theorem cut_sound (hT : TabOK P T) (hC : Conc κ β F G a w) {t : TypeId} {x : Operand} {lo hi mx : Option Operand} {zl zh zm : Option (Option Int)}
    (el : zl = lo.map fun v => intOfAV (ev F v)) (eh : zh = hi.map fun v => intOfAV (ev F v)) (em : zm = mx.map fun v => intOfAV (ev F v))
    (h : (cutAV T t (ev F x) zl zh zm).1) :
    ∃ z, (Instr.sliceAt t (a.eval x) (lo.map a.eval) (hi.map a.eval) (mx.map a.eval)).run P w = .ok z w ∧ RV κ β G w (cutAV T t (ev F x) zl zh zm).2 z := by
  have hx := hC.ev x
  generalize ev F x = v at *
  generalize a.eval x = u at *
  generalize hL : (zl.getD (some 0)).getD (-1) = l at *
  cases v <;> try (simp [cutAV] at h; done)
  case ns k xs =>
    simp only [cutAV, hL] at h ⊢
    generalize hH : (zh.getD (some (xs.length : Int))).getD (-1) = hh at *
    cases zm with
    | none =>
      simp only at h ⊢
      obtain ⟨g1, g2, g3, e, by_, g4⟩ := h
      cases hx with
      | ns _ _ ad b o cap hc ha hcell =>
        have hmx : mx.map a.eval = none := by cases mx <;> simp at em ⊢
        obtain ⟨l', rfl⟩ : ∃ l' : Nat, l = l' := ⟨l.toNat, by omega⟩
        obtain ⟨h', rfl⟩ : ∃ h' : Nat, hh = h' := ⟨hh.toNat, by omega⟩
        have b1 := bd_inv hC el hL (by omega)
        have b2 := bd_inv hC eh hH (by omega)
        have hb := run_bounds (P := P) true xs.length cap (lo.map a.eval) (hi.map a.eval) (mx.map a.eval) l' h' cap
          (by rcases b1 with b1 | b1
              · exact .inl ⟨b1.1, by omega⟩
              · exact .inr b1.2)
          (by rcases b2 with b2 | b2
              · exact .inl ⟨b2.1, by omega, hmx⟩
              · exact .inr b2.2)
          (.inl ⟨hmx, rfl⟩) (by omega) (by omega) (Nat.le_refl _) w
        refine ⟨_, run_sliceAt hT g4 hb, ?_⟩
        have hlen : ((xs.take h').drop l').length = h' - l' := by simp; omega
        simp only [Int.toNat_natCast, Nat.mul_one]
        rw [← hlen]
        refine RI.ns k _ _ b (o + l') _ (by rw [hlen]; omega) (fun h0 => ?_) (fun i x hi => ?_)
        · obtain ⟨rfl, hX⟩ := ha (by omega)
          rw [if_neg (by omega)]
          simp only [Option.map_some, Addr.add_lit]
          exact ⟨trivial, hX⟩
        · obtain ⟨_, h6⟩ := drop_take_get _ _ _ _ _ hi
          rw [Nat.add_assoc]
          exact hcell _ _ h6
    | some q =>
      simp only at h ⊢
      obtain ⟨rfl, rfl, rfl, e, by_, g4⟩ := h
      cases hx with
      | ns _ _ ad b o cap hc ha hcell =>
        have b1 := bd_inv hC el hL (by omega)
        have b2 := bd_inv (n := 0) (dflt := 0) hC eh rfl (by omega)
        have b3 := bd_inv (n := 0) (dflt := 0) hC em rfl (by omega)
        have b2' : ∃ k, hi.map a.eval = some (.int k 0) := by
          rcases b2 with b2 | b2
          · simp at b2
          · exact b2.2
        have b3' : ∃ k, mx.map a.eval = some (.int k 0) := by
          rcases b3 with b3 | b3
          · simp at b3
          · exact b3.2
        have hb := run_bounds (P := P) true xs.length cap (lo.map a.eval) (hi.map a.eval) (mx.map a.eval) 0 0 0
          (by rcases b1 with b1 | b1
              · exact .inl ⟨b1.1, rfl⟩
              · exact .inr b1.2)
          (.inr b2') (.inr b3') (by omega) (by omega) (by omega) w
        exact ⟨_, run_sliceAt hT g4 hb, RI.nul _⟩
  case sl s n cs =>
    simp only [cutAV, hL] at h ⊢
    generalize hH : (zh.getD (some (n : Int))).getD (-1) = hh at *
    cases zm with
    | some q => simp at h
    | none =>
      simp only at h ⊢
      obtain ⟨g1, g2, g3, e, by_, g4⟩ := h
      cases hx with
      | sl _ _ _ ad b o cap f hc hl ha hcell hr =>
        have hmx : mx.map a.eval = none := by cases mx <;> simp at em ⊢
        obtain ⟨l', rfl⟩ : ∃ l' : Nat, l = l' := ⟨l.toNat, by omega⟩
        obtain ⟨h', rfl⟩ : ∃ h' : Nat, hh = h' := ⟨hh.toNat, by omega⟩
        have b1 := bd_inv hC el hL (by omega)
        have b2 := bd_inv hC eh hH (by omega)
        have hb := run_bounds (P := P) true n cap (lo.map a.eval) (hi.map a.eval) (mx.map a.eval) l' h' cap
          (by rcases b1 with b1 | b1
              · exact .inl ⟨b1.1, by omega⟩
              · exact .inr b1.2)
          (by rcases b2 with b2 | b2
              · exact .inl ⟨b2.1, by omega, hmx⟩
              · exact .inr b2.2)
          (.inl ⟨hmx, rfl⟩) (by omega) (by omega) (Nat.le_refl _) w
        refine ⟨_, run_sliceAt hT g4 hb, ?_⟩
        have e1 : ((h' : Int) - l').toNat = h' - l' := by omega
        have m1 : h' * s ≤ n * s := Nat.mul_le_mul_right _ (by omega)
        have m2 : (h' - l') * s = h' * s - l' * s := Nat.sub_mul _ _ _
        simp only [Int.toNat_natCast]
        rw [e1]
        refine RI.sl s (h' - l') _ _ b (o + l' * s) _ (fun j => f (l' * s + j)) (by omega) (by simp; omega) (fun h0 => ?_) (fun i x hi => ?_) (fun i x hi => ?_)
        · simp at h0
          obtain ⟨rfl, hX⟩ := ha (by omega)
          have : cap ≠ l' := by
            intro e
            have : h' = l' := by omega
            subst this
            omega
          rw [if_neg this]
          simp only [Option.map_some, Addr.add_lit]
          exact ⟨trivial, hX⟩
        · obtain ⟨_, h6⟩ := drop_take_get _ _ _ _ _ hi
          rw [Nat.add_assoc]
          exact hcell _ _ h6
        · obtain ⟨_, h6⟩ := drop_take_get _ _ _ _ _ hi
          exact hr _ _ h6
  case os id s off len =>
    simp only [cutAV, hL] at h ⊢
    generalize hH : (zh.getD (some (len : Int))).getD (-1) = hh at *
    generalize hM : (zm.getD (some (len : Int))).getD (-1) = mm at *
    obtain ⟨g1, g2, g3, g0, g5, e, by_, g4⟩ := h
    obtain ⟨ad, cap, rfl, k1, k2⟩ := hx
    obtain ⟨l', rfl⟩ : ∃ l' : Nat, l = l' := ⟨l.toNat, by omega⟩
    obtain ⟨h', rfl⟩ : ∃ h' : Nat, hh = h' := ⟨hh.toNat, by omega⟩
    obtain ⟨m', rfl⟩ : ∃ m' : Nat, mm = m' := ⟨mm.toNat, by omega⟩
    have b1 := bd_inv hC el hL (by omega)
    have b2 := bd_inv hC eh hH (by omega)
    have b3 := bd_inv hC em hM (by omega)
    obtain ⟨M, hM1, hM2, hM3⟩ : ∃ M, ((mx.map a.eval = none ∧ M = cap) ∨ ∃ k, mx.map a.eval = some (.int k (M : Nat))) ∧ h' ≤ M ∧ M ≤ cap := by
      rcases b3 with b3 | b3
      · exact ⟨cap, .inl ⟨b3.1, rfl⟩, by omega, Nat.le_refl _⟩
      · exact ⟨m', .inr b3.2, by omega, by omega⟩
    have hb := run_bounds (P := P) true len cap (lo.map a.eval) (hi.map a.eval) (mx.map a.eval) l' h' M
      (by rcases b1 with b1 | b1
          · exact .inl ⟨b1.1, by omega⟩
          · exact .inr b1.2)
      (by rcases b2 with b2 | b2
          · refine .inl ⟨b2.1, by omega, ?_⟩
            rw [b2.2.2] at g5
            cases mx with
            | none => rfl
            | some _ => subst em; simp at g5
          · exact .inr b2.2)
      hM1 (by omega) hM2 hM3 w
    refine ⟨_, run_sliceAt hT g4 hb, ?_⟩
    have e1 : ((h' : Int) - l').toNat = h' - l' := by omega
    simp only [Int.toNat_natCast]
    rw [e1]
    refine ⟨_, _, rfl, by omega, fun blk hG => ?_⟩
    rcases k2 blk hG with k2 | ⟨b, base, C, e', q1, rfl, q3, q4⟩
    · left; omega
    · by_cases hml : M = l'
      · left; omega
      · refine .inr ⟨b, base, C, e', q1, ?_, q3, ?_⟩
        · rw [if_neg hml]; simp only [Option.map_some, Addr.add_lit, Nat.add_assoc]
        · have m1 : M * s ≤ cap * s := Nat.mul_le_mul_right _ hM3
          have m2 : (M - l') * s = M * s - l' * s := Nat.sub_mul _ _ _
          have m3 : l' * s ≤ M * s := Nat.mul_le_mul_right _ (by omega)
          omega
  case raw v =>
    have e1 := RI.raw_inv hx
    subst e1
    cases u <;> try (simp [cutAV] at h; done)
    rename_i s
    simp only [cutAV, hL] at h ⊢
    generalize hH : (zh.getD (some (s.size : Int))).getD (-1) = hh at *
    cases zm with
    | some q => simp at h
    | none =>
      simp only at h ⊢
      obtain ⟨g1, g2, g3, g4⟩ := h
      have hmx : mx.map a.eval = none := by cases mx <;> simp at em ⊢
      obtain ⟨l', rfl⟩ : ∃ l' : Nat, l = l' := ⟨l.toNat, by omega⟩
      obtain ⟨h', rfl⟩ : ∃ h' : Nat, hh = h' := ⟨hh.toNat, by omega⟩
      have b1 := bd_inv hC el hL (by omega)
      have b2 := bd_inv hC eh hH (by omega)
      have hb := run_bounds (P := P) false s.size s.size (lo.map a.eval) (hi.map a.eval) none l' h' s.size
        (by rcases b1 with b1 | b1
            · exact .inl ⟨b1.1, by omega⟩
            · exact .inr b1.2)
        (by rcases b2 with b2 | b2
            · exact .inl ⟨b2.1, by omega, rfl⟩
            · exact .inr b2.2)
        (.inl ⟨rfl, rfl⟩) (by omega) (by omega) (Nat.le_refl _) w
      refine ⟨.string (s.extract l' h'), ?_, ?_⟩
      · rw [hmx]
        simp only [Instr.sliceAt, Instr.slice, Sem.run_bind, run_underlying (hT.str t g4), Result.andThen_ok, hb, Sem.run_pure, Option.isSome_none, Bool.false_eq_true, if_false]
      · simp only [Int.toNat_natCast]; exact RI.raw _
end
end Go.Hl

namespace Go.Hl
open Go Go.RowKit
section
variable {P : Program} {T : Tab} {S : FuncId → Option Sp} {κ : Ctx} {β : Nat → Option (Nat × Nat)} {F : Nat → AV} {G : Nat → Option Blk} {a : Act} {w : World} {X : Nat → Prop}
theorem run_len (hT : TabOK P T) {t ty : TypeId} {x : AV} {u : Value} (hx : RV κ β G w x u) (h : (lenAV T t x).1) :
    ∃ z, (Builtin.len_ #[t] ty #[u]).run P w = .ok z w ∧ RV κ β G w (lenAV T t x).2 z := by
  cases x <;> try (simp [lenAV] at h; done)
  case raw v =>
    have e1 := RI.raw_inv hx
    subst e1
    cases u <;> try (simp [lenAV] at h; done)
    simp only [lenAV] at h ⊢
    exact ⟨_, by simp [Builtin.len_, run_underlying (hT.str t h)]; rfl, RI.raw _⟩
  case nul =>
    simp only [lenAV] at h ⊢
    obtain ⟨⟨e, s, b⟩, h1⟩ := Option.isSome_iff_exists.1 h
    obtain ⟨h2, _⟩ := hT.sl t e s b h1
    cases hx
    exact ⟨_, by simp [Builtin.len_, run_underlying h2]; rfl, RI.raw _⟩
  case ns k xs =>
    simp only [lenAV] at h ⊢
    obtain ⟨⟨e, s, b⟩, h1⟩ := Option.isSome_iff_exists.1 h
    obtain ⟨h2, _⟩ := hT.sl t e s b h1
    cases hx
    exact ⟨_, by simp [Builtin.len_, run_underlying h2]; rfl, RI.raw _⟩
  case sl s n cs =>
    simp only [lenAV] at h ⊢
    obtain ⟨⟨e, s, b⟩, h1⟩ := Option.isSome_iff_exists.1 h
    obtain ⟨h2, _⟩ := hT.sl t e s b h1
    cases hx
    exact ⟨_, by simp [Builtin.len_, run_underlying h2]; rfl, RI.raw _⟩
  case os id s off len =>
    simp only [lenAV] at h ⊢
    obtain ⟨⟨e, s, b⟩, h1⟩ := Option.isSome_iff_exists.1 h
    obtain ⟨h2, _⟩ := hT.sl t e s b h1
    obtain ⟨ad, cap, rfl, _⟩ := hx
    exact ⟨_, by simp [Builtin.len_, run_underlying h2]; rfl, RI.raw _⟩
theorem RI.cells {v : AV} {x : Value} {cs : List AV} (h : RI w X v x) (hc : v.cells = some cs) :
    x.cells.size = cs.length ∧ ∀ (j : Nat) (c : AV), cs[j]? = some c → ∃ u : Value, x.cells[j]? = some u ∧ RI w X c u := by
  unfold AV.cells at hc
  split at hc
  · simp only [Option.some.injEq] at hc
    subst hc
    cases h with
    | agg _ vs f hl h hr => exact ⟨hl, fun j c hj => ⟨f j, h j c hj, hr j c hj⟩⟩
  · split at hc
    · rename_i h1
      simp only [Option.some.injEq] at hc
      subst hc
      have := h.one h1
      have e : x.cells = #[x] := by cases x <;> simp_all [Value.oneCell', Value.cells]
      rw [e]
      refine ⟨rfl, fun j c hj => ?_⟩
      obtain ⟨rfl, rfl⟩ := getElem?_one hj
      exact ⟨x, rfl, h⟩
    · cases hc
theorem AV.cells_im {v : AV} {cs : List AV} (hc : v.cells = some cs) : v.im = true := by
  cases v <;> simp_all [AV.cells, AV.im, AV.one]
theorem foldl_set (vs : Array Value) (off : Nat) : ∀ (n : Nat) (_hn : n ≤ vs.size) (cs : Array Value), off + vs.size ≤ cs.size →
    ∀ j, ((vs.toList.zipIdx.take n).foldl (fun cs (p : Value × Nat) => cs.setIfInBounds (off + p.2) p.1) cs)[j]? = if off ≤ j ∧ j < off + n then vs[j - off]? else cs[j]?
  | 0, _, cs, _, j => by simp; intro h1 h2; omega
  | n + 1, hn, cs, hc, j => by
    have hget : (vs.toList.zipIdx)[n]? = some (vs[n], n) := by simp [show n < vs.size by omega]
    rw [List.take_add_one, hget]
    simp only [Option.toList_some, List.foldl_append, List.foldl_cons, List.foldl_nil]
    have ih := foldl_set vs off n (by omega) cs hc
    have hsz : ∀ (l : List (Value × Nat)) (c : Array Value), (l.foldl (fun cs (p : Value × Nat) => cs.setIfInBounds (off + p.2) p.1) c).size = c.size := by
      intro l
      induction l with
      | nil => intro c; rfl
      | cons p l ih => intro c; simp [ih]
    rw [Array.getElem?_setIfInBounds, hsz]
    by_cases hj : off + n = j
    · subst hj
      rw [if_pos rfl, if_pos (by omega), if_pos (by omega)]
      simp [show n < vs.size by omega]
    · rw [if_neg hj, ih j]
      by_cases h1 : off ≤ j ∧ j < off + n
      · rw [if_pos h1, if_pos (by omega)]
      · rw [if_neg h1, if_neg (by omega)]
theorem fill_sound {places : List (Nat × Nat)} {pl : Nat → Option (Nat × Nat)} (hp : ∀ i p, places[i]? = some p → pl i = some p) :
    ∀ (parts : List (Nat × AV)) (vals : List (Nat × Value)) (z cs : List AV) (C : Array Value), parts.length = vals.length →
    (∀ (j : Nat) (p : Nat × AV) (q : Nat × Value), parts[j]? = some p → vals[j]? = some q → p.1 = q.1 ∧ (p.2.im = true → RI w X p.2 q.2)) → C.size = z.length →
    (∀ (j : Nat) (c : AV), z[j]? = some c → ∃ u : Value, C[j]? = some u ∧ RI w X c u) → fillAV places z parts = some cs →
    ∃ C', Instr.fill pl C vals = some C' ∧ C'.size = cs.length ∧ ∀ (j : Nat) (c : AV), cs[j]? = some c → ∃ u : Value, C'[j]? = some u ∧ RI w X c u
  | [], [], z, cs, C, _, _, hs, hc, hf => by
    simp only [fillAV, Option.some.injEq] at hf
    subst hf
    exact ⟨C, rfl, hs, hc⟩
  | [], _ :: _, _, _, _, hl, _, _, _, _ => by simp at hl
  | _ :: _, [], _, _, _, hl, _, _, _, _ => by simp at hl
  | (i, v) :: parts, (i', x) :: vals, z, cs, C, hl, hv, hs, hc, hf => by
    have h0 := hv 0 (i, v) (i', x) rfl rfl
    simp only at h0
    obtain ⟨rfl, hri⟩ := h0
    simp only [fillAV] at hf
    split at hf
    · rename_i off size vs h1 h2
      split at hf
      · rename_i h3
        obtain ⟨h3, h4⟩ := h3
        obtain ⟨k1, k2⟩ := RI.cells (hri (AV.cells_im h2)) h2
        have hfold : (x.cells.zipIdx.foldl (fun cs (p : Value × Nat) => cs.setIfInBounds (off + p.2) p.1) C) = (x.cells.toList.zipIdx.take x.cells.size).foldl (fun cs (p : Value × Nat) => cs.setIfInBounds (off + p.2) p.1) C := by
          rw [← Array.foldl_toList]
          simp [Array.toList_zipIdx, List.take_of_length_le]
        have hg := foldl_set x.cells off x.cells.size (Nat.le_refl _) C (by omega)
        have hsz : ∀ (l : List (Value × Nat)) (c : Array Value), (l.foldl (fun cs (p : Value × Nat) => cs.setIfInBounds (off + p.2) p.1) c).size = c.size := by
          intro l
          induction l with
          | nil => intro c; rfl
          | cons p l ih => intro c; simp [ih]
        have hrec := fill_sound hp parts vals (z.take off ++ vs ++ z.drop (off + size)) cs
          ((x.cells.toList.zipIdx.take x.cells.size).foldl (fun cs (p : Value × Nat) => cs.setIfInBounds (off + p.2) p.1) C) (by simpa using hl)
          (fun j p q hj hq => hv (j + 1) p q hj hq) (by rw [hsz]; simp; omega) (fun j c hj => by
            rw [hg]
            by_cases hlt : j < off
            · rw [if_neg (by omega)]
              rw [List.append_assoc, List.getElem?_append_left (by simp; omega), List.getElem?_take, if_pos hlt] at hj
              exact hc j c hj
            · by_cases hlt2 : j < off + size
              · rw [if_pos (by omega)]
                rw [List.getElem?_append_left (by simp; omega), List.getElem?_append_right (by simp; omega)] at hj
                have e : j - (List.take off z).length = j - off := by simp; omega
                rw [e] at hj
                exact k2 _ c hj
              · rw [if_neg (by omega)]
                rw [List.getElem?_append_right (by simp; omega), List.getElem?_drop] at hj
                have e : off + size + (j - (List.take off z ++ vs).length) = j := by simp; omega
                rw [e] at hj
                exact hc j c hj) hf
        obtain ⟨C', h5, h6, h7⟩ := hrec
        refine ⟨C', ?_, h6, h7⟩
        simp only [Instr.fill, hp i _ h1]
        rw [if_neg (by simp; omega), hfold]
        exact h5
      · cases hf
    · cases hf
end
end Go.Hl
